/- Texts of one proof, laid together: YB. No condition. -/
import Derived.Test.YtanblnhnfkeffaaD319
import Derived.Test.YtanblnhnfkeffaaD311
namespace Go.Proofs.Ytanblnhnfkeffaa
set_option linter.unusedVariables false
set_option linter.unusedSimpArgs false
attribute [local go_sem ↓] run_skip run_region run_draw run_both run_seq run_block run_exit run_ret run_cond atN_app seqC_normal seqC_exit seqC_ret seqQ_normal seqQ_exit seqQ_ret blkQ_normal blkQ_exit blkQ_ret runOps_nil runOps_cons runD_nil runD_cons grdO_true grdO_false grdD_true grdD_false ifC_true ifC_false opS_val opS_call opS_two opK_app dS_val dS_call dS_two dK_app kUp_same kUp_ne
attribute [local go_sem] rechks_nil rechks_cons rechk gcase_true gcase_false ex_val ex_val0 gd_none gd_some ev_t ev_c evs_nil evs_cons evo_some evo_none hget_at hget_first hsetB_at hsetB_first hsetL_at hsetL_first ofOpt_some aop aload astore aslice aappend aiaddr aiaddrA afaddr alen alenS acopy amm acall alookup amupdate alenM atostr comma keyEq apick binV binVB binVS isSh intOp strOp boolOp shOp eqC eqF and2 cellsOf setFrom fillA fillS rd rdI elems mk bounds AV.cell List.all_cons List.all_nil Bool.and_true Bool.true_and Bool.and_self List.length_cons List.length_nil List.length_append Nat.reduceAdd Nat.reduceSub Nat.reduceMul Nat.zero_add Nat.add_zero List.cons_append List.nil_append List.append_assoc List.append_nil List.getElem?_cons_zero List.getElem?_cons_succ List.getElem?_nil List.set_cons_zero List.set_cons_succ List.drop_zero List.drop_succ_cons List.take_zero List.take_succ_cons List.take_nil List.drop_nil List.map_cons List.map_nil Option.map_some if_true if_false Bool.false_eq_true and_self true_and and_true Nat.reduceLeDiff Nat.reduceLT Nat.le_refl Nat.reduceEqDiff ite_true ite_false beq_self_eq_true beq_true beq_false Bool.not_true Bool.not_false Bool.true_beq Bool.false_beq map_vs vs_len vs_get vs_take vs_drop vs_snoc1 vs_snoc2 vs_snoc3 vs_snoc5 vs_set1 vs_set2 vs_rep wrap_id le_T lt_T le_F lt_F leI_T ltI_T leI_F ltI_F geI gtI get_T decide_true decide_false room List.getElem?_map List.length_map List.length_take Int.toNat_natCast Nat.min_def Nat.min_self nth_kOf put_kOf put_kNo kOv_cons kOv_nil KHas KArgs List.getElem_cons_zero List.getElem_cons_succ
def a_dTight : AFunc := ⟨2,60,[.tmp 4,.tmp 5],(.seq (.region [⟨some 2,.box (.t 0),none⟩,⟨some 3,.box (.t 1),none⟩,⟨some 4,.mv (.c (.v .zsl)),none⟩,⟨some 5,.mv (.c (.v (.int .i64 0))),none⟩]) (.seq (.seq (.region [⟨some 14,.load (some 1) (.t 2),none⟩,⟨some 15,.load (some 3) (.t 3),none⟩,⟨some 16,.call (.c (.fn 53 [])) [(.t 14),(.t 15)],none⟩,⟨some 17,.not (.t 16),none⟩]) (.cond (.t 17) (.seq (.region [⟨some 4,.mv (.c (.v .zsl)),none⟩,⟨some 5,.mv (.c (.v (.int .i64 1))),none⟩]) .ret) .skip)) (.seq (.region [⟨some 19,.load (some 1) (.t 2),none⟩,⟨some 20,.load (some 3) (.t 3),none⟩,⟨some 21,.call (.c (.fn 128 [])) [(.t 19),(.t 20)],none⟩,⟨some 18,.mv (.t 21),none⟩,⟨some 22,.extract 0 (.t 18),none⟩,⟨some 23,.extract 1 (.t 18),none⟩,⟨some 24,.extract 2 (.t 18),none⟩,⟨some 6,.mv (.t 22),none⟩,⟨some 7,.mv (.t 23),none⟩,⟨some 8,.mv (.t 24),none⟩]) (.seq (.seq (.region [⟨some 25,.mv (.t 8),none⟩,⟨some 26,.not (.t 25),none⟩]) (.cond (.t 26) (.seq (.region [⟨some 4,.mv (.c (.v .zsl)),none⟩,⟨some 5,.mv (.c (.v (.int .i64 11))),none⟩]) .ret) .skip)) (.seq (.region [⟨some 9,.mv (.c (.v .zsl)),none⟩]) (.seq (.region [⟨some 10,.mv (.c (.v (.int .i64 0))),none⟩]) (.seq (.seq (.region [⟨some 27,.faddr 0 (.t 2),none⟩,⟨some 28,.load none (.t 27),none⟩,⟨some 29,.len (.t 28),none⟩,⟨some 30,.mv (.c (.v (.int .i64 0))),none⟩]) (.block 0 (.loop (.seq (.region [⟨some 31,.bin .lss (.t 30) (.t 29),none⟩]) (.seq (.cond (.t 31) .skip (.exit 0)) (.seq (.block 1 (.seq (.region [⟨some 32,.iaddr 3 (.t 28) (.t 30),none⟩,⟨some 33,.load (some 3) (.t 32),none⟩,⟨some 12,.alloc [(.v (.str ⟨#[]⟩)),(.v .zsl),(.v .zsl)],none⟩,⟨none,.store 3 (.t 12) (.t 33),none⟩]) (.seq (.region [⟨some 13,.mv (.c (.v .zsl)),none⟩]) (.seq (.seq (.region [⟨some 34,.faddr 2 (.t 12),none⟩,⟨some 35,.load none (.t 34),none⟩,⟨some 36,.len (.t 35),none⟩,⟨some 37,.mv (.c (.v (.int .i64 0))),none⟩]) (.block 2 (.loop (.seq (.region [⟨some 38,.bin .lss (.t 37) (.t 36),none⟩]) (.seq (.cond (.t 38) .skip (.exit 2)) (.seq (.block 3 (.seq (.draw [⟨0,⟨some 39,.mv (.t 13),none⟩,[]⟩,⟨1,⟨some 40,.mv (.t 6),none⟩,[]⟩,⟨2,⟨some 41,.mv (.t 10),none⟩,[]⟩,⟨3,⟨some 42,.iaddr 1 (.t 40) (.t 41),none⟩,[]⟩,⟨4,⟨some 43,.load none (.t 42),none⟩,[]⟩,⟨5,⟨some 44,.mv (.t 7),none⟩,[]⟩,⟨6,⟨some 45,.mv (.t 10),none⟩,[]⟩,⟨7,⟨some 46,.iaddr 1 (.t 44) (.t 45),none⟩,[]⟩,⟨8,⟨some 47,.load none (.t 46),none⟩,[]⟩,⟨9,⟨some 48,.build [(.v (.int .i64 0)),(.v (.int .i64 0))] [(0,1,(.t 43)),(1,1,(.t 47))],none⟩,[]⟩,⟨10,⟨some 49,.bslice 2 [(.v (.int .i64 0)),(.v (.int .i64 0))] 1 [(0,(.t 48))],none⟩,[⟨some 39,.mv (.t 13),none⟩]⟩,⟨11,⟨some 50,.append 2 16 (.t 39) (.t 49),none⟩,[]⟩,⟨12,⟨some 13,.mv (.t 50),none⟩,[]⟩]) (.region [⟨some 51,.mv (.t 10),none⟩,⟨some 52,.bin .add (.t 51) (.c (.v (.int .i64 1))),none⟩,⟨some 10,.mv (.t 52),none⟩]))) (.region [⟨some 53,.bin .add (.t 37) (.c (.v (.int .i64 1))),none⟩,⟨some 37,.mv (.t 53),none⟩]))))))) (.region [⟨some 54,.mv (.t 9),none⟩,⟨some 55,.mv (.t 13),none⟩,⟨some 56,.bslice 1 [(.v .zsl)] 1 [(0,(.t 55))],none⟩,⟨some 57,.append 1 24 (.t 54) (.t 56),none⟩,⟨some 9,.mv (.t 57),none⟩]))))) (.region [⟨some 58,.bin .add (.t 30) (.c (.v (.int .i64 1))),none⟩,⟨some 30,.mv (.t 58),none⟩]))))))) (.seq (.region [⟨some 59,.mv (.t 9),none⟩,⟨some 4,.mv (.t 59),none⟩,⟨some 5,.mv (.c (.v (.int .i64 0))),none⟩]) .ret))))))))⟩
theorem a_dTight_ok : cFunc Try.prog 58 = some a_dTight := by kernel_rfl
def r_dTight0 : List (Nat × Nat) := [(9, 10), (12, 13), (30, 58)]
def r_dTight1 : List (Nat × Nat) := [(10, 10), (13, 13), (37, 53)]
def a_dEarly : AFunc := ⟨2,47,[.tmp 4,.tmp 5],(.seq (.region [⟨some 2,.box (.t 0),none⟩,⟨some 3,.box (.t 1),none⟩,⟨some 4,.mv (.c (.v .zsl)),none⟩,⟨some 5,.mv (.c (.v (.int .i64 0))),none⟩]) (.seq (.region [⟨some 15,.load (some 1) (.t 2),none⟩,⟨some 16,.load (some 3) (.t 3),none⟩,⟨some 17,.call (.c (.fn 58 [])) [(.t 15),(.t 16)],none⟩,⟨some 14,.mv (.t 17),none⟩,⟨some 18,.extract 0 (.t 14),none⟩,⟨some 19,.extract 1 (.t 14),none⟩,⟨some 6,.mv (.t 18),none⟩,⟨some 7,.mv (.t 19),none⟩]) (.seq (.seq (.region [⟨some 20,.mv (.t 7),none⟩,⟨some 21,.bin .neq (.t 20) (.c (.v (.int .i64 0))),none⟩]) (.cond (.t 21) (.seq (.region [⟨some 22,.mv (.t 7),none⟩,⟨some 4,.mv (.c (.v .zsl)),none⟩,⟨some 5,.mv (.t 22),none⟩]) .ret) .skip)) (.seq (.region [⟨some 8,.mv (.c (.v .zsl)),none⟩]) (.seq (.seq (.region [⟨some 23,.mv (.t 6),none⟩,⟨some 24,.len (.t 23),none⟩,⟨some 25,.mv (.c (.v (.int .i64 0))),none⟩]) (.block 0 (.loop (.seq (.region [⟨some 26,.bin .lss (.t 25) (.t 24),none⟩]) (.seq (.cond (.t 26) .skip (.exit 0)) (.seq (.block 1 (.seq (.region [⟨some 27,.iaddr 1 (.t 23) (.t 25),none⟩,⟨some 28,.load none (.t 27),none⟩,⟨some 10,.mv (.t 28),none⟩]) (.seq (.region [⟨some 11,.mv (.c (.v .zsl)),none⟩]) (.seq (.seq (.region [⟨some 29,.mv (.t 10),none⟩,⟨some 30,.len (.t 29),none⟩,⟨some 31,.mv (.c (.v (.int .i64 0))),none⟩]) (.block 2 (.loop (.seq (.region [⟨some 32,.bin .lss (.t 31) (.t 30),none⟩]) (.seq (.cond (.t 32) .skip (.exit 2)) (.seq (.block 3 (.seq (.region [⟨some 33,.iaddr 2 (.t 29) (.t 31),none⟩,⟨some 34,.load (some 2) (.t 33),none⟩,⟨some 13,.alloc [(.v (.int .i64 0)),(.v (.int .i64 0))],none⟩,⟨none,.store 2 (.t 13) (.t 34),none⟩]) (.region [⟨some 35,.mv (.t 11),none⟩,⟨some 36,.iaddrA 2 1 (.t 13) (.c (.v (.int .i64 0))),none⟩,⟨some 37,.load none (.t 36),none⟩,⟨some 38,.bslice 1 [(.v (.int .i64 0))] 1 [(0,(.t 37))],none⟩,⟨some 39,.append 1 8 (.t 35) (.t 38),none⟩,⟨some 11,.mv (.t 39),none⟩]))) (.region [⟨some 40,.bin .add (.t 31) (.c (.v (.int .i64 1))),none⟩,⟨some 31,.mv (.t 40),none⟩]))))))) (.region [⟨some 41,.mv (.t 8),none⟩,⟨some 42,.mv (.t 11),none⟩,⟨some 43,.bslice 1 [(.v .zsl)] 1 [(0,(.t 42))],none⟩,⟨some 44,.append 1 24 (.t 41) (.t 43),none⟩,⟨some 8,.mv (.t 44),none⟩]))))) (.region [⟨some 45,.bin .add (.t 25) (.c (.v (.int .i64 1))),none⟩,⟨some 25,.mv (.t 45),none⟩]))))))) (.seq (.region [⟨some 46,.mv (.t 8),none⟩,⟨some 4,.mv (.t 46),none⟩,⟨some 5,.mv (.c (.v (.int .i64 0))),none⟩]) .ret))))))⟩
theorem a_dEarly_ok : cFunc Try.prog 61 = some a_dEarly := by kernel_rfl
def r_dEarly0 : List (Nat × Nat) := [(8, 8), (10, 11), (13, 13), (25, 45)]
def r_dEarly1 : List (Nat × Nat) := [(11, 11), (13, 13), (31, 40)]
def a_dCert : AFunc := ⟨4,80,[.tmp 8,.tmp 9],(.seq (.region [⟨some 4,.box (.t 0),none⟩,⟨some 5,.box (.t 1),none⟩,⟨some 6,.box (.t 2),none⟩,⟨some 7,.box (.t 3),none⟩,⟨some 8,.mv (.c (.v (.bool false))),none⟩,⟨some 9,.mv (.c (.v (.int .i64 0))),none⟩]) (.seq (.block 0 (.seq (.region [⟨some 21,.load (some 1) (.t 4),none⟩,⟨some 22,.load (some 3) (.t 5),none⟩,⟨some 23,.call (.c (.fn 53 [])) [(.t 21),(.t 22)],none⟩,⟨some 24,.not (.t 23),none⟩,⟨some 20,.mv (.t 24),none⟩]) (.cond (.t 20) (.seq (.region [⟨some 8,.mv (.c (.v (.bool false))),none⟩,⟨some 9,.mv (.c (.v (.int .i64 1))),none⟩]) .ret) (.seq (.region [⟨some 26,.load (some 1) (.t 4),none⟩,⟨some 27,.load (some 2) (.t 6),none⟩,⟨some 28,.call (.c (.fn 122 [])) [(.t 26),(.t 27)],none⟩,⟨some 29,.not (.t 28),none⟩,⟨some 30,.mv (.t 29),none⟩,⟨some 31,.load (some 1) (.t 4),some (30,false)⟩,⟨some 32,.load (some 2) (.t 7),some (30,false)⟩,⟨some 33,.call (.c (.fn 122 [])) [(.t 31),(.t 32)],some (30,false)⟩,⟨some 34,.not (.t 33),some (30,false)⟩,⟨some 35,.pick (.t 30) (.c (.v (.bool true))) (.t 34),none⟩,⟨some 25,.mv (.t 35),none⟩]) (.cond (.t 25) (.seq (.region [⟨some 8,.mv (.c (.v (.bool false))),none⟩,⟨some 9,.mv (.c (.v (.int .i64 2))),none⟩]) .ret) .skip))))) (.seq (.seq (.region [⟨some 37,.load (some 1) (.t 4),none⟩,⟨some 38,.load (some 3) (.t 5),none⟩,⟨some 39,.call (.c (.fn 128 [])) [(.t 37),(.t 38)],none⟩,⟨some 36,.mv (.t 39),none⟩,⟨some 40,.extract 0 (.t 36),none⟩,⟨some 41,.extract 1 (.t 36),none⟩,⟨some 42,.extract 2 (.t 36),none⟩,⟨some 10,.mv (.t 40),none⟩,⟨some 11,.mv (.t 41),none⟩,⟨some 12,.mv (.t 42),none⟩]) (.seq (.region [⟨some 43,.mv (.t 12),none⟩,⟨some 44,.not (.t 43),none⟩]) (.cond (.t 44) (.seq (.region [⟨some 8,.mv (.c (.v (.bool false))),none⟩,⟨some 9,.mv (.c (.v (.int .i64 11))),none⟩]) .ret) .skip))) (.seq (.region [⟨some 46,.load (some 1) (.t 4),none⟩,⟨some 47,.load (some 2) (.t 6),none⟩,⟨some 48,.call (.c (.fn 129 [])) [(.t 46),(.t 47)],none⟩,⟨some 45,.mv (.t 48),none⟩,⟨some 49,.extract 0 (.t 45),none⟩,⟨some 50,.extract 1 (.t 45),none⟩,⟨some 13,.mv (.t 49),none⟩,⟨some 14,.mv (.t 50),none⟩]) (.seq (.region [⟨some 52,.load (some 1) (.t 4),none⟩,⟨some 53,.load (some 2) (.t 7),none⟩,⟨some 54,.call (.c (.fn 129 [])) [(.t 52),(.t 53)],none⟩,⟨some 51,.mv (.t 54),none⟩,⟨some 55,.extract 0 (.t 51),none⟩,⟨some 56,.extract 1 (.t 51),none⟩,⟨some 15,.mv (.t 55),none⟩,⟨some 16,.mv (.t 56),none⟩]) (.seq (.region [⟨some 58,.load (some 1) (.t 4),none⟩,⟨some 59,.load (some 3) (.t 5),none⟩,⟨some 60,.call (.c (.fn 130 [])) [(.t 58),(.t 59)],none⟩,⟨some 61,.mv (.t 13),none⟩,⟨some 62,.call (.c (.fn 131 [])) [(.t 60),(.t 61)],none⟩,⟨some 57,.mv (.t 62),none⟩,⟨some 63,.extract 0 (.t 57),none⟩,⟨some 64,.extract 1 (.t 57),none⟩,⟨some 65,.extract 2 (.t 57),none⟩,⟨some 17,.mv (.t 63),none⟩,⟨some 18,.mv (.t 64),none⟩,⟨some 19,.mv (.t 65),none⟩]) (.seq (.region [⟨some 66,.mv (.t 19),none⟩,⟨some 67,.mv (.t 66),none⟩,⟨some 68,.mv (.t 18),some (67,true)⟩,⟨some 69,.mv (.t 15),some (67,true)⟩,⟨some 70,.iaddr 1 (.t 68) (.t 69),some (67,true)⟩,⟨some 71,.load none (.t 70),some (67,true)⟩,⟨some 72,.pick (.t 67) (.t 71) (.c (.v (.bool false))),none⟩,⟨some 73,.mv (.t 72),none⟩,⟨some 74,.mv (.t 17),some (73,true)⟩,⟨some 75,.mv (.t 15),some (73,true)⟩,⟨some 76,.iaddr 1 (.t 74) (.t 75),some (73,true)⟩,⟨some 77,.load none (.t 76),some (73,true)⟩,⟨some 78,.bin .gtr (.t 77) (.c (.v (.int .i64 0))),some (73,true)⟩,⟨some 79,.pick (.t 73) (.t 78) (.c (.v (.bool false))),none⟩,⟨some 8,.mv (.t 79),none⟩,⟨some 9,.mv (.c (.v (.int .i64 0))),none⟩]) .ret)))))))⟩
theorem a_dCert_ok : cFunc Try.prog 59 = some a_dCert := by kernel_rfl

noncomputable def tiR (t : Tr) (bn : Bn) (p n : Nat) : List (List IV) := fl n fun i => [.int .i64 (loN t bn (evN t p + i)), .int .i64 (hiN t bn (evN t p + i))]
noncomputable def tiAll (t : Tr) (bn : Bn) (n : Nat) : List (List IV) := fl n fun p => [.isl 2 (tiR t bn p (evsOf t p).length)]
theorem tiR_next {t : Tr} {bn : Bn} {p n : Nat} : tiR t bn p n ++ [[.int .i64 (loN t bn (evN t p + n)), .int .i64 (hiN t bn (evN t p + n))]] = tiR t bn p (n + 1) := fl_next rfl
theorem tiAll_next {t : Tr} {bn : Bn} {n : Nat} : tiAll t bn n ++ [[.isl 2 (tiR t bn n (evsOf t n).length)]] = tiAll t bn (n + 1) := fl_next rfl
noncomputable def tightR (t : Tr) (bn : Bn) : AV := if bnB t bn = false then .tup [.v .zsl, .v (.int .i64 1)] else if okB t bn = false then .tup [.v .zsl, .v (.int .i64 11)] else .tup [.v (.isl 1 (tiAll t bn t.length)), .v (.int .i64 0)]
set_option maxRecDepth 20000 in
set_option maxHeartbeats 8000000 in
theorem dTight_spec (t : Tr) (hS : Small t) (hN : Nm t) (hn : t.length ≤ 20) (he70 : ∀ x ∈ t, x.evs.length ≤ 70) (hC : (ids t).length ≤ 190) (bn : Bn) (hbl : bn.er.length ≤ 4611686018427387904) (b l : List Row) :
  ACalls Try.prog 58 [.agg [.v (eT t)], .agg (eBn bn)] b l (fun r b' l' => r = tightR t bn ∧ b' = b ∧ l' = l) := by
 refine calls_kept a_dTight_ok rfl (by decide) ?_
 intro B g hB hR hE hA
 simp only [KArgs] at hA
 have eTe : eT t = .isl 3 (t.map ePr) := rfl
 have cv := fun b l => dValid_spec t hS hN bn hbl b l
 simp only [eBn, eTe] at cv hA
 simp (disch := (first | decide | omega)) only [a_dTight, hA, go_sem]
 refine ACalls.nxt (cv _ _) ?_
 cases hb : bnB t bn with
 | false =>
   simp (disch := (first | decide | omega)) only [hA, go_sem]
   exact leave_pure (xs := [.v .zsl, .v (.int .i64 1)]) (.inr rfl) (by simp (disch := (first | decide | omega)) only [resVs, resV, go_sem, hA]) kO hR hB ⟨by rw [tightR, if_pos hb]; rfl, rfl, rfl⟩
 | true =>
 obtain ⟨hval, hok⟩ := bn_ok hb
 have cE := fun b l => dEnds_spec t hS hN hn he70 hC hval bn hok b l
 simp only [eBn, eTe] at cE
 cases hk : okB t bn with
 | false =>
   rw [hk, if_neg (by decide)] at cE
   simp (disch := (first | decide | omega)) only [hA, go_sem]
   refine ACalls.nxt (cE _ _) ?_
   simp (disch := (first | decide | omega)) only [hA, go_sem]
   exact leave_pure (xs := [.v .zsl, .v (.int .i64 11)]) (.inr rfl) (by simp (disch := (first | decide | omega)) only [resVs, resV, go_sem, hA]) kO hR hB ⟨by rw [tightR, if_neg (by rw [hb]; decide), if_pos hk]; rfl, rfl, rfl⟩
 | true =>
 rw [hk, if_pos rfl] at cE
 have hres : tightR t bn = .tup [.v (.isl 1 (tiAll t bn t.length)), .v (.int .i64 0)] := by rw [tightR, if_neg (by rw [hb]; decide), if_neg (by rw [hk]; decide)]
 rw [hres]
 simp only [endV] at cE
 have h00 : ((evN t 0 : Nat) : Int) = 0 := rfl
 have hevall := evN_all (t := t)
 have hmono : ∀ p (hp : p < t.length) i, i < t[p].evs.length → evN t p + i < (ids t).length := fun p hp i hi => by
  have hx : (p, i + 1) ∈ ids t := mem_ids2.2 ⟨hp, by rw [evsOf_lt hp]; exact hi⟩
  exact (numN_at hx).1
 simp (disch := (first | decide | omega)) only [hA, go_sem]
 refine ACalls.nxt (cE _ _) ?_
 simp (disch := (first | decide | omega)) only [hA, List.length_map, go_sem]
 refine loop_kept_nil (ι := Nat) 9 1 r_dTight0 (fun q => [(9, .sl (B.length + 2) q 0 q), (30, .v (.int .i64 q)), (10, .v (.int .i64 (evN t q : Nat)))]) 3 (fun q => [.live 0 1 [[.v (.isl 3 (t.map ePr))]], .live 0 3 [[.v (.isl 1 (bn.er.map eI)), .v (.int .i64 bn.lo), .v (.int .i64 bn.hi)]], .live q 1 (vs (tiAll t bn q))])
  (fun q => q ≤ t.length) (fun q => t.length - q) 0 (Nat.zero_le _) (by simp (disch := decide) only [hA, go_sem]) (by decide) rfl (by (repeat (first | exact hE.mono oM | refine KLt.up ?_ kL))) (by ((try simp (disch := decide) only [hA, h00, go_sem]) <;> exact kH)) (fun e => Weak.refl _ _ _) ?_
 intro g1 hE1 hEE1 hg1 q hq
 by_cases hlt : q < t.length
 ·have heq := evsOf_lt hlt
  have hne := hS.ne _ (List.getElem_mem hlt)
  have hns := evN_succ hlt
  have hen := evN_le he70 q hq
  have h70 := he70 _ (List.getElem_mem hlt)
  have hgp : (t.map ePr)[q]? = some (ePr t[q]) := by rw [List.getElem?_map, List.getElem?_eq_getElem hlt]; rfl
  simp only [ePr] at hgp
  simp (disch := (first | decide | omega)) only [hA, hg1, hgp, List.length_map, go_sem]
  refine loop_kept_nil (ι := Nat) 13 2 r_dTight1 (fun j => [(13, .sl (B.length + 4) j 0 j), (37, .v (.int .i64 j)), (10, .v (.int .i64 (evN t q + j : Nat)))]) 5 (fun j => [.live 0 1 [[.v (.isl 3 (t.map ePr))]], .live 0 3 [[.v (.isl 1 (bn.er.map eI)), .v (.int .i64 bn.lo), .v (.int .i64 bn.hi)]], .live q 1 (vs (tiAll t bn q)), .live 0 3 [[.v (.str t[q].name), .v (.isl 2 (t[q].vars.map eVr)), .v (.isl 5 (t[q].evs.map eEv))]], .live j 2 (vs (tiR t bn q j))])
   (fun j => j ≤ t[q].evs.length) (fun j => t[q].evs.length - j) 0 (Nat.zero_le _) (by simp (disch := decide) only [hA, go_sem]) (by decide) rfl (by (repeat (first | exact hE1.mono oM | refine KLt.up ?_ kL))) (by ((try simp (disch := decide) only [hA, hg1, go_sem]) <;> exact kH)) (fun e => Weak.refl _ _ _) ?_
  intro g2 hE2 hEE2 hg2 j hj
  by_cases hjl : j < t[q].evs.length
  ·have hnb := hmono q hlt j hjl
   have tk : (tiR t bn q j).take j = tiR t bn q j := List.take_of_length_le (by simp [tiR, fl_len])
   have tl : (tiR t bn q j).length = j := fl_len
   have gl : (fl ((ids t).length + 1) fun v => [IV.int .i64 (loN t bn v)])[evN t q + j]? = some [.int .i64 (loN t bn (evN t q + j))] := fl_get oM
   have gh : (fl ((ids t).length + 1) fun v => [IV.int .i64 (hiN t bn v)])[evN t q + j]? = some [.int .i64 (hiN t bn (evN t q + j))] := fl_get oM
   have hinc : ((evN t q + j : Nat) : Int) + 1 = ((evN t q + (j + 1) : Nat) : Int) := by omega
   simp (disch := (first | decide | omega)) only [hA, hg1, hg2, gl, gh, List.length_map, List.replicate_succ, List.replicate_zero, setFrom, cellsOf, tk, tl, tiR_next, hinc, go_sem]
   refine ⟨j + 1, hjl, by simp only; omega, ?_⟩
   exact Weak.kround (p := r_dTight1) (k := 5) (by ((repeat refine (kAny_up rfl).trans ?_); exact hEE2)) (by ((try simp (disch := decide) only [hA, go_sem]) <;> exact kH)) rfl hE2 (by simp) kV hR kL
  ·obtain rfl : j = t[q].evs.length := by omega
   have tk : (tiAll t bn q).take q = tiAll t bn q := List.take_of_length_le (by simp [tiAll, fl_len])
   have tl : (tiAll t bn q).length = q := fl_len
   have hcast : ((evN t q + t[q].evs.length : Nat) : Int) = ((evN t (q + 1) : Nat) : Int) := by omega
   simp (disch := (first | decide | omega)) only [hA, hg1, hg2, List.length_map, List.replicate_succ, List.replicate_zero, setFrom, cellsOf, tk, tl, go_sem]
   refine ⟨q + 1, hlt, by simp only; omega, ?_⟩
   refine Weak.kroundF (p := r_dTight0) (i := 4) (ver := t[q].evs.length) (sz := 2) (rows := tiR t bn q t[q].evs.length) (k := 3) (l1 := [.live 0 1 [[.v (.isl 3 (t.map ePr))]], .live 0 3 [[.v (.isl 1 (bn.er.map eI)), .v (.int .i64 bn.lo), .v (.int .i64 bn.hi)]], .live (q + 1) 1 (vs (tiAll t bn (q + 1)))]) (junk := [.live 0 3 [[.v (.str t[q].name), .v (.isl 2 (t[q].vars.map eVr)), .v (.isl 5 (t[q].evs.map eEv))]], .dead t[q].evs.length, .live 0 1 [[.v (.isl 2 (tiR t bn q t[q].evs.length))]]]) rfl (by ((repeat refine (kAny_up rfl).trans ?_); refine (kAny_sub hg2 (kIn_sub rfl)).trans ?_; (repeat refine (kAny_up rfl).trans ?_); exact hEE1)) (by ((try simp (disch := decide) only [hA, hg1, hcast, go_sem]) <;> exact kH)) ?_ (by (repeat (first | exact hE1.mono oM | refine KLt.up ?_ kL))) (by simp) (by simp) kV hR kL
   have tl2 : (tiR t bn q t[q].evs.length).length = t[q].evs.length := fl_len
   simp [rowMap, frz0, vs, frz0_v, ← tiAll_next, heq, tl2]
   exact List.take_of_length_le oM
 ·obtain rfl : q = t.length := by omega
  simp (disch := (first | decide | omega)) only [hA, hg1, List.length_map, go_sem]
  refine leave_deep (.inr rfl) (xs := [.sl (B.length + 2) t.length 0 t.length, .v (.int .i64 0)]) (by simp (disch := (first | decide | omega)) only [resVs, resV, hA, hg1, go_sem]) (y := .tup [.v (.isl 1 (tiAll t bn t.length)), .v (.int .i64 0)]) ?_ hR hB ⟨rfl, rfl, rfl⟩
  exact Dv.tupL (.cons (Dv.slV (i := 2) rfl (by simp [tiAll, fl_len])) (.cons (.v _) .nil))
noncomputable def eaRow (t : Tr) (bn : Bn) (p n : Nat) : List Int := fl n fun i => loN t bn (evN t p + i)
noncomputable def eaAll (t : Tr) (bn : Bn) (n : Nat) : List (List Int) := fl n fun p => eaRow t bn p (evsOf t p).length
noncomputable def earlyR (t : Tr) (bn : Bn) : AV := if bnB t bn = false then .tup [.v .zsl, .v (.int .i64 1)] else if okB t bn = false then .tup [.v .zsl, .v (.int .i64 11)] else .tup [.v (.isl 1 ((eaAll t bn t.length).map eRw)), .v (.int .i64 0)]
theorem ea_next {t : Tr} {bn : Bn} {p n : Nat} : (eaRow t bn p n).map eI ++ [[.int .i64 (loN t bn (evN t p + n))]] = (eaRow t bn p (n + 1)).map eI := by
 unfold eaRow
 rw [fl_map, fl_map]
 exact fl_next rfl
theorem eaAll_next {t : Tr} {bn : Bn} {n : Nat} : (eaAll t bn n).map eRw ++ [[.isl 1 ((eaRow t bn n (evsOf t n).length).map eI)]] = (eaAll t bn (n + 1)).map eRw := by
 unfold eaAll
 rw [fl_map, fl_map]
 exact fl_next rfl
set_option maxRecDepth 20000 in
set_option maxHeartbeats 8000000 in
theorem dEarly_spec (t : Tr) (hS : Small t) (hN : Nm t) (hn : t.length ≤ 20) (he70 : ∀ x ∈ t, x.evs.length ≤ 70) (hC : (ids t).length ≤ 190) (bn : Bn) (hbl : bn.er.length ≤ 4611686018427387904) (b l : List Row) :
  ACalls Try.prog 61 [.agg [.v (eT t)], .agg (eBn bn)] b l (fun r b' l' => r = earlyR t bn ∧ b' = b ∧ l' = l) := by
 refine calls_kept a_dEarly_ok rfl (by decide) ?_
 intro B g hB hR hE hA
 simp only [KArgs] at hA
 have eTe : eT t = .isl 3 (t.map ePr) := rfl
 have cT := fun b l => dTight_spec t hS hN hn he70 hC bn hbl b l
 simp only [eBn, eTe] at cT hA
 have n1 : ((1 : Int) != 0) = true := rfl
 have n11 : ((11 : Int) != 0) = true := rfl
 have n0 : ((0 : Int) != 0) = false := rfl
 cases hb : bnB t bn with
 | false =>
   have ht : tightR t bn = .tup [.v .zsl, .v (.int .i64 1)] := by rw [tightR, if_pos hb]
   rw [ht] at cT
   simp (disch := (first | decide | omega)) only [a_dEarly, hA, go_sem]
   refine ACalls.nxt (cT _ _) ?_
   simp (disch := (first | decide | omega)) only [hA, n1, go_sem]
   exact leave_pure (xs := [.v .zsl, .v (.int .i64 1)]) (.inr rfl) (by simp (disch := (first | decide | omega)) only [resVs, resV, go_sem, hA]) kO hR hB ⟨by rw [earlyR, if_pos hb]; rfl, rfl, rfl⟩
 | true =>
 cases hk : okB t bn with
 | false =>
   have ht : tightR t bn = .tup [.v .zsl, .v (.int .i64 11)] := by rw [tightR, if_neg (by rw [hb]; decide), if_pos hk]
   rw [ht] at cT
   simp (disch := (first | decide | omega)) only [a_dEarly, hA, go_sem]
   refine ACalls.nxt (cT _ _) ?_
   simp (disch := (first | decide | omega)) only [hA, n11, go_sem]
   exact leave_pure (xs := [.v .zsl, .v (.int .i64 11)]) (.inr rfl) (by simp (disch := (first | decide | omega)) only [resVs, resV, go_sem, hA]) kO hR hB ⟨by rw [earlyR, if_neg (by rw [hb]; decide), if_pos hk]; rfl, rfl, rfl⟩
 | true =>
 have ht : tightR t bn = .tup [.v (.isl 1 (tiAll t bn t.length)), .v (.int .i64 0)] := by rw [tightR, if_neg (by rw [hb]; decide), if_neg (by rw [hk]; decide)]
 rw [ht] at cT
 have hres : earlyR t bn = .tup [.v (.isl 1 ((eaAll t bn t.length).map eRw)), .v (.int .i64 0)] := by rw [earlyR, if_neg (by rw [hb]; decide), if_neg (by rw [hk]; decide)]
 rw [hres]
 have htl : (tiAll t bn t.length).length = t.length := fl_len
 have hnp := hS.np
 simp (disch := (first | decide | omega)) only [a_dEarly, hA, go_sem]
 refine ACalls.nxt (cT _ _) ?_
 simp (disch := (first | decide | omega)) only [hA, n0, htl, go_sem]
 refine loop_kept_nil (ι := Nat) 8 1 r_dEarly0 (fun q => [(8, .sl (B.length + 2) q 0 q), (25, .v (.int .i64 q))]) 3 (fun q => [.live 0 1 [[.v (.isl 3 (t.map ePr))]], .live 0 3 [[.v (.isl 1 (bn.er.map eI)), .v (.int .i64 bn.lo), .v (.int .i64 bn.hi)]], .live q 1 (vs ((eaAll t bn q).map eRw))])
  (fun q => q ≤ t.length) (fun q => t.length - q) 0 (Nat.zero_le _) (by simp (disch := decide) only [hA, go_sem]) (by decide) rfl (by (repeat (first | exact hE.mono oM | refine KLt.up ?_ kL))) (by ((try simp (disch := decide) only [hA, go_sem]) <;> exact kH)) (fun e => Weak.refl _ _ _) ?_
 intro g1 hE1 hEE1 hg1 q hq
 by_cases hlt : q < t.length
 ·have heq := evsOf_lt hlt
  have hne := hS.ne _ (List.getElem_mem hlt)
  have hgr : (tiAll t bn t.length)[q]? = some [.isl 2 (tiR t bn q t[q].evs.length)] := by rw [← heq]; exact fl_get hlt
  have trl : (tiR t bn q t[q].evs.length).length = t[q].evs.length := fl_len
  simp (disch := (first | decide | omega)) only [hA, hg1, hgr, htl, trl, go_sem]
  refine loop_kept_nil (ι := Nat) 11 1 r_dEarly1 (fun j => [(11, .sl (B.length + 3) j 0 j), (31, .v (.int .i64 j))]) 4 (fun j => [.live 0 1 [[.v (.isl 3 (t.map ePr))]], .live 0 3 [[.v (.isl 1 (bn.er.map eI)), .v (.int .i64 bn.lo), .v (.int .i64 bn.hi)]], .live q 1 (vs ((eaAll t bn q).map eRw)), .live j 1 (vs ((eaRow t bn q j).map eI))])
   (fun j => j ≤ t[q].evs.length) (fun j => t[q].evs.length - j) 0 (Nat.zero_le _) (by simp (disch := decide) only [hA, go_sem]) (by decide) rfl (by (repeat (first | exact hE1.mono oM | refine KLt.up ?_ kL))) (by ((try simp (disch := decide) only [hA, hg1, go_sem]) <;> exact kH)) (fun e => Weak.refl _ _ _) ?_
  intro g2 hE2 hEE2 hg2 j hj
  by_cases hjl : j < t[q].evs.length
  ·have tl : (eaRow t bn q j).length = j := fl_len
   have tk : List.take j ((eaRow t bn q j).map eI) = (eaRow t bn q j).map eI := List.take_of_length_le (by rw [List.length_map, tl]; exact Nat.le_refl _)
   have gl : (tiR t bn q t[q].evs.length)[j]? = some [.int .i64 (loN t bn (evN t q + j)), .int .i64 (hiN t bn (evN t q + j))] := fl_get hjl
   have hz01 : Int.toNat 0 * 1 = 0 := rfl
   simp (disch := (first | decide | omega)) only [hA, hg1, hg2, gl, hz01, trl, List.length_map, List.replicate_succ, List.replicate_zero, setFrom, cellsOf, tk, tl, ea_next, go_sem]
   refine ⟨j + 1, hjl, by simp only; omega, ?_⟩
   exact Weak.kround (p := r_dEarly1) (k := 4) (by ((repeat refine (kAny_up rfl).trans ?_); exact hEE2)) (by ((try simp (disch := decide) only [hA, go_sem]) <;> exact kH)) rfl hE2 (by simp) kV hR kL
  ·obtain rfl : j = t[q].evs.length := by omega
   have tl : (eaAll t bn q).length = q := fl_len
   have tk : List.take q ((eaAll t bn q).map eRw) = (eaAll t bn q).map eRw := List.take_of_length_le (by rw [List.length_map, tl]; exact Nat.le_refl _)
   simp (disch := (first | decide | omega)) only [hA, hg1, hg2, trl, List.length_map, List.replicate_succ, List.replicate_zero, setFrom, cellsOf, tk, tl, go_sem]
   refine ⟨q + 1, hlt, by simp only; omega, ?_⟩
   refine Weak.kroundF (p := r_dEarly0) (i := 3) (ver := t[q].evs.length) (sz := 1) (rows := (eaRow t bn q t[q].evs.length).map eI) (k := 3) (l1 := [.live 0 1 [[.v (.isl 3 (t.map ePr))]], .live 0 3 [[.v (.isl 1 (bn.er.map eI)), .v (.int .i64 bn.lo), .v (.int .i64 bn.hi)]], .live (q + 1) 1 (vs ((eaAll t bn (q + 1)).map eRw))]) (junk := [.dead t[q].evs.length, .live 0 1 [[.v (.isl 1 ((eaRow t bn q t[q].evs.length).map eI))]]]) rfl (by ((repeat refine (kAny_up rfl).trans ?_); refine (kAny_sub hg2 (kIn_sub rfl)).trans ?_; (repeat refine (kAny_up rfl).trans ?_); exact hEE1)) (by ((try simp (disch := decide) only [hA, hg1, go_sem]) <;> exact kH)) ?_ (by (repeat (first | exact hE1.mono oM | refine KLt.up ?_ kL))) (by simp) (by simp) kV hR kL
   have tl2 : (eaRow t bn q t[q].evs.length).length = t[q].evs.length := fl_len
   simp [rowMap, frz0, vs, frz0_v, ← eaAll_next, heq, tl2]
   exact List.take_of_length_le (by simp [tl2])
 ·obtain rfl : q = t.length := by omega
  simp (disch := (first | decide | omega)) only [hA, hg1, htl, go_sem]
  refine leave_deep (.inr rfl) (xs := [.sl (B.length + 2) t.length 0 t.length, .v (.int .i64 0)]) (by simp (disch := (first | decide | omega)) only [resVs, resV, hA, hg1, go_sem]) (y := .tup [.v (.isl 1 ((eaAll t bn t.length).map eRw)), .v (.int .i64 0)]) ?_ hR hB ⟨rfl, rfl, rfl⟩
  exact Dv.tupL (.cons (Dv.slV (i := 2) rfl (by simp [eaAll, fl_len])) (.cons (.v _) .nil))
noncomputable def cerB (t : Tr) (bn : Bn) (x y : Nat × Nat) : Bool := decide (dM t bn (numN t y + 1) (numN t x + 1) < 0)
noncomputable def certR (t : Tr) (bn : Bn) (x y : Int × Int) : AV := if bnB t bn = false then .tup [.v (.bool false), .v (.int .i64 1)] else if existsB t x.1 x.2 = false ∨ existsB t y.1 y.2 = false then .tup [.v (.bool false), .v (.int .i64 2)] else if okB t bn = false then .tup [.v (.bool false), .v (.int .i64 11)] else .tup [.v (.bool (cerB t bn (x.1.toNat, x.2.toNat) (y.1.toNat, y.2.toNat))), .v (.int .i64 0)]
theorem phN_num {t : Tr} {x : Nat × Nat} (hx : x ∈ ids t) : phN (ids t).length (numN t x) = numN t x + 1 := by
 have := (numN_at hx).1
 unfold phN; rw [if_neg oM]
theorem num_spec {t : Tr} (hS : Small t) (hN : Nm t) (hn : t.length ≤ 20) (he70 : ∀ x ∈ t, x.evs.length ≤ 70) (hval : validL t = true) {p i : Nat} (hx : (p, i + 1) ∈ ids t) (b l : List Row) :
  ACalls Try.prog 129 [.agg [.v (eT t)], idP ((p : Int), ((i + 1 : Nat) : Int))] b l (fun r b' l' => r = .tup [.v (.int .i64 (numN t (p, i + 1) : Nat)), .v (.int .i64 0)] ∧ b' = b ∧ l' = l) := by
 have hxq : existsB t p ((i + 1 : Nat) : Int) = true := existsB_of hx
 have hck : chkE t [((p : Int), ((i + 1 : Nat) : Int))] = 0 := by
  unfold chkE
  rw [if_pos hval, if_pos]
  show (existsB t (p : Int) ((i + 1 : Nat) : Int) && true) = true
  rw [hxq]; rfl
 have cN := NumC_spec t hS hN hn he70 ((p : Int), ((i + 1 : Nat) : Int)) b l
 have hnr : numR t ((p : Int), ((i + 1 : Nat) : Int)) = .tup [.v (.int .i64 (numN t (p, i + 1) : Nat)), .v (.int .i64 0)] := by
  unfold numR; rw [hck, if_pos rfl]; simp only [Int.toNat_natCast]
 rw [hnr] at cN
 exact cN
set_option maxRecDepth 20000 in
set_option maxHeartbeats 8000000 in
theorem dCert_spec (t : Tr) (hS : Small t) (hN : Nm t) (hn : t.length ≤ 20) (he70 : ∀ x ∈ t, x.evs.length ≤ 70) (hC : (ids t).length ≤ 190) (bn : Bn) (hbl : bn.er.length ≤ 4611686018427387904) (x y : Int × Int) (b l : List Row) :
  ACalls Try.prog 59 [.agg [.v (eT t)], .agg (eBn bn), idP x, idP y] b l (fun r b' l' => r = certR t bn x y ∧ b' = b ∧ l' = l) := by
 refine calls_kept a_dCert_ok rfl (by decide) ?_
 intro B g hB hR hE hA
 simp only [KArgs] at hA
 have eTe : eT t = .isl 3 (t.map ePr) := rfl
 have cv := fun b l => dValid_spec t hS hN bn hbl b l
 have ckx := fun b l => known_spec t hS x b l
 have cky := fun b l => known_spec t hS y b l
 obtain ⟨x1, x2⟩ := x
 obtain ⟨y1, y2⟩ := y
 simp only [idP, eTe] at hA ckx cky
 simp only [eBn, eTe] at cv hA
 simp (disch := (first | decide | omega)) only [a_dCert, hA, go_sem]
 refine ACalls.nxt (cv _ _) ?_
 cases hb : bnB t bn with
 | false =>
   simp (disch := (first | decide | omega)) only [hA, go_sem]
   exact leave_pure (xs := [.v (.bool false), .v (.int .i64 1)]) (.inr rfl) (by simp (disch := (first | decide | omega)) only [resVs, resV, go_sem, hA]) kO hR hB ⟨by rw [certR, if_pos hb]; rfl, rfl, rfl⟩
 | true =>
 obtain ⟨hval, hok⟩ := bn_ok hb
 simp (disch := (first | decide | omega)) only [hA, go_sem]
 refine ACalls.nxt (ckx _ _) ?_
 cases hx : existsB t x1 x2 with
 | false =>
   simp (disch := (first | decide | omega)) only [hA, go_sem]
   exact leave_pure (xs := [.v (.bool false), .v (.int .i64 2)]) (.inr rfl) (by simp (disch := (first | decide | omega)) only [resVs, resV, go_sem, hA]) kO hR hB ⟨by rw [certR, if_neg (by rw [hb]; decide), if_pos (.inl hx)]; rfl, rfl, rfl⟩
 | true =>
 simp (disch := (first | decide | omega)) only [hA, go_sem]
 refine ACalls.nxt (cky _ _) ?_
 cases hy : existsB t y1 y2 with
 | false =>
   simp (disch := (first | decide | omega)) only [hA, go_sem]
   exact leave_pure (xs := [.v (.bool false), .v (.int .i64 2)]) (.inr rfl) (by simp (disch := (first | decide | omega)) only [resVs, resV, go_sem, hA]) kO hR hB ⟨by rw [certR, if_neg (by rw [hb]; decide), if_pos (.inr hy)]; rfl, rfl, rfl⟩
 | true =>
 have cE := fun b l => dEnds_spec t hS hN hn he70 hC hval bn hok b l
 simp only [eBn, eTe] at cE
 have h3 : ¬ (existsB t x1 x2 = false ∨ existsB t y1 y2 = false) := by rw [hx, hy]; decide
 cases hk : okB t bn with
 | false =>
   rw [hk, if_neg (by decide)] at cE
   simp (disch := (first | decide | omega)) only [hA, go_sem]
   refine ACalls.nxt (cE _ _) ?_
   simp (disch := (first | decide | omega)) only [hA, go_sem]
   exact leave_pure (xs := [.v (.bool false), .v (.int .i64 11)]) (.inr rfl) (by simp (disch := (first | decide | omega)) only [resVs, resV, go_sem, hA]) kO hR hB ⟨by rw [certR, if_neg (by rw [hb]; decide), if_neg h3, if_pos hk]; rfl, rfl, rfl⟩
 | true =>
 rw [hk, if_pos rfl] at cE
 obtain ⟨p, i, rfl, rfl, hxi⟩ := existsB_in hx
 obtain ⟨q, j, rfl, rfl, hyj⟩ := existsB_in hy
 have cX := fun b l => num_spec hS hN hn he70 hval hxi b l
 have cY := fun b l => num_spec hS hN hn he70 hval hyj b l
 have cO := fun b l => dOf_spec t hS hN hn he70 oM hval bn hok b l
 have hnx := (numN_at hxi).1
 have hny := (numN_at hyj).1
 obtain ⟨N, hN0⟩ : ∃ N, (ids t).length = N := ⟨_, rfl⟩
 have hdl := dsT_len (t := t) (bn := bn)
 have cL := fun b l => dLeast_raw (N + 1) oM (dsT t bn) oM (by rw [← hN0]; exact hok.dbd) (numN t (p, i + 1)) oM b l
 have hnp := hok.pos_iff.2 (hok.ok_iff.1 hk)
 have gG := hok.gr hk (u := numN t (p, i + 1)) oM
 rw [phN_num hxi] at gG
 simp only [idP, eTe] at cX cY
 simp only [eBn, eSy, eTe, hN0] at cO cE
 simp only [eSy] at cL
 rw [hN0] at gG
 have hres : certR t bn ((p : Int), ((i + 1 : Nat) : Int)) ((q : Int), ((j + 1 : Nat) : Int)) = .tup [.v (.bool (cerB t bn (p, i + 1) (q, j + 1))), .v (.int .i64 0)] := by
  rw [certR, if_neg (by rw [hb]; decide), if_neg h3, if_neg (by rw [hk]; decide)]
  simp only [Int.toNat_natCast]
 rw [hres]
 simp (disch := (first | decide | omega)) only [hA, go_sem]
 refine ACalls.nxt (cE _ _) ?_
 simp (disch := (first | decide | omega)) only [hA, go_sem]
 refine ACalls.nxt (cX _ _) ?_
 simp (disch := (first | decide | omega)) only [hA, go_sem]
 refine ACalls.nxt (cY _ _) ?_
 simp (disch := (first | decide | omega)) only [hA, go_sem]
 refine ACalls.nxt (cO _ _) ?_
 simp (disch := (first | decide | omega)) only [hA, go_sem]
 refine ACalls_mono _ _ _ _ _ _ (cL _ _) ?_
 intro z1 b1 l1 hL1
 obtain ⟨hb1, rfl, rfl⟩ := lst_yes gG hnp hL1
 replace hb1 := hb1.symm
 subst hb1
 have ph2 : phN N (numN t (q, j + 1)) = numN t (q, j + 1) + 1 := by rw [← hN0]; exact phN_num hyj
 have g1 : (fl (N + 1) fun v => [IV.int .i64 (-dM t bn (phN N v) (numN t (p, i + 1) + 1))])[numN t (q, j + 1)]? = some [.int .i64 (-dM t bn (numN t (q, j + 1) + 1) (numN t (p, i + 1) + 1))] := by rw [fl_get oM, ph2]
 have g2 : (fl (N + 1) fun v => [IV.bool true])[numN t (q, j + 1)]? = some [.bool true] := fl_get oM
 have g0 : decide (-dM t bn (numN t (q, j + 1) + 1) (numN t (p, i + 1) + 1) > 0) = cerB t bn (p, i + 1) (q, j + 1) := by unfold cerB; rw [decide_eq_decide]; omega
 have g0' : decide (0 < -dM t bn (numN t (q, j + 1) + 1) (numN t (p, i + 1) + 1)) = cerB t bn (p, i + 1) (q, j + 1) := g0
 have h5 : B.length + 4 + 1 = B.length + 5 := rfl
 simp (disch := (first | decide | omega)) only [hA, lvR, trR, h5, g1, g2, g0, g0', fl_len, vs_get, go_sem]
 exact leave_pure (xs := [.v (.bool (cerB t bn (p, i + 1) (q, j + 1))), .v (.int .i64 0)]) (.inr rfl) (by simp (disch := (first | decide | omega)) only [resVs, resV, go_sem, hA]) kO hR hB ⟨rfl, rfl, rfl⟩
end Go.Proofs.Ytanblnhnfkeffaa
