/- Texts of one proof, laid together: Y8, Y9. No condition. -/
import Derived.Test.YtanblnhnfkeffaaD316
import Derived.Test.YtanblnhnfkeffaaD313
import Derived.Test.YtanblnhnfkeffaaD37
namespace Go.Proofs.Ytanblnhnfkeffaa
set_option linter.unusedVariables false
set_option linter.unusedSimpArgs false
attribute [local go_sem ↓] run_skip run_region run_draw run_both run_seq run_block run_exit run_ret run_cond atN_app seqC_normal seqC_exit seqC_ret seqQ_normal seqQ_exit seqQ_ret blkQ_normal blkQ_exit blkQ_ret runOps_nil runOps_cons runD_nil runD_cons grdO_true grdO_false grdD_true grdD_false ifC_true ifC_false opS_val opS_call opS_two opK_app dS_val dS_call dS_two dK_app kUp_same kUp_ne
attribute [local go_sem] rechks_nil rechks_cons rechk gcase_true gcase_false ex_val ex_val0 gd_none gd_some ev_t ev_c evs_nil evs_cons evo_some evo_none hget_at hget_first hsetB_at hsetB_first hsetL_at hsetL_first ofOpt_some aop aload astore aslice aappend aiaddr aiaddrA afaddr alen alenS acopy amm acall alookup amupdate alenM atostr comma keyEq apick binV binVB binVS isSh intOp strOp boolOp shOp eqC eqF and2 cellsOf setFrom fillA fillS rd rdI elems mk bounds AV.cell List.all_cons List.all_nil Bool.and_true Bool.true_and Bool.and_self List.length_cons List.length_nil List.length_append Nat.reduceAdd Nat.reduceSub Nat.reduceMul Nat.zero_add Nat.add_zero List.cons_append List.nil_append List.append_assoc List.append_nil List.getElem?_cons_zero List.getElem?_cons_succ List.getElem?_nil List.set_cons_zero List.set_cons_succ List.drop_zero List.drop_succ_cons List.take_zero List.take_succ_cons List.take_nil List.drop_nil List.map_cons List.map_nil Option.map_some if_true if_false Bool.false_eq_true and_self true_and and_true Nat.reduceLeDiff Nat.reduceLT Nat.le_refl Nat.reduceEqDiff ite_true ite_false beq_self_eq_true beq_true beq_false Bool.not_true Bool.not_false Bool.true_beq Bool.false_beq map_vs vs_len vs_get vs_take vs_drop vs_snoc1 vs_snoc2 vs_snoc3 vs_snoc5 vs_set1 vs_set2 vs_rep wrap_id le_T lt_T le_F lt_F leI_T ltI_T leI_F ltI_F geI gtI get_T decide_true decide_false room List.getElem?_map List.length_map List.length_take Int.toNat_natCast Nat.min_def Nat.min_self nth_kOf put_kOf put_kNo kOv_cons kOv_nil KHas KArgs List.getElem_cons_zero List.getElem_cons_succ
def a_dAdd : AFunc := ⟨4,16,[],(.region [⟨some 7,.faddr 1 (.t 3),none⟩,⟨some 8,.load none (.t 7),none⟩,⟨some 9,.mv (.t 0),none⟩,⟨some 10,.mv (.t 1),none⟩,⟨some 11,.mv (.t 2),none⟩,⟨some 12,.build [(.v (.int .i64 0)),(.v (.int .i64 0)),(.v (.int .i64 0))] [(0,1,(.t 9)),(1,1,(.t 10)),(2,1,(.t 11))],none⟩,⟨some 13,.bslice 3 [(.v (.int .i64 0)),(.v (.int .i64 0)),(.v (.int .i64 0))] 1 [(0,(.t 12))],none⟩,⟨some 14,.append 3 24 (.t 8) (.t 13),none⟩,⟨some 15,.faddr 1 (.t 3),none⟩,⟨none,.store 1 (.t 15) (.t 14),none⟩])⟩
theorem a_dAdd_ok : cFunc Try.prog 177 = some a_dAdd := by kernel_rfl
def a_dOf : AFunc := ⟨2,105,[.cell 4 (some 2)],(.seq (.region [⟨some 2,.box (.t 0),none⟩,⟨some 3,.box (.t 1),none⟩,⟨some 4,.alloc [(.v (.int .i64 0)),(.v .zsl)],none⟩]) (.seq (.region [⟨some 19,.load (some 1) (.t 2),none⟩,⟨some 20,.call (.c (.fn 72 [])) [(.t 19)],none⟩,⟨some 21,.bin .add (.t 20) (.c (.v (.int .i64 1))),none⟩,⟨some 22,.build [(.v (.int .i64 0)),(.v .zsl)] [(0,1,(.t 21))],none⟩,⟨some 5,.alloc [(.v (.int .i64 0)),(.v .zsl)],none⟩,⟨none,.store 2 (.t 5) (.t 22),none⟩]) (.seq (.region [⟨some 23,.faddr 0 (.t 5),none⟩,⟨some 24,.load none (.t 23),none⟩,⟨some 25,.bin .sub (.t 24) (.c (.v (.int .i64 1))),none⟩,⟨some 6,.mv (.t 25),none⟩]) (.seq (.region [⟨some 26,.mkfn 177 [(.t 5)],none⟩,⟨some 7,.mv (.t 26),none⟩]) (.seq (.region [⟨some 8,.mv (.c (.v (.int .i64 0))),none⟩]) (.seq (.seq (.region [⟨some 27,.faddr 0 (.t 2),none⟩,⟨some 28,.load none (.t 27),none⟩,⟨some 29,.len (.t 28),none⟩,⟨some 30,.mv (.c (.v (.int .i64 0))),none⟩]) (.block 0 (.loop (.seq (.region [⟨some 31,.bin .lss (.t 30) (.t 29),none⟩]) (.seq (.cond (.t 31) .skip (.exit 0)) (.seq (.block 1 (.seq (.region [⟨some 32,.mv (.t 30),none⟩,⟨some 33,.iaddr 3 (.t 28) (.t 30),none⟩,⟨some 34,.load (some 3) (.t 33),none⟩,⟨some 10,.alloc [(.v (.str ⟨#[]⟩)),(.v .zsl),(.v .zsl)],none⟩,⟨some 9,.mv (.t 32),none⟩,⟨none,.store 3 (.t 10) (.t 34),none⟩]) (.seq (.region [⟨some 35,.faddr 2 (.t 10),none⟩,⟨some 36,.load none (.t 35),none⟩,⟨some 37,.len (.t 36),none⟩,⟨some 38,.mv (.c (.v (.int .i64 0))),none⟩]) (.block 2 (.loop (.seq (.region [⟨some 39,.bin .lss (.t 38) (.t 37),none⟩]) (.seq (.cond (.t 39) .skip (.exit 2)) (.seq (.block 3 (.seq (.region [⟨some 40,.mv (.t 38),none⟩,⟨some 41,.iaddr 5 (.t 36) (.t 38),none⟩,⟨some 42,.load (some 5) (.t 41),none⟩,⟨some 12,.alloc [(.v (.int .i64 0)),(.v (.int .i64 0)),(.v (.int .i64 0)),(.v (.int .i64 0)),(.v .zsl)],none⟩,⟨some 11,.mv (.t 40),none⟩,⟨none,.store 5 (.t 12) (.t 42),none⟩]) (.seq (.region [⟨some 44,.load (some 1) (.t 2),none⟩,⟨some 45,.load (some 3) (.t 3),none⟩,⟨some 46,.mv (.t 9),none⟩,⟨some 47,.mv (.t 11),none⟩,⟨some 48,.bin .add (.t 47) (.c (.v (.int .i64 1))),none⟩,⟨some 49,.build [(.v (.int .i64 0)),(.v (.int .i64 0))] [(0,1,(.t 46)),(1,1,(.t 48))],none⟩,⟨some 50,.call (.c (.fn 123 [])) [(.t 44),(.t 45),(.t 49)],none⟩,⟨some 43,.mv (.t 50),none⟩,⟨some 51,.extract 0 (.t 43),none⟩,⟨some 52,.extract 1 (.t 43),none⟩,⟨some 13,.mv (.t 51),none⟩,⟨some 14,.mv (.t 52),none⟩]) (.seq (.region [⟨some 53,.mv (.t 7),none⟩,⟨some 54,.mv (.t 6),none⟩,⟨some 55,.mv (.t 8),none⟩,⟨some 56,.mv (.t 13),none⟩,⟨some 57,.call (.t 53) [(.t 54),(.t 55),(.t 56)],none⟩]) (.seq (.region [⟨some 58,.mv (.t 7),none⟩,⟨some 59,.mv (.t 8),none⟩,⟨some 60,.mv (.t 6),none⟩,⟨some 61,.mv (.t 14),none⟩,⟨some 62,.neg (.t 61),none⟩,⟨some 63,.call (.t 58) [(.t 59),(.t 60),(.t 62)],none⟩]) (.seq (.seq (.region [⟨some 64,.mv (.t 11),none⟩,⟨some 65,.bin .gtr (.t 64) (.c (.v (.int .i64 0))),none⟩]) (.cond (.t 65) (.region [⟨some 66,.mv (.t 7),none⟩,⟨some 67,.mv (.t 8),none⟩,⟨some 68,.bin .sub (.t 67) (.c (.v (.int .i64 1))),none⟩,⟨some 69,.mv (.t 8),none⟩,⟨some 70,.call (.t 66) [(.t 68),(.t 69),(.c (.v (.int .i64 0)))],none⟩]) .skip)) (.seq (.seq (.region [⟨some 71,.faddr 0 (.t 12),none⟩,⟨some 72,.load none (.t 71),none⟩,⟨some 73,.bin .eql (.t 72) (.c (.v (.int .i64 3))),none⟩]) (.cond (.t 73) (.seq (.region [⟨some 75,.load (some 1) (.t 2),none⟩,⟨some 76,.faddr 2 (.t 12),none⟩,⟨some 77,.load none (.t 76),none⟩,⟨some 78,.call (.c (.fn 18 [])) [(.t 75),(.t 77)],none⟩,⟨some 74,.mv (.t 78),none⟩,⟨some 79,.extract 0 (.t 74),none⟩,⟨some 80,.extract 1 (.t 74),none⟩,⟨some 15,.alloc [(.v (.int .i64 0)),(.v (.int .i64 0))],none⟩,⟨none,.store 2 (.t 15) (.t 79),none⟩,⟨some 16,.mv (.t 80),none⟩]) (.seq (.region [⟨some 82,.load (some 1) (.t 2),none⟩,⟨some 83,.load (some 2) (.t 15),none⟩,⟨some 84,.call (.c (.fn 129 [])) [(.t 82),(.t 83)],none⟩,⟨some 81,.mv (.t 84),none⟩,⟨some 85,.extract 0 (.t 81),none⟩,⟨some 86,.extract 1 (.t 81),none⟩,⟨some 17,.mv (.t 85),none⟩,⟨some 18,.mv (.t 86),none⟩]) (.seq (.region [⟨some 87,.mv (.t 7),none⟩,⟨some 88,.mv (.t 17),none⟩,⟨some 89,.mv (.t 8),none⟩,⟨some 90,.faddr 1 (.t 3),none⟩,⟨some 91,.load none (.t 90),none⟩,⟨some 92,.call (.t 87) [(.t 88),(.t 89),(.t 91)],none⟩]) (.region [⟨some 93,.mv (.t 7),none⟩,⟨some 94,.mv (.t 8),none⟩,⟨some 95,.mv (.t 17),none⟩,⟨some 96,.faddr 2 (.t 3),none⟩,⟨some 97,.load none (.t 96),none⟩,⟨some 98,.neg (.t 97),none⟩,⟨some 99,.call (.t 93) [(.t 94),(.t 95),(.t 98)],none⟩])))) .skip)) (.region [⟨some 100,.mv (.t 8),none⟩,⟨some 101,.bin .add (.t 100) (.c (.v (.int .i64 1))),none⟩,⟨some 8,.mv (.t 101),none⟩])))))))) (.region [⟨some 102,.bin .add (.t 38) (.c (.v (.int .i64 1))),none⟩,⟨some 38,.mv (.t 102),none⟩]))))))))) (.region [⟨some 103,.bin .add (.t 30) (.c (.v (.int .i64 1))),none⟩,⟨some 30,.mv (.t 103),none⟩]))))))) (.seq (.region [⟨some 104,.load (some 2) (.t 5),none⟩,⟨none,.store 2 (.t 4) (.t 104),none⟩]) .ret)))))))⟩
theorem a_dOf_ok : cFunc Try.prog 130 = some a_dOf := by kernel_rfl
def r_dOf0 : List (Nat × Nat) := [(8, 18), (30, 103)]
def r_dOf1 : List (Nat × Nat) := [(8, 8), (11, 18), (38, 102)]

def eDm (d : Dm) : List IV := [.int .i64 d.1, .int .i64 d.2.1, .int .i64 d.2.2]
def syR (n iR : Nat) (ds : List Dm) : Row := .live 0 2 [[.v (.int .i64 n), .sl iR ds.length 0 ds.length]]
def dmR (ds : List Dm) : Row := .live ds.length 3 (vs (ds.map eDm))
theorem dm_snoc {ds : List Dm} {d : Dm} : vs (ds.map eDm) ++ [[.v (.int .i64 d.1), .v (.int .i64 d.2.1), .v (.int .i64 d.2.2)]] = vs ((ds ++ [d]).map eDm) := by
 simp [vs, eDm]
theorem dAdd_spec (ds : List Dm) (hl : ds.length ≤ 1000000) (n : Nat) (d : Dm) (iS iR : Nat) (b l : List Row) (hS : l[iS]? = some (syR n (b.length + iR) ds)) (hR0 : l[iR]? = some (dmR ds)) (hne : iS ≠ iR) :
  ACalls Try.prog 177 [.v (.int .i64 d.1), .v (.int .i64 d.2.1), .v (.int .i64 d.2.2), .ptr (b.length + iS) 0 0 0] b l (fun r b' l' => r = .tup [] ∧ b' = b ∧ l' = (l.set iR (dmR (ds ++ [d]))).set iS (syR n (b.length + iR) (ds ++ [d]))) := by
 refine calls_kept a_dAdd_ok rfl (by decide) ?_
 intro B g hB hR hE hA
 simp only [KArgs] at hA
 have up : ∀ {j : Nat} {r : Row}, l[j]? = some r → B[b.length + j]? = some r := fun h => by
  rw [hB, List.getElem?_append_right oM, Nat.add_sub_cancel_left]; exact h
 have bS := up hS
 have bR := up hR0
 unfold syR at bS
 unfold dmR at bR
 have lS := (List.getElem?_eq_some_iff.1 bS).1
 have lR := (List.getElem?_eq_some_iff.1 bR).1
 have low : ∀ {i : Nat} {r : Row}, B[i]? = some r → ∀ l', hget B l' i = some r := fun h l' => by
  unfold hget; rw [if_pos (List.getElem?_eq_some_iff.1 h).1, h]
 have gS := low bS
 have gR := low bR
 have sR : ∀ r : Row, hsetB B (b.length + iR) r = B.set (b.length + iR) r := fun r => by unfold hsetB; rw [if_pos lR]
 have sR' : ∀ (l' : List Row) (r : Row), hsetL B l' (b.length + iR) r = l' := fun l' r => by unfold hsetL; rw [if_pos lR]
 have gS2 : ∀ (r : Row) (l' : List Row), hget (B.set (b.length + iR) r) l' (b.length + iS) = some (.live 0 2 [[.v (.int .i64 n), .sl (b.length + iR) ds.length 0 ds.length]]) := fun r l' => by
  unfold hget; rw [if_pos (by rw [List.length_set]; exact lS), List.getElem?_set_ne oM]; exact bS
 have sS : ∀ r z : Row, hsetB (B.set (b.length + iR) r) (b.length + iS) z = (B.set (b.length + iR) r).set (b.length + iS) z := fun r z => by unfold hsetB; rw [if_pos (by rw [List.length_set]; exact lS)]
 have sS' : ∀ (r : Row) (l' : List Row) (z : Row), hsetL (B.set (b.length + iR) r) l' (b.length + iS) z = l' := fun r l' z => by unfold hsetL; rw [if_pos (by rw [List.length_set]; exact lS)]
 have two : ∀ r z : Row, (B.set (b.length + iR) r).set (b.length + iS) z = b ++ (l.set iR r).set iS z := fun r z => by
  rw [hB, List.set_append_right _ _ oM, Nat.add_sub_cancel_left, List.set_append_right _ _ oM, Nat.add_sub_cancel_left]
 have hlen : ∀ r z : Row, (b ++ (l.set iR r).set iS z).length = B.length := fun r z => by rw [← two, List.length_set, List.length_set]
 have hlt : ∀ (z : List (List IV)) (k q : Nat), RowsLt (b ++ (l.set iR (.live k 3 (vs z))).set iS (.live 0 2 [[.v (.int .i64 n), .sl (b.length + iR) q 0 q]])).length (b ++ (l.set iR (.live k 3 (vs z))).set iS (.live 0 2 [[.v (.int .i64 n), .sl (b.length + iR) q 0 q]])) := fun z k q => by
  rw [hlen, ← two]
  intro i v' sz' els hr row hrow c hc
  by_cases h1 : b.length + iS = i
  ·subst h1
   rw [List.getElem?_set_self (by rw [List.length_set]; exact lS)] at hr
   cases hr
   simp only [List.mem_cons, List.not_mem_nil, or_false] at hrow
   subst hrow
   simp only [List.mem_cons, List.not_mem_nil, or_false] at hc
   rcases hc with rfl | rfl
   ·exact .v _
   ·exact .sl _ _ _ _ lR
  ·rw [List.getElem?_set_ne h1] at hr
   by_cases h2 : b.length + iR = i
   ·subst h2
    rw [List.getElem?_set_self lR] at hr
    cases hr
    obtain ⟨r0, _, rfl⟩ := List.mem_map.1 hrow
    obtain ⟨x0, _, rfl⟩ := List.mem_map.1 hc
    exact .v _
   ·rw [List.getElem?_set_ne h2] at hr
    exact hR i v' sz' els hr row hrow c hc
 have htk : List.take ds.length (ds.map eDm) = ds.map eDm := List.take_of_length_le (by simp)
 have hcat : vs (ds.map eDm) ++ [[.v (.int .i64 d.1), .v (.int .i64 d.2.1), .v (.int .i64 d.2.2)]] = vs ((ds ++ [d]).map eDm) := dm_snoc
 simp (disch := (first | decide | omega)) only [a_dAdd, hA, gS, gR, sR, sR', gS2, sS, sS', vs_len, List.length_map, List.replicate_succ, List.replicate_zero, htk, hcat, go_sem]
 have hln : (ds ++ [d]).length = ds.length + 1 := by simp
 rw [two]
 exact leave_pure (xs := []) (.inl rfl) (by simp only [resVs]) (by simp only [one]; exact .tup _ (by simp)) (hlt _ _ _) rfl ⟨rfl, rfl, by unfold dmR syR; rw [hln]⟩
noncomputable def dsTo (t : Tr) (bn : Bn) (p i : Nat) : List Dm := (idsTo t p i).flatMap (evD t bn)
theorem dsTo_zero {t : Tr} {bn : Bn} : dsTo t bn 0 0 = [] := by unfold dsTo; simp [idsTo]
theorem dsTo_succ {t : Tr} {bn : Bn} {p i : Nat} : dsTo t bn p (i + 1) = dsTo t bn p i ++ evD t bn (p, i + 1) := by
 unfold dsTo
 rw [idsTo_succ, List.flatMap_append, List.flatMap_cons, List.flatMap_nil, List.append_nil]
theorem evD_len {t : Tr} {bn : Bn} {x : Nat × Nat} : (evD t bn x).length ≤ 5 := by
 unfold evD
 split <;> split <;> simp
theorem dsTo_len {t : Tr} {bn : Bn} {p i : Nat} : (dsTo t bn p i).length ≤ 5 * (idsTo t p i).length := by
 have key : ∀ l : List (Nat × Nat), (l.flatMap (evD t bn)).length ≤ 5 * l.length := by
  intro l
  induction l with
  | nil => simp
  | cons x l ih =>
    rw [List.flatMap_cons, List.length_append, List.length_cons]
    have := evD_len (t := t) (bn := bn) (x := x)
    omega
 exact key _
def eSy (n : Nat) (ds : List Dm) : List AV := [.v (.int .i64 n), .v (.isl 3 (ds.map eDm))]
set_option maxRecDepth 20000 in
set_option maxHeartbeats 8000000 in
theorem dOf_spec (t : Tr) (hS : Small t) (hN : Nm t) (hn : t.length ≤ 20) (he70 : ∀ x ∈ t, x.evs.length ≤ 70) (hC : (ids t).length ≤ 1000) (hval : validL t = true) (bn : Bn) (hok : Bok t bn) (b l : List Row) :
  ACalls Try.prog 130 [.agg [.v (eT t)], .agg (eBn bn)] b l (fun r b' l' => r = .agg (eSy ((ids t).length + 1) (dsT t bn)) ∧ b' = b ∧ l' = l) := by
 refine calls_kept a_dOf_ok rfl (by decide) ?_
 intro B g hB hR hE hA
 simp only [KArgs] at hA
 have eTe : eT t = .isl 3 (t.map ePr) := rfl
 have cC := fun b l => count_spec t hS hN b l oM
 have hcnt : countR t = (ids t).length := by unfold countR; rw [hval]; rfl
 rw [hcnt] at cC
 simp only [eBn] at hA
 simp (disch := (first | decide | omega)) only [a_dOf, hA, go_sem]
 refine ACalls.nxt (cC _ _) ?_
 have hz : (((ids t).length : Nat) : Int) + 1 - 1 = ((ids t).length : Nat) := by omega
 have hz1 : (((ids t).length : Nat) : Int) + 1 = (((ids t).length + 1 : Nat) : Int) := by omega
 have hz2 : (((ids t).length + 1 : Nat) : Int) - 1 = ((ids t).length : Nat) := by omega
 have h00 : ((evN t 0 : Nat) : Int) = 0 := rfl
 have h00' : ((evN t 0 + 0 : Nat) : Int) = 0 := rfl
 have hadd := fun (D : List Dm) (hl : D.length ≤ 1000000) (d : Dm) (rest : List Row) => dAdd_spec D hl ((ids t).length + 1) d 3 4 B ([.live 0 1 [[.v (.isl 3 (t.map ePr))]], .live 0 3 [[.v (.isl 1 (bn.er.map eI)), .v (.int .i64 bn.lo), .v (.int .i64 bn.hi)]], .live 0 2 [[.v (.int .i64 0), .v .zsl]], syR ((ids t).length + 1) (B.length + 4) D, dmR D] ++ rest) rfl rfl (by decide)
 simp only [List.cons_append, List.nil_append, List.set_cons_succ, List.set_cons_zero] at hadd
 simp (disch := (first | decide | omega)) only [hA, hz, hz1, hz2, eTe, List.length_map, go_sem]
 refine loop_kept (ι := Nat) r_dOf0 (fun p => [(30, .v (.int .i64 p)), (8, .v (.int .i64 (evN t p : Nat)))]) 5 (fun p => [.live 0 1 [[.v (.isl 3 (t.map ePr))]], .live 0 3 [[.v (.isl 1 (bn.er.map eI)), .v (.int .i64 bn.lo), .v (.int .i64 bn.hi)]], .live 0 2 [[.v (.int .i64 0), .v .zsl]], syR ((ids t).length + 1) (B.length + 4) (dsTo t bn p 0), dmR (dsTo t bn p 0)])
  (fun p => p ≤ t.length) (fun p => t.length - p) 0 (Nat.zero_le _) (by (repeat (first | exact hE.mono oM | refine KLt.up ?_ kL))) (by ((try simp (disch := decide) only [hA, h00, go_sem]) <;> exact kH)) (fun e => ?_) ?_
 ·rw [dsTo_zero]
  have h := Weak.nilcell (e := e) (b := B) (sz := 3) (i := 3) (k := 0) (j := 1) (ver := 0) (z := 2) (els := [[.v (.int .i64 ((ids t).length + 1 : Nat)), .v .zsl]]) (row := [.v (.int .i64 ((ids t).length + 1 : Nat)), .v .zsl]) (l := [.live 0 1 [[.v (.isl 3 (t.map ePr))]], .live 0 3 [[.v (.isl 1 (bn.er.map eI)), .v (.int .i64 bn.lo), .v (.int .i64 bn.hi)]], .live 0 2 [[.v (.int .i64 0), .v .zsl]], .live 0 2 [[.v (.int .i64 ((ids t).length + 1 : Nat)), .v .zsl]]]) rfl rfl rfl
  exact h
 intro g1 hE1 hEE1 hg1 p hp
 have hnp := hS.np
 have hv := hok.v
 have dl : ∀ p i (hp : p < t.length), i ≤ t[p].evs.length → (dsTo t bn p i).length ≤ 1000000 - 10 := fun p i hp hi => by
  have h1 := dsTo_len (t := t) (bn := bn) (p := p) (i := i)
  have h2 := evL_le hp hi
  unfold evL at h2
  omega
 by_cases hpl : p < t.length
 case neg =>
  obtain rfl : p = t.length := by omega
  have hall : dsTo t bn t.length 0 = dsT t bn := by unfold dsTo dsT; rw [idsTo_all]
  rw [hall]
  simp (disch := (first | decide | omega)) only [hA, hg1, syR, dmR, List.length_map, go_sem]
  refine leave_deep (.inr rfl) (xs := [.agg [.v (.int .i64 ((ids t).length + 1 : Nat)), .sl (B.length + 4) (dsT t bn).length 0 (dsT t bn).length]]) (by simp (disch := (first | decide | omega)) only [resVs, resV, hA, hg1, go_sem]) (y := .agg (eSy ((ids t).length + 1) (dsT t bn))) ?_ hR hB ⟨rfl, rfl, rfl⟩
  exact Dv.aggL (.cons (.v _) (.cons (Dv.slV (i := 4) rfl (by simp)) .nil))
 have hgp : (t.map ePr)[p]? = some (ePr t[p]) := by rw [List.getElem?_map, List.getElem?_eq_getElem hpl]; rfl
 have hne := hS.ne _ (List.getElem_mem hpl)
 have hne70 := he70 _ (List.getElem_mem hpl)
 simp only [ePr] at hgp
 have heo := evsOf_lt hpl
 have hen := evN_le he70 p hp
 have hns := evN_succ hpl
 have hp0 : ((evN t p : Nat) : Int) = ((evN t p + 0 : Nat) : Int) := rfl
 simp (disch := (first | decide | omega)) only [hA, hg1, hgp, List.length_map, go_sem]
 refine loop_kept (ι := Nat) r_dOf1 (fun i => [(38, .v (.int .i64 i)), (8, .v (.int .i64 (evN t p + i : Nat)))]) 6 (fun i => [.live 0 1 [[.v (.isl 3 (t.map ePr))]], .live 0 3 [[.v (.isl 1 (bn.er.map eI)), .v (.int .i64 bn.lo), .v (.int .i64 bn.hi)]], .live 0 2 [[.v (.int .i64 0), .v .zsl]], syR ((ids t).length + 1) (B.length + 4) (dsTo t bn p i), dmR (dsTo t bn p i), .live 0 3 [[.v (.str t[p].name), .v (.isl 2 (t[p].vars.map eVr)), .v (.isl 5 (t[p].evs.map eEv))]]])
  (fun i => i ≤ t[p].evs.length) (fun i => t[p].evs.length - i) 0 (Nat.zero_le _) (by (repeat (first | exact hE1.mono oM | refine KLt.up ?_ kL))) (by ((try simp (disch := decide) only [hA, hg1, hp0, go_sem]) <;> exact kH)) (fun e => Weak.refl _ _ _) ?_
 intro g2 hE2 hEE2 hg2 i hi
 by_cases hil : i < t[p].evs.length
 case neg =>
  obtain rfl : i = t[p].evs.length := by omega
  have hnx : dsTo t bn p t[p].evs.length = dsTo t bn (p + 1) 0 := by unfold dsTo; rw [idsTo_next t p hpl]
  have hnn : ((evN t p + t[p].evs.length : Nat) : Int) = ((evN t (p + 1) : Nat) : Int) := by omega
  simp (disch := (first | decide | omega)) only [hA, hg1, hg2, List.length_map, go_sem]
  refine ⟨p + 1, hpl, by simp only; omega, ?_⟩
  rw [hnx]
  simp only [← hnn]
  exact Weak.kround (p := r_dOf0) (k := 5) (by ((repeat refine (kAny_up rfl).trans ?_); refine (kAny_sub hg2 (kIn_sub rfl)).trans ?_; (repeat refine (kAny_up rfl).trans ?_); exact hEE1)) (by ((try simp (disch := decide) only [hA, hg1, go_sem]) <;> exact kH)) rfl hE1 (by simp) kV hR (by simp (disch := omega) only [syR, dmR, lts.down, Nat.reduceLT, Nat.reduceAdd])
 have hx : (p, i + 1) ∈ ids t := mem_ids2.2 ⟨hpl, by rw [heo]; exact hil⟩
 have hev := evAt_eq hpl hil
 obtain ⟨x, hxe⟩ : ∃ x, t[p].evs[i] = x := ⟨_, rfl⟩
 have hgx : (t[p].evs.map eEv)[i]? = some [.int .i64 x.kind, .int .i64 x.peer, .int .i64 x.msg, .int .i64 x.time, .isl 2 (x.asg.map eAsg)] := by rw [List.getElem?_map, List.getElem?_eq_getElem hil, hxe]; rfl
 rw [hxe] at hev
 have co := fun b l => dOwn_spec t hS bn hok p i hx b l
 simp only [eBn, idA, eTe] at co
 have hci : (i : Int) + 1 = ((i + 1 : Nat) : Int) := by omega
 have tb := hok.time hx
 have eb := hok.er p
 have lo_ : loA t bn (p, i + 1) = (evAt t (p, i + 1)).time - erB bn p := rfl
 have hi_ : hiA t bn (p, i + 1) = (evAt t (p, i + 1)).time + erB bn p := rfl
 unfold MT at tb eb
 have hsucc := dsTo_succ (t := t) (bn := bn) (p := p) (i := i)
 obtain ⟨D, hD⟩ : ∃ D, dsTo t bn p i = D := ⟨_, rfl⟩
 have hDl := dl p i hpl hi
 rw [hD] at hsucc hDl
 obtain ⟨k, hk⟩ : ∃ k, evN t p + i = k := ⟨_, rfl⟩
 have hnum : numN t (p, i + 1) = k := hk
 obtain ⟨D2, hD2⟩ : ∃ D2, dsTo t bn p (i + 1) = D2 := ⟨_, rfl⟩
 rw [hD2] at hsucc
 unfold evD at hsucc
 simp only [hnum, hev] at hsucc
 have hinc : (k : Int) + 1 = ((evN t p + (i + 1) : Nat) : Int) := by omega
 have hkb : k ≤ 1000000 := by omega
 have hng : 0 - hiA t bn (p, i + 1) = -hiA t bn (p, i + 1) := Int.zero_sub _
 have hnb : 0 - bn.hi = -bn.hi := Int.zero_sub _
 have hob := hok.lo
 have hoc := hok.le
 have hod := hok.hi
 unfold MT at hod
 have nrm : ∀ (X Y : List Dm), D ++ X ++ Y = D ++ (X ++ Y) := fun X Y => List.append_assoc _ _ _
 have a1 := hadd D oM ((ids t).length, k, loA t bn (p, i + 1)) [.live 0 3 [[.v (.str t[p].name), .v (.isl 2 (t[p].vars.map eVr)), .v (.isl 5 (t[p].evs.map eEv))]], .live 0 5 [[.v (.int .i64 x.kind), .v (.int .i64 x.peer), .v (.int .i64 x.msg), .v (.int .i64 x.time), .v (.isl 2 (x.asg.map eAsg))]]]
 have a2 := hadd (D ++ [((ids t).length, k, loA t bn (p, i + 1))]) (by simp; omega) (k, (ids t).length, -hiA t bn (p, i + 1)) [.live 0 3 [[.v (.str t[p].name), .v (.isl 2 (t[p].vars.map eVr)), .v (.isl 5 (t[p].evs.map eEv))]], .live 0 5 [[.v (.int .i64 x.kind), .v (.int .i64 x.peer), .v (.int .i64 x.msg), .v (.int .i64 x.time), .v (.isl 2 (x.asg.map eAsg))]]]
 simp only [nrm, List.cons_append, List.nil_append] at a1 a2 hsucc
 simp only [hk, hD]
 simp (disch := (first | decide | omega)) only [hA, hg1, hg2, hgx, hci, List.length_map, go_sem]
 refine ACalls.nxt (co _ _) ?_
 simp (disch := (first | decide | omega)) only [hA, hg1, hg2, go_sem]
 refine ACalls.nxt a1 ?_
 simp (disch := (first | decide | omega)) only [hA, hg1, hg2, hng, go_sem]
 refine ACalls.nxt a2 ?_
 by_cases i0 : i = 0
 ·have d3 : decide ((i : Int) > 0) = false := decide_eq_false oM
  have d3' : decide ((0 : Int) < (i : Int)) = false := d3
  rw [if_neg (show ¬ 1 < i + 1 by omega)] at hsucc
  try simp only [List.nil_append, List.append_nil] at hsucc
  by_cases k3 : x.kind = 3
  case neg =>
   have d5 : (x.kind == (3 : Int)) = false := by simpa using k3
   rw [if_neg k3] at hsucc
   try simp only [List.append_nil] at hsucc
   simp (disch := (first | decide | omega)) only [hA, hg1, hg2, d5, d3, d3', go_sem]
   refine ⟨i + 1, hil, by simp only; omega, ?_⟩
   simp only [hD2, hsucc, ← hinc]
   exact Weak.kround (p := r_dOf1) (k := 6) (by ((repeat refine (kAny_up rfl).trans ?_); exact hEE2)) (by ((try simp (disch := decide) only [hA, go_sem]) <;> exact kH)) rfl hE2 (by simp) kV hR (by simp (disch := omega) only [syR, dmR, lts.down, Nat.reduceLT, Nat.reduceAdd])
  have d5 : (x.kind == (3 : Int)) = true := by rw [k3]; rfl
  have hsi := sndr_in hv hx (by rw [hev]; exact k3)
  obtain ⟨q, j, hqj⟩ : ∃ q j, sndr t (p, i + 1) = (q, j + 1) := ⟨_, (sndr t (p, i + 1)).2 - 1, Prod.ext rfl (by have := mem_pos hsi.1; simp only; omega)⟩
  rw [hqj] at hsi
  rw [if_pos k3, hqj] at hsucc
  have hfr : findR t 2 x.msg = (q, j + 1) := by unfold findR; rw [hval, if_pos rfl, ← hqj]; unfold sndr; rw [hev]
  have cS := fun b l => sender_spec t hS hN b l x.msg
  rw [hfr, show decide (0 < j + 1) = true from decide_eq_true oM] at cS
  simp only [eTe, idA] at cS
  have hxq : existsB t q ((j + 1 : Nat) : Int) = true := existsB_of hsi.1
  have hck : chkE t [((q : Int), ((j + 1 : Nat) : Int))] = 0 := by
   unfold chkE
   rw [if_pos hval, if_pos]
   show (existsB t (q : Int) ((j + 1 : Nat) : Int) && true) = true
   rw [hxq]; rfl
  have cN := fun b l => NumC_spec t hS hN hn he70 ((q : Int), ((j + 1 : Nat) : Int)) b l
  have hnr : numR t ((q : Int), ((j + 1 : Nat) : Int)) = .tup [.v (.int .i64 (numN t (q, j + 1) : Nat)), .v (.int .i64 0)] := by
   unfold numR; rw [hck, if_pos rfl]; simp only [Int.toNat_natCast]
  rw [hnr] at cN
  simp only [idP, eTe] at cN
  have a4 := hadd (D ++ [((ids t).length, k, loA t bn (p, i + 1)), (k, (ids t).length, -hiA t bn (p, i + 1))]) (by simp; omega) (numN t (q, j + 1), k, bn.lo) [.live 0 3 [[.v (.str t[p].name), .v (.isl 2 (t[p].vars.map eVr)), .v (.isl 5 (t[p].evs.map eEv))]], .live 0 5 [[.v (.int .i64 x.kind), .v (.int .i64 x.peer), .v (.int .i64 x.msg), .v (.int .i64 x.time), .v (.isl 2 (x.asg.map eAsg))]], .live 0 2 [[.v (.int .i64 q), .v (.int .i64 (j + 1 : Nat))]]]
  have a5 := hadd (D ++ [((ids t).length, k, loA t bn (p, i + 1)), (k, (ids t).length, -hiA t bn (p, i + 1)), (numN t (q, j + 1), k, bn.lo)]) (by simp; omega) (k, numN t (q, j + 1), -bn.hi) [.live 0 3 [[.v (.str t[p].name), .v (.isl 2 (t[p].vars.map eVr)), .v (.isl 5 (t[p].evs.map eEv))]], .live 0 5 [[.v (.int .i64 x.kind), .v (.int .i64 x.peer), .v (.int .i64 x.msg), .v (.int .i64 x.time), .v (.isl 2 (x.asg.map eAsg))]], .live 0 2 [[.v (.int .i64 q), .v (.int .i64 (j + 1 : Nat))]]]
  simp only [nrm, List.cons_append, List.nil_append] at a4 a5 hsucc
  simp (disch := (first | decide | omega)) only [hA, hg1, hg2, d5, d3, d3', go_sem]
  refine ACalls.nxt (cS _ _) ?_
  simp (disch := (first | decide | omega)) only [hA, hg1, hg2, go_sem]
  refine ACalls.nxt (cN _ _) ?_
  simp (disch := (first | decide | omega)) only [hA, hg1, hg2, go_sem]
  refine ACalls.nxt a4 ?_
  simp (disch := (first | decide | omega)) only [hA, hg1, hg2, hnb, go_sem]
  refine ACalls.nxt a5 ?_
  simp (disch := (first | decide | omega)) only [hA, hg1, hg2, go_sem]
  refine ⟨i + 1, hil, by simp only; omega, ?_⟩
  simp only [hD2, hsucc, ← hinc]
  exact Weak.kround (p := r_dOf1) (k := 6) (by ((repeat refine (kAny_up rfl).trans ?_); exact hEE2)) (by ((try simp (disch := decide) only [hA, go_sem]) <;> exact kH)) rfl hE2 (by simp) kV hR (by simp (disch := omega) only [syR, dmR, lts.down, Nat.reduceLT, Nat.reduceAdd])
 ·have d3 : decide ((i : Int) > 0) = true := decide_eq_true oM
  have d3' : decide ((0 : Int) < (i : Int)) = true := d3
  have hkm : (k : Int) - 1 = ((k - 1 : Nat) : Int) := by omega
  rw [if_pos (show 1 < i + 1 by omega)] at hsucc
  have a3 := hadd (D ++ [((ids t).length, k, loA t bn (p, i + 1)), (k, (ids t).length, -hiA t bn (p, i + 1))]) (by simp; omega) (k - 1, k, (0 : Int)) [.live 0 3 [[.v (.str t[p].name), .v (.isl 2 (t[p].vars.map eVr)), .v (.isl 5 (t[p].evs.map eEv))]], .live 0 5 [[.v (.int .i64 x.kind), .v (.int .i64 x.peer), .v (.int .i64 x.msg), .v (.int .i64 x.time), .v (.isl 2 (x.asg.map eAsg))]]]
  simp only [nrm, List.cons_append, List.nil_append] at a3 hsucc
  have hkk : ((k - 1 : Nat) : Int) + 1 = (k : Int) := by omega
  simp (disch := (first | decide | omega)) only [hA, hg1, hg2, d3, d3', hkm, go_sem]
  refine ACalls.nxt a3 ?_
  by_cases k3 : x.kind = 3
  case neg =>
   have d5 : (x.kind == (3 : Int)) = false := by simpa using k3
   rw [if_neg k3] at hsucc
   try simp only [List.append_nil] at hsucc
   simp (disch := (first | decide | omega)) only [hA, hg1, hg2, d5, go_sem]
   refine ⟨i + 1, hil, by simp only; omega, ?_⟩
   simp only [hD2, hsucc, ← hinc]
   exact Weak.kround (p := r_dOf1) (k := 6) (by ((repeat refine (kAny_up rfl).trans ?_); exact hEE2)) (by ((try simp (disch := decide) only [hA, go_sem]) <;> exact kH)) rfl hE2 (by simp) kV hR (by simp (disch := omega) only [syR, dmR, lts.down, Nat.reduceLT, Nat.reduceAdd])
  have d5 : (x.kind == (3 : Int)) = true := by rw [k3]; rfl
  have hsi := sndr_in hv hx (by rw [hev]; exact k3)
  obtain ⟨q, j, hqj⟩ : ∃ q j, sndr t (p, i + 1) = (q, j + 1) := ⟨_, (sndr t (p, i + 1)).2 - 1, Prod.ext rfl (by have := mem_pos hsi.1; simp only; omega)⟩
  rw [hqj] at hsi
  rw [if_pos k3, hqj] at hsucc
  have hfr : findR t 2 x.msg = (q, j + 1) := by unfold findR; rw [hval, if_pos rfl, ← hqj]; unfold sndr; rw [hev]
  have cS := fun b l => sender_spec t hS hN b l x.msg
  rw [hfr, show decide (0 < j + 1) = true from decide_eq_true oM] at cS
  simp only [eTe, idA] at cS
  have hxq : existsB t q ((j + 1 : Nat) : Int) = true := existsB_of hsi.1
  have hck : chkE t [((q : Int), ((j + 1 : Nat) : Int))] = 0 := by
   unfold chkE
   rw [if_pos hval, if_pos]
   show (existsB t (q : Int) ((j + 1 : Nat) : Int) && true) = true
   rw [hxq]; rfl
  have cN := fun b l => NumC_spec t hS hN hn he70 ((q : Int), ((j + 1 : Nat) : Int)) b l
  have hnr : numR t ((q : Int), ((j + 1 : Nat) : Int)) = .tup [.v (.int .i64 (numN t (q, j + 1) : Nat)), .v (.int .i64 0)] := by
   unfold numR; rw [hck, if_pos rfl]; simp only [Int.toNat_natCast]
  rw [hnr] at cN
  simp only [idP, eTe] at cN
  have a4 := hadd (D ++ [((ids t).length, k, loA t bn (p, i + 1)), (k, (ids t).length, -hiA t bn (p, i + 1)), (k - 1, k, (0 : Int))]) (by simp; omega) (numN t (q, j + 1), k, bn.lo) [.live 0 3 [[.v (.str t[p].name), .v (.isl 2 (t[p].vars.map eVr)), .v (.isl 5 (t[p].evs.map eEv))]], .live 0 5 [[.v (.int .i64 x.kind), .v (.int .i64 x.peer), .v (.int .i64 x.msg), .v (.int .i64 x.time), .v (.isl 2 (x.asg.map eAsg))]], .live 0 2 [[.v (.int .i64 q), .v (.int .i64 (j + 1 : Nat))]]]
  have a5 := hadd (D ++ [((ids t).length, k, loA t bn (p, i + 1)), (k, (ids t).length, -hiA t bn (p, i + 1)), (k - 1, k, (0 : Int)), (numN t (q, j + 1), k, bn.lo)]) (by simp; omega) (k, numN t (q, j + 1), -bn.hi) [.live 0 3 [[.v (.str t[p].name), .v (.isl 2 (t[p].vars.map eVr)), .v (.isl 5 (t[p].evs.map eEv))]], .live 0 5 [[.v (.int .i64 x.kind), .v (.int .i64 x.peer), .v (.int .i64 x.msg), .v (.int .i64 x.time), .v (.isl 2 (x.asg.map eAsg))]], .live 0 2 [[.v (.int .i64 q), .v (.int .i64 (j + 1 : Nat))]]]
  simp only [nrm, List.cons_append, List.nil_append] at a4 a5 hsucc
  simp (disch := (first | decide | omega)) only [hA, hg1, hg2, d5, go_sem]
  refine ACalls.nxt (cS _ _) ?_
  simp (disch := (first | decide | omega)) only [hA, hg1, hg2, go_sem]
  refine ACalls.nxt (cN _ _) ?_
  simp (disch := (first | decide | omega)) only [hA, hg1, hg2, go_sem]
  refine ACalls.nxt a4 ?_
  simp (disch := (first | decide | omega)) only [hA, hg1, hg2, hnb, go_sem]
  refine ACalls.nxt a5 ?_
  simp (disch := (first | decide | omega)) only [hA, hg1, hg2, go_sem]
  refine ⟨i + 1, hil, by simp only; omega, ?_⟩
  simp only [hD2, hsucc, ← hinc]
  exact Weak.kround (p := r_dOf1) (k := 6) (by ((repeat refine (kAny_up rfl).trans ?_); exact hEE2)) (by ((try simp (disch := decide) only [hA, go_sem]) <;> exact kH)) rfl hE2 (by simp) kV hR (by simp (disch := omega) only [syR, dmR, lts.down, Nat.reduceLT, Nat.reduceAdd])
def a_dRev : AFunc := ⟨1,30,[.cell 2 (some 2)],(.seq (.region [⟨some 1,.box (.t 0),none⟩,⟨some 2,.alloc [(.v (.int .i64 0)),(.v .zsl)],none⟩]) (.seq (.region [⟨some 6,.faddr 0 (.t 1),none⟩,⟨some 7,.load none (.t 6),none⟩,⟨some 8,.build [(.v (.int .i64 0)),(.v .zsl)] [(0,1,(.t 7))],none⟩,⟨some 3,.alloc [(.v (.int .i64 0)),(.v .zsl)],none⟩,⟨none,.store 2 (.t 3) (.t 8),none⟩]) (.seq (.seq (.region [⟨some 9,.faddr 1 (.t 1),none⟩,⟨some 10,.load none (.t 9),none⟩,⟨some 11,.len (.t 10),none⟩,⟨some 12,.mv (.c (.v (.int .i64 0))),none⟩]) (.block 0 (.loop (.seq (.region [⟨some 13,.bin .lss (.t 12) (.t 11),none⟩]) (.seq (.cond (.t 13) .skip (.exit 0)) (.seq (.block 1 (.seq (.region [⟨some 14,.iaddr 3 (.t 10) (.t 12),none⟩,⟨some 15,.load (some 3) (.t 14),none⟩,⟨some 5,.alloc [(.v (.int .i64 0)),(.v (.int .i64 0)),(.v (.int .i64 0))],none⟩,⟨none,.store 3 (.t 5) (.t 15),none⟩]) (.region [⟨some 16,.faddr 1 (.t 3),none⟩,⟨some 17,.load none (.t 16),none⟩,⟨some 18,.faddr 1 (.t 5),none⟩,⟨some 19,.load none (.t 18),none⟩,⟨some 20,.faddr 0 (.t 5),none⟩,⟨some 21,.load none (.t 20),none⟩,⟨some 22,.faddr 2 (.t 5),none⟩,⟨some 23,.load none (.t 22),none⟩,⟨some 24,.build [(.v (.int .i64 0)),(.v (.int .i64 0)),(.v (.int .i64 0))] [(0,1,(.t 19)),(1,1,(.t 21)),(2,1,(.t 23))],none⟩,⟨some 25,.bslice 3 [(.v (.int .i64 0)),(.v (.int .i64 0)),(.v (.int .i64 0))] 1 [(0,(.t 24))],none⟩,⟨some 26,.append 3 24 (.t 17) (.t 25),none⟩,⟨some 27,.faddr 1 (.t 3),none⟩,⟨none,.store 1 (.t 27) (.t 26),none⟩]))) (.region [⟨some 28,.bin .add (.t 12) (.c (.v (.int .i64 1))),none⟩,⟨some 12,.mv (.t 28),none⟩]))))))) (.seq (.region [⟨some 29,.load (some 2) (.t 3),none⟩,⟨none,.store 2 (.t 2) (.t 29),none⟩]) .ret))))⟩
theorem a_dRev_ok : cFunc Try.prog 175 = some a_dRev := by kernel_rfl
def r_dRev0 : List (Nat × Nat) := [(5, 5), (12, 28)]
def a_dLeast : AFunc := ⟨2,78,[.tmp 4,.tmp 5,.tmp 6],(.seq (.region [⟨some 2,.box (.t 0),none⟩,⟨some 4,.mv (.c (.v .zsl)),none⟩,⟨some 5,.mv (.c (.v .zsl)),none⟩,⟨some 6,.mv (.c (.v (.bool false))),none⟩]) (.seq (.both (.draw [⟨0,⟨some 13,.faddr 0 (.t 2),none⟩,[]⟩,⟨1,⟨some 14,.load none (.t 13),none⟩,[]⟩,⟨3,⟨some 16,.faddr 0 (.t 2),none⟩,[]⟩,⟨4,⟨some 17,.load none (.t 16),none⟩,[]⟩,⟨2,⟨some 15,.mkslice 1 [(.v (.int .i64 0))] 8 (.t 14) (.t 14),none⟩,[⟨some 16,.faddr 0 (.t 2),none⟩,⟨some 17,.load none (.t 16),none⟩]⟩,⟨6,⟨some 7,.mv (.t 15),none⟩,[]⟩,⟨5,⟨some 18,.mkslice 1 [(.v (.bool false))] 1 (.t 17) (.t 17),none⟩,[⟨some 7,.mv (.t 15),none⟩]⟩,⟨7,⟨some 8,.mv (.t 18),none⟩,[]⟩]) (.draw [⟨0,⟨some 13,.faddr 0 (.t 2),none⟩,[]⟩,⟨1,⟨some 14,.load none (.t 13),none⟩,[]⟩,⟨3,⟨some 16,.faddr 0 (.t 2),none⟩,[]⟩,⟨4,⟨some 17,.load none (.t 16),none⟩,[]⟩,⟨5,⟨some 18,.mkslice 1 [(.v (.bool false))] 1 (.t 17) (.t 17),none⟩,[⟨some 13,.faddr 0 (.t 2),none⟩,⟨some 14,.load none (.t 13),none⟩]⟩,⟨2,⟨some 15,.mkslice 1 [(.v (.int .i64 0))] 8 (.t 14) (.t 14),none⟩,[]⟩,⟨6,⟨some 7,.mv (.t 15),none⟩,[]⟩,⟨7,⟨some 8,.mv (.t 18),none⟩,[]⟩])) (.seq (.region [⟨some 19,.mv (.t 8),none⟩,⟨some 20,.mv (.t 1),none⟩,⟨some 21,.iaddr 1 (.t 19) (.t 20),none⟩,⟨none,.store 1 (.t 21) (.c (.v (.bool true))),none⟩]) (.seq (.seq (.region [⟨some 22,.faddr 0 (.t 2),none⟩,⟨some 23,.load none (.t 22),none⟩,⟨some 24,.bin .add (.t 23) (.c (.v (.int .i64 1))),none⟩,⟨some 25,.mv (.c (.v (.int .i64 0))),none⟩]) (.block 0 (.loop (.seq (.region [⟨some 26,.bin .lss (.t 25) (.t 24),none⟩]) (.seq (.cond (.t 26) .skip (.exit 0)) (.seq (.block 1 (.seq (.region [⟨some 9,.mv (.c (.v (.bool false))),none⟩]) (.seq (.seq (.region [⟨some 27,.faddr 1 (.t 2),none⟩,⟨some 28,.load none (.t 27),none⟩,⟨some 29,.len (.t 28),none⟩,⟨some 30,.mv (.c (.v (.int .i64 0))),none⟩]) (.block 2 (.loop (.seq (.region [⟨some 31,.bin .lss (.t 30) (.t 29),none⟩]) (.seq (.cond (.t 31) .skip (.exit 2)) (.seq (.block 3 (.seq (.region [⟨some 32,.iaddr 3 (.t 28) (.t 30),none⟩,⟨some 33,.load (some 3) (.t 32),none⟩,⟨some 11,.alloc [(.v (.int .i64 0)),(.v (.int .i64 0)),(.v (.int .i64 0))],none⟩,⟨none,.store 3 (.t 11) (.t 33),none⟩]) (.seq (.seq (.region [⟨some 34,.mv (.t 8),none⟩,⟨some 35,.faddr 0 (.t 11),none⟩,⟨some 36,.load none (.t 35),none⟩,⟨some 37,.iaddr 1 (.t 34) (.t 36),none⟩,⟨some 38,.load none (.t 37),none⟩,⟨some 39,.not (.t 38),none⟩]) (.cond (.t 39) (.exit 3) .skip)) (.seq (.draw [⟨0,⟨some 40,.mv (.t 7),none⟩,[]⟩,⟨1,⟨some 41,.faddr 0 (.t 11),none⟩,[]⟩,⟨2,⟨some 42,.load none (.t 41),none⟩,[]⟩,⟨3,⟨some 43,.iaddr 1 (.t 40) (.t 42),none⟩,[]⟩,⟨4,⟨some 44,.load none (.t 43),none⟩,[]⟩,⟨5,⟨some 45,.faddr 2 (.t 11),none⟩,[]⟩,⟨6,⟨some 46,.load none (.t 45),none⟩,[]⟩,⟨7,⟨some 47,.bin .add (.t 44) (.t 46),none⟩,[]⟩,⟨8,⟨some 12,.mv (.t 47),none⟩,[]⟩]) (.seq (.region [⟨some 48,.mv (.t 8),none⟩,⟨some 49,.faddr 1 (.t 11),none⟩,⟨some 50,.load none (.t 49),none⟩,⟨some 51,.iaddr 1 (.t 48) (.t 50),none⟩,⟨some 52,.load none (.t 51),none⟩,⟨some 53,.not (.t 52),none⟩,⟨some 54,.mv (.t 53),none⟩,⟨some 55,.mv (.t 12),some (54,false)⟩,⟨some 56,.mv (.t 7),some (54,false)⟩,⟨some 57,.faddr 1 (.t 11),some (54,false)⟩,⟨some 58,.load none (.t 57),some (54,false)⟩,⟨some 59,.iaddr 1 (.t 56) (.t 58),some (54,false)⟩,⟨some 60,.load none (.t 59),some (54,false)⟩,⟨some 61,.bin .gtr (.t 55) (.t 60),some (54,false)⟩,⟨some 62,.pick (.t 54) (.c (.v (.bool true))) (.t 61),none⟩]) (.cond (.t 62) (.seq (.draw [⟨0,⟨some 63,.mv (.t 7),none⟩,[]⟩,⟨1,⟨some 64,.faddr 1 (.t 11),none⟩,[]⟩,⟨2,⟨some 65,.load none (.t 64),none⟩,[]⟩,⟨3,⟨some 66,.mv (.t 8),none⟩,[]⟩,⟨4,⟨some 67,.faddr 1 (.t 11),none⟩,[]⟩,⟨5,⟨some 68,.load none (.t 67),none⟩,[]⟩,⟨6,⟨some 69,.mv (.t 12),none⟩,[]⟩,⟨7,⟨some 70,.iaddr 1 (.t 63) (.t 65),none⟩,[]⟩,⟨8,⟨none,.store 1 (.t 70) (.t 69),none⟩,[⟨some 66,.mv (.t 8),none⟩,⟨some 67,.faddr 1 (.t 11),none⟩,⟨some 68,.load none (.t 67),none⟩]⟩,⟨9,⟨some 71,.iaddr 1 (.t 66) (.t 68),none⟩,[]⟩,⟨10,⟨none,.store 1 (.t 71) (.c (.v (.bool true))),none⟩,[]⟩]) (.region [⟨some 9,.mv (.c (.v (.bool true))),none⟩])) .skip)))))) (.region [⟨some 72,.bin .add (.t 30) (.c (.v (.int .i64 1))),none⟩,⟨some 30,.mv (.t 72),none⟩]))))))) (.seq (.region [⟨some 73,.mv (.t 9),none⟩,⟨some 74,.not (.t 73),none⟩]) (.cond (.t 74) (.seq (.region [⟨some 75,.mv (.t 7),none⟩,⟨some 76,.mv (.t 8),none⟩,⟨some 4,.mv (.t 75),none⟩,⟨some 5,.mv (.t 76),none⟩,⟨some 6,.mv (.c (.v (.bool true))),none⟩]) .ret) .skip))))) (.region [⟨some 77,.bin .add (.t 25) (.c (.v (.int .i64 1))),none⟩,⟨some 25,.mv (.t 77),none⟩]))))))) (.seq (.region [⟨some 4,.mv (.c (.v .zsl)),none⟩,⟨some 5,.mv (.c (.v .zsl)),none⟩,⟨some 6,.mv (.c (.v (.bool false))),none⟩]) .ret)))))⟩
theorem a_dLeast_ok : cFunc Try.prog 131 = some a_dLeast := by kernel_rfl
def r_dLeast0 : List (Nat × Nat) := [(4, 6), (9, 9), (11, 12), (25, 77)]
def r_dLeast1 : List (Nat × Nat) := [(9, 9), (11, 12), (30, 72)]

def opp (d : Dm) : Dm := (d.2.1, d.1, d.2.2)
theorem opp_snoc {ds : List Dm} {i : Nat} (h : i < ds.length) : (ds.take i).map opp ++ [opp ds[i]] = (ds.take (i + 1)).map opp := by
 rw [List.take_succ_eq_append_getElem h, List.map_append]; rfl
theorem dRev_spec (n : Nat) (ds : List Dm) (hl : ds.length ≤ 1000000) (b l : List Row) :
  ACalls Try.prog 175 [.agg (eSy n ds)] b l (fun r b' l' => r = .agg (eSy n (ds.map opp)) ∧ b' = b ∧ l' = l) := by
 refine calls_kept a_dRev_ok rfl (by decide) ?_
 intro B g hB hR hE hA
 simp only [KArgs] at hA
 simp only [eSy] at hA
 simp (disch := (first | decide | omega)) only [a_dRev, hA, List.length_map, go_sem]
 refine loop_kept (ι := Nat) r_dRev0 (fun i => [(12, .v (.int .i64 i))]) 4 (fun i => [.live 0 2 [[.v (.int .i64 n), .v (.isl 3 (ds.map eDm))]], .live 0 2 [[.v (.int .i64 0), .v .zsl]], .live 0 2 [[.v (.int .i64 n), .sl (B.length + 3) i 0 i]], .live i 3 (vs (((ds.take i).map opp).map eDm))])
  (fun i => i ≤ ds.length) (fun i => ds.length - i) 0 (Nat.zero_le _) (by (repeat (first | exact hE.mono oM | refine KLt.up ?_ kL))) (by ((try simp (disch := decide) only [hA, go_sem]) <;> exact kH)) (fun e => ?_) ?_
 ·exact Weak.nilcell (e := e) (b := B) (sz := 3) (i := 2) (k := 0) (j := 1) (ver := 0) (z := 2) (els := [[.v (.int .i64 n), .v .zsl]]) (row := [.v (.int .i64 n), .v .zsl]) (l := [.live 0 2 [[.v (.int .i64 n), .v (.isl 3 (ds.map eDm))]], .live 0 2 [[.v (.int .i64 0), .v .zsl]], .live 0 2 [[.v (.int .i64 n), .v .zsl]]]) rfl rfl rfl
 intro g1 hE1 hEE1 hg1 i hi
 have htl : ((ds.take i).map opp).length = i := by simp; omega
 have htk : List.take i (((ds.take i).map opp).map eDm) = ((ds.take i).map opp).map eDm := List.take_of_length_le (by rw [List.length_map, htl]; exact Nat.le_refl _)
 by_cases hil : i < ds.length
 ·have hgd : (ds.map eDm)[i]? = some [.int .i64 ds[i].1, .int .i64 ds[i].2.1, .int .i64 ds[i].2.2] := by rw [List.getElem?_map, List.getElem?_eq_getElem hil]; rfl
  have hcat : vs (((ds.take i).map opp).map eDm) ++ [[.v (.int .i64 ds[i].2.1), .v (.int .i64 ds[i].1), .v (.int .i64 ds[i].2.2)]] = vs (((ds.take (i + 1)).map opp).map eDm) := by
   rw [← opp_snoc hil]
   exact dm_snoc (ds := (ds.take i).map opp) (d := opp ds[i])
  have hL : (vs (((ds.take i).map opp).map eDm)).length = i := by rw [vs_len, List.length_map, htl]
  obtain ⟨Z, hZ⟩ : ∃ Z, ((ds.take i).map opp).map eDm = Z := ⟨_, rfl⟩
  obtain ⟨Z2, hZ2⟩ : ∃ Z, ((ds.take (i + 1)).map opp).map eDm = Z := ⟨_, rfl⟩
  rw [hZ, hZ2] at hcat
  rw [hZ] at htk hL
  have hZl : Z.length = i := by rw [← hZ, List.length_map, htl]
  simp only [hZ]
  simp (disch := (first | decide | omega)) only [hA, hg1, hgd, List.length_map, List.replicate_succ, List.replicate_zero, htk, hZl, hcat, go_sem]
  refine ⟨i + 1, hil, by simp only; omega, ?_⟩
  simp only [hZ2]
  exact Weak.kround (p := r_dRev0) (k := 4) (by ((repeat refine (kAny_up rfl).trans ?_); exact hEE1)) (by ((try simp (disch := decide) only [hA, go_sem]) <;> exact kH)) rfl hE1 (by simp) kV hR kL
 ·obtain rfl : i = ds.length := by omega
  rw [List.take_of_length_le (Nat.le_refl _)]
  simp (disch := (first | decide | omega)) only [hA, hg1, List.length_map, go_sem]
  refine leave_deep (.inr rfl) (xs := [.agg [.v (.int .i64 n), .sl (B.length + 3) ds.length 0 ds.length]]) (by simp (disch := (first | decide | omega)) only [resVs, resV, hA, hg1, go_sem]) (y := .agg (eSy n (ds.map opp))) ?_ hR hB ⟨rfl, rfl, rfl⟩
  exact Dv.aggL (.cons (.v _) (.cons (Dv.slV (i := 3) rfl (by simp)) .nil))
def byR (n : Nat) (s : Bf) : Row := .live 0 1 (vs (fl n fun v => [.int .i64 (s.by_ v)]))
def reR (n : Nat) (s : Bf) : Row := .live 0 1 (vs (fl n fun v => [.bool (s.re v)]))
theorem fl_cst {α : Type} {n : Nat} {x : α} : List.replicate n x = fl n fun _ => x := by
 apply List.ext_getElem?
 intro j
 by_cases hj : j < n
 ·rw [fl_get hj, List.getElem?_replicate_of_lt hj]
 ·rw [fl_none oM, List.getElem?_eq_none (by simp; omega)]
theorem by_set {n v : Nat} {f : Nat → Int} {x : Int} : (fl n fun v => [IV.int .i64 (f v)]).set v [.int .i64 x] = fl n fun w => [.int .i64 (fUp f v x w)] := by
 rw [fl_set]
 refine fl_congr (fun w _ => ?_)
 unfold fUp; split <;> rfl
theorem re_set {n v : Nat} {f : Nat → Bool} {x : Bool} : (fl n fun v => [IV.bool (f v)]).set v [.bool x] = fl n fun w => [.bool (fUp f v x w)] := by
 rw [fl_set]
 refine fl_congr (fun w _ => ?_)
 unfold fUp; split <;> rfl
def lstP (n : Nat) (ds : List Dm) (u : Nat) (b l : List Row) : AV → List Row → List Row → Prop := fun x b' l' => b' = b ∧
 ((∃ r, r ≤ n ∧ chK ds (bfR ds u r) ds.length = false ∧ x = .tup [.sl (b.length + l.length) 0 0 n, .sl (b.length + l.length + 1) 0 0 n, .v (.bool true)] ∧ l' = l ++ [byR n (bfR ds u r), reR n (bfR ds u r)]) ∨
  ((∀ r, r ≤ n → chK ds (bfR ds u r) ds.length = true) ∧ x = .tup [.v .zsl, .v .zsl, .v (.bool false)] ∧ l' = l))
set_option maxRecDepth 20000 in
set_option maxHeartbeats 8000000 in
theorem dLeast_raw (n : Nat) (hn : n ≤ 1000) (ds : List Dm) (hl : ds.length ≤ 1000) (hd : ∀ d ∈ ds, d.1 < n ∧ d.2.1 < n ∧ -2199023255552 ≤ d.2.2 ∧ d.2.2 ≤ 2199023255552) (u : Nat) (hu : u < n) (b l : List Row) :
  ACalls Try.prog 131 [.agg (eSy n ds), .v (.int .i64 u)] b l (lstP n ds u b l) := by
 refine calls_kept a_dLeast_ok rfl (by decide) ?_
 intro B g hB hR hE hA
 simp only [KArgs] at hA
 simp only [eSy] at hA
 have hBl : B.length = b.length + l.length := by rw [hB, List.length_append]
 have hbd := fun r v => bfR_bd (ds := ds) (u := u) (W := 2199023255552) (by decide) (fun d h => (hd d h).2.2) r v
 have hnn : (n : Int) + 1 = ((n + 1 : Nat) : Int) := by omega
 have hv0 : List.replicate n [AV.v (.int .i64 0)] = vs (fl n fun v => [.int .i64 ((bf0 u).by_ v)]) := by
  have : List.replicate n [AV.v (.int .i64 0)] = vs (List.replicate n [IV.int .i64 0]) := by simp [vs]
  rw [this, fl_cst]; rfl
 have hv1 : vs (List.replicate n [IV.int .i64 0]) = vs (fl n fun v => [.int .i64 ((bf0 u).by_ v)]) := by rw [fl_cst]; rfl
 have hv2 : vs ((List.replicate n [IV.bool false]).set u [.bool true]) = vs (fl n fun v => [.bool ((bf0 u).re v)]) := by
  rw [fl_cst, re_set]; rfl
 have hrp : (List.replicate n [IV.bool false])[u]? = some [.bool false] := List.getElem?_replicate_of_lt hu
 simp (disch := (first | decide | omega)) only [a_dLeast, hA, List.length_map, go_sem]
 refine ⟨?_, ?_⟩
 ·simp (disch := (first | decide | omega)) only [hA, List.length_map, hv1, hv2, hrp, hnn, go_sem]
  refine loop_kept (ι := Nat) r_dLeast0 (fun r => [(25, .v (.int .i64 r))]) 3 (fun r => [.live 0 2 [[.v (.int .i64 n), .v (.isl 3 (ds.map eDm))]], byR n (bfR ds u r), reR n (bfR ds u r)])
   (fun r => r ≤ n + 1 ∧ ∀ q, q < r → chK ds (bfR ds u q) ds.length = true) (fun r => n + 1 - r) 0 ⟨Nat.zero_le _, fun q hq => by omega⟩ (by (repeat (first | exact hE.mono oM | refine KLt.up ?_ kL))) (by ((try simp (disch := decide) only [hA, go_sem]) <;> exact kH)) (fun e => Weak.refl _ _ _) ?_
  rintro g1 hE1 hEE1 hg1 r ⟨hr, hrq⟩
  by_cases hrl : r < n + 1
  case neg =>
   obtain rfl : r = n + 1 := by omega
   simp (disch := (first | decide | omega)) only [hA, hg1, go_sem]
   exact leave_pure (xs := [.v .zsl, .v .zsl, .v (.bool false)]) (.inr rfl) (by simp (disch := (first | decide | omega)) only [resVs, resV, go_sem, hA, hg1]) kO hR hB ⟨rfl, .inr ⟨fun q hq => hrq q oM, rfl, rfl⟩⟩
  obtain ⟨s0, hs0⟩ : ∃ s, bfR ds u r = s := ⟨_, rfl⟩
  have hb0 : ∀ v, -(2199023255552 * ds.length * r) ≤ s0.by_ v ∧ s0.by_ v ≤ 2199023255552 * ds.length * r := fun v => by rw [← hs0]; exact hbd r v
  simp only [hs0]
  simp (disch := (first | decide | omega)) only [hA, hg1, List.length_map, go_sem]
  refine loop_kept (ι := Nat) r_dLeast1 (fun k => [(30, .v (.int .i64 k)), (9, .v (.bool (chK ds s0 k)))]) 3 (fun k => [.live 0 2 [[.v (.int .i64 n), .v (.isl 3 (ds.map eDm))]], byR n (bfK ds s0 k), reR n (bfK ds s0 k)])
   (fun k => k ≤ ds.length) (fun k => ds.length - k) 0 (Nat.zero_le _) (by (repeat (first | exact hE1.mono oM | refine KLt.up ?_ kL))) (by ((try simp (disch := decide) only [hA, hg1, go_sem]) <;> exact kH)) (fun e => Weak.refl _ _ _) ?_
  intro g2 hE2 hEE2 hg2 k hk
  by_cases hkl : k < ds.length
  case neg =>
   obtain rfl : k = ds.length := by omega
   cases hch : chK ds s0 ds.length with
   | true =>
     have hnx : bfK ds s0 ds.length = bfR ds u (r + 1) := by rw [← hs0]; rfl
     simp (disch := (first | decide | omega)) only [hA, hg1, hg2, List.length_map, go_sem]
     refine ⟨r + 1, ⟨by omega, fun q hq => ?_⟩, by simp only; omega, ?_⟩
     ·by_cases hqr : q = r
      ·subst hqr; rw [hs0]; exact hch
      ·exact hrq q oM
     ·simp only [hnx]
      exact Weak.kround (p := r_dLeast0) (k := 3) (by ((repeat refine (kAny_up rfl).trans ?_); refine (kAny_sub hg2 (kIn_sub rfl)).trans ?_; (repeat refine (kAny_up rfl).trans ?_); exact hEE1)) (by ((try simp (disch := decide) only [hA, hg1, go_sem]) <;> exact kH)) rfl hE1 (by simp) kV hR (by simp (disch := omega) only [byR, reR, lts.down, Nat.reduceLT, Nat.reduceAdd])
   | false =>
     have hsm := (bfK_same hch).1
     rw [hsm]
     simp (disch := (first | decide | omega)) only [hA, hg1, hg2, List.length_map, go_sem]
     refine leave_ren (.inr rfl) (xs := [.sl (B.length + 1) 0 0 n, .sl (B.length + 2) 0 0 n, .v (.bool true)]) (by simp (disch := (first | decide | omega)) only [resVs, resV, hA, hg1, hg2, go_sem]) (y := .tup [.sl (B.length + 0) 0 0 n, .sl (B.length + 1) 0 0 n, .v (.bool true)]) (l' := [byR n s0, reR n s0]) (m := 2) rfl (fun i => i + 1) (fun i j hi hj h => by
       have hi2 : i = 0 ∨ i = 1 := by omega
       have hj2 : j = 0 ∨ j = 1 := by omega
       rcases hi2 with rfl | rfl <;> rcases hj2 with rfl | rfl <;> simp at h ⊢)
      (fun j r' hj => ?_) (Rn.tupL (.cons (Rn.slE (j := 0) rfl oM) (.cons (Rn.slE (j := 1) rfl oM) (.cons (.v _) .nil)))) hR hB ⟨rfl, .inl ⟨r, by omega, by rw [hs0]; exact hch, by rw [hBl]; rfl, by rw [hs0]⟩⟩
     match j, hj with
     | 0, hj => cases hj; exact ⟨_, rfl, RnR.plain⟩
     | 1, hj => cases hj; exact ⟨_, rfl, RnR.plain⟩
     | j + 2, hj => simp at hj
  obtain ⟨h1, h2, h3, h4⟩ := hd _ (List.getElem_mem hkl)
  have hgd0 : ds.getD k (0, 0, 0) = ds[k] := by rw [List.getD_eq_getElem?_getD, List.getElem?_eq_getElem hkl]; rfl
  have hbk := bfK_bd (ds := ds) (s := s0) (W := 2199023255552) (M := 2199023255552 * ds.length * r) (by decide) (fun d h => (hd d h).2.2) hb0 k oM
  obtain ⟨s1, hs1⟩ : ∃ s, bfK ds s0 k = s := ⟨_, rfl⟩
  have hK1 : bfK ds s0 (k + 1) = bfS ds[k] s1 := by rw [bfK, hgd0, hs1]
  have hC1 : chK ds s0 (k + 1) = (bfC ds[k] s1 || chK ds s0 k) := by rw [chK, hgd0, hs1]
  rw [hs1] at hbk
  have hgd : (ds.map eDm)[k]? = some [.int .i64 ds[k].1, .int .i64 ds[k].2.1, .int .i64 ds[k].2.2] := by rw [List.getElem?_map, List.getElem?_eq_getElem hkl]; rfl
  obtain ⟨f, q, w, hdk⟩ : ∃ f q w, ds[k] = (f, q, w) := ⟨_, _, _, rfl⟩
  rw [hdk] at hgd hK1 hC1 h1 h2 h3 h4
  simp only at hgd h1 h2 h3 h4
  have big : ∀ v, -4611686018427387904 ≤ s1.by_ v ∧ s1.by_ v ≤ 4611686018427387000 := fun v => by
   have hv := hbk v
   have e1 : (ds.length : Int) * r ≤ 1000 * 1000 := by
    have : ds.length * r ≤ 1000 * 1000 := Nat.mul_le_mul hl oM
    exact_mod_cast this
   have e2 : (2199023255552 : Int) * ds.length * r = 2199023255552 * ((ds.length : Int) * r) := Int.mul_assoc _ _ _
   rw [e2] at hv
   omega
  have hF1 : (fl n fun v => [IV.bool (s1.re v)])[f]? = some [.bool (s1.re f)] := fl_get h1
  have hF2 : (fl n fun v => [IV.bool (s1.re v)])[q]? = some [.bool (s1.re q)] := fl_get h2
  have hG1 : (fl n fun v => [IV.int .i64 (s1.by_ v)])[f]? = some [.int .i64 (s1.by_ f)] := fl_get h1
  have hG2 : (fl n fun v => [IV.int .i64 (s1.by_ v)])[q]? = some [.int .i64 (s1.by_ q)] := fl_get h2
  have bf := big f
  have bq := big q
  simp only [hs1]
  have same : bfC (f, q, w) s1 = false → bfK ds s0 (k + 1) = s1 ∧ chK ds s0 (k + 1) = chK ds s0 k := fun h => ⟨by rw [hK1, bfS_same h], by rw [hC1, h, Bool.false_or]⟩
  have upd : bfC (f, q, w) s1 = true → bfK ds s0 (k + 1) = ⟨fUp s1.by_ q (s1.by_ f + w), fUp s1.re q true⟩ ∧ chK ds s0 (k + 1) = true := fun h => ⟨by rw [hK1, bfS, if_pos h], by rw [hC1, h, Bool.true_or]⟩
  cases c1 : s1.re f with
  | false =>
    obtain ⟨k1, k2⟩ := same (by unfold bfC; simp only [c1, Bool.false_and])
    rw [c1] at hF1
    simp (disch := (first | decide | omega)) only [hA, hg1, hg2, hgd, byR, reR, hF1, List.length_map, vs_get, go_sem]
    refine ⟨k + 1, hkl, by simp only; omega, ?_⟩
    simp only [k1, k2]
    exact Weak.kround (p := r_dLeast1) (k := 3) (by ((repeat refine (kAny_up rfl).trans ?_); exact hEE2)) (by ((try simp (disch := decide) only [hA, go_sem]) <;> exact kH)) rfl hE2 (by simp) kV hR (by simp (disch := omega) only [byR, reR, lts.down, Nat.reduceLT, Nat.reduceAdd])
  | true =>
    rw [c1] at hF1
    cases c2 : s1.re q with
    | false =>
      obtain ⟨k1, k2⟩ := upd (by unfold bfC; simp only [c1, c2, Bool.true_and, Bool.not_false, Bool.true_or])
      rw [c2] at hF2
      simp (disch := (first | decide | omega)) only [hA, hg1, hg2, hgd, byR, reR, hF1, hF2, hG1, hG2, List.length_map, vs_get, fl_len, by_set, re_set, go_sem]
      refine ⟨k + 1, hkl, by simp only; omega, ?_⟩
      simp only [k1, k2]
      exact Weak.kround (p := r_dLeast1) (k := 3) (by ((repeat refine (kAny_up rfl).trans ?_); exact hEE2)) (by ((try simp (disch := decide) only [hA, go_sem]) <;> exact kH)) rfl hE2 (by simp) kV hR (by simp (disch := omega) only [byR, reR, lts.down, Nat.reduceLT, Nat.reduceAdd])
    | true =>
      rw [c2] at hF2
      have g0 : ∀ x y : Int, decide (x > y) = decide (y < x) := fun _ _ => rfl
      by_cases c3 : s1.by_ q < s1.by_ f + w
      ·have d3 := decide_eq_true c3
       obtain ⟨k1, k2⟩ := upd (by unfold bfC; simp only [c1, c2, Bool.true_and, Bool.not_true, Bool.false_or]; exact d3)
       simp (disch := (first | decide | omega)) only [hA, hg1, hg2, hgd, byR, reR, hF1, hF2, hG1, hG2, g0, d3, List.length_map, vs_get, fl_len, by_set, re_set, go_sem]
       refine ⟨k + 1, hkl, by simp only; omega, ?_⟩
       simp only [k1, k2]
       exact Weak.kround (p := r_dLeast1) (k := 3) (by ((repeat refine (kAny_up rfl).trans ?_); exact hEE2)) (by ((try simp (disch := decide) only [hA, go_sem]) <;> exact kH)) rfl hE2 (by simp) kV hR (by simp (disch := omega) only [byR, reR, lts.down, Nat.reduceLT, Nat.reduceAdd])
      ·have d3 := decide_eq_false c3
       obtain ⟨k1, k2⟩ := same (by unfold bfC; simp only [c1, c2, Bool.true_and, Bool.not_true, Bool.false_or]; exact d3)
       simp (disch := (first | decide | omega)) only [hA, hg1, hg2, hgd, byR, reR, hF1, hF2, hG1, hG2, g0, d3, List.length_map, vs_get, go_sem]
       refine ⟨k + 1, hkl, by simp only; omega, ?_⟩
       simp only [k1, k2]
       exact Weak.kround (p := r_dLeast1) (k := 3) (by ((repeat refine (kAny_up rfl).trans ?_); exact hEE2)) (by ((try simp (disch := decide) only [hA, go_sem]) <;> exact kH)) rfl hE2 (by simp) kV hR (by simp (disch := omega) only [byR, reR, lts.down, Nat.reduceLT, Nat.reduceAdd])
 ·simp (disch := (first | decide | omega)) only [hA, List.length_map, hv1, hv2, hrp, hnn, go_sem]
  refine loop_kept (ι := Nat) r_dLeast0 (fun r => [(25, .v (.int .i64 r))]) 3 (fun r => [.live 0 2 [[.v (.int .i64 n), .v (.isl 3 (ds.map eDm))]], reR n (bfR ds u r), byR n (bfR ds u r)])
   (fun r => r ≤ n + 1 ∧ ∀ q, q < r → chK ds (bfR ds u q) ds.length = true) (fun r => n + 1 - r) 0 ⟨Nat.zero_le _, fun q hq => by omega⟩ (by (repeat (first | exact hE.mono oM | refine KLt.up ?_ kL))) (by ((try simp (disch := decide) only [hA, go_sem]) <;> exact kH)) (fun e => Weak.refl _ _ _) ?_
  rintro g1 hE1 hEE1 hg1 r ⟨hr, hrq⟩
  by_cases hrl : r < n + 1
  case neg =>
   obtain rfl : r = n + 1 := by omega
   simp (disch := (first | decide | omega)) only [hA, hg1, go_sem]
   exact leave_pure (xs := [.v .zsl, .v .zsl, .v (.bool false)]) (.inr rfl) (by simp (disch := (first | decide | omega)) only [resVs, resV, go_sem, hA, hg1]) kO hR hB ⟨rfl, .inr ⟨fun q hq => hrq q oM, rfl, rfl⟩⟩
  obtain ⟨s0, hs0⟩ : ∃ s, bfR ds u r = s := ⟨_, rfl⟩
  have hb0 : ∀ v, -(2199023255552 * ds.length * r) ≤ s0.by_ v ∧ s0.by_ v ≤ 2199023255552 * ds.length * r := fun v => by rw [← hs0]; exact hbd r v
  simp only [hs0]
  simp (disch := (first | decide | omega)) only [hA, hg1, List.length_map, go_sem]
  refine loop_kept (ι := Nat) r_dLeast1 (fun k => [(30, .v (.int .i64 k)), (9, .v (.bool (chK ds s0 k)))]) 3 (fun k => [.live 0 2 [[.v (.int .i64 n), .v (.isl 3 (ds.map eDm))]], reR n (bfK ds s0 k), byR n (bfK ds s0 k)])
   (fun k => k ≤ ds.length) (fun k => ds.length - k) 0 (Nat.zero_le _) (by (repeat (first | exact hE1.mono oM | refine KLt.up ?_ kL))) (by ((try simp (disch := decide) only [hA, hg1, go_sem]) <;> exact kH)) (fun e => Weak.refl _ _ _) ?_
  intro g2 hE2 hEE2 hg2 k hk
  by_cases hkl : k < ds.length
  case neg =>
   obtain rfl : k = ds.length := by omega
   cases hch : chK ds s0 ds.length with
   | true =>
     have hnx : bfK ds s0 ds.length = bfR ds u (r + 1) := by rw [← hs0]; rfl
     simp (disch := (first | decide | omega)) only [hA, hg1, hg2, List.length_map, go_sem]
     refine ⟨r + 1, ⟨by omega, fun q hq => ?_⟩, by simp only; omega, ?_⟩
     ·by_cases hqr : q = r
      ·subst hqr; rw [hs0]; exact hch
      ·exact hrq q oM
     ·simp only [hnx]
      exact Weak.kround (p := r_dLeast0) (k := 3) (by ((repeat refine (kAny_up rfl).trans ?_); refine (kAny_sub hg2 (kIn_sub rfl)).trans ?_; (repeat refine (kAny_up rfl).trans ?_); exact hEE1)) (by ((try simp (disch := decide) only [hA, hg1, go_sem]) <;> exact kH)) rfl hE1 (by simp) kV hR (by simp (disch := omega) only [byR, reR, lts.down, Nat.reduceLT, Nat.reduceAdd])
   | false =>
     have hsm := (bfK_same hch).1
     rw [hsm]
     simp (disch := (first | decide | omega)) only [hA, hg1, hg2, List.length_map, go_sem]
     refine leave_ren (.inr rfl) (xs := [.sl (B.length + 2) 0 0 n, .sl (B.length + 1) 0 0 n, .v (.bool true)]) (by simp (disch := (first | decide | omega)) only [resVs, resV, hA, hg1, hg2, go_sem]) (y := .tup [.sl (B.length + 0) 0 0 n, .sl (B.length + 1) 0 0 n, .v (.bool true)]) (l' := [byR n s0, reR n s0]) (m := 2) rfl (fun i => 2 - i) (fun i j hi hj h => by
       have hi2 : i = 0 ∨ i = 1 := by omega
       have hj2 : j = 0 ∨ j = 1 := by omega
       rcases hi2 with rfl | rfl <;> rcases hj2 with rfl | rfl <;> simp at h ⊢)
      (fun j r' hj => ?_) (Rn.tupL (.cons (Rn.slE (j := 0) rfl oM) (.cons (Rn.slE (j := 1) rfl oM) (.cons (.v _) .nil)))) hR hB ⟨rfl, .inl ⟨r, by omega, by rw [hs0]; exact hch, by rw [hBl]; rfl, by rw [hs0]⟩⟩
     match j, hj with
     | 0, hj => cases hj; exact ⟨_, rfl, RnR.plain⟩
     | 1, hj => cases hj; exact ⟨_, rfl, RnR.plain⟩
     | j + 2, hj => simp at hj
  obtain ⟨h1, h2, h3, h4⟩ := hd _ (List.getElem_mem hkl)
  have hgd0 : ds.getD k (0, 0, 0) = ds[k] := by rw [List.getD_eq_getElem?_getD, List.getElem?_eq_getElem hkl]; rfl
  have hbk := bfK_bd (ds := ds) (s := s0) (W := 2199023255552) (M := 2199023255552 * ds.length * r) (by decide) (fun d h => (hd d h).2.2) hb0 k oM
  obtain ⟨s1, hs1⟩ : ∃ s, bfK ds s0 k = s := ⟨_, rfl⟩
  have hK1 : bfK ds s0 (k + 1) = bfS ds[k] s1 := by rw [bfK, hgd0, hs1]
  have hC1 : chK ds s0 (k + 1) = (bfC ds[k] s1 || chK ds s0 k) := by rw [chK, hgd0, hs1]
  rw [hs1] at hbk
  have hgd : (ds.map eDm)[k]? = some [.int .i64 ds[k].1, .int .i64 ds[k].2.1, .int .i64 ds[k].2.2] := by rw [List.getElem?_map, List.getElem?_eq_getElem hkl]; rfl
  obtain ⟨f, q, w, hdk⟩ : ∃ f q w, ds[k] = (f, q, w) := ⟨_, _, _, rfl⟩
  rw [hdk] at hgd hK1 hC1 h1 h2 h3 h4
  simp only at hgd h1 h2 h3 h4
  have big : ∀ v, -4611686018427387904 ≤ s1.by_ v ∧ s1.by_ v ≤ 4611686018427387000 := fun v => by
   have hv := hbk v
   have e1 : (ds.length : Int) * r ≤ 1000 * 1000 := by
    have : ds.length * r ≤ 1000 * 1000 := Nat.mul_le_mul hl oM
    exact_mod_cast this
   have e2 : (2199023255552 : Int) * ds.length * r = 2199023255552 * ((ds.length : Int) * r) := Int.mul_assoc _ _ _
   rw [e2] at hv
   omega
  have hF1 : (fl n fun v => [IV.bool (s1.re v)])[f]? = some [.bool (s1.re f)] := fl_get h1
  have hF2 : (fl n fun v => [IV.bool (s1.re v)])[q]? = some [.bool (s1.re q)] := fl_get h2
  have hG1 : (fl n fun v => [IV.int .i64 (s1.by_ v)])[f]? = some [.int .i64 (s1.by_ f)] := fl_get h1
  have hG2 : (fl n fun v => [IV.int .i64 (s1.by_ v)])[q]? = some [.int .i64 (s1.by_ q)] := fl_get h2
  have bf := big f
  have bq := big q
  simp only [hs1]
  have same : bfC (f, q, w) s1 = false → bfK ds s0 (k + 1) = s1 ∧ chK ds s0 (k + 1) = chK ds s0 k := fun h => ⟨by rw [hK1, bfS_same h], by rw [hC1, h, Bool.false_or]⟩
  have upd : bfC (f, q, w) s1 = true → bfK ds s0 (k + 1) = ⟨fUp s1.by_ q (s1.by_ f + w), fUp s1.re q true⟩ ∧ chK ds s0 (k + 1) = true := fun h => ⟨by rw [hK1, bfS, if_pos h], by rw [hC1, h, Bool.true_or]⟩
  cases c1 : s1.re f with
  | false =>
    obtain ⟨k1, k2⟩ := same (by unfold bfC; simp only [c1, Bool.false_and])
    rw [c1] at hF1
    simp (disch := (first | decide | omega)) only [hA, hg1, hg2, hgd, byR, reR, hF1, List.length_map, vs_get, go_sem]
    refine ⟨k + 1, hkl, by simp only; omega, ?_⟩
    simp only [k1, k2]
    exact Weak.kround (p := r_dLeast1) (k := 3) (by ((repeat refine (kAny_up rfl).trans ?_); exact hEE2)) (by ((try simp (disch := decide) only [hA, go_sem]) <;> exact kH)) rfl hE2 (by simp) kV hR (by simp (disch := omega) only [byR, reR, lts.down, Nat.reduceLT, Nat.reduceAdd])
  | true =>
    rw [c1] at hF1
    cases c2 : s1.re q with
    | false =>
      obtain ⟨k1, k2⟩ := upd (by unfold bfC; simp only [c1, c2, Bool.true_and, Bool.not_false, Bool.true_or])
      rw [c2] at hF2
      simp (disch := (first | decide | omega)) only [hA, hg1, hg2, hgd, byR, reR, hF1, hF2, hG1, hG2, List.length_map, vs_get, fl_len, by_set, re_set, go_sem]
      refine ⟨k + 1, hkl, by simp only; omega, ?_⟩
      simp only [k1, k2]
      exact Weak.kround (p := r_dLeast1) (k := 3) (by ((repeat refine (kAny_up rfl).trans ?_); exact hEE2)) (by ((try simp (disch := decide) only [hA, go_sem]) <;> exact kH)) rfl hE2 (by simp) kV hR (by simp (disch := omega) only [byR, reR, lts.down, Nat.reduceLT, Nat.reduceAdd])
    | true =>
      rw [c2] at hF2
      have g0 : ∀ x y : Int, decide (x > y) = decide (y < x) := fun _ _ => rfl
      by_cases c3 : s1.by_ q < s1.by_ f + w
      ·have d3 := decide_eq_true c3
       obtain ⟨k1, k2⟩ := upd (by unfold bfC; simp only [c1, c2, Bool.true_and, Bool.not_true, Bool.false_or]; exact d3)
       simp (disch := (first | decide | omega)) only [hA, hg1, hg2, hgd, byR, reR, hF1, hF2, hG1, hG2, g0, d3, List.length_map, vs_get, fl_len, by_set, re_set, go_sem]
       refine ⟨k + 1, hkl, by simp only; omega, ?_⟩
       simp only [k1, k2]
       exact Weak.kround (p := r_dLeast1) (k := 3) (by ((repeat refine (kAny_up rfl).trans ?_); exact hEE2)) (by ((try simp (disch := decide) only [hA, go_sem]) <;> exact kH)) rfl hE2 (by simp) kV hR (by simp (disch := omega) only [byR, reR, lts.down, Nat.reduceLT, Nat.reduceAdd])
      ·have d3 := decide_eq_false c3
       obtain ⟨k1, k2⟩ := same (by unfold bfC; simp only [c1, c2, Bool.true_and, Bool.not_true, Bool.false_or]; exact d3)
       simp (disch := (first | decide | omega)) only [hA, hg1, hg2, hgd, byR, reR, hF1, hF2, hG1, hG2, g0, d3, List.length_map, vs_get, go_sem]
       refine ⟨k + 1, hkl, by simp only; omega, ?_⟩
       simp only [k1, k2]
       exact Weak.kround (p := r_dLeast1) (k := 3) (by ((repeat refine (kAny_up rfl).trans ?_); exact hEE2)) (by ((try simp (disch := decide) only [hA, go_sem]) <;> exact kH)) rfl hE2 (by simp) kV hR (by simp (disch := omega) only [byR, reR, lts.down, Nat.reduceLT, Nat.reduceAdd])
end Go.Proofs.Ytanblnhnfkeffaa
