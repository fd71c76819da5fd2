/- Texts of one proof, laid together: NU. No condition. -/
import Derived.Test.YtilcmenglgdljaaNA8
namespace Go.Proofs.Ytilcmenglgdljaa
set_option linter.unusedVariables false
set_option linter.unusedSimpArgs false
attribute [local go_sem ↓] run_skip run_region run_draw run_seq run_block run_exit run_ret run_cond atN_app seqC_normal seqC_exit seqC_ret seqQ_normal seqQ_exit seqQ_ret blkQ_normal blkQ_exit blkQ_ret runOps_nil runOps_cons runD_nil runD_cons grdO_true grdO_false grdD_true grdD_false ifC_true ifC_false opS_val opS_call opS_two opK_app dS_val dS_call dS_two dK_app kUp_same kUp_ne
attribute [local go_sem] rechks_nil rechks_cons rechk gcase_true gcase_false ex_val ex_val0 gd_none gd_some ev_t ev_c evs_nil evs_cons evo_some evo_none hget_at hget_first hsetB_at hsetB_first hsetL_at hsetL_first ofOpt_some aop aload astore aslice aappend aiaddr aiaddrA afaddr alen alenS acopy amm acall alookup amupdate alenM comma keyEq apick binV binVB binVS isSh intOp strOp boolOp shOp eqC eqF and2 cellsOf setFrom fillA fillS rd rdI elems mk bounds AV.cell List.all_cons List.all_nil Bool.and_true Bool.true_and Bool.and_self List.length_cons List.length_nil List.length_append Nat.reduceAdd Nat.reduceSub Nat.reduceMul Nat.zero_add Nat.add_zero List.cons_append List.nil_append List.append_assoc List.append_nil List.getElem?_cons_zero List.getElem?_cons_succ List.getElem?_nil List.set_cons_zero List.set_cons_succ List.drop_zero List.drop_succ_cons List.take_zero List.take_succ_cons List.take_nil List.drop_nil List.map_cons List.map_nil Option.map_some if_true if_false Bool.false_eq_true and_self true_and and_true Nat.reduceLeDiff Nat.reduceLT Nat.le_refl Nat.reduceEqDiff ite_true ite_false beq_self_eq_true beq_true beq_false Bool.not_true Bool.not_false Bool.true_beq Bool.false_beq map_vs vs_len vs_get vs_take vs_drop vs_snoc1 vs_snoc2 vs_snoc3 vs_snoc5 vs_set1 vs_set2 vs_rep wrap_id le_T lt_T le_F lt_F leI_T ltI_T leI_F ltI_F geI gtI get_T decide_true decide_false room List.getElem?_map List.length_map List.length_take Int.toNat_natCast Nat.min_def Nat.min_self nth_kOf put_kOf put_kNo kOv_cons kOv_nil KHas KArgs List.getElem_cons_zero List.getElem_cons_succ
def a_lawRecv : AFunc := ⟨3,140,[.tmp 6],(.seq (.region [⟨some 3,.box (.t 0),none⟩,⟨some 6,.mv (.c (.v (.bool false))),none⟩]) (.seq (.seq (.region [⟨some 14,.call (.c (.fn 27 [])) [],none⟩,⟨some 15,.not (.t 14),none⟩]) (.cond (.t 15) (.seq (.region [⟨some 6,.mv (.c (.v (.bool false))),none⟩]) .ret) .skip)) (.seq (.seq (.region [⟨some 16,.load (some 5) (.t 3),none⟩,⟨some 17,.call (.c (.fn 28 [])) [(.t 16)],none⟩]) (.cond (.t 17) (.seq (.region [⟨some 6,.mv (.c (.v (.bool true))),none⟩]) .ret) .skip)) (.seq (.region [⟨some 19,.load (some 5) (.t 3),none⟩,⟨some 20,.mv (.t 1),none⟩,⟨some 21,.call (.c (.fn 35 [])) [(.t 19),(.t 20)],none⟩,⟨some 18,.mv (.t 21),none⟩,⟨some 22,.extract 0 (.t 18),none⟩,⟨some 23,.extract 1 (.t 18),none⟩,⟨some 24,.extract 2 (.t 18),none⟩,⟨some 7,.alloc [(.v (.int .i64 0)),(.v (.bool false)),(.v .zsl),(.v .zsl),(.v .zsl)],none⟩,⟨some 8,.alloc [(.v (.int .i64 0)),(.v (.int .i64 0)),(.v (.int .i64 0)),(.v .zsl)],none⟩,⟨none,.store 5 (.t 7) (.t 22),none⟩,⟨none,.store 4 (.t 8) (.t 23),none⟩,⟨some 9,.mv (.t 24),none⟩]) (.seq (.region [⟨some 26,.load (some 5) (.t 3),none⟩,⟨some 27,.mv (.t 2),none⟩,⟨some 28,.call (.c (.fn 36 [])) [(.t 26),(.t 27)],none⟩,⟨some 25,.mv (.t 28),none⟩,⟨some 29,.extract 0 (.t 25),none⟩,⟨some 30,.extract 1 (.t 25),none⟩,⟨some 10,.alloc [(.v (.int .i64 0)),(.v (.bool false)),(.v .zsl),(.v .zsl),(.v .zsl)],none⟩,⟨none,.store 5 (.t 10) (.t 29),none⟩,⟨some 11,.mv (.t 30),none⟩]) (.seq (.seq (.region [⟨some 31,.load (some 5) (.t 3),none⟩,⟨some 32,.call (.c (.fn 30 [])) [(.t 31)],none⟩,⟨some 33,.not (.t 32),none⟩]) (.cond (.t 33) (.seq (.region [⟨some 34,.mv (.t 9),none⟩,⟨some 35,.bin .eql (.t 34) (.c (.v (.int .i64 1))),none⟩,⟨some 36,.mv (.t 35),none⟩,⟨some 37,.load (some 5) (.t 7),some (36,true)⟩,⟨some 38,.call (.c (.fn 32 [])) [(.t 37)],some (36,true)⟩,⟨some 39,.pick (.t 36) (.t 38) (.c (.v (.bool false))),none⟩,⟨some 40,.mv (.t 39),none⟩,⟨some 41,.load (some 4) (.t 8),some (40,true)⟩,⟨some 42,.build [(.v (.int .i64 0)),(.v (.int .i64 0)),(.v (.int .i64 0)),(.v .zsl)] [],some (40,true)⟩,⟨some 43,.call (.c (.fn 37 [])) [(.t 41),(.t 42)],some (40,true)⟩,⟨some 44,.pick (.t 40) (.t 43) (.c (.v (.bool false))),none⟩,⟨some 45,.mv (.t 44),none⟩,⟨some 46,.mv (.t 11),some (45,true)⟩,⟨some 47,.bin .eql (.t 46) (.c (.v (.int .i64 1))),some (45,true)⟩,⟨some 48,.pick (.t 45) (.t 47) (.c (.v (.bool false))),none⟩,⟨some 49,.mv (.t 48),none⟩,⟨some 50,.load (some 5) (.t 10),some (49,true)⟩,⟨some 51,.call (.c (.fn 32 [])) [(.t 50)],some (49,true)⟩,⟨some 52,.pick (.t 49) (.t 51) (.c (.v (.bool false))),none⟩,⟨some 6,.mv (.t 52),none⟩]) .ret) .skip)) (.seq (.block 0 (.seq (.region [⟨some 65,.mv (.t 2),none⟩,⟨some 66,.bin .lss (.t 65) (.c (.v (.int .i64 0))),none⟩,⟨some 67,.mv (.t 66),none⟩,⟨some 68,.mv (.t 2),some (67,false)⟩,⟨some 69,.bin .gtr (.t 68) (.c (.v (.int .i64 1099511627776))),some (67,false)⟩,⟨some 70,.pick (.t 67) (.c (.v (.bool true))) (.t 69),none⟩,⟨some 64,.mv (.t 70),none⟩]) (.cond (.t 64) (.seq (.region [⟨some 71,.mv (.t 11),none⟩,⟨some 72,.bin .neq (.t 71) (.c (.v (.int .i64 2))),none⟩,⟨some 73,.mv (.t 72),none⟩,⟨some 74,.load (some 5) (.t 10),some (73,false)⟩,⟨some 75,.call (.c (.fn 32 [])) [(.t 74)],some (73,false)⟩,⟨some 76,.not (.t 75),some (73,false)⟩,⟨some 77,.pick (.t 73) (.c (.v (.bool true))) (.t 76),none⟩]) (.cond (.t 77) (.seq (.region [⟨some 6,.mv (.c (.v (.bool false))),none⟩]) .ret) .skip)) (.seq (.region [⟨some 79,.mv (.t 2),none⟩,⟨some 80,.faddr 0 (.t 3),none⟩,⟨some 81,.load none (.t 80),none⟩,⟨some 82,.bin .lss (.t 79) (.t 81),none⟩,⟨some 78,.mv (.t 82),none⟩]) (.cond (.t 78) (.seq (.region [⟨some 83,.mv (.t 11),none⟩,⟨some 84,.bin .neq (.t 83) (.c (.v (.int .i64 11))),none⟩,⟨some 85,.mv (.t 84),none⟩,⟨some 86,.load (some 5) (.t 10),some (85,false)⟩,⟨some 87,.call (.c (.fn 32 [])) [(.t 86)],some (85,false)⟩,⟨some 88,.not (.t 87),some (85,false)⟩,⟨some 89,.pick (.t 85) (.c (.v (.bool true))) (.t 88),none⟩]) (.cond (.t 89) (.seq (.region [⟨some 6,.mv (.c (.v (.bool false))),none⟩]) .ret) .skip)) (.seq (.region [⟨some 53,.load (some 5) (.t 3),none⟩,⟨some 12,.alloc [(.v (.int .i64 0)),(.v (.bool false)),(.v .zsl),(.v .zsl),(.v .zsl)],none⟩,⟨none,.store 5 (.t 12) (.t 53),none⟩]) (.seq (.region [⟨some 54,.mv (.t 2),none⟩,⟨some 55,.faddr 0 (.t 12),none⟩,⟨none,.store 1 (.t 55) (.t 54),none⟩]) (.seq (.region [⟨some 56,.mv (.t 11),none⟩,⟨some 57,.bin .neq (.t 56) (.c (.v (.int .i64 0))),none⟩,⟨some 58,.mv (.t 57),none⟩,⟨some 59,.load (some 5) (.t 10),some (58,false)⟩,⟨some 60,.load (some 5) (.t 12),some (58,false)⟩,⟨some 61,.call (.c (.fn 34 [])) [(.t 59),(.t 60)],some (58,false)⟩,⟨some 62,.not (.t 61),some (58,false)⟩,⟨some 63,.pick (.t 58) (.c (.v (.bool true))) (.t 62),none⟩]) (.cond (.t 63) (.seq (.region [⟨some 6,.mv (.c (.v (.bool false))),none⟩]) .ret) .skip))))))))) (.seq (.region [⟨some 90,.load (some 5) (.t 3),none⟩,⟨some 91,.mv (.t 1),none⟩,⟨some 92,.call (.c (.fn 38 [])) [(.t 90),(.t 91)],none⟩,⟨some 13,.mv (.t 92),none⟩]) (.seq (.block 1 (.seq (.region [⟨some 94,.mv (.t 1),none⟩,⟨some 95,.call (.c (.fn 39 [])) [(.t 94)],none⟩,⟨some 96,.not (.t 95),none⟩,⟨some 93,.mv (.t 96),none⟩]) (.cond (.t 93) (.seq (.region [⟨some 97,.mv (.t 9),none⟩,⟨some 98,.bin .eql (.t 97) (.c (.v (.int .i64 2))),none⟩,⟨some 99,.mv (.t 98),none⟩,⟨some 100,.load (some 5) (.t 7),some (99,true)⟩,⟨some 101,.call (.c (.fn 32 [])) [(.t 100)],some (99,true)⟩,⟨some 102,.pick (.t 99) (.t 101) (.c (.v (.bool false))),none⟩,⟨some 103,.mv (.t 102),none⟩,⟨some 104,.load (some 4) (.t 8),some (103,true)⟩,⟨some 105,.build [(.v (.int .i64 0)),(.v (.int .i64 0)),(.v (.int .i64 0)),(.v .zsl)] [],some (103,true)⟩,⟨some 106,.call (.c (.fn 37 [])) [(.t 104),(.t 105)],some (103,true)⟩,⟨some 107,.pick (.t 103) (.t 106) (.c (.v (.bool false))),none⟩,⟨some 6,.mv (.t 107),none⟩]) .ret) (.seq (.region [⟨some 109,.mv (.t 13),none⟩,⟨some 110,.bin .lss (.t 109) (.c (.v (.int .i64 0))),none⟩,⟨some 108,.mv (.t 110),none⟩]) (.cond (.t 108) (.seq (.region [⟨some 111,.mv (.t 9),none⟩,⟨some 112,.bin .eql (.t 111) (.c (.v (.int .i64 7))),none⟩,⟨some 113,.mv (.t 112),none⟩,⟨some 114,.load (some 5) (.t 7),some (113,true)⟩,⟨some 115,.call (.c (.fn 32 [])) [(.t 114)],some (113,true)⟩,⟨some 116,.pick (.t 113) (.t 115) (.c (.v (.bool false))),none⟩,⟨some 117,.mv (.t 116),none⟩,⟨some 118,.load (some 4) (.t 8),some (117,true)⟩,⟨some 119,.build [(.v (.int .i64 0)),(.v (.int .i64 0)),(.v (.int .i64 0)),(.v .zsl)] [],some (117,true)⟩,⟨some 120,.call (.c (.fn 37 [])) [(.t 118),(.t 119)],some (117,true)⟩,⟨some 121,.pick (.t 117) (.t 120) (.c (.v (.bool false))),none⟩,⟨some 6,.mv (.t 121),none⟩]) .ret) .skip))))) (.seq (.draw [⟨0,⟨some 122,.mv (.t 9),none⟩,[]⟩,⟨1,⟨some 123,.bin .eql (.t 122) (.c (.v (.int .i64 0))),none⟩,[]⟩,⟨2,⟨some 124,.mv (.t 123),none⟩,[]⟩,⟨3,⟨some 125,.load (some 5) (.t 7),some (124,true)⟩,[]⟩,⟨4,⟨some 126,.load (some 5) (.t 3),some (124,true)⟩,[]⟩,⟨5,⟨some 127,.mv (.t 13),some (124,true)⟩,[]⟩,⟨6,⟨some 128,.call (.c (.fn 40 [])) [(.t 126),(.t 127)],some (124,true)⟩,[⟨some 125,.load (some 5) (.t 7),some (124,true)⟩]⟩,⟨7,⟨some 129,.call (.c (.fn 34 [])) [(.t 125),(.t 128)],some (124,true)⟩,[]⟩,⟨8,⟨some 130,.pick (.t 124) (.t 129) (.c (.v (.bool false))),none⟩,[]⟩,⟨9,⟨some 131,.mv (.t 130),none⟩,[]⟩,⟨10,⟨some 132,.load (some 4) (.t 8),some (131,true)⟩,[]⟩,⟨11,⟨some 133,.faddr 2 (.t 3),some (131,true)⟩,[]⟩,⟨12,⟨some 134,.load none (.t 133),some (131,true)⟩,[]⟩,⟨13,⟨some 135,.mv (.t 13),some (131,true)⟩,[]⟩,⟨14,⟨some 136,.iaddr 4 (.t 134) (.t 135),some (131,true)⟩,[]⟩,⟨15,⟨some 137,.load (some 4) (.t 136),some (131,true)⟩,[]⟩,⟨16,⟨some 138,.call (.c (.fn 37 [])) [(.t 132),(.t 137)],some (131,true)⟩,[]⟩,⟨17,⟨some 139,.pick (.t 131) (.t 138) (.c (.v (.bool false))),none⟩,[]⟩,⟨18,⟨some 6,.mv (.t 139),none⟩,[]⟩]) .ret))))))))))⟩
theorem a_lawRecv_ok : cFunc Try.prog 6 = some a_lawRecv := by kernel_rfl

theorem sameM_z (a : Ms) (hn : a.body.length ≤ 1000000) (b l : List Row) : ACalls Try.prog 37 [.agg [.v (.int .i64 a.fr), .v (.int .i64 a.to), .v (.int .i64 a.nu), .v (.isl 1 (a.body.map eI))], .agg [.v (.int .i64 0), .v (.int .i64 0), .v (.int .i64 0), .v .zsl]] b l (fun r b' l' => r = .v (.bool (eqB a dfMs)) ∧ b' = b ∧ l' = l) := by
 refine (sameM_spec a dfMs hn b l).le rfl (fun i x y hx hy => ?_)
 match i, hx, hy with
 | 0, hx, hy => cases hx; cases hy; exact .refl _
 | 1, hx, hy =>
   cases hx; cases hy
   refine .agg _ _ rfl (fun j u v hu hv => ?_)
   match j, hu, hv with
   | 0, hu, hv => cases hu; cases hv; exact .refl _
   | 1, hu, hv => cases hu; cases hv; exact .refl _
   | 2, hu, hv => cases hu; cases hv; exact .refl _
   | 3, hu, hv => cases hu; cases hv; exact .v _ _ (.zsl 1)
theorem woN_s {n : Nw} (hS : NwS n) {k : Nat} : NwS (woN n k) := by
 have h1 := hS.l
 have h2 := hS.tm
 unfold woN
 refine ⟨?_, ?_, hS.fates, fun x hx => ?_⟩
 ·simp only [List.length_append, List.length_take, List.length_drop]; omega
 ·simp only [List.length_append, List.length_take, List.length_drop]; omega
 ·simp only [List.mem_append] at hx
  rcases hx with hx | hx
  ·exact hS.body x (List.mem_of_mem_take hx)
  ·exact hS.body x (List.mem_of_mem_drop hx)
theorem fiR_in {n : Nw} {to : Int} (h : 0 ≤ fiR n to) : ∃ k : Nat, fiR n to = k ∧ k < n.l.length ∧ arB n to k = true ∧ ∀ j, j < k → arB n to j = false := by
 unfold fiR wIdx at *
 cases hf : (List.range n.l.length).find? (arB n to) with
 | none => rw [hf] at h; cases h
 | some k =>
   refine ⟨k, rfl, List.mem_range.1 (List.mem_of_find?_eq_some hf), List.find?_some hf, fun j hj => ?_⟩
   obtain ⟨as1, bs1, h1, h2⟩ := List.find?_eq_some_iff_append.1 hf |>.2
   have hjr : (List.range n.l.length)[j]? = some j := List.getElem?_range (by have := List.mem_range.1 (List.mem_of_find?_eq_some hf); omega)
   have hlen : as1.length = k := by
    have h3 : (List.range n.l.length)[as1.length]? = some k := by rw [h1]; simp
    have h4 := (List.getElem?_eq_some_iff.1 h3).1
    rw [List.length_range] at h4
    rw [List.getElem?_range h4] at h3
    exact Option.some.inj h3
   rw [h1, List.getElem?_append_left oM] at hjr
   have := h2 j (List.mem_of_getElem? hjr)
   simpa using this
set_option maxRecDepth 20000 in
set_option maxHeartbeats 8000000 in
theorem lawRecv_run (n : Nw) (to now : Int) (b l : List Row) : ACalls Try.prog 6 [.agg ((eNw n).map .v), .v (.int .i64 to), .v (.int .i64 now)] b l (fun r b' l' => r = .v (.bool true) ∧ b' = b ∧ l' = l) := by
 refine calls_kept a_lawRecv_ok rfl (by decide) ?_
 intro B g hB hR hE hA
 simp only [KArgs] at hA
 have cV := fun b l => rnValid_spec n b l
 have cG := fun b l => great53_spec n b l
 have cR := fun b l => nRecv_spec n to b l
 have cO := fun b l => nGo_spec n now b l
 have cN := fun b l => none53_spec nw0 nw0_s b l
 have cZ := fun b l => sameM_z dfMs (by decide) b l
 rw [eqB_refl] at cN cZ
 unfold eNw at cV cG cR cO
 simp only [List.map_cons, List.map_nil] at cV cG cR cO
 change ∀ b l, ACalls Try.prog 32 [nwA nw0] b l _ at cN
 rw [nwA_open] at cN
 have e1 : ((1 : Int) == 1) = true := rfl
 have e2 : ((2 : Int) == 2) = true := rfl
 have e7 : ((7 : Int) == 7) = true := rfl
 have e0 : ((0 : Int) == 0) = true := rfl
 have n2 : ((2 : Int) != 2) = false := rfl
 have n0 : ((0 : Int) != 0) = false := rfl
 have n11 : ((11 : Int) != 11) = false := rfl
 simp (disch := (first | decide | omega)) only [a_lawRecv, hA, eNw, go_sem]
 refine ACalls.nxt (awake53_spec _ _) ?_
 simp (disch := (first | decide | omega)) only [hA, go_sem]
 refine ACalls.nxt (cG _ _) ?_
 cases hg : grB n
 case' true =>
  simp (disch := (first | decide | omega)) only [hA, go_sem]
  exact leave_pure (xs := [.v (.bool true)]) (.inr rfl) (by simp (disch := (first | decide | omega)) only [resVs, resV, go_sem, hA]) kO hR hB ⟨rfl, rfl, rfl⟩
 have hS := grB_s hg
 simp (disch := (first | decide | omega)) only [hA, go_sem]
 refine ACalls.nxt (cR _ _) ?_
 simp (disch := (first | decide | omega)) only [hA, nwA_open, eMs_open, setFrom, cellsOf, go_sem]
 refine ACalls.nxt (cO _ _) ?_
 simp (disch := (first | decide | omega)) only [hA, nwA_open, eMs_open, setFrom, cellsOf, go_sem]
 refine ACalls.nxt (cV _ _) ?_
 cases h1 : nwB n
 case' false =>
  have he : rcE n to = 1 := by unfold rcE; rw [h1]; rfl
  have hn : rcN n to = nw0 := by unfold rcN; rw [if_neg (by rw [he]; decide)]
  have hm : rcM n to = dfMs := by unfold rcM; rw [if_neg (by rw [he]; decide)]
  have hf : goE n now = 1 := by unfold goE; rw [h1]; rfl
  have hy : goN n now = nw0 := by unfold goN; rw [if_neg (by rw [hf]; decide)]
  rw [he, hn, hm, hf, hy]
  simp (disch := (first | decide | omega)) only [hA, e1, go_sem]
  refine ACalls.nxt (cN _ _) ?_
  simp (disch := (first | decide | omega)) only [hA, fillA, go_sem]
  refine ACalls.nxt (cZ _ _) ?_
  simp (disch := (first | decide | omega)) only [hA, e1, go_sem]
  refine ACalls.nxt (cN _ _) ?_
  simp (disch := (first | decide | omega)) only [hA, go_sem]
  exact leave_pure (xs := [.v (.bool true)]) (.inr rfl) (by simp (disch := (first | decide | omega)) only [resVs, resV, go_sem, hA]) kO hR hB ⟨rfl, rfl, rfl⟩
 have hv := nwB_iff.1 h1
 have hF := fun b l => rFirst_spec n to hS.l hv.len b l
 by_cases hnow : now < 0 ∨ 1099511627776 < now
 case' pos =>
  have hf : goE n now = 2 := by unfold goE; rw [if_pos h1, if_pos hnow]
  have hy : goN n now = nw0 := by unfold goN; rw [if_neg (by rw [hf]; decide)]
  rw [hf, hy]
  cases d2 : decide (now < 0)
  case' true =>
   simp (disch := (first | decide | omega)) only [hA, d2, n2, go_sem]
  case' false =>
   have h2 := of_decide_eq_false d2
   have d3 := decide_eq_true (show 1099511627776 < now by omega)
   simp (disch := (first | decide | omega)) only [hA, d2, d3, n2, go_sem]
  all_goals
   refine ACalls.nxt (cN _ _) ?_
   simp (disch := (first | decide | omega)) only [hA, go_sem]
   refine ACalls.nxt (hF _ _) ?_
   simp (disch := (first | decide | omega)) only [hA, go_sem]
 case' neg =>
  have d2 := decide_eq_false (show ¬ now < 0 by omega)
  have d3 := decide_eq_false (show ¬ 1099511627776 < now by omega)
  cases d4 : decide (now < n.now)
  case' true =>
   have h4 := of_decide_eq_true d4
   have hf : goE n now = 11 := by unfold goE; rw [if_pos h1, if_neg hnow, if_pos h4]
   have hy : goN n now = nw0 := by unfold goN; rw [if_neg (by rw [hf]; decide)]
   rw [hf, hy]
   simp (disch := (first | decide | omega)) only [hA, d2, d3, d4, n11, go_sem]
   refine ACalls.nxt (cN _ _) ?_
   simp (disch := (first | decide | omega)) only [hA, go_sem]
   refine ACalls.nxt (hF _ _) ?_
   simp (disch := (first | decide | omega)) only [hA, go_sem]
  case' false =>
   have h4 := of_decide_eq_false d4
   have hf : goE n now = 0 := by unfold goE; rw [if_pos h1, if_neg hnow, if_neg h4]
   have hy : goN n now = { n with now := now } := by unfold goN; rw [if_pos hf]
   rw [hf, hy]
   have cS := fun b l => sameN_spec { n with now := now } { n with now := now } ⟨hS.l, hS.tm, hS.fates, hS.body⟩ b l
   rw [eqB_refl] at cS
   unfold eNw at cS
   simp only [List.map_cons, List.map_nil] at cS
   simp (disch := (first | decide | omega)) only [hA, d2, d3, d4, n0, setFrom, cellsOf, go_sem]
   refine ACalls.nxt (cS _ _) ?_
   simp (disch := (first | decide | omega)) only [hA, go_sem]
   refine ACalls.nxt (hF _ _) ?_
   simp (disch := (first | decide | omega)) only [hA, go_sem]
 all_goals
  refine ACalls.nxt (rparty_spec to _ _) ?_
  cases h5 : ptB to
  case' false =>
   have he : rcE n to = 2 := by unfold rcE; rw [if_pos h1, h5]; rfl
   have hn : rcN n to = nw0 := by unfold rcN; rw [if_neg (by rw [he]; decide)]
   have hm : rcM n to = dfMs := by unfold rcM; rw [if_neg (by rw [he]; decide)]
   rw [he, hn, hm]
   simp (disch := (first | decide | omega)) only [hA, e2, go_sem]
   refine ACalls.nxt (cN _ _) ?_
   simp (disch := (first | decide | omega)) only [hA, fillA, go_sem]
   refine ACalls.nxt (cZ _ _) ?_
   simp (disch := (first | decide | omega)) only [hA, go_sem]
   exact leave_pure (xs := [.v (.bool true)]) (.inr rfl) (by simp (disch := (first | decide | omega)) only [resVs, resV, go_sem, hA]) kO hR hB ⟨rfl, rfl, rfl⟩
  by_cases h6 : fiR n to < 0
  case' pos =>
   have he : rcE n to = 7 := by unfold rcE; rw [if_pos h1, if_pos h5, if_pos h6]
   have hn : rcN n to = nw0 := by unfold rcN; rw [if_neg (by rw [he]; decide)]
   have hm : rcM n to = dfMs := by unfold rcM; rw [if_neg (by rw [he]; decide)]
   rw [he, hn, hm]
   have d6 := decide_eq_true h6
   simp (disch := (first | decide | omega)) only [hA, e7, d6, go_sem]
   refine ACalls.nxt (cN _ _) ?_
   simp (disch := (first | decide | omega)) only [hA, fillA, go_sem]
   refine ACalls.nxt (cZ _ _) ?_
   simp (disch := (first | decide | omega)) only [hA, go_sem]
   exact leave_pure (xs := [.v (.bool true)]) (.inr rfl) (by simp (disch := (first | decide | omega)) only [resVs, resV, go_sem, hA]) kO hR hB ⟨rfl, rfl, rfl⟩
  obtain ⟨k, hk, hkl, _⟩ := fiR_in (show 0 ≤ fiR n to by omega)
  have he : rcE n to = 0 := by unfold rcE; rw [if_pos h1, if_pos h5, if_neg h6]
  have hn : rcN n to = woN n k := by unfold rcN; rw [if_pos he, hk]; rfl
  have hm : rcM n to = n.l[k] := by unfold rcM; rw [if_pos he, hk]; exact getD_at hkl
  rw [he, hn, hm]
  have d6 : decide ((k : Int) < 0) = false := decide_eq_false oM
  have cW := fun b l => rWithout_spec n hv k hkl b l
  unfold eNw at cW
  simp only [List.map_cons, List.map_nil] at cW
  have cS2 := fun b l => sameN_spec (woN n k) (woN n k) (woN_s hS) b l
  have cM := fun b l => sameM_spec n.l[k] n.l[k] (hS.body _ (List.getElem_mem hkl)) b l
  rw [eqB_refl] at cS2 cM
  change ∀ b l, ACalls Try.prog 34 [nwA (woN n k), nwA (woN n k)] b l _ at cS2
  rw [nwA_open] at cS2
  have hmg := eMs_get hkl
  simp (disch := (first | decide | omega)) only [hA, hk, d6, e0, go_sem]
  refine ACalls.nxt (cW _ _) ?_
  simp (disch := (first | decide | omega)) only [hA, hk, nwA_open, go_sem]
  refine ACalls.nxt (cS2 _ _) ?_
  simp (disch := (first | decide | omega)) only [hA, hk, hmg, List.length_map, go_sem]
  refine ACalls.nxt (cM _ _) ?_
  simp (disch := (first | decide | omega)) only [hA, go_sem]
  exact leave_pure (xs := [.v (.bool true)]) (.inr rfl) (by simp (disch := (first | decide | omega)) only [resVs, resV, go_sem, hA]) kO hR hB ⟨rfl, rfl, rfl⟩
end Go.Proofs.Ytilcmenglgdljaa
