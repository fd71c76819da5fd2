/- Texts of one proof, laid together: NV. No condition. -/
import Derived.Test.YtilcmenglgdljaaNA9
namespace Go.Proofs.Ytilcmenglgdljaa
set_option linter.unusedVariables false
set_option linter.unusedSimpArgs false
attribute [local go_sem ↓] run_skip run_region run_draw run_seq run_block run_exit run_ret run_cond atN_app seqC_normal seqC_exit seqC_ret seqQ_normal seqQ_exit seqQ_ret blkQ_normal blkQ_exit blkQ_ret runOps_nil runOps_cons runD_nil runD_cons grdO_true grdO_false grdD_true grdD_false ifC_true ifC_false opS_val opS_call opS_two opK_app dS_val dS_call dS_two dK_app kUp_same kUp_ne
attribute [local go_sem] rechks_nil rechks_cons rechk gcase_true gcase_false ex_val ex_val0 gd_none gd_some ev_t ev_c evs_nil evs_cons evo_some evo_none hget_at hget_first hsetB_at hsetB_first hsetL_at hsetL_first ofOpt_some aop aload astore aslice aappend aiaddr aiaddrA afaddr alen alenS acopy amm acall alookup amupdate alenM comma keyEq apick binV binVB binVS isSh intOp strOp boolOp shOp eqC eqF and2 cellsOf setFrom fillA fillS rd rdI elems mk bounds AV.cell List.all_cons List.all_nil Bool.and_true Bool.true_and Bool.and_self List.length_cons List.length_nil List.length_append Nat.reduceAdd Nat.reduceSub Nat.reduceMul Nat.zero_add Nat.add_zero List.cons_append List.nil_append List.append_assoc List.append_nil List.getElem?_cons_zero List.getElem?_cons_succ List.getElem?_nil List.set_cons_zero List.set_cons_succ List.drop_zero List.drop_succ_cons List.take_zero List.take_succ_cons List.take_nil List.drop_nil List.map_cons List.map_nil Option.map_some if_true if_false Bool.false_eq_true and_self true_and and_true Nat.reduceLeDiff Nat.reduceLT Nat.le_refl Nat.reduceEqDiff ite_true ite_false beq_self_eq_true beq_true beq_false Bool.not_true Bool.not_false Bool.true_beq Bool.false_beq map_vs vs_len vs_get vs_take vs_drop vs_snoc1 vs_snoc2 vs_snoc3 vs_snoc5 vs_set1 vs_set2 vs_rep wrap_id le_T lt_T le_F lt_F leI_T ltI_T leI_F ltI_F geI gtI get_T decide_true decide_false room List.getElem?_map List.length_map List.length_take Int.toNat_natCast Nat.min_def Nat.min_self nth_kOf put_kOf put_kNo kOv_cons kOv_nil KHas KArgs List.getElem_cons_zero List.getElem_cons_succ
def a_lawStates : AFunc := ⟨4,140,[.tmp 8],(.seq (.region [⟨some 6,.box (.t 2),none⟩,⟨some 8,.mv (.c (.v (.bool false))),none⟩]) (.seq (.seq (.region [⟨some 15,.call (.c (.fn 27 [])) [],none⟩,⟨some 16,.not (.t 15),none⟩]) (.cond (.t 16) (.seq (.region [⟨some 8,.mv (.c (.v (.bool false))),none⟩]) .ret) .skip)) (.seq (.seq (.region [⟨some 17,.load (some 5) (.t 6),none⟩,⟨some 18,.call (.c (.fn 28 [])) [(.t 17)],none⟩,⟨some 19,.mv (.t 18),none⟩,⟨some 20,.mv (.t 1),some (19,false)⟩,⟨some 21,.len (.t 20),some (19,false)⟩,⟨some 22,.bin .gtr (.t 21) (.c (.v (.int .i64 60))),some (19,false)⟩,⟨some 23,.mv (.t 22),some (19,false)⟩,⟨some 24,.mv (.t 1),some (23,true)⟩,⟨some 25,.len (.t 24),some (23,true)⟩,⟨some 26,.bin .leq (.t 25) (.c (.v (.int .i64 1000))),some (23,true)⟩,⟨some 27,.pick (.t 23) (.t 26) (.c (.v (.bool false))),some (19,false)⟩,⟨some 28,.pick (.t 19) (.c (.v (.bool true))) (.t 27),none⟩,⟨some 29,.mv (.t 28),none⟩,⟨some 30,.mv (.t 1),some (29,false)⟩,⟨some 31,.len (.t 30),some (29,false)⟩,⟨some 32,.bin .gtr (.t 31) (.c (.v (.int .i64 1100))),some (29,false)⟩,⟨some 33,.pick (.t 29) (.c (.v (.bool true))) (.t 32),none⟩]) (.cond (.t 33) (.seq (.region [⟨some 8,.mv (.c (.v (.bool true))),none⟩]) .ret) .skip)) (.seq (.region [⟨some 35,.mv (.t 0),none⟩,⟨some 36,.mv (.t 1),none⟩,⟨some 37,.call (.c (.fn 41 [])) [(.t 35),(.t 36)],none⟩,⟨some 34,.mv (.t 37),none⟩,⟨some 38,.extract 0 (.t 34),none⟩,⟨some 39,.extract 1 (.t 34),none⟩,⟨some 9,.alloc [(.v (.int .i64 0)),(.v (.bool false)),(.v .zsl),(.v .zsl),(.v .zsl)],none⟩,⟨none,.store 5 (.t 9) (.t 38),none⟩,⟨some 10,.mv (.t 39),none⟩]) (.seq (.block 0 (.seq (.region [⟨some 41,.mv (.t 1),none⟩,⟨some 42,.len (.t 41),none⟩,⟨some 43,.bin .gtr (.t 42) (.c (.v (.int .i64 1000))),none⟩,⟨some 40,.mv (.t 43),none⟩]) (.cond (.t 40) (.seq (.region [⟨some 44,.mv (.t 10),none⟩,⟨some 45,.bin .neq (.t 44) (.c (.v (.int .i64 5))),none⟩,⟨some 46,.mv (.t 45),none⟩,⟨some 47,.load (some 5) (.t 9),some (46,false)⟩,⟨some 48,.call (.c (.fn 32 [])) [(.t 47)],some (46,false)⟩,⟨some 49,.not (.t 48),some (46,false)⟩,⟨some 50,.pick (.t 46) (.c (.v (.bool true))) (.t 49),none⟩]) (.cond (.t 50) (.seq (.region [⟨some 8,.mv (.c (.v (.bool false))),none⟩]) .ret) .skip)) (.seq (.region [⟨some 52,.mv (.t 1),none⟩,⟨some 53,.call (.c (.fn 42 [])) [(.t 52)],none⟩,⟨some 54,.not (.t 53),none⟩,⟨some 51,.mv (.t 54),none⟩]) (.cond (.t 51) (.seq (.region [⟨some 55,.mv (.t 10),none⟩,⟨some 56,.bin .neq (.t 55) (.c (.v (.int .i64 1))),none⟩,⟨some 57,.mv (.t 56),none⟩,⟨some 58,.load (some 5) (.t 9),some (57,false)⟩,⟨some 59,.call (.c (.fn 32 [])) [(.t 58)],some (57,false)⟩,⟨some 60,.not (.t 59),some (57,false)⟩,⟨some 61,.pick (.t 57) (.c (.v (.bool true))) (.t 60),none⟩]) (.cond (.t 61) (.seq (.region [⟨some 8,.mv (.c (.v (.bool false))),none⟩]) .ret) .skip)) (.seq (.region [⟨some 63,.mv (.t 10),none⟩,⟨some 64,.bin .neq (.t 63) (.c (.v (.int .i64 0))),none⟩,⟨some 65,.mv (.t 64),none⟩,⟨some 66,.load (some 5) (.t 9),some (65,false)⟩,⟨some 67,.mv (.t 0),some (65,false)⟩,⟨some 68,.mv (.t 1),some (65,false)⟩,⟨some 69,.build [(.v (.int .i64 0)),(.v (.bool false)),(.v .zsl),(.v .zsl),(.v .zsl)] [(1,1,(.t 67)),(4,1,(.t 68))],some (65,false)⟩,⟨some 70,.call (.c (.fn 34 [])) [(.t 66),(.t 69)],some (65,false)⟩,⟨some 71,.not (.t 70),some (65,false)⟩,⟨some 72,.pick (.t 65) (.c (.v (.bool true))) (.t 71),none⟩,⟨some 62,.mv (.t 72),none⟩]) (.cond (.t 62) (.seq (.region [⟨some 8,.mv (.c (.v (.bool false))),none⟩]) .ret) .skip))))))) (.seq (.region [⟨some 73,.load (some 5) (.t 6),none⟩,⟨some 74,.call (.c (.fn 30 [])) [(.t 73)],none⟩,⟨some 11,.mv (.t 74),none⟩]) (.seq (.region [⟨some 76,.load (some 5) (.t 6),none⟩,⟨some 77,.call (.c (.fn 43 [])) [(.t 76)],none⟩,⟨some 75,.mv (.t 77),none⟩,⟨some 78,.extract 0 (.t 75),none⟩,⟨some 79,.extract 1 (.t 75),none⟩,⟨some 12,.mv (.t 78),none⟩,⟨some 13,.mv (.t 79),none⟩]) (.seq (.seq (.region [⟨some 80,.load (some 5) (.t 6),none⟩,⟨some 81,.call (.c (.fn 44 [])) [(.t 80)],none⟩,⟨some 82,.mv (.t 11),none⟩,⟨some 83,.binB .neq (.t 81) (.t 82),none⟩]) (.cond (.t 83) (.seq (.region [⟨some 8,.mv (.c (.v (.bool false))),none⟩]) .ret) .skip)) (.seq (.seq (.region [⟨some 84,.mv (.t 11),none⟩,⟨some 85,.not (.t 84),none⟩]) (.cond (.t 85) (.seq (.region [⟨some 86,.load (some 5) (.t 6),none⟩,⟨some 87,.mv (.t 3),none⟩,⟨some 88,.call (.c (.fn 45 [])) [(.t 86),(.t 87)],none⟩,⟨some 89,.bin .eql (.t 88) (.c (.v (.int .i64 0))),none⟩,⟨some 90,.mv (.t 89),none⟩,⟨some 91,.mv (.t 12),some (90,true)⟩,⟨some 92,.bin .eql (.t 91) (.c (.v (.int .i64 0))),some (90,true)⟩,⟨some 93,.pick (.t 90) (.t 92) (.c (.v (.bool false))),none⟩,⟨some 94,.mv (.t 93),none⟩,⟨some 95,.mv (.t 13),some (94,true)⟩,⟨some 96,.not (.t 95),some (94,true)⟩,⟨some 97,.pick (.t 94) (.t 96) (.c (.v (.bool false))),none⟩,⟨some 8,.mv (.t 97),none⟩]) .ret) .skip)) (.seq (.region [⟨some 98,.faddr 3 (.t 6),none⟩,⟨some 99,.load none (.t 98),none⟩,⟨some 100,.mkfn 47 [(.t 6)],none⟩,⟨some 101,.call (.c (.fn 46 [])) [(.t 99),(.t 100)],none⟩,⟨some 14,.mv (.t 101),none⟩]) (.seq (.seq (.region [⟨some 102,.mv (.t 13),none⟩,⟨some 103,.mv (.t 14),none⟩,⟨some 104,.bin .geq (.t 103) (.c (.v (.int .i64 0))),none⟩,⟨some 105,.binB .neq (.t 102) (.t 104),none⟩,⟨some 106,.mv (.t 105),none⟩,⟨some 107,.mv (.t 13),some (106,false)⟩,⟨some 108,.mv (.t 107),some (106,false)⟩,⟨some 109,.mv (.t 12),some (108,true)⟩,⟨some 110,.faddr 3 (.t 6),some (108,true)⟩,⟨some 111,.load none (.t 110),some (108,true)⟩,⟨some 112,.mv (.t 14),some (108,true)⟩,⟨some 113,.iaddr 1 (.t 111) (.t 112),some (108,true)⟩,⟨some 114,.load none (.t 113),some (108,true)⟩,⟨some 115,.bin .neq (.t 109) (.t 114),some (108,true)⟩,⟨some 116,.pick (.t 108) (.t 115) (.c (.v (.bool false))),some (106,false)⟩,⟨some 117,.pick (.t 106) (.c (.v (.bool true))) (.t 116),none⟩,⟨some 118,.mv (.t 117),none⟩,⟨some 119,.mv (.t 13),some (118,false)⟩,⟨some 120,.not (.t 119),some (118,false)⟩,⟨some 121,.mv (.t 120),some (118,false)⟩,⟨some 122,.mv (.t 12),some (121,true)⟩,⟨some 123,.bin .neq (.t 122) (.c (.v (.int .i64 0))),some (121,true)⟩,⟨some 124,.pick (.t 121) (.t 123) (.c (.v (.bool false))),some (118,false)⟩,⟨some 125,.pick (.t 118) (.c (.v (.bool true))) (.t 124),none⟩]) (.cond (.t 125) (.seq (.region [⟨some 8,.mv (.c (.v (.bool false))),none⟩]) .ret) .skip)) (.seq (.seq (.region [⟨some 126,.mv (.t 3),none⟩,⟨some 127,.call (.c (.fn 39 [])) [(.t 126)],none⟩,⟨some 128,.not (.t 127),none⟩]) (.cond (.t 128) (.seq (.region [⟨some 129,.load (some 5) (.t 6),none⟩,⟨some 130,.mv (.t 3),none⟩,⟨some 131,.call (.c (.fn 45 [])) [(.t 129),(.t 130)],none⟩,⟨some 132,.bin .eql (.t 131) (.c (.v (.int .i64 0))),none⟩,⟨some 8,.mv (.t 132),none⟩]) .ret) .skip)) (.seq (.draw [⟨0,⟨some 133,.load (some 5) (.t 6),none⟩,[]⟩,⟨1,⟨some 134,.mv (.t 3),none⟩,[]⟩,⟨3,⟨some 136,.load (some 5) (.t 6),none⟩,[]⟩,⟨4,⟨some 137,.mv (.t 3),none⟩,[]⟩,⟨2,⟨some 135,.call (.c (.fn 45 [])) [(.t 133),(.t 134)],none⟩,[⟨some 136,.load (some 5) (.t 6),none⟩,⟨some 137,.mv (.t 3),none⟩]⟩,⟨5,⟨some 138,.call (.c (.fn 48 [])) [(.t 136),(.t 137)],none⟩,[]⟩,⟨6,⟨some 139,.bin .eql (.t 135) (.t 138),none⟩,[]⟩,⟨7,⟨some 8,.mv (.t 139),none⟩,[]⟩]) .ret)))))))))))))⟩
theorem a_lawStates_ok : cFunc Try.prog 7 = some a_lawStates := by kernel_rfl
def a_lawStatesC : AFunc := ⟨2,8,[.tmp 3],(.seq (.region [⟨some 3,.mv (.c (.v (.bool false))),none⟩]) (.seq (.region [⟨some 4,.mv (.t 0),none⟩,⟨some 5,.faddr 0 (.t 1),none⟩,⟨some 6,.load none (.t 5),none⟩,⟨some 7,.bin .gtr (.t 4) (.t 6),none⟩,⟨some 3,.mv (.t 7),none⟩]) .ret))⟩
theorem a_lawStatesC_ok : cFunc Try.prog 47 = some a_lawStatesC := by kernel_rfl

theorem leN_lo {l : List Int} {a : Int} : ∀ {j : Nat}, j < leN l a → l.getD j 0 ≤ a := by
 induction l with
 | nil => intro j h; simp [leN] at h
 | cons x l ih =>
   intro j h
   unfold leN at h
   rw [List.takeWhile_cons] at h
   split at h
   ·rename_i hx
    cases j with
    | zero => simpa using hx
    | succ j =>
      have : j < leN l a := by unfold leN; simpa using h
      simpa using ih this
   ·simp at h
theorem leN_hi {l : List Int} {a : Int} : leN l a < l.length → a < l.getD (leN l a) 0 := by
 induction l with
 | nil => intro h; simp at h
 | cons x l ih =>
   intro h
   by_cases hx : x ≤ a
   ·have e : leN (x :: l) a = leN l a + 1 := by unfold leN; rw [List.takeWhile_cons, if_pos (by simpa using hx)]; rfl
    rw [e] at h ⊢
    have := ih (by simpa using h)
    simpa using this
   ·have e : leN (x :: l) a = 0 := by unfold leN; rw [List.takeWhile_cons, if_neg (by simpa using hx)]; rfl
    rw [e]
    simp; omega
theorem later_eq {n : Nw} : firstP (fun i => decide (n.now < n.tm.getD i 0)) n.tm.length = if leN n.tm n.now < n.tm.length then (leN n.tm n.now : Int) else -1 := by
 split
 ·rename_i h
  exact firstP_at h (fun j hj => decide_eq_false (by have := leN_lo hj; omega)) (decide_eq_true (leN_hi h))
 ·rename_i h
  have hle := leN_le (l := n.tm) (a := n.now)
  exact firstP_none (fun j hj => decide_eq_false (by have := leN_lo (l := n.tm) (a := n.now) (j := j) oM; omega))
theorem lawStatesC_spec (n : Nw) (t : Int) (b l : List Row) (id : Nat) (hid : (b ++ l)[id]? = some (nwRow n)) : ACalls Try.prog 47 [.v (.int .i64 t), .ptr id 0 0 0] b l (fun r b' l' => r = .v (.bool (decide (n.now < t))) ∧ b' = b ∧ l' = l) := by
 refine calls_kept a_lawStatesC_ok rfl (by decide) ?_
 intro B g hB hR hE hA
 simp only [KArgs] at hA
 have hg := fun l => hget_low0 (l := l) (hB.symm ▸ hid : B[id]? = some (nwRow n))
 unfold nwRow at hg
 cases h : decide (n.now < t)
 ·simp (disch := (first | decide | omega)) only [a_lawStatesC, hA, hg, h, go_sem]
  exact leave_pure (xs := [.v (.bool false)]) (.inr rfl) (by simp (disch := (first | decide | omega)) only [resVs, resV, go_sem, hA]) kO hR hB ⟨rfl, rfl, rfl⟩
 ·simp (disch := (first | decide | omega)) only [a_lawStatesC, hA, hg, h, go_sem]
  exact leave_pure (xs := [.v (.bool true)]) (.inr rfl) (by simp (disch := (first | decide | omega)) only [resVs, resV, go_sem, hA]) kO hR hB ⟨rfl, rfl, rfl⟩
theorem sameN_new (fifo : Bool) (v : List (Int × Int)) (hn : v.length ≤ 1000000) (b l : List Row) : ACalls Try.prog 34 [nwA ⟨0, fifo, [], [], v⟩, .agg [.v (.int .i64 0), .v (.bool fifo), .v .zsl, .v .zsl, .v (.isl 2 (v.map eFt))]] b l (fun r b' l' => r = .v (.bool true) ∧ b' = b ∧ l' = l) := by
 have h := sameN_spec ⟨0, fifo, [], [], v⟩ ⟨0, fifo, [], [], v⟩ ⟨by simp, by simp, hn, fun m hm => by cases hm⟩ b l
 rw [eqB_refl] at h
 refine h.le rfl (fun i x y hx hy => ?_)
 match i, hx, hy with
 | 0, hx, hy => cases hx; cases hy; exact .refl _
 | 1, hx, hy =>
   cases hx; cases hy
   refine .agg _ _ rfl (fun j u v hu hv => ?_)
   match j, hu, hv with
   | 0, hu, hv => cases hu; cases hv; exact .refl _
   | 1, hu, hv => cases hu; cases hv; exact .refl _
   | 2, hu, hv => cases hu; cases hv; exact .v _ _ (.zsl 4)
   | 3, hu, hv => cases hu; cases hv; exact .v _ _ (.zsl 1)
   | 4, hu, hv => cases hu; cases hv; exact .refl _
set_option maxRecDepth 20000 in
set_option maxHeartbeats 8000000 in
theorem lawStates_run (fifo : Bool) (v : List (Int × Int)) (n : Nw) (to : Int) (b l : List Row) : ACalls Try.prog 7 [.v (.bool fifo), .v (.isl 2 (v.map eFt)), .agg ((eNw n).map .v), .v (.int .i64 to)] b l (fun r b' l' => r = .v (.bool true) ∧ b' = b ∧ l' = l) := by
 refine calls_kept a_lawStates_ok rfl (by decide) ?_
 intro B g hB hR hE hA
 simp only [KArgs] at hA
 have cV := fun b l => rnValid_spec n b l
 have cV2 := fun b l => nValid_spec n b l
 have cG := fun b l => great53_spec n b l
 have cX := fun b l => nNext_spec n b l
 have cW := fun to b l => nWait_spec n to b l
 have cN := fun b l => none53_spec nw0 nw0_s b l
 rw [eqB_refl] at cN
 unfold eNw at cV cV2 cG cX cW
 simp only [List.map_cons, List.map_nil] at cV cV2 cG cX cW
 change ∀ b l, ACalls Try.prog 32 [nwA nw0] b l _ at cN
 rw [nwA_open] at cN
 have n5 : ((5 : Int) != 5) = false := rfl
 have n1 : ((1 : Int) != 1) = false := rfl
 have n0 : ((0 : Int) != 0) = false := rfl
 have e0 : ((0 : Int) == 0) = true := rfl
 simp (disch := (first | decide | omega)) only [a_lawStates, hA, eNw, go_sem]
 refine ACalls.nxt (awake53_spec _ _) ?_
 simp (disch := (first | decide | omega)) only [hA, go_sem]
 refine ACalls.nxt (cG _ _) ?_
 cases hg : grB n
 case' true =>
  simp (disch := (first | decide | omega)) only [hA, go_sem]
  exact leave_pure (xs := [.v (.bool true)]) (.inr rfl) (by simp (disch := (first | decide | omega)) only [resVs, resV, go_sem, hA]) kO hR hB ⟨rfl, rfl, rfl⟩
 have hS := grB_s hg
 have T : ∀ {p : Prop} [Decidable p], p → decide p = true := fun h => decide_eq_true h
 have F : ∀ {p : Prop} [Decidable p], ¬ p → decide p = false := fun h => decide_eq_false h
 by_cases hlen : (60 < v.length ∧ v.length ≤ 1000) ∨ 1100 < v.length
 case' pos =>
  cases d1 : decide ((60 : Int) < (v.length : Int))
  case' false =>
   have := of_decide_eq_false d1
   have d3 : decide ((1100 : Int) < (v.length : Int)) = true := T oM
   simp (disch := (first | decide | omega)) only [hA, d1, d3, List.length_map, go_sem]
  case' true =>
   cases d2 : decide ((v.length : Int) ≤ 1000)
   case' false =>
    have := of_decide_eq_false d2
    have d3 : decide ((1100 : Int) < (v.length : Int)) = true := T oM
    simp (disch := (first | decide | omega)) only [hA, d1, d2, d3, List.length_map, go_sem]
   case' true =>
    simp (disch := (first | decide | omega)) only [hA, d1, d2, List.length_map, go_sem]
  all_goals
   exact leave_pure (xs := [.v (.bool true)]) (.inr rfl) (by simp (disch := (first | decide | omega)) only [resVs, resV, go_sem, hA]) kO hR hB ⟨rfl, rfl, rfl⟩
 have d3 : decide ((1100 : Int) < (v.length : Int)) = false := F oM
 cases d1 : decide ((60 : Int) < (v.length : Int))
 case' false =>
  simp (disch := (first | decide | omega)) only [hA, d1, d3, List.length_map, go_sem]
 case' true =>
  have := of_decide_eq_true d1
  have d2 : decide ((v.length : Int) ≤ 1000) = false := F oM
  simp (disch := (first | decide | omega)) only [hA, d1, d2, d3, List.length_map, go_sem]
 all_goals
  refine ACalls.nxt (nNew_spec fifo v _ _) ?_
  by_cases h4 : (1000 : Int) < (v.length : Int)
  case' pos =>
   have d4 := decide_eq_true h4
   have he : newE v = 5 := if_pos oM
   have hr : newR fifo v = nw0 := by unfold newR; rw [he]; rfl
   rw [he, hr]
   simp (disch := (first | decide | omega)) only [hA, d4, n5, nwA_open, List.length_map, setFrom, cellsOf, go_sem]
   refine ACalls.nxt (cN _ _) ?_
   simp (disch := (first | decide | omega)) only [hA, go_sem]
  case' neg =>
   first
    | (exfalso; omega)
    | (have d4 := decide_eq_false h4
       have hfs := fun b l => rfates_spec v oM b l
       cases h5 : ftsB v
       case' false =>
        have he : newE v = 1 := by unfold newE; rw [if_neg oM, h5]; rfl
        have hr : newR fifo v = nw0 := by unfold newR; rw [he]; rfl
        rw [he, hr]
        rw [h5] at hfs
        simp (disch := (first | decide | omega)) only [hA, d4, n1, nwA_open, List.length_map, setFrom, cellsOf, go_sem]
        refine ACalls.nxt (hfs _ _) ?_
        simp (disch := (first | decide | omega)) only [hA, n1, go_sem]
        refine ACalls.nxt (cN _ _) ?_
        simp (disch := (first | decide | omega)) only [hA, go_sem]
       case' true =>
        have he : newE v = 0 := by unfold newE; rw [if_neg oM, h5]; rfl
        have hr : newR fifo v = ⟨0, fifo, [], [], v⟩ := by unfold newR; rw [if_pos he]
        have cS := fun b l => sameN_new fifo v oM b l
        rw [he, hr]
        rw [h5] at hfs
        rw [nwA_open] at cS
        simp (disch := (first | decide | omega)) only [hA, d4, n0, nwA_open, List.length_map, setFrom, cellsOf, go_sem]
        refine ACalls.nxt (hfs _ _) ?_
        simp (disch := (first | decide | omega)) only [hA, n0, fillA, setFrom, cellsOf, go_sem]
        refine ACalls.nxt (cS _ _) ?_
        simp (disch := (first | decide | omega)) only [hA, go_sem])
  all_goals
   refine ACalls.nxt (cV _ _) ?_
   simp (disch := (first | decide | omega)) only [hA, go_sem]
   refine ACalls.nxt (cX _ _) ?_
   simp (disch := (first | decide | omega)) only [hA, go_sem]
   refine ACalls.nxt (cV2 _ _) ?_
   cases h1 : nwB n
   case' false =>
    have hx : nextN n = (0, false) := by unfold nextN; rw [if_neg (fun h => by rw [h1] at h; cases h.1)]
    have hw : waitN n to = 0 := by unfold waitN; rw [if_neg (fun h => by rw [h1] at h; cases h.1)]
    have cW := cW to
    rw [hw] at cW
    have c0 : (((0 : Nat) : Int) == 0) = true := rfl
    rw [hx]
    simp (disch := (first | decide | omega)) only [hA, go_sem]
    refine ACalls.nxt (cW _ _) ?_
    simp (disch := (first | decide | omega)) only [hA, c0, e0, go_sem]
    exact leave_pure (xs := [.v (.bool true)]) (.inr rfl) (by simp (disch := (first | decide | omega)) only [resVs, resV, go_sem, hA]) kO hR hB ⟨rfl, rfl, rfl⟩
   have hv := nwB_iff.1 h1
   have hvl := hv.len
   have hvs := hv.l
   have hin := fun b l (hb : (b ++ l)[B.length]? = some (nwRow n)) => index1_spec n.tm 47 [.ptr B.length 0 0 0] (fun i => decide (n.now < n.tm.getD i 0)) oM b l (fun i hi => by
    have := lawStatesC_spec n n.tm[i] (b ++ l) [] B.length (by rw [List.append_nil]; exact hb)
    rw [getD_at hi]
    exact this)
   rw [later_eq] at hin
   simp (disch := (first | decide | omega)) only [hA, go_sem]
   refine ACalls.nxt (hin _ _ (by rw [List.getElem?_append_right (Nat.le_refl _), Nat.sub_self]; rfl)) ?_
   by_cases hls : leN n.tm n.now < n.tm.length
   case' pos =>
    have hx : nextN n = (n.tm.getD (leN n.tm n.now) 0, true) := by unfold nextN; rw [if_pos ⟨h1, hls⟩]
    rw [hx, if_pos hls]
    have dg : decide ((0 : Int) ≤ (leN n.tm n.now : Int)) = true := T oM
    have htg := eI_get hls
    have hne : (n.tm.getD (leN n.tm n.now) 0 != n.tm.getD (leN n.tm n.now) 0) = false := by simp
    simp (disch := (first | decide | omega)) only [hA, dg, htg, hne, List.length_map, go_sem]
   case' neg =>
    have hx : nextN n = (0, false) := by unfold nextN; rw [if_neg (fun h => hls h.2)]
    rw [hx, if_neg hls]
    have dg : decide ((0 : Int) ≤ -1) = false := rfl
    simp (disch := (first | decide | omega)) only [hA, dg, n0, go_sem]
   all_goals
    refine ACalls.nxt (rparty_spec to _ _) ?_
    cases hp : ptB to
    case' false =>
     have hw : waitN n to = 0 := by unfold waitN; rw [if_neg (fun h => by rw [hp] at h; cases h.2)]
     have cW := cW to
     rw [hw] at cW
     have c0 : (((0 : Nat) : Int) == 0) = true := rfl
     simp (disch := (first | decide | omega)) only [hA, go_sem]
     refine ACalls.nxt (cW _ _) ?_
     simp (disch := (first | decide | omega)) only [hA, c0, go_sem]
     exact leave_pure (xs := [.v (.bool true)]) (.inr rfl) (by simp (disch := (first | decide | omega)) only [resVs, resV, go_sem, hA]) kO hR hB ⟨rfl, rfl, rfl⟩
    have hw : waitN n to = wtN n to n.l.length := by unfold waitN; rw [if_pos ⟨h1, hp⟩]
    have cW := cW to
    rw [hw] at cW
    have hq : ∀ x : Int, (x == x) = true := fun x => by simp
    simp (disch := (first | decide | omega)) only [hA, go_sem]
    refine ACalls.nxt (cW _ _) ?_
    simp (disch := (first | decide | omega)) only [hA, go_sem]
    refine ACalls.nxt (rWaiting_spec n to hS.l hv.len _ _) ?_
    simp (disch := (first | decide | omega)) only [hA, hq, go_sem]
    exact leave_pure (xs := [.v (.bool true)]) (.inr rfl) (by simp (disch := (first | decide | omega)) only [resVs, resV, go_sem, hA]) kO hR hB ⟨rfl, rfl, rfl⟩
end Go.Proofs.Ytilcmenglgdljaa
