/- Texts of one proof, laid together: ZL. No condition. -/
import Derived.Test.YtanblnhnfkeffaaTF19
import Derived.Test.YtanblnhnfkeffaaTF17
import Derived.Test.YtanblnhnfkeffaaTE12
import Derived.Test.YtanblnhnfkeffaaTC8
import Derived.Test.YtanblnhnfkeffaaTE10
namespace Go.Proofs.Ytanblnhnfkeffaa
set_option linter.unusedVariables false
set_option linter.unusedSimpArgs false
attribute [local go_sem ↓] run_skip run_region run_draw run_both run_seq run_block run_exit run_ret run_cond atN_app seqC_normal seqC_exit seqC_ret seqQ_normal seqQ_exit seqQ_ret blkQ_normal blkQ_exit blkQ_ret runOps_nil runOps_cons runD_nil runD_cons grdO_true grdO_false grdD_true grdD_false ifC_true ifC_false opS_val opS_call opS_two opK_app dS_val dS_call dS_two dK_app kUp_same kUp_ne
attribute [local go_sem] rechks_nil rechks_cons rechk gcase_true gcase_false ex_val ex_val0 gd_none gd_some ev_t ev_c evs_nil evs_cons evo_some evo_none hget_at hget_first hsetB_at hsetB_first hsetL_at hsetL_first ofOpt_some aop aload astore aslice aappend aiaddr aiaddrA afaddr alen alenS acopy amm acall alookup amupdate alenM atostr aappz comma keyEq apick binV binVB binVS isSh intOp strOp boolOp shOp eqC eqF and2 cellsOf setFrom fillA fillS rd rdI elems mk bounds AV.cell List.all_cons List.all_nil Bool.and_true Bool.true_and Bool.and_self List.length_cons List.length_nil List.length_append Nat.reduceAdd Nat.reduceSub Nat.reduceMul Nat.zero_add Nat.add_zero List.cons_append List.nil_append List.append_assoc List.append_nil List.getElem?_cons_zero List.getElem?_cons_succ List.getElem?_nil List.set_cons_zero List.set_cons_succ List.drop_zero List.drop_succ_cons List.take_zero List.take_succ_cons List.take_nil List.drop_nil List.map_cons List.map_nil Option.map_some if_true if_false Bool.false_eq_true and_self true_and and_true Nat.reduceLeDiff Nat.reduceLT Nat.le_refl Nat.reduceEqDiff ite_true ite_false beq_self_eq_true beq_true beq_false Bool.not_true Bool.not_false Bool.true_beq Bool.false_beq map_vs vs_len vs_get vs_take vs_drop vs_snoc1 vs_snoc2 vs_snoc3 vs_snoc5 vs_set1 vs_set2 vs_rep wrap_id le_T lt_T le_F lt_F leI_T ltI_T leI_F ltI_F geI gtI get_T decide_true decide_false room List.getElem?_map List.length_map List.length_take Int.toNat_natCast Nat.min_def Nat.min_self nth_kOf put_kOf put_kNo kOv_cons kOv_nil KHas KArgs List.getElem_cons_zero List.getElem_cons_succ
def a_great21 : AFunc := ⟨1,12,[.tmp 2],(.seq (.region [⟨some 1,.box (.t 0),none⟩,⟨some 2,.mv (.c (.v (.bool false))),none⟩]) (.seq (.region [⟨some 3,.faddr 0 (.t 1),none⟩,⟨some 4,.load none (.t 3),none⟩,⟨some 5,.len (.t 4),none⟩,⟨some 6,.bin .gtr (.t 5) (.c (.v (.int .i64 20))),none⟩,⟨some 7,.mv (.t 6),none⟩,⟨some 8,.faddr 0 (.t 1),some (7,false)⟩,⟨some 9,.load none (.t 8),some (7,false)⟩,⟨some 10,.call (.c (.fn 101 [])) [(.t 9),(.c (.fn 102 []))],some (7,false)⟩,⟨some 11,.pick (.t 7) (.c (.v (.bool true))) (.t 10),none⟩,⟨some 2,.mv (.t 11),none⟩]) .ret))⟩
theorem a_great21_ok : cFunc Try.prog 34 = some a_great21 := by kernel_rfl
def a_great21P : AFunc := ⟨1,29,[.tmp 2],(.seq (.region [⟨some 1,.box (.t 0),none⟩,⟨some 2,.mv (.c (.v (.bool false))),none⟩]) (.seq (.region [⟨some 3,.faddr 0 (.t 1),none⟩,⟨some 4,.load none (.t 3),none⟩,⟨some 5,.lenS (.t 4),none⟩,⟨some 6,.bin .gtr (.t 5) (.c (.v (.int .i64 100))),none⟩,⟨some 7,.mv (.t 6),none⟩,⟨some 8,.faddr 2 (.t 1),some (7,false)⟩,⟨some 9,.load none (.t 8),some (7,false)⟩,⟨some 10,.len (.t 9),some (7,false)⟩,⟨some 11,.bin .gtr (.t 10) (.c (.v (.int .i64 80))),some (7,false)⟩,⟨some 12,.pick (.t 7) (.c (.v (.bool true))) (.t 11),none⟩,⟨some 13,.mv (.t 12),none⟩,⟨some 14,.faddr 1 (.t 1),some (13,false)⟩,⟨some 15,.load none (.t 14),some (13,false)⟩,⟨some 16,.len (.t 15),some (13,false)⟩,⟨some 17,.bin .gtr (.t 16) (.c (.v (.int .i64 20))),some (13,false)⟩,⟨some 18,.pick (.t 13) (.c (.v (.bool true))) (.t 17),none⟩,⟨some 19,.mv (.t 18),none⟩,⟨some 20,.faddr 1 (.t 1),some (19,false)⟩,⟨some 21,.load none (.t 20),some (19,false)⟩,⟨some 22,.call (.c (.fn 73 [])) [(.t 21),(.c (.fn 103 []))],some (19,false)⟩,⟨some 23,.pick (.t 19) (.c (.v (.bool true))) (.t 22),none⟩,⟨some 24,.mv (.t 23),none⟩,⟨some 25,.faddr 2 (.t 1),some (24,false)⟩,⟨some 26,.load none (.t 25),some (24,false)⟩,⟨some 27,.call (.c (.fn 75 [])) [(.t 26),(.c (.fn 104 []))],some (24,false)⟩,⟨some 28,.pick (.t 24) (.c (.v (.bool true))) (.t 27),none⟩,⟨some 2,.mv (.t 28),none⟩]) .ret))⟩
theorem a_great21P_ok : cFunc Try.prog 102 = some a_great21P := by kernel_rfl
def a_great21V : AFunc := ⟨1,7,[.tmp 2],(.seq (.region [⟨some 1,.box (.t 0),none⟩,⟨some 2,.mv (.c (.v (.bool false))),none⟩]) (.seq (.region [⟨some 3,.faddr 0 (.t 1),none⟩,⟨some 4,.load none (.t 3),none⟩,⟨some 5,.lenS (.t 4),none⟩,⟨some 6,.bin .gtr (.t 5) (.c (.v (.int .i64 100))),none⟩,⟨some 2,.mv (.t 6),none⟩]) .ret))⟩
theorem a_great21V_ok : cFunc Try.prog 103 = some a_great21V := by kernel_rfl
def a_great21E : AFunc := ⟨1,7,[.tmp 2],(.seq (.region [⟨some 1,.box (.t 0),none⟩,⟨some 2,.mv (.c (.v (.bool false))),none⟩]) (.seq (.region [⟨some 3,.faddr 4 (.t 1),none⟩,⟨some 4,.load none (.t 3),none⟩,⟨some 5,.len (.t 4),none⟩,⟨some 6,.bin .gtr (.t 5) (.c (.v (.int .i64 20))),none⟩,⟨some 2,.mv (.t 6),none⟩]) .ret))⟩
theorem a_great21E_ok : cFunc Try.prog 104 = some a_great21E := by kernel_rfl
def a_bEq : AFunc := ⟨2,10,[.tmp 4],(.seq (.region [⟨some 4,.mv (.c (.v (.bool false))),none⟩]) (.seq (.region [⟨some 5,.mv (.t 0),none⟩,⟨some 6,.tostr (.t 5),none⟩,⟨some 7,.mv (.t 1),none⟩,⟨some 8,.tostr (.t 7),none⟩,⟨some 9,.binS .eql (.t 6) (.t 8),none⟩,⟨some 4,.mv (.t 9),none⟩]) .ret))⟩
theorem a_bEq_ok : cFunc Try.prog 38 = some a_bEq := by kernel_rfl
def a_bClo : AFunc := ⟨1,8,[.tmp 2],(.seq (.region [⟨some 2,.mv (.c (.v .zsl)),none⟩]) (.seq (.seq (.region [⟨some 3,.mv (.t 0),none⟩,⟨some 4,.isnil false (.t 3),none⟩]) (.cond (.t 4) (.seq (.region [⟨some 2,.mv (.c (.v .zsl)),none⟩]) .ret) .skip)) (.seq (.region [⟨some 5,.bslice 1 [(.v (.int .u8 0))] 0 [],none⟩,⟨some 6,.mv (.t 0),none⟩,⟨some 7,.append 1 1 (.t 5) (.t 6),none⟩,⟨some 2,.mv (.t 7),none⟩]) .ret)))⟩
theorem a_bClo_ok : cFunc Try.prog 42 = some a_bClo := by kernel_rfl

theorem a_ixV_ok : cFunc Try.prog 140 = some (a_indexN 2) := by kernel_rfl
theorem a_coV_ok : cFunc Try.prog 73 = some (a_containsN 140) := by kernel_rfl
theorem containsV_spec (v : List Vr) (k : Nat) (caps : List AV) (p : Nat → Bool) (hn : v.length ≤ 1000000) (b l : List Row)
  (hp : ∀ (i : Nat) (h : i < v.length), ACalls Try.prog k ([.agg ((eVr v[i]).map .v)] ++ caps) (b ++ l) [] (fun r b' l' => r = .v (.bool (p i)) ∧ b' = b ++ l ∧ l' = [])) :
  ACalls Try.prog 73 [.v (.isl 2 (v.map eVr)), .fn k caps] b l (fun r b' l' => r = .v (.bool ((List.range v.length).any p)) ∧ b' = b ∧ l' = l) := by
 have h := contains_spec a_coV_ok a_ixV_ok (v.map eVr) k caps p (fun row hr => by obtain ⟨x, _, rfl⟩ := List.mem_map.1 hr; rfl) (by rw [List.length_map]; exact hn) b l (fun i row hi => by
  rw [List.getElem?_map] at hi
  cases hq : v[i]? with
  | none => rw [hq] at hi; cases hi
  | some x =>
    rw [hq] at hi
    cases hi
    obtain ⟨h1, rfl⟩ := List.getElem?_eq_some_iff.1 hq
    exact hp i h1)
 rw [List.length_map] at h
 exact h
def lgE21 (e : Ev) : Bool := decide (20 < e.asg.length)
def lgV21 (v : Vr) : Bool := decide (100 < v.name.size)
def lgP21 (x : Pr) : Bool := decide (100 < x.name.size) || (decide (80 < x.evs.length) || (decide (20 < x.vars.length) || (((List.range x.vars.length).any fun j => lgV21 (x.vars.getD j dfVr)) || (List.range x.evs.length).any fun j => lgE21 (x.evs.getD j dfEv))))
def great21B (t : Tr) : Bool := decide (20 < t.length) || (List.range t.length).any fun j => lgP21 (t.getD j dfPr)
theorem great21E_spec (e : Ev) (b l : List Row) : ACalls Try.prog 104 [.agg ((eEv e).map .v)] b l (fun r b' l' => r = .v (.bool (lgE21 e)) ∧ b' = b ∧ l' = l) := by
 refine calls_kept a_great21E_ok rfl (by decide) ?_
 intro B g hB hR hE hA
 simp only [KArgs] at hA
 simp only [eEv, List.map_cons, List.map_nil] at hA
 simp (disch := (first | decide | omega)) only [a_great21E, hA, List.length_map, go_sem]
 have : decide (20 < (e.asg.length : Int)) = lgE21 e := by unfold lgE21; simp only [decide_eq_decide]; omega
 exact leave_pure (xs := [.v (.bool (decide (20 < (e.asg.length : Int))))]) (.inr rfl) (by simp (disch := (first | decide | omega)) only [resVs, resV, go_sem, hA]) kO hR hB ⟨by rw [this]; rfl, rfl, rfl⟩
theorem great21V_spec (e : Vr) (b l : List Row) : ACalls Try.prog 103 [.agg ((eVr e).map .v)] b l (fun r b' l' => r = .v (.bool (lgV21 e)) ∧ b' = b ∧ l' = l) := by
 refine calls_kept a_great21V_ok rfl (by decide) ?_
 intro B g hB hR hE hA
 simp only [KArgs] at hA
 simp only [eVr, List.map_cons, List.map_nil] at hA
 simp (disch := (first | decide | omega)) only [a_great21V, hA, List.length_map, go_sem]
 have : decide (100 < (e.name.size : Int)) = lgV21 e := by unfold lgV21; simp only [decide_eq_decide]; omega
 exact leave_pure (xs := [.v (.bool (decide (100 < (e.name.size : Int))))]) (.inr rfl) (by simp (disch := (first | decide | omega)) only [resVs, resV, go_sem, hA]) kO hR hB ⟨by rw [this]; rfl, rfl, rfl⟩
theorem great21P_spec (x : Pr) (b l : List Row) : ACalls Try.prog 102 [.agg ((ePr x).map .v)] b l (fun r b' l' => r = .v (.bool (lgP21 x)) ∧ b' = b ∧ l' = l) := by
 refine calls_kept a_great21P_ok rfl (by decide) ?_
 intro B g hB hR hE hA
 simp only [KArgs] at hA
 simp only [ePr, List.map_cons, List.map_nil] at hA
 by_cases h0 : 100 < x.name.size
 ·have hd : decide (100 < (x.name.size : Int)) = true := decide_eq_true oM
  have hq : lgP21 x = true := by unfold lgP21; rw [decide_eq_true h0]; rfl
  simp (disch := (first | decide | omega)) only [a_great21P, hA, List.length_map, hd, go_sem]
  exact leave_pure (xs := [.v (.bool true)]) (.inr rfl) (by simp (disch := (first | decide | omega)) only [resVs, resV, go_sem, hA]) kO hR hB ⟨by rw [hq]; rfl, rfl, rfl⟩
 have hd0 : decide (100 < (x.name.size : Int)) = false := decide_eq_false oM
 by_cases h1 : 80 < x.evs.length
 ·have hd : decide (80 < (x.evs.length : Int)) = true := decide_eq_true oM
  have hq : lgP21 x = true := by unfold lgP21; rw [decide_eq_true h1]; simp
  simp (disch := (first | decide | omega)) only [a_great21P, hA, List.length_map, hd0, hd, go_sem]
  exact leave_pure (xs := [.v (.bool true)]) (.inr rfl) (by simp (disch := (first | decide | omega)) only [resVs, resV, go_sem, hA]) kO hR hB ⟨by rw [hq]; rfl, rfl, rfl⟩
 have hd : decide (80 < (x.evs.length : Int)) = false := decide_eq_false oM
 by_cases h2 : 20 < x.vars.length
 ·have hd2 : decide (20 < (x.vars.length : Int)) = true := decide_eq_true oM
  have hq : lgP21 x = true := by unfold lgP21; rw [decide_eq_true h2]; simp
  simp (disch := (first | decide | omega)) only [a_great21P, hA, List.length_map, hd0, hd, hd2, go_sem]
  exact leave_pure (xs := [.v (.bool true)]) (.inr rfl) (by simp (disch := (first | decide | omega)) only [resVs, resV, go_sem, hA]) kO hR hB ⟨by rw [hq]; rfl, rfl, rfl⟩
 have hd2 : decide (20 < (x.vars.length : Int)) = false := decide_eq_false oM
 have hq : lgP21 x = (((List.range x.vars.length).any fun j => lgV21 (x.vars.getD j dfVr)) || (List.range x.evs.length).any fun j => lgE21 (x.evs.getD j dfEv)) := by
  unfold lgP21; rw [decide_eq_false h0, decide_eq_false h1, decide_eq_false h2]; rfl
 simp (disch := (first | decide | omega)) only [a_great21P, hA, List.length_map, hd0, hd, hd2, go_sem]
 refine ACalls.nxt (containsV_spec x.vars _ [] (fun j => lgV21 (x.vars.getD j dfVr)) oM _ _ (fun i hi => by simp only [getD_at hi]; exact great21V_spec _ _ _)) ?_
 cases h3 : (List.range x.vars.length).any fun j => lgV21 (x.vars.getD j dfVr) with
 | true =>
   simp (disch := (first | decide | omega)) only [hA, go_sem]
   exact leave_pure (xs := [.v (.bool true)]) (.inr rfl) (by simp (disch := (first | decide | omega)) only [resVs, resV, go_sem, hA]) kO hR hB ⟨by rw [hq, h3]; rfl, rfl, rfl⟩
 | false =>
   simp (disch := (first | decide | omega)) only [hA, List.length_map, go_sem]
   refine ACalls.nxt (containsE_spec x.evs _ [] (fun j => lgE21 (x.evs.getD j dfEv)) oM _ _ (fun i hi => by simp only [getD_at hi]; exact great21E_spec _ _ _)) ?_
   obtain ⟨z, hz⟩ : ∃ z, ((List.range x.evs.length).any fun j => lgE21 (x.evs.getD j dfEv)) = z := ⟨_, rfl⟩
   simp (disch := (first | decide | omega)) only [hA, hz, go_sem]
   exact leave_pure (xs := [.v (.bool z)]) (.inr rfl) (by simp (disch := (first | decide | omega)) only [resVs, resV, go_sem, hA]) kO hR hB ⟨by rw [hq, h3, hz]; rfl, rfl, rfl⟩
theorem great21_spec (t : Tr) (b l : List Row) : ACalls Try.prog 34 [.agg [.v (eT t)]] b l (fun r b' l' => r = .v (.bool (great21B t)) ∧ b' = b ∧ l' = l) := by
 refine calls_kept a_great21_ok rfl (by decide) ?_
 intro B g hB hR hE hA
 simp only [KArgs] at hA
 by_cases h1 : 20 < t.length
 case pos =>
  have hd : decide (20 < (t.length : Int)) = true := decide_eq_true oM
  have hq : great21B t = true := by unfold great21B; rw [decide_eq_true h1]; rfl
  simp (disch := (first | decide | omega)) only [a_great21, hA, eT, List.length_map, hd, go_sem]
  exact leave_pure (xs := [.v (.bool true)]) (.inr rfl) (by simp (disch := (first | decide | omega)) only [resVs, resV, go_sem, hA]) kO hR hB ⟨by rw [hq]; rfl, rfl, rfl⟩
 have hd : decide (20 < (t.length : Int)) = false := decide_eq_false oM
 have hq : great21B t = (List.range t.length).any fun j => lgP21 (t.getD j dfPr) := by unfold great21B; rw [decide_eq_false h1]; rfl
 simp (disch := (first | decide | omega)) only [a_great21, hA, eT, List.length_map, hd, go_sem]
 refine ACalls.nxt (containsP_spec t _ [] (fun j => lgP21 (t.getD j dfPr)) oM _ _ (fun i hi => by simp only [getD_at hi]; exact great21P_spec _ _ _)) ?_
 rw [← hq]
 simp (disch := (first | decide | omega)) only [hA, go_sem]
 exact leave_pure (xs := [.v (.bool (great21B t))]) (.inr rfl) (by simp (disch := (first | decide | omega)) only [resVs, resV, go_sem, hA]) kO hR hB ⟨rfl, rfl, rfl⟩
theorem great21_in {t : Tr} (h : great21B t = false) : Small t ∧ Nm t := by
 simp only [great21B, Bool.or_eq_false_iff, List.any_eq_false, List.mem_range, decide_eq_false_iff_not] at h
 obtain ⟨h2, h1⟩ := h
 have key : ∀ x ∈ t, x.name.size ≤ 100 ∧ x.evs.length ≤ 80 ∧ x.vars.length ≤ 20 ∧ (∀ v ∈ x.vars, v.name.size ≤ 100) ∧ ∀ e ∈ x.evs, e.asg.length ≤ 20 := by
  intro x hx
  obtain ⟨i, hi, rfl⟩ := List.getElem_of_mem hx
  have := h1 i hi
  simp only [lgP21, getD_at hi, Bool.or_eq_true, decide_eq_true_eq, List.any_eq_true, List.mem_range, not_or, not_exists, not_and] at this
  refine ⟨by omega, by omega, by omega, fun v hv => ?_, fun e he => ?_⟩
  ·obtain ⟨j, hj, rfl⟩ := List.getElem_of_mem hv
   have h3 := this.2.2.2.1 j hj
   rw [getD_at hj] at h3
   simp only [lgV21, decide_eq_true_eq] at h3
   omega
  ·obtain ⟨j, hj, rfl⟩ := List.getElem_of_mem he
   have h3 := this.2.2.2.2 j hj
   rw [getD_at hj] at h3
   simp only [lgE21, decide_eq_true_eq] at h3
   omega
 refine ⟨⟨by omega, fun x hx => by have := (key x hx).2.2.1; omega, fun x hx => by have := (key x hx).2.1; omega, fun x hx e he => by have := (key x hx).2.2.2.2 e he; omega⟩, fun x hx => ⟨by have := (key x hx).1; unfold maxLen; omega, fun v hv => by have := (key x hx).2.2.2.1 v hv; unfold maxLen; omega⟩⟩
theorem beq_ba (xs ys : List UInt8) : (baOf xs == baOf ys) = decide (xs = ys) := by
 show (xs.toArray == ys.toArray) = _
 by_cases h : xs = ys
 ·subst h; simp
 ·rw [decide_eq_false h]
  refine beq_false_of_ne (fun e => h ?_)
  simpa using e
theorem bEq_spec (xs ys : List UInt8) (b l : List Row) : ACalls Try.prog 38 [.v (.isl 1 (xs.map eB)), .v (.isl 1 (ys.map eB))] b l (fun r b' l' => r = .v (.bool (decide (xs = ys))) ∧ b' = b ∧ l' = l) := by
 refine calls_kept a_bEq_ok rfl (by decide) ?_
 intro B g hB hR hE hA
 simp only [KArgs] at hA
 have hv : ∀ zs : List UInt8, (zs.map eB).map (·.map AV.v) = vs (zs.map eB) := fun _ => rfl
 simp (disch := (first | decide | omega)) only [a_bEq, hA, hv, numsB, strB, beq_ba, go_sem]
 exact leave_pure (xs := [.v (.bool (decide (xs = ys)))]) (.inr rfl) (by simp (disch := (first | decide | omega)) only [resVs, resV, go_sem, hA]) kO hR hB ⟨rfl, rfl, rfl⟩
theorem bClo_live (xs : List UInt8) (hl : xs.length ≤ 1000000) (h1 : 1 ≤ xs.length) (b l : List Row) : ACalls Try.prog 42 [.v (.isl 1 (xs.map eB))] b l (fun r b' l' => r = .sl (b.length + l.length) 1 0 xs.length ∧ b' = b ∧ l' = l ++ [bRow 1 xs]) := by
 refine calls_kept a_bClo_ok rfl (by decide) ?_
 intro B g hB hR hE hA
 simp only [KArgs] at hA
 simp (disch := decide) only [a_bClo, hA, go_sem]
 refine ⟨fun h => ?_, ?_⟩
 ·exfalso; rw [List.isEmpty_iff] at h; rw [List.map_eq_nil_iff.1 h] at h1; exact absurd h1 (by decide)
 rw [if_pos (by first | omega | (simp only [List.length_map]; omega))]
 simp (disch := (first | decide | omega)) only [hA, go_sem]
 exact leave_own (.inr rfl) (n := xs.length) (rows := xs.map eB) (junk := []) (by simp (disch := (first | decide | omega)) only [resVs, resV, hA, List.length_map, go_sem]) (by simp) hR hB ⟨by rw [hB, List.length_append], rfl, rfl⟩
theorem awake21_spec (b l : List Row) : ACalls Try.prog 33 [] b l (fun r b' l' => r = .v (.bool true) ∧ b' = b ∧ l' = l) := by
 refine ACalls.of_ext ⟨_, Try.func33, by kernel_rfl, by kernel_rfl⟩ (fun F L w us hr => ?_)
 have hu : us = #[] := by
  have := hr.1
  apply Array.ext'
  simpa using this.symm
 subst hu
 refine (awake_any w).mono ?_
 rintro en w' ⟨rfl, he⟩
 exact ⟨he, _, _, rfl, .v _ _ (.bool true), rfl, rfl, rfl⟩
end Go.Proofs.Ytanblnhnfkeffaa
