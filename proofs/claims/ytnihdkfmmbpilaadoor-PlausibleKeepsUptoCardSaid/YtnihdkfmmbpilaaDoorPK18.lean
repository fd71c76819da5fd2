/- Texts of one proof, laid together: J4, K9. No condition. -/
import Derived.Test.YtnihdkfmmbpilaaDoorPK11
import Derived.Test.YtnihdkfmmbpilaaDoorPK12
import Derived.Test.YtnihdkfmmbpilaaDoorPK17
namespace Go.Proofs.YtnihdkfmmbpilaaDoor
set_option linter.unusedVariables false
set_option linter.unusedSimpArgs false
attribute [local go_sem ↓] run_skip run_region run_draw run_both run_seq run_block run_exit run_ret run_cond atN_app seqC_normal seqC_exit seqC_ret seqQ_normal seqQ_exit seqQ_ret blkQ_normal blkQ_exit blkQ_ret runOps_nil runOps_cons runD_nil runD_cons grdO_true grdO_false grdD_true grdD_false ifC_true ifC_false opS_val opS_call opS_two opK_app dS_val dS_call dS_two dK_app kUp_same kUp_ne
attribute [local go_sem] rechks_nil rechks_cons rechk gcase_true gcase_false ex_val ex_val0 gd_none gd_some ev_t ev_c evs_nil evs_cons evo_some evo_none hget_at hget_first hsetB_at hsetB_first hsetL_at hsetL_first ofOpt_some aop aload astore aslice aappend aiaddr aiaddrA afaddr alen alenS acopy amm acall alookup amupdate alenM atostr aappz comma keyEq apick binV binVB binVS isSh intOp strOp boolOp shOp eqC eqF and2 cellsOf setFrom fillA fillS rd rdI elems mk bounds AV.cell List.all_cons List.all_nil Bool.and_true Bool.true_and Bool.and_self List.length_cons List.length_nil List.length_append Nat.reduceAdd Nat.reduceSub Nat.reduceMul Nat.zero_add Nat.add_zero List.cons_append List.nil_append List.append_assoc List.append_nil List.getElem?_cons_zero List.getElem?_cons_succ List.getElem?_nil List.set_cons_zero List.set_cons_succ List.drop_zero List.drop_succ_cons List.take_zero List.take_succ_cons List.take_nil List.drop_nil List.map_cons List.map_nil Option.map_some if_true if_false Bool.false_eq_true and_self true_and and_true Nat.reduceLeDiff Nat.reduceLT Nat.le_refl Nat.reduceEqDiff ite_true ite_false beq_self_eq_true beq_true beq_false Bool.not_true Bool.not_false Bool.true_beq Bool.false_beq map_vs vs_len vs_get vs_take vs_drop vs_snoc1 vs_snoc2 vs_snoc3 vs_snoc5 vs_set1 vs_set2 vs_rep wrap_id le_T lt_T le_F lt_F leI_T ltI_T leI_F ltI_F geI gtI get_T decide_true decide_false room List.getElem?_map List.length_map List.length_take Int.toNat_natCast Nat.min_def Nat.min_self nth_kOf put_kOf put_kNo kOv_cons kOv_nil KHas KArgs List.getElem_cons_zero List.getElem_cons_succ
def a_few18 : AFunc := ⟨1,47,[.tmp 2],(.seq (.region [⟨some 1,.box (.t 0),none⟩,⟨some 2,.mv (.c (.v (.bool false))),none⟩]) (.seq (.region [⟨some 3,.mv (.c (.v (.int .i64 0))),none⟩]) (.seq (.seq (.region [⟨some 6,.faddr 0 (.t 1),none⟩,⟨some 7,.load none (.t 6),none⟩,⟨some 8,.len (.t 7),none⟩,⟨some 9,.mv (.c (.v (.int .i64 0))),none⟩]) (.block 0 (.loop (.seq (.region [⟨some 10,.bin .lss (.t 9) (.t 8),none⟩]) (.seq (.cond (.t 10) .skip (.exit 0)) (.seq (.block 1 (.seq (.region [⟨some 11,.iaddr 3 (.t 7) (.t 9),none⟩,⟨some 12,.load (some 3) (.t 11),none⟩,⟨some 5,.alloc [(.v (.str ⟨#[]⟩)),(.v .zsl),(.v .zsl)],none⟩,⟨none,.store 3 (.t 5) (.t 12),none⟩]) (.seq (.region [⟨some 13,.mv (.t 3),none⟩,⟨some 14,.faddr 2 (.t 5),none⟩,⟨some 15,.load none (.t 14),none⟩,⟨some 16,.len (.t 15),none⟩,⟨some 17,.bin .add (.t 13) (.t 16),none⟩,⟨some 3,.mv (.t 17),none⟩]) (.seq (.region [⟨some 18,.mv (.t 3),none⟩,⟨some 19,.bin .gtr (.t 18) (.c (.v (.int .i64 40))),none⟩,⟨some 20,.mv (.t 19),none⟩,⟨some 21,.faddr 1 (.t 5),some (20,false)⟩,⟨some 22,.load none (.t 21),some (20,false)⟩,⟨some 23,.len (.t 22),some (20,false)⟩,⟨some 24,.bin .gtr (.t 23) (.c (.v (.int .i64 12))),some (20,false)⟩,⟨some 25,.pick (.t 20) (.c (.v (.bool true))) (.t 24),none⟩,⟨some 26,.mv (.t 25),none⟩,⟨some 27,.faddr 0 (.t 5),some (26,false)⟩,⟨some 28,.load none (.t 27),some (26,false)⟩,⟨some 29,.lenS (.t 28),some (26,false)⟩,⟨some 30,.bin .gtr (.t 29) (.c (.v (.int .i64 40))),some (26,false)⟩,⟨some 31,.pick (.t 26) (.c (.v (.bool true))) (.t 30),none⟩,⟨some 32,.mv (.t 31),none⟩,⟨some 33,.faddr 2 (.t 5),some (32,false)⟩,⟨some 34,.load none (.t 33),some (32,false)⟩,⟨some 35,.call (.c (.fn 31 [])) [(.t 34),(.c (.fn 32 []))],some (32,false)⟩,⟨some 36,.pick (.t 32) (.c (.v (.bool true))) (.t 35),none⟩,⟨some 37,.mv (.t 36),none⟩,⟨some 38,.faddr 1 (.t 5),some (37,false)⟩,⟨some 39,.load none (.t 38),some (37,false)⟩,⟨some 40,.call (.c (.fn 33 [])) [(.t 39),(.c (.fn 34 []))],some (37,false)⟩,⟨some 41,.pick (.t 37) (.c (.v (.bool true))) (.t 40),none⟩]) (.cond (.t 41) (.seq (.region [⟨some 2,.mv (.c (.v (.bool false))),none⟩]) .ret) .skip))))) (.region [⟨some 42,.bin .add (.t 9) (.c (.v (.int .i64 1))),none⟩,⟨some 9,.mv (.t 42),none⟩]))))))) (.seq (.region [⟨some 43,.faddr 0 (.t 1),none⟩,⟨some 44,.load none (.t 43),none⟩,⟨some 45,.len (.t 44),none⟩,⟨some 46,.bin .leq (.t 45) (.c (.v (.int .i64 10))),none⟩,⟨some 2,.mv (.t 46),none⟩]) .ret))))⟩
theorem a_few18_ok : cFunc Tryd.prog 7 = some a_few18 := by kernel_rfl
def r_few180 : List (Nat × Nat) := [(2, 3), (5, 5), (9, 42)]
def a_few181 : AFunc := ⟨1,7,[.tmp 2],(.seq (.region [⟨some 1,.box (.t 0),none⟩,⟨some 2,.mv (.c (.v (.bool false))),none⟩]) (.seq (.region [⟨some 3,.faddr 4 (.t 1),none⟩,⟨some 4,.load none (.t 3),none⟩,⟨some 5,.len (.t 4),none⟩,⟨some 6,.bin .gtr (.t 5) (.c (.v (.int .i64 12))),none⟩,⟨some 2,.mv (.t 6),none⟩]) .ret))⟩
theorem a_few181_ok : cFunc Tryd.prog 32 = some a_few181 := by kernel_rfl
def a_few182 : AFunc := ⟨1,7,[.tmp 2],(.seq (.region [⟨some 1,.box (.t 0),none⟩,⟨some 2,.mv (.c (.v (.bool false))),none⟩]) (.seq (.region [⟨some 3,.faddr 0 (.t 1),none⟩,⟨some 4,.load none (.t 3),none⟩,⟨some 5,.lenS (.t 4),none⟩,⟨some 6,.bin .gtr (.t 5) (.c (.v (.int .i64 40))),none⟩,⟨some 2,.mv (.t 6),none⟩]) .ret))⟩
theorem a_few182_ok : cFunc Tryd.prog 34 = some a_few182 := by kernel_rfl

def l12E (e : Ev) : Bool := decide (12 < e.asg.length)
def l40V (v : Vr) : Bool := decide (40 < v.name.size)
theorem few181_spec (e : Ev) (b l : List Row) : ACalls Tryd.prog 32 [.agg ((eEv e).map .v)] b l (fun r b' l' => r = .v (.bool (l12E e)) ∧ b' = b ∧ l' = l) := by
 refine calls_kept a_few181_ok rfl (by decide) ?_
 intro B g hB hR hE hA
 simp only [KArgs] at hA
 have hd : decide ((e.asg.length : Int) > 12) = l12E e := by unfold l12E; rw [Bool.eq_iff_iff]; simp; omega
 have hd' : decide ((12 : Int) < e.asg.length) = l12E e := hd
 simp (disch := (first | decide | omega)) only [a_few181, hA, eEv, List.length_map, hd, hd', go_sem]
 exact leave_pure (xs := [.v (.bool (l12E e))]) (.inr rfl) (by simp (disch := (first | decide | omega)) only [resVs, resV, go_sem, hA]) kO hR hB ⟨rfl, rfl, rfl⟩
theorem few182_spec (v : Vr) (b l : List Row) : ACalls Tryd.prog 34 [.agg ((eVr v).map .v)] b l (fun r b' l' => r = .v (.bool (l40V v)) ∧ b' = b ∧ l' = l) := by
 refine calls_kept a_few182_ok rfl (by decide) ?_
 intro B g hB hR hE hA
 simp only [KArgs] at hA
 have hd : decide ((v.name.size : Int) > 40) = l40V v := by unfold l40V; rw [Bool.eq_iff_iff]; simp; omega
 have hd' : decide ((40 : Int) < v.name.size) = l40V v := hd
 simp (disch := (first | decide | omega)) only [a_few182, hA, eVr, List.length_map, hd, hd', go_sem]
 exact leave_pure (xs := [.v (.bool (l40V v))]) (.inr rfl) (by simp (disch := (first | decide | omega)) only [resVs, resV, go_sem, hA]) kO hR hB ⟨rfl, rfl, rfl⟩
theorem indexE_18L (v : List (Ev)) (k : Nat) (caps : List AV) (p : Nat → Bool) (hn : v.length ≤ 9223372036854775807) (b l : List Row)
  (hp : ∀ (i : Nat) (h : i < v.length), ACalls Tryd.prog k (.agg ((eEv v[i]).map .v) :: caps) (b ++ l) [] (fun r b' l' => r = .v (.bool (p i)) ∧ b' = b ++ l ∧ l' = [])) :
  ACalls Tryd.prog 78 [.v (.isl 5 (v.map eEv)), .fn k caps] b l (fun r b' l' => r = .v (.int .i64 (firstP p v.length)) ∧ b' = b ∧ l' = l) := by
 refine calls_kept a_IndE_ok rfl (by decide) ?_
 intro B g hB hR hE hA
 simp only [KArgs] at hA
 simp (disch := decide) only [a_IndE, hA, List.length_map, go_sem]
 refine loop_kept (ι := Nat) r_IndE0 (fun i => [(8, .v (.int .i64 i))]) 0 (fun _ => [])
  (fun i => i ≤ v.length ∧ ∀ j, j < i → p j = false) (fun i => v.length - i) 0 ⟨Nat.zero_le _, fun j hj => by omega⟩ (by (repeat (first | exact hE.mono oM | refine KLt.up ?_ kL))) (by ((try simp (disch := decide) only [hA, go_sem]) <;> exact kH)) (fun e => Weak.refl _ _ _) ?_
 rintro g1 hE1 hEE1 hg1 i ⟨hi, h0⟩
 by_cases hlt : i < v.length
 ·have hpi0 := hp i hlt
  try simp only [eEv, List.map_cons, List.map_nil] at hpi0
  simp (disch := (first | decide | omega)) only [hA, hg1, eEv, List.length_map, go_sem]
  refine ACalls_mono _ _ _ _ _ _ (hB ▸ hpi0) ?_
  rintro r b' l' ⟨rfl, rfl, rfl⟩
  cases hpi : p i
  ·simp (disch := (first | decide | omega)) only [hA, hg1, hpi, go_sem]
   refine ⟨i + 1, ⟨hlt, fun j hj => ?_⟩, by simp only; omega, ?_⟩
   ·rcases Nat.lt_or_ge j i with hji | hji
    ·exact h0 j hji
    ·have : j = i := by omega
     rw [this]; exact hpi
   exact Weak.kround (p := r_IndE0) (k := 0) (by ((repeat refine (kAny_up rfl).trans ?_); exact hEE1)) (by ((try simp (disch := decide) only [hA, go_sem]) <;> exact kH)) rfl hE1 (by simp) kV hR kL
  ·simp (disch := (first | decide | omega)) only [hA, hg1, hpi, go_sem]
   exact leave_pure (xs := [.v (.int .i64 i)]) (.inr rfl) (by simp (disch := (first | decide | omega)) only [resVs, resV, go_sem, hA, hg1]) kO hR hB ⟨by rw [firstP_at hlt h0 hpi]; rfl, rfl, rfl⟩
 ·simp (disch := (first | decide | omega)) only [hA, hg1, List.length_map, go_sem]
  obtain rfl : i = v.length := by omega
  exact leave_pure (xs := [.v (.int .i64 (-1))]) (.inr rfl) (by simp (disch := (first | decide | omega)) only [resVs, resV, go_sem, hA, hg1]) kO hR hB ⟨by rw [firstP_none h0]; rfl, rfl, rfl⟩
theorem containsE_18L (v : List (Ev)) (k : Nat) (caps : List AV) (p : Nat → Bool) (hn : v.length ≤ 9223372036854775807) (b l : List Row)
  (hp : ∀ (i : Nat) (h : i < v.length), ACalls Tryd.prog k (.agg ((eEv v[i]).map .v) :: caps) (b ++ l) [] (fun r b' l' => r = .v (.bool (p i)) ∧ b' = b ++ l ∧ l' = [])) :
  ACalls Tryd.prog 31 [.v (.isl 5 (v.map eEv)), .fn k caps] b l (fun r b' l' => r = .v (.bool ((List.range v.length).any p)) ∧ b' = b ∧ l' = l) := by
 refine calls_kept a_ConE_ok rfl (by decide) ?_
 intro B g hB hR hE hA
 simp only [KArgs] at hA
 simp (disch := decide) only [a_ConE, hA, go_sem]
 refine ACalls.nxt (indexE_18L v k caps p hn B [] (by rw [List.append_nil, hB]; exact hp)) ?_
 simp (disch := decide) only [hA, go_sem]
 exact leave_pure (xs := [.v (.bool (decide (0 ≤ firstP p v.length)))]) (.inr rfl) (by simp (disch := (first | decide | omega)) only [resVs, resV, go_sem, hA]) kO hR hB ⟨by rw [firstP_ge]; rfl, rfl, rfl⟩
def wct (t : Tr) : Nat → Int
 | 0 => 0
 | i + 1 => IntKind.i64.wrap (wct t i + ((evsOf t i).length : Int))
def bad18W (t : Tr) (i : Nat) : Bool := decide (40 < wct t (i + 1)) || (decide (12 < (t.getD i dfPr).vars.length) || (decide (40 < (t.getD i dfPr).name.size) || ((List.range (t.getD i dfPr).evs.length).any (fun j => l12E ((t.getD i dfPr).evs.getD j dfEv)) || (List.range (t.getD i dfPr).vars.length).any (fun j => l40V ((t.getD i dfPr).vars.getD j dfVr)))))
def few18W (t : Tr) : Bool := !(List.range t.length).any (bad18W t) && decide (t.length ≤ 10)
theorem few181L_spec (e : Ev) (b l : List Row) : ACalls Tryd.prog 32 [.agg ((eEv e).map .v)] b l (fun r b' l' => r = .v (.bool (l12E e)) ∧ b' = b ∧ l' = l) := few181_spec e b l
theorem few18W_spec (t : Tr) (hT : t.length ≤ 9223372036854775807) (hM : ∀ x ∈ t, x.evs.length ≤ 9223372036854775807) (b l : List Row) : ACalls Tryd.prog 7 [.agg [.v (eT t)]] b l (fun r b' l' => r = .v (.bool (few18W t)) ∧ b' = b ∧ l' = l) := by
 refine calls_kept a_few18_ok rfl (by decide) ?_
 intro B g hB hR hE hA
 simp only [KArgs] at hA
 have hw0 : wct t 0 = 0 := rfl
 simp (disch := (first | decide | omega)) only [a_few18, hA, eT, List.length_map, go_sem]
 refine loop_kept (ι := Nat) r_few180 (fun i => [(9, .v (.int .i64 i)), (3, .v (.int .i64 (wct t i)))]) 1 (fun i => [.live 0 1 [[.v (.isl 3 (t.map ePr))]]])
  (fun i => i ≤ t.length ∧ wct t i ≤ 40 ∧ ∀ j, j < i → bad18W t j = false) (fun i => t.length - i) 0 ⟨Nat.zero_le _, by rw [wct]; omega, fun j h => by omega⟩ (by (repeat (first | exact hE.mono oM | refine KLt.up ?_ kL))) (by ((try simp (disch := decide) only [hA, hw0, go_sem]) <;> exact kH)) (fun e => Weak.refl _ _ _) ?_
 rintro g1 hE1 hEE1 hg1 i ⟨hi, h40, hbef⟩
 by_cases hil : i < t.length
 ·have m1 := hM _ (List.getElem_mem hil)
  have hinc : IntKind.i64.wrap (wct t i + (t[i].evs.length : Int)) = wct t (i + 1) := by
   show _ = IntKind.i64.wrap (wct t i + ((evsOf t i).length : Int)); rw [evsOf_lt hil]
  have hgd : t.getD i dfPr = t[i] := getD_at hil
  have bad : bad18W t i = true → few18W t = false := fun h => by
   unfold few18W
   rw [List.any_eq_true.2 ⟨i, List.mem_range.2 hil, h⟩]; rfl
  by_cases c1 : 40 < wct t (i + 1)
  ·have d1 : decide (wct t (i + 1) > 40) = true := decide_eq_true oM
   have d1' : decide ((40 : Int) < wct t (i + 1)) = true := d1
   have hb := bad (by unfold bad18W; rw [decide_eq_true c1]; rfl)
   simp (disch := (first | decide | omega)) only [hA, hg1, ePr, hinc, d1, d1', List.length_map, go_sem]
   exact leave_pure (xs := [.v (.bool false)]) (.inr rfl) (by simp (disch := (first | decide | omega)) only [resVs, resV, go_sem, hA, hg1]) kO hR hB ⟨by rw [hb]; rfl, rfl, rfl⟩
  have d1 : decide (wct t (i + 1) > 40) = false := decide_eq_false oM
  have d1' : decide ((40 : Int) < wct t (i + 1)) = false := d1
  by_cases c2 : 12 < t[i].vars.length
  ·have d2 : decide ((t[i].vars.length : Int) > 12) = true := decide_eq_true oM
   have d2' : decide ((12 : Int) < (t[i].vars.length : Int)) = true := d2
   have hb := bad (by unfold bad18W; rw [hgd, decide_eq_true c2]; simp)
   simp (disch := (first | decide | omega)) only [hA, hg1, ePr, hinc, d1, d1', d2, d2', List.length_map, go_sem]
   exact leave_pure (xs := [.v (.bool false)]) (.inr rfl) (by simp (disch := (first | decide | omega)) only [resVs, resV, go_sem, hA, hg1]) kO hR hB ⟨by rw [hb]; rfl, rfl, rfl⟩
  have d2 : decide ((t[i].vars.length : Int) > 12) = false := decide_eq_false oM
  have d2' : decide ((12 : Int) < (t[i].vars.length : Int)) = false := d2
  by_cases c3 : 40 < t[i].name.size
  ·have d3 : decide ((t[i].name.size : Int) > 40) = true := decide_eq_true oM
   have d3' : decide ((40 : Int) < (t[i].name.size : Int)) = true := d3
   have hb := bad (by unfold bad18W; rw [hgd, decide_eq_true c3]; simp)
   simp (disch := (first | decide | omega)) only [hA, hg1, ePr, hinc, d1, d1', d2, d2', d3, d3', List.length_map, go_sem]
   exact leave_pure (xs := [.v (.bool false)]) (.inr rfl) (by simp (disch := (first | decide | omega)) only [resVs, resV, go_sem, hA, hg1]) kO hR hB ⟨by rw [hb]; rfl, rfl, rfl⟩
  have d3 : decide ((t[i].name.size : Int) > 40) = false := decide_eq_false oM
  have d3' : decide ((40 : Int) < (t[i].name.size : Int)) = false := d3
  have ce := fun b l => containsE_18L t[i].evs 32 [] (fun j => l12E (t[i].evs.getD j dfEv)) m1 b l (fun j hj => by simp only [getD_at hj]; exact few181L_spec _ _ _)
  have cv := fun b l => contains_spec (f := 33) (g := 79) (sz := 2) (by kernel_rfl) (by kernel_rfl) (t[i].vars.map eVr) 34 [] (fun j => l40V (t[i].vars.getD j dfVr)) (by simp [eVr]) (by simp; omega) b l (fun j row hj => by
   rw [List.getElem?_map] at hj
   obtain ⟨x, hx, rfl⟩ := Option.map_eq_some_iff.1 hj
   obtain ⟨q1, q2⟩ := List.getElem?_eq_some_iff.1 hx
   simp only [getD_at q1, q2]
   exact few182_spec x _ _)
  rw [List.length_map] at cv
  simp (disch := (first | decide | omega)) only [hA, hg1, ePr, hinc, d1, d1', d2, d2', d3, d3', List.length_map, go_sem]
  refine ACalls.nxt (ce _ _) ?_
  cases c4 : (List.range t[i].evs.length).any fun j => l12E (t[i].evs.getD j dfEv) with
  | true =>
    have hb := bad (by unfold bad18W; rw [hgd, c4]; simp)
    simp (disch := (first | decide | omega)) only [hA, hg1, go_sem]
    exact leave_pure (xs := [.v (.bool false)]) (.inr rfl) (by simp (disch := (first | decide | omega)) only [resVs, resV, go_sem, hA, hg1]) kO hR hB ⟨by rw [hb]; rfl, rfl, rfl⟩
  | false =>
    simp (disch := (first | decide | omega)) only [hA, hg1, go_sem]
    refine ACalls.nxt (cv _ _) ?_
    cases c5 : (List.range t[i].vars.length).any fun j => l40V (t[i].vars.getD j dfVr) with
    | true =>
      have hb := bad (by unfold bad18W; rw [hgd, c5]; simp)
      simp (disch := (first | decide | omega)) only [hA, hg1, go_sem]
      exact leave_pure (xs := [.v (.bool false)]) (.inr rfl) (by simp (disch := (first | decide | omega)) only [resVs, resV, go_sem, hA, hg1]) kO hR hB ⟨by rw [hb]; rfl, rfl, rfl⟩
    | false =>
      simp (disch := (first | decide | omega)) only [hA, hg1, go_sem]
      refine ⟨i + 1, ⟨hil, by omega, fun j hj => ?_⟩, by simp only; omega, ?_⟩
      ·by_cases hji : j = i
       ·subst hji
        unfold bad18W
        rw [hgd, c4, c5, decide_eq_false c1, decide_eq_false c2, decide_eq_false c3]; rfl
       ·exact hbef j oM
      ·exact Weak.kround (p := r_few180) (k := 1) (by ((repeat refine (kAny_up rfl).trans ?_); exact hEE1)) (by ((try simp (disch := decide) only [hA, hinc, go_sem]) <;> exact kH)) rfl hE1 (by simp) kV hR kL
 ·obtain rfl : i = t.length := by omega
  have hno : (List.range t.length).any (bad18W t) = false := by
   rw [List.any_eq_false]; intro j hj; rw [hbef j (List.mem_range.1 hj)]; simp
  have hq : few18W t = decide (t.length ≤ 10) := by unfold few18W; rw [hno]; rfl
  have hd : decide ((t.length : Int) ≤ 10) = decide (t.length ≤ 10) := by rw [decide_eq_decide]; omega
  rw [hq]
  simp (disch := (first | decide | omega)) only [hA, hg1, List.length_map, hd, go_sem]
  exact leave_pure (xs := [.v (.bool (decide (t.length ≤ 10)))]) (.inr rfl) (by simp (disch := (first | decide | omega)) only [resVs, resV, go_sem, hA, hg1]) kO hR hB ⟨rfl, rfl, rfl⟩
end Go.Proofs.YtnihdkfmmbpilaaDoor
