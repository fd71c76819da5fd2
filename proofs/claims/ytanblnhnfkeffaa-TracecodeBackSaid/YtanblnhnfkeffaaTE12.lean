/- Texts of one proof, laid together: VA, VD, VF, VH, SM. No condition. -/
import Derived.Test.YtanblnhnfkeffaaTC6
import Derived.Test.YtanblnhnfkeffaaTE9
import Derived.Test.YtanblnhnfkeffaaTC5
import Derived.Test.YtanblnhnfkeffaaTE2
import Derived.Test.YtanblnhnfkeffaaTE10
import Derived.Test.YtanblnhnfkeffaaTE11
import Derived.Test.YtanblnhnfkeffaaTE7
namespace Go.Proofs.Ytanblnhnfkeffaa
set_option linter.unusedVariables false
set_option linter.unusedSimpArgs false
attribute [local go_sem ↓] run_skip run_region run_draw run_both run_seq run_block run_exit run_ret run_cond atN_app seqC_normal seqC_exit seqC_ret seqQ_normal seqQ_exit seqQ_ret blkQ_normal blkQ_exit blkQ_ret runOps_nil runOps_cons runD_nil runD_cons grdO_true grdO_false grdD_true grdD_false ifC_true ifC_false opS_val opS_call opS_two opK_app dS_val dS_call dS_two dK_app kUp_same kUp_ne
attribute [local go_sem] rechks_nil rechks_cons rechk gcase_true gcase_false ex_val ex_val0 gd_none gd_some ev_t ev_c evs_nil evs_cons evo_some evo_none hget_at hget_first hsetB_at hsetB_first hsetL_at hsetL_first ofOpt_some aop aload astore aslice aappend aiaddr aiaddrA afaddr alen alenS acopy amm acall alookup amupdate alenM atostr aappz comma keyEq apick binV binVB binVS isSh intOp strOp boolOp shOp eqC eqF and2 cellsOf setFrom fillA fillS rd rdI elems mk bounds AV.cell List.all_cons List.all_nil Bool.and_true Bool.true_and Bool.and_self List.length_cons List.length_nil List.length_append Nat.reduceAdd Nat.reduceSub Nat.reduceMul Nat.zero_add Nat.add_zero List.cons_append List.nil_append List.append_assoc List.append_nil List.getElem?_cons_zero List.getElem?_cons_succ List.getElem?_nil List.set_cons_zero List.set_cons_succ List.drop_zero List.drop_succ_cons List.take_zero List.take_succ_cons List.take_nil List.drop_nil List.map_cons List.map_nil Option.map_some if_true if_false Bool.false_eq_true and_self true_and and_true Nat.reduceLeDiff Nat.reduceLT Nat.le_refl Nat.reduceEqDiff ite_true ite_false beq_self_eq_true beq_true beq_false Bool.not_true Bool.not_false Bool.true_beq Bool.false_beq map_vs vs_len vs_get vs_take vs_drop vs_snoc1 vs_snoc2 vs_snoc3 vs_snoc5 vs_set1 vs_set2 vs_rep wrap_id le_T lt_T le_F lt_F leI_T ltI_T leI_F ltI_F geI gtI get_T decide_true decide_false room List.getElem?_map List.length_map List.length_take Int.toNat_natCast Nat.min_def Nat.min_self nth_kOf put_kOf put_kNo kOv_cons kOv_nil KHas KArgs List.getElem_cons_zero List.getElem_cons_succ
noncomputable def vcs (t : Tr) (x : Nat × Nat) : List Int := fl t.length fun q => (vc t x q : Int)
noncomputable def stRow (t : Tr) (p n : Nat) : List (List IV) := fl n fun i => [.isl 1 ((vcs t (p, i + 1)).map eI)]
noncomputable def cR (t : Tr) (D : Nat → Nat) (p : Nat) : Row := .live (D p) 1 (vs (stRow t p (D p)))
section
variable {α : Type} {n : Nat} {C : Nat → α} {T : List α}
end
def S1 (v w : List Int) : Prop := v.length ≤ 1000000
def a_IndP : AFunc := ⟨2,19,[.tmp 4],(.seq (.region [⟨some 4,.mv (.c (.v (.int .i64 0))),none⟩]) (.seq (.seq (.region [⟨some 6,.mv (.t 0),none⟩,⟨some 7,.len (.t 6),none⟩,⟨some 8,.mv (.c (.v (.int .i64 0))),none⟩]) (.block 0 (.loop (.seq (.region [⟨some 9,.bin .lss (.t 8) (.t 7),none⟩]) (.seq (.cond (.t 9) .skip (.exit 0)) (.seq (.block 1 (.seq (.region [⟨some 10,.mv (.t 8),none⟩,⟨some 5,.mv (.t 10),none⟩]) (.seq (.region [⟨some 11,.mv (.t 1),none⟩,⟨some 12,.mv (.t 0),none⟩,⟨some 13,.mv (.t 5),none⟩,⟨some 14,.iaddr 3 (.t 12) (.t 13),none⟩,⟨some 15,.load (some 3) (.t 14),none⟩,⟨some 16,.call (.t 11) [(.t 15)],none⟩]) (.cond (.t 16) (.seq (.region [⟨some 17,.mv (.t 5),none⟩,⟨some 4,.mv (.t 17),none⟩]) .ret) .skip)))) (.region [⟨some 18,.bin .add (.t 8) (.c (.v (.int .i64 1))),none⟩,⟨some 8,.mv (.t 18),none⟩]))))))) (.seq (.region [⟨some 4,.mv (.c (.v (.int .i64 (-1)))),none⟩]) .ret)))⟩
theorem a_IndP_ok : cFunc Try.prog 160 = some a_IndP := by kernel_rfl
def r_IndP0 : List (Nat × Nat) := [(4, 5), (8, 18)]
def a_ConP : AFunc := ⟨2,9,[.tmp 4],(.seq (.region [⟨some 4,.mv (.c (.v (.bool false))),none⟩]) (.seq (.region [⟨some 5,.mv (.t 0),none⟩,⟨some 6,.mv (.t 1),none⟩,⟨some 7,.call (.c (.fn 160 [])) [(.t 5),(.t 6)],none⟩,⟨some 8,.bin .geq (.t 7) (.c (.v (.int .i64 0))),none⟩,⟨some 4,.mv (.t 8),none⟩]) .ret))⟩
theorem a_ConP_ok : cFunc Try.prog 101 = some a_ConP := by kernel_rfl
def a_IndE : AFunc := ⟨2,19,[.tmp 4],(.seq (.region [⟨some 4,.mv (.c (.v (.int .i64 0))),none⟩]) (.seq (.seq (.region [⟨some 6,.mv (.t 0),none⟩,⟨some 7,.len (.t 6),none⟩,⟨some 8,.mv (.c (.v (.int .i64 0))),none⟩]) (.block 0 (.loop (.seq (.region [⟨some 9,.bin .lss (.t 8) (.t 7),none⟩]) (.seq (.cond (.t 9) .skip (.exit 0)) (.seq (.block 1 (.seq (.region [⟨some 10,.mv (.t 8),none⟩,⟨some 5,.mv (.t 10),none⟩]) (.seq (.region [⟨some 11,.mv (.t 1),none⟩,⟨some 12,.mv (.t 0),none⟩,⟨some 13,.mv (.t 5),none⟩,⟨some 14,.iaddr 5 (.t 12) (.t 13),none⟩,⟨some 15,.load (some 5) (.t 14),none⟩,⟨some 16,.call (.t 11) [(.t 15)],none⟩]) (.cond (.t 16) (.seq (.region [⟨some 17,.mv (.t 5),none⟩,⟨some 4,.mv (.t 17),none⟩]) .ret) .skip)))) (.region [⟨some 18,.bin .add (.t 8) (.c (.v (.int .i64 1))),none⟩,⟨some 8,.mv (.t 18),none⟩]))))))) (.seq (.region [⟨some 4,.mv (.c (.v (.int .i64 (-1)))),none⟩]) .ret)))⟩
theorem a_IndE_ok : cFunc Try.prog 141 = some a_IndE := by kernel_rfl
def r_IndE0 : List (Nat × Nat) := [(4, 5), (8, 18)]
def a_ConE : AFunc := ⟨2,9,[.tmp 4],(.seq (.region [⟨some 4,.mv (.c (.v (.bool false))),none⟩]) (.seq (.region [⟨some 5,.mv (.t 0),none⟩,⟨some 6,.mv (.t 1),none⟩,⟨some 7,.call (.c (.fn 141 [])) [(.t 5),(.t 6)],none⟩,⟨some 8,.bin .geq (.t 7) (.c (.v (.int .i64 0))),none⟩,⟨some 4,.mv (.t 8),none⟩]) .ret))⟩
theorem a_ConE_ok : cFunc Try.prog 75 = some a_ConE := by kernel_rfl

theorem indexP_spec (v : List (Pr)) (k : Nat) (caps : List AV) (p : Nat → Bool) (hn : v.length ≤ 1000000) (b l : List Row)
  (hp : ∀ (i : Nat) (h : i < v.length), ACalls Try.prog k (.agg ((ePr v[i]).map .v) :: caps) (b ++ l) [] (fun r b' l' => r = .v (.bool (p i)) ∧ b' = b ++ l ∧ l' = [])) :
  ACalls Try.prog 160 [.v (.isl 3 (v.map ePr)), .fn k caps] b l (fun r b' l' => r = .v (.int .i64 (firstP p v.length)) ∧ b' = b ∧ l' = l) := by
 refine calls_kept a_IndP_ok rfl (by decide) ?_
 intro B g hB hR hE hA
 simp only [KArgs] at hA
 simp (disch := decide) only [a_IndP, hA, List.length_map, go_sem]
 refine loop_kept (ι := Nat) r_IndP0 (fun i => [(8, .v (.int .i64 i))]) 0 (fun _ => [])
  (fun i => i ≤ v.length ∧ ∀ j, j < i → p j = false) (fun i => v.length - i) 0 ⟨Nat.zero_le _, fun j hj => by omega⟩ (by (repeat (first | exact hE.mono oM | refine KLt.up ?_ kL))) (by ((try simp (disch := decide) only [hA, go_sem]) <;> exact kH)) (fun e => Weak.refl _ _ _) ?_
 rintro g1 hE1 hEE1 hg1 i ⟨hi, h0⟩
 by_cases hlt : i < v.length
 ·have hpi0 := hp i hlt
  try simp only [ePr, List.map_cons, List.map_nil] at hpi0
  simp (disch := (first | decide | omega)) only [hA, hg1, ePr, List.length_map, go_sem]
  refine ACalls_mono _ _ _ _ _ _ (hB ▸ hpi0) ?_
  rintro r b' l' ⟨rfl, rfl, rfl⟩
  cases hpi : p i
  ·simp (disch := (first | decide | omega)) only [hA, hg1, hpi, go_sem]
   refine ⟨i + 1, ⟨hlt, fun j hj => ?_⟩, by simp only; omega, ?_⟩
   ·rcases Nat.lt_or_ge j i with hji | hji
    ·exact h0 j hji
    ·have : j = i := by omega
     rw [this]; exact hpi
   exact Weak.kround (p := r_IndP0) (k := 0) (by ((repeat refine (kAny_up rfl).trans ?_); exact hEE1)) (by ((try simp (disch := decide) only [hA, go_sem]) <;> exact kH)) rfl hE1 (by simp) kV hR kL
  ·simp (disch := (first | decide | omega)) only [hA, hg1, hpi, go_sem]
   exact leave_pure (xs := [.v (.int .i64 i)]) (.inr rfl) (by simp (disch := (first | decide | omega)) only [resVs, resV, go_sem, hA, hg1]) kO hR hB ⟨by rw [firstP_at hlt h0 hpi]; rfl, rfl, rfl⟩
 ·simp (disch := (first | decide | omega)) only [hA, hg1, List.length_map, go_sem]
  obtain rfl : i = v.length := by omega
  exact leave_pure (xs := [.v (.int .i64 (-1))]) (.inr rfl) (by simp (disch := (first | decide | omega)) only [resVs, resV, go_sem, hA, hg1]) kO hR hB ⟨by rw [firstP_none h0]; rfl, rfl, rfl⟩
theorem containsP_spec (v : List (Pr)) (k : Nat) (caps : List AV) (p : Nat → Bool) (hn : v.length ≤ 1000000) (b l : List Row)
  (hp : ∀ (i : Nat) (h : i < v.length), ACalls Try.prog k (.agg ((ePr v[i]).map .v) :: caps) (b ++ l) [] (fun r b' l' => r = .v (.bool (p i)) ∧ b' = b ++ l ∧ l' = [])) :
  ACalls Try.prog 101 [.v (.isl 3 (v.map ePr)), .fn k caps] b l (fun r b' l' => r = .v (.bool ((List.range v.length).any p)) ∧ b' = b ∧ l' = l) := by
 refine calls_kept a_ConP_ok rfl (by decide) ?_
 intro B g hB hR hE hA
 simp only [KArgs] at hA
 simp (disch := decide) only [a_ConP, hA, go_sem]
 refine ACalls.nxt (indexP_spec v k caps p hn B [] (by rw [List.append_nil, hB]; exact hp)) ?_
 simp (disch := decide) only [hA, go_sem]
 exact leave_pure (xs := [.v (.bool (decide (0 ≤ firstP p v.length)))]) (.inr rfl) (by simp (disch := (first | decide | omega)) only [resVs, resV, go_sem, hA]) kO hR hB ⟨by rw [firstP_ge]; rfl, rfl, rfl⟩

theorem indexE_spec (v : List (Ev)) (k : Nat) (caps : List AV) (p : Nat → Bool) (hn : v.length ≤ 1000000) (b l : List Row)
  (hp : ∀ (i : Nat) (h : i < v.length), ACalls Try.prog k (.agg ((eEv v[i]).map .v) :: caps) (b ++ l) [] (fun r b' l' => r = .v (.bool (p i)) ∧ b' = b ++ l ∧ l' = [])) :
  ACalls Try.prog 141 [.v (.isl 5 (v.map eEv)), .fn k caps] b l (fun r b' l' => r = .v (.int .i64 (firstP p v.length)) ∧ b' = b ∧ l' = l) := by
 refine calls_kept a_IndE_ok rfl (by decide) ?_
 intro B g hB hR hE hA
 simp only [KArgs] at hA
 simp (disch := decide) only [a_IndE, hA, List.length_map, go_sem]
 refine loop_kept (ι := Nat) r_IndE0 (fun i => [(8, .v (.int .i64 i))]) 0 (fun _ => [])
  (fun i => i ≤ v.length ∧ ∀ j, j < i → p j = false) (fun i => v.length - i) 0 ⟨Nat.zero_le _, fun j hj => by omega⟩ (by (repeat (first | exact hE.mono oM | refine KLt.up ?_ kL))) (by ((try simp (disch := decide) only [hA, go_sem]) <;> exact kH)) (fun e => Weak.refl _ _ _) ?_
 rintro g1 hE1 hEE1 hg1 i ⟨hi, h0⟩
 by_cases hlt : i < v.length
 ·have hpi0 := hp i hlt
  try simp only [eEv, List.map_cons, List.map_nil] at hpi0
  simp (disch := (first | decide | omega)) only [hA, hg1, eEv, List.length_map, go_sem]
  refine ACalls_mono _ _ _ _ _ _ (hB ▸ hpi0) ?_
  rintro r b' l' ⟨rfl, rfl, rfl⟩
  cases hpi : p i
  ·simp (disch := (first | decide | omega)) only [hA, hg1, hpi, go_sem]
   refine ⟨i + 1, ⟨hlt, fun j hj => ?_⟩, by simp only; omega, ?_⟩
   ·rcases Nat.lt_or_ge j i with hji | hji
    ·exact h0 j hji
    ·have : j = i := by omega
     rw [this]; exact hpi
   exact Weak.kround (p := r_IndE0) (k := 0) (by ((repeat refine (kAny_up rfl).trans ?_); exact hEE1)) (by ((try simp (disch := decide) only [hA, go_sem]) <;> exact kH)) rfl hE1 (by simp) kV hR kL
  ·simp (disch := (first | decide | omega)) only [hA, hg1, hpi, go_sem]
   exact leave_pure (xs := [.v (.int .i64 i)]) (.inr rfl) (by simp (disch := (first | decide | omega)) only [resVs, resV, go_sem, hA, hg1]) kO hR hB ⟨by rw [firstP_at hlt h0 hpi]; rfl, rfl, rfl⟩
 ·simp (disch := (first | decide | omega)) only [hA, hg1, List.length_map, go_sem]
  obtain rfl : i = v.length := by omega
  exact leave_pure (xs := [.v (.int .i64 (-1))]) (.inr rfl) (by simp (disch := (first | decide | omega)) only [resVs, resV, go_sem, hA, hg1]) kO hR hB ⟨by rw [firstP_none h0]; rfl, rfl, rfl⟩
theorem containsE_spec (v : List (Ev)) (k : Nat) (caps : List AV) (p : Nat → Bool) (hn : v.length ≤ 1000000) (b l : List Row)
  (hp : ∀ (i : Nat) (h : i < v.length), ACalls Try.prog k (.agg ((eEv v[i]).map .v) :: caps) (b ++ l) [] (fun r b' l' => r = .v (.bool (p i)) ∧ b' = b ++ l ∧ l' = [])) :
  ACalls Try.prog 75 [.v (.isl 5 (v.map eEv)), .fn k caps] b l (fun r b' l' => r = .v (.bool ((List.range v.length).any p)) ∧ b' = b ∧ l' = l) := by
 refine calls_kept a_ConE_ok rfl (by decide) ?_
 intro B g hB hR hE hA
 simp only [KArgs] at hA
 simp (disch := decide) only [a_ConE, hA, go_sem]
 refine ACalls.nxt (indexE_spec v k caps p hn B [] (by rw [List.append_nil, hB]; exact hp)) ?_
 simp (disch := decide) only [hA, go_sem]
 exact leave_pure (xs := [.v (.bool (decide (0 ≤ firstP p v.length)))]) (.inr rfl) (by simp (disch := (first | decide | omega)) only [resVs, resV, go_sem, hA]) kO hR hB ⟨by rw [firstP_ge]; rfl, rfl, rfl⟩
def a_sTr : AFunc := ⟨2,94,[.tmp 4],(.seq (.region [⟨some 2,.box (.t 0),none⟩,⟨some 3,.box (.t 1),none⟩,⟨some 4,.mv (.c (.v (.bool false))),none⟩]) (.seq (.seq (.region [⟨some 10,.faddr 0 (.t 2),none⟩,⟨some 11,.load none (.t 10),none⟩,⟨some 12,.len (.t 11),none⟩,⟨some 13,.faddr 0 (.t 3),none⟩,⟨some 14,.load none (.t 13),none⟩,⟨some 15,.len (.t 14),none⟩,⟨some 16,.bin .neq (.t 12) (.t 15),none⟩]) (.cond (.t 16) (.seq (.region [⟨some 4,.mv (.c (.v (.bool false))),none⟩]) .ret) .skip)) (.seq (.seq (.region [⟨some 5,.mv (.c (.v (.int .i64 0))),none⟩]) (.block 0 (.loop (.seq (.seq (.region [⟨some 17,.mv (.t 5),none⟩,⟨some 18,.faddr 0 (.t 2),none⟩,⟨some 19,.load none (.t 18),none⟩,⟨some 20,.len (.t 19),none⟩,⟨some 21,.bin .lss (.t 17) (.t 20),none⟩]) (.cond (.t 21) .skip (.exit 0))) (.seq (.block 1 (.seq (.draw [⟨0,⟨some 24,.faddr 0 (.t 2),none⟩,[]⟩,⟨1,⟨some 25,.load none (.t 24),none⟩,[]⟩,⟨2,⟨some 26,.mv (.t 5),none⟩,[]⟩,⟨3,⟨some 27,.iaddr 3 (.t 25) (.t 26),none⟩,[]⟩,⟨4,⟨some 28,.load (some 3) (.t 27),none⟩,[]⟩,⟨5,⟨some 29,.faddr 0 (.t 3),none⟩,[]⟩,⟨6,⟨some 30,.load none (.t 29),none⟩,[]⟩,⟨7,⟨some 31,.mv (.t 5),none⟩,[]⟩,⟨8,⟨some 32,.iaddr 3 (.t 30) (.t 31),none⟩,[]⟩,⟨9,⟨some 33,.load (some 3) (.t 32),none⟩,[]⟩,⟨10,⟨some 6,.alloc [(.v (.str ⟨#[]⟩)),(.v .zsl),(.v .zsl)],none⟩,[⟨some 24,.faddr 0 (.t 2),none⟩,⟨some 25,.load none (.t 24),none⟩,⟨some 26,.mv (.t 5),none⟩,⟨some 27,.iaddr 3 (.t 25) (.t 26),none⟩,⟨some 28,.load (some 3) (.t 27),none⟩,⟨some 29,.faddr 0 (.t 3),none⟩,⟨some 30,.load none (.t 29),none⟩,⟨some 31,.mv (.t 5),none⟩,⟨some 32,.iaddr 3 (.t 30) (.t 31),none⟩,⟨some 33,.load (some 3) (.t 32),none⟩]⟩,⟨11,⟨some 7,.alloc [(.v (.str ⟨#[]⟩)),(.v .zsl),(.v .zsl)],none⟩,[⟨some 24,.faddr 0 (.t 2),none⟩,⟨some 25,.load none (.t 24),none⟩,⟨some 26,.mv (.t 5),none⟩,⟨some 27,.iaddr 3 (.t 25) (.t 26),none⟩,⟨some 28,.load (some 3) (.t 27),none⟩,⟨some 29,.faddr 0 (.t 3),none⟩,⟨some 30,.load none (.t 29),none⟩,⟨some 31,.mv (.t 5),none⟩,⟨some 32,.iaddr 3 (.t 30) (.t 31),none⟩,⟨some 33,.load (some 3) (.t 32),none⟩]⟩,⟨12,⟨none,.store 3 (.t 6) (.t 28),none⟩,[⟨some 29,.faddr 0 (.t 3),none⟩,⟨some 30,.load none (.t 29),none⟩,⟨some 31,.mv (.t 5),none⟩,⟨some 32,.iaddr 3 (.t 30) (.t 31),none⟩,⟨some 33,.load (some 3) (.t 32),none⟩]⟩,⟨13,⟨none,.store 3 (.t 7) (.t 33),none⟩,[]⟩]) (.seq (.seq (.region [⟨some 34,.faddr 0 (.t 6),none⟩,⟨some 35,.load none (.t 34),none⟩,⟨some 36,.faddr 0 (.t 7),none⟩,⟨some 37,.load none (.t 36),none⟩,⟨some 38,.binS .neq (.t 35) (.t 37),none⟩,⟨some 39,.mv (.t 38),none⟩,⟨some 40,.faddr 1 (.t 6),some (39,false)⟩,⟨some 41,.load none (.t 40),some (39,false)⟩,⟨some 42,.len (.t 41),some (39,false)⟩,⟨some 43,.faddr 1 (.t 7),some (39,false)⟩,⟨some 44,.load none (.t 43),some (39,false)⟩,⟨some 45,.len (.t 44),some (39,false)⟩,⟨some 46,.bin .neq (.t 42) (.t 45),some (39,false)⟩,⟨some 47,.pick (.t 39) (.c (.v (.bool true))) (.t 46),none⟩,⟨some 48,.mv (.t 47),none⟩,⟨some 49,.faddr 2 (.t 6),some (48,false)⟩,⟨some 50,.load none (.t 49),some (48,false)⟩,⟨some 51,.len (.t 50),some (48,false)⟩,⟨some 52,.faddr 2 (.t 7),some (48,false)⟩,⟨some 53,.load none (.t 52),some (48,false)⟩,⟨some 54,.len (.t 53),some (48,false)⟩,⟨some 55,.bin .neq (.t 51) (.t 54),some (48,false)⟩,⟨some 56,.pick (.t 48) (.c (.v (.bool true))) (.t 55),none⟩]) (.cond (.t 56) (.seq (.region [⟨some 4,.mv (.c (.v (.bool false))),none⟩]) .ret) .skip)) (.seq (.seq (.region [⟨some 8,.mv (.c (.v (.int .i64 0))),none⟩]) (.block 2 (.loop (.seq (.seq (.region [⟨some 57,.mv (.t 8),none⟩,⟨some 58,.faddr 1 (.t 6),none⟩,⟨some 59,.load none (.t 58),none⟩,⟨some 60,.len (.t 59),none⟩,⟨some 61,.bin .lss (.t 57) (.t 60),none⟩]) (.cond (.t 61) .skip (.exit 2))) (.seq (.block 3 (.seq (.draw [⟨0,⟨some 64,.faddr 1 (.t 6),none⟩,[]⟩,⟨1,⟨some 65,.load none (.t 64),none⟩,[]⟩,⟨2,⟨some 66,.mv (.t 8),none⟩,[]⟩,⟨3,⟨some 67,.iaddr 2 (.t 65) (.t 66),none⟩,[]⟩,⟨4,⟨some 68,.load (some 2) (.t 67),none⟩,[]⟩,⟨5,⟨some 69,.faddr 1 (.t 7),none⟩,[]⟩,⟨6,⟨some 70,.load none (.t 69),none⟩,[]⟩,⟨7,⟨some 71,.mv (.t 8),none⟩,[]⟩,⟨8,⟨some 72,.iaddr 2 (.t 70) (.t 71),none⟩,[]⟩,⟨9,⟨some 73,.load (some 2) (.t 72),none⟩,[]⟩,⟨10,⟨some 74,.eqs true [.s,.i] (.t 68) (.t 73),none⟩,[]⟩]) (.cond (.t 74) (.seq (.region [⟨some 4,.mv (.c (.v (.bool false))),none⟩]) .ret) .skip))) (.region [⟨some 62,.mv (.t 8),none⟩,⟨some 63,.bin .add (.t 62) (.c (.v (.int .i64 1))),none⟩,⟨some 8,.mv (.t 63),none⟩])))))) (.seq (.region [⟨some 9,.mv (.c (.v (.int .i64 0))),none⟩]) (.block 4 (.loop (.seq (.seq (.region [⟨some 75,.mv (.t 9),none⟩,⟨some 76,.faddr 2 (.t 6),none⟩,⟨some 77,.load none (.t 76),none⟩,⟨some 78,.len (.t 77),none⟩,⟨some 79,.bin .lss (.t 75) (.t 78),none⟩]) (.cond (.t 79) .skip (.exit 4))) (.seq (.block 5 (.seq (.draw [⟨0,⟨some 82,.faddr 2 (.t 6),none⟩,[]⟩,⟨1,⟨some 83,.load none (.t 82),none⟩,[]⟩,⟨2,⟨some 84,.mv (.t 9),none⟩,[]⟩,⟨3,⟨some 85,.iaddr 5 (.t 83) (.t 84),none⟩,[]⟩,⟨4,⟨some 86,.load (some 5) (.t 85),none⟩,[]⟩,⟨5,⟨some 87,.faddr 2 (.t 7),none⟩,[]⟩,⟨6,⟨some 88,.load none (.t 87),none⟩,[]⟩,⟨7,⟨some 89,.mv (.t 9),none⟩,[]⟩,⟨8,⟨some 90,.iaddr 5 (.t 88) (.t 89),none⟩,[]⟩,⟨9,⟨some 91,.load (some 5) (.t 90),none⟩,[]⟩,⟨10,⟨some 92,.call (.c (.fn 85 [])) [(.t 86),(.t 91)],none⟩,[]⟩,⟨11,⟨some 93,.not (.t 92),none⟩,[]⟩]) (.cond (.t 93) (.seq (.region [⟨some 4,.mv (.c (.v (.bool false))),none⟩]) .ret) .skip))) (.region [⟨some 80,.mv (.t 9),none⟩,⟨some 81,.bin .add (.t 80) (.c (.v (.int .i64 1))),none⟩,⟨some 9,.mv (.t 81),none⟩])))))))))) (.region [⟨some 22,.mv (.t 5),none⟩,⟨some 23,.bin .add (.t 22) (.c (.v (.int .i64 1))),none⟩,⟨some 5,.mv (.t 23),none⟩])))))) (.seq (.region [⟨some 4,.mv (.c (.v (.bool true))),none⟩]) .ret))))⟩
theorem a_sTr_ok : cFunc Try.prog 20 = some a_sTr := by kernel_rfl
def r_sTr0 : List (Nat × Nat) := [(4, 9), (17, 93)]
def r_sTr1 : List (Nat × Nat) := [(4, 4), (8, 8), (57, 74)]
def r_sTr2 : List (Nat × Nat) := [(4, 4), (9, 9), (75, 93)]
def a_sEv : AFunc := ⟨2,59,[.tmp 4],(.seq (.region [⟨some 2,.box (.t 0),none⟩,⟨some 3,.box (.t 1),none⟩,⟨some 4,.mv (.c (.v (.bool false))),none⟩]) (.seq (.seq (.region [⟨some 6,.faddr 0 (.t 2),none⟩,⟨some 7,.load none (.t 6),none⟩,⟨some 8,.faddr 0 (.t 3),none⟩,⟨some 9,.load none (.t 8),none⟩,⟨some 10,.bin .neq (.t 7) (.t 9),none⟩,⟨some 11,.mv (.t 10),none⟩,⟨some 12,.faddr 1 (.t 2),some (11,false)⟩,⟨some 13,.load none (.t 12),some (11,false)⟩,⟨some 14,.faddr 1 (.t 3),some (11,false)⟩,⟨some 15,.load none (.t 14),some (11,false)⟩,⟨some 16,.bin .neq (.t 13) (.t 15),some (11,false)⟩,⟨some 17,.pick (.t 11) (.c (.v (.bool true))) (.t 16),none⟩,⟨some 18,.mv (.t 17),none⟩,⟨some 19,.faddr 2 (.t 2),some (18,false)⟩,⟨some 20,.load none (.t 19),some (18,false)⟩,⟨some 21,.faddr 2 (.t 3),some (18,false)⟩,⟨some 22,.load none (.t 21),some (18,false)⟩,⟨some 23,.bin .neq (.t 20) (.t 22),some (18,false)⟩,⟨some 24,.pick (.t 18) (.c (.v (.bool true))) (.t 23),none⟩,⟨some 25,.mv (.t 24),none⟩,⟨some 26,.faddr 3 (.t 2),some (25,false)⟩,⟨some 27,.load none (.t 26),some (25,false)⟩,⟨some 28,.faddr 3 (.t 3),some (25,false)⟩,⟨some 29,.load none (.t 28),some (25,false)⟩,⟨some 30,.bin .neq (.t 27) (.t 29),some (25,false)⟩,⟨some 31,.pick (.t 25) (.c (.v (.bool true))) (.t 30),none⟩,⟨some 32,.mv (.t 31),none⟩,⟨some 33,.faddr 4 (.t 2),some (32,false)⟩,⟨some 34,.load none (.t 33),some (32,false)⟩,⟨some 35,.len (.t 34),some (32,false)⟩,⟨some 36,.faddr 4 (.t 3),some (32,false)⟩,⟨some 37,.load none (.t 36),some (32,false)⟩,⟨some 38,.len (.t 37),some (32,false)⟩,⟨some 39,.bin .neq (.t 35) (.t 38),some (32,false)⟩,⟨some 40,.pick (.t 32) (.c (.v (.bool true))) (.t 39),none⟩]) (.cond (.t 40) (.seq (.region [⟨some 4,.mv (.c (.v (.bool false))),none⟩]) .ret) .skip)) (.seq (.seq (.region [⟨some 5,.mv (.c (.v (.int .i64 0))),none⟩]) (.block 0 (.loop (.seq (.seq (.region [⟨some 41,.mv (.t 5),none⟩,⟨some 42,.faddr 4 (.t 2),none⟩,⟨some 43,.load none (.t 42),none⟩,⟨some 44,.len (.t 43),none⟩,⟨some 45,.bin .lss (.t 41) (.t 44),none⟩]) (.cond (.t 45) .skip (.exit 0))) (.seq (.block 1 (.seq (.draw [⟨0,⟨some 48,.faddr 4 (.t 2),none⟩,[]⟩,⟨1,⟨some 49,.load none (.t 48),none⟩,[]⟩,⟨2,⟨some 50,.mv (.t 5),none⟩,[]⟩,⟨3,⟨some 51,.iaddr 2 (.t 49) (.t 50),none⟩,[]⟩,⟨4,⟨some 52,.load (some 2) (.t 51),none⟩,[]⟩,⟨5,⟨some 53,.faddr 4 (.t 3),none⟩,[]⟩,⟨6,⟨some 54,.load none (.t 53),none⟩,[]⟩,⟨7,⟨some 55,.mv (.t 5),none⟩,[]⟩,⟨8,⟨some 56,.iaddr 2 (.t 54) (.t 55),none⟩,[]⟩,⟨9,⟨some 57,.load (some 2) (.t 56),none⟩,[]⟩,⟨10,⟨some 58,.eqs true [.i,.i] (.t 52) (.t 57),none⟩,[]⟩]) (.cond (.t 58) (.seq (.region [⟨some 4,.mv (.c (.v (.bool false))),none⟩]) .ret) .skip))) (.region [⟨some 46,.mv (.t 5),none⟩,⟨some 47,.bin .add (.t 46) (.c (.v (.int .i64 1))),none⟩,⟨some 5,.mv (.t 47),none⟩])))))) (.seq (.region [⟨some 4,.mv (.c (.v (.bool true))),none⟩]) .ret))))⟩
theorem a_sEv_ok : cFunc Try.prog 85 = some a_sEv := by kernel_rfl
def r_sEv0 : List (Nat × Nat) := [(4, 5), (41, 58)]

theorem ba_refl (s : ByteArray) : (s == s) = true := by
 cases s with
 | mk d => show (d == d) = true; exact beq_self_eq_true d
theorem sEv_refl (x : Ev) (hx : x.asg.length ≤ 1000000) (b l : List Row) : ACalls Try.prog 85 [.agg ((eEv x).map .v), .agg ((eEv x).map .v)] b l (fun r b' l' => r = .v (.bool true) ∧ b' = b ∧ l' = l) := by
 refine calls_kept a_sEv_ok rfl (by decide) ?_
 intro B g hB hR hE hA
 simp only [KArgs] at hA
 have ne : ∀ n : Int, (n != n) = false := by simp
 simp only [eEv, List.map_cons, List.map_nil] at hA
 simp (disch := (first | decide | omega)) only [a_sEv, hA, ne, List.length_map, go_sem]
 refine loop_kept (ι := Nat) r_sEv0 (fun i => [(5, .v (.int .i64 i))]) 2 (fun _ => [.live 0 5 [[.v (.int .i64 x.kind), .v (.int .i64 x.peer), .v (.int .i64 x.msg), .v (.int .i64 x.time), .v (.isl 2 (x.asg.map eAsg))]], .live 0 5 [[.v (.int .i64 x.kind), .v (.int .i64 x.peer), .v (.int .i64 x.msg), .v (.int .i64 x.time), .v (.isl 2 (x.asg.map eAsg))]]])
  (fun i => i ≤ x.asg.length) (fun i => x.asg.length - i) 0 (Nat.zero_le _) (by (repeat (first | exact hE.mono oM | refine KLt.up ?_ kL))) (by ((try simp (disch := decide) only [hA, go_sem]) <;> exact kH)) (fun e => Weak.refl _ _ _) ?_
 intro g1 hE1 hEE1 hg1 i hi
 by_cases hlt : i < x.asg.length
 ·simp (disch := (first | decide | omega)) only [hA, hg1, ne, eAsg, List.length_map, go_sem]
  refine ⟨i + 1, hlt, by simp only; omega, ?_⟩
  exact Weak.kround (p := r_sEv0) (k := 2) (by ((repeat refine (kAny_up rfl).trans ?_); exact hEE1)) (by ((try simp (disch := decide) only [hA, go_sem]) <;> exact kH)) rfl hE1 (by simp) kV hR kL
 ·simp (disch := (first | decide | omega)) only [hA, hg1, List.length_map, go_sem]
  exact leave_pure (xs := [.v (.bool true)]) (.inr rfl) (by simp (disch := (first | decide | omega)) only [resVs, resV, go_sem, hA]) kO hR hB ⟨rfl, rfl, rfl⟩
set_option maxHeartbeats 8000000 in
theorem sTr_refl (t : Tr) (hS : Small t) (b l : List Row) : ACalls Try.prog 20 [.agg [.v (eT t)], .agg [.v (eT t)]] b l (fun r b' l' => r = .v (.bool true) ∧ b' = b ∧ l' = l) := by
 refine calls_kept a_sTr_ok rfl (by decide) ?_
 intro B g hB hR hE hA
 simp only [KArgs] at hA
 have hnp := hS.np
 have ne : ∀ n : Int, (n != n) = false := by simp
 have eTe : eT t = .isl 3 (t.map ePr) := rfl
 simp only [eTe] at hA
 simp (disch := (first | decide | omega)) only [a_sTr, hA, ne, List.length_map, go_sem]
 refine loop_kept (ι := Nat) r_sTr0 (fun i => [(5, .v (.int .i64 i))]) 2 (fun _ => [.live 0 1 [[.v (.isl 3 (t.map ePr))]], .live 0 1 [[.v (.isl 3 (t.map ePr))]]])
  (fun i => i ≤ t.length) (fun i => t.length - i) 0 (Nat.zero_le _) (by (repeat (first | exact hE.mono oM | refine KLt.up ?_ kL))) (by ((try simp (disch := decide) only [hA, go_sem]) <;> exact kH)) (fun e => Weak.refl _ _ _) ?_
 intro g1 hE1 hEE1 hg1 i hi
 by_cases hlt : i < t.length
 ·have hnv := hS.nv _ (List.getElem_mem hlt)
  have hne := hS.ne _ (List.getElem_mem hlt)
  have hna := hS.na _ (List.getElem_mem hlt)
  simp (disch := (first | decide | omega)) only [hA, hg1, ePr, ne, ba_refl, setFrom, cellsOf, List.length_map, go_sem]
  refine loop_kept (ι := Nat) r_sTr1 (fun i => [(8, .v (.int .i64 i))]) 4 (fun _ => [.live 0 1 [[.v (.isl 3 (t.map ePr))]], .live 0 1 [[.v (.isl 3 (t.map ePr))]], .live 0 3 [[.v (.str t[i].name), .v (.isl 2 (t[i].vars.map eVr)), .v (.isl 5 (t[i].evs.map eEv))]], .live 0 3 [[.v (.str t[i].name), .v (.isl 2 (t[i].vars.map eVr)), .v (.isl 5 (t[i].evs.map eEv))]]])
   (fun j => j ≤ t[i].vars.length) (fun j => t[i].vars.length - j) 0 (Nat.zero_le _) (by (repeat (first | exact hE1.mono oM | refine KLt.up ?_ kL))) (by ((try simp (disch := decide) only [hA, hg1, go_sem]) <;> exact kH)) (fun e => Weak.refl _ _ _) ?_
  intro g2 hE2 hEE2 hg2 j hj
  by_cases hjv : j < t[i].vars.length
  ·simp (disch := (first | decide | omega)) only [hA, hg1, hg2, eVr, ne, ba_refl, List.length_map, go_sem]
   refine ⟨j + 1, hjv, by simp only; omega, ?_⟩
   exact Weak.kround (p := r_sTr1) (k := 4) (by ((repeat refine (kAny_up rfl).trans ?_); exact hEE2)) (by ((try simp (disch := decide) only [hA, go_sem]) <;> exact kH)) rfl hE2 (by simp) kV hR kL
  simp (disch := (first | decide | omega)) only [hA, hg1, hg2, List.length_map, go_sem]
  refine loop_kept (ι := Nat) r_sTr2 (fun i => [(9, .v (.int .i64 i))]) 4 (fun _ => [.live 0 1 [[.v (.isl 3 (t.map ePr))]], .live 0 1 [[.v (.isl 3 (t.map ePr))]], .live 0 3 [[.v (.str t[i].name), .v (.isl 2 (t[i].vars.map eVr)), .v (.isl 5 (t[i].evs.map eEv))]], .live 0 3 [[.v (.str t[i].name), .v (.isl 2 (t[i].vars.map eVr)), .v (.isl 5 (t[i].evs.map eEv))]]])
   (fun j => j ≤ t[i].evs.length) (fun j => t[i].evs.length - j) 0 (Nat.zero_le _) (by (repeat (first | exact hE2.mono oM | refine KLt.up ?_ kL))) (by ((try simp (disch := decide) only [hA, hg1, hg2, go_sem]) <;> exact kH)) (fun e => Weak.refl _ _ _) ?_
  intro g3 hE3 hEE3 hg3 j hj
  by_cases hjv : j < t[i].evs.length
  ·have cE := fun b l => sEv_refl t[i].evs[j] (hna _ (List.getElem_mem hjv)) b l
   simp only [eEv, List.map_cons, List.map_nil] at cE
   simp (disch := (first | decide | omega)) only [hA, hg1, hg2, hg3, eEv, List.length_map, go_sem]
   refine ACalls.nxt (cE _ _) ?_
   simp (disch := (first | decide | omega)) only [hA, hg1, hg2, hg3, go_sem]
   refine ⟨j + 1, hjv, by simp only; omega, ?_⟩
   exact Weak.kround (p := r_sTr2) (k := 4) (by ((repeat refine (kAny_up rfl).trans ?_); exact hEE3)) (by ((try simp (disch := decide) only [hA, go_sem]) <;> exact kH)) rfl hE3 (by simp) kV hR kL
  ·simp (disch := (first | decide | omega)) only [hA, hg1, hg2, hg3, List.length_map, go_sem]
   refine ⟨i + 1, hlt, by simp only; omega, ?_⟩
   exact Weak.kround (p := r_sTr0) (k := 2) (by ((repeat refine (kAny_up rfl).trans ?_); refine (kAny_sub hg3 (kIn_sub rfl)).trans ?_; (repeat refine (kAny_up rfl).trans ?_); refine (kAny_sub hg2 (kIn_sub rfl)).trans ?_; (repeat refine (kAny_up rfl).trans ?_); exact hEE1)) (by ((try simp (disch := decide) only [hA, go_sem]) <;> exact kH)) rfl hE1 (by simp) kV hR kL
 ·simp (disch := (first | decide | omega)) only [hA, hg1, List.length_map, go_sem]
  exact leave_pure (xs := [.v (.bool true)]) (.inr rfl) (by simp (disch := (first | decide | omega)) only [resVs, resV, go_sem, hA]) kO hR hB ⟨rfl, rfl, rfl⟩
end Go.Proofs.Ytanblnhnfkeffaa
