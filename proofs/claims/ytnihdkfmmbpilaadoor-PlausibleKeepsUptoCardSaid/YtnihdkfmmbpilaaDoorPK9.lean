/- Texts of one proof, laid together: HA, HN, VR. No condition. -/
import Derived.Test.YtnihdkfmmbpilaaDoorPK5
import Derived.Test.YtnihdkfmmbpilaaDoorPK2
import Derived.Test.YtnihdkfmmbpilaaDoorPK7
import Derived.Test.YtnihdkfmmbpilaaDoorPK8
import Derived.Test.YtnihdkfmmbpilaaDoorProg
import Derived.KernelRfl
namespace Go.Proofs.YtnihdkfmmbpilaaDoor
set_option linter.unusedVariables false
set_option linter.unusedSimpArgs false
def lftN (len c : Nat → Nat) : Nat → Nat
 | 0 => 0
 | n + 1 => lftN len c n + (len n - c n)
theorem lftN_up {len c : Nat → Nat} {p v : Nat} : ∀ {n : Nat}, n ≤ p → lftN len (fUp c p v) n = lftN len c n
 | 0, _ => rfl
 | n + 1, h => by
   unfold lftN
   rw [lftN_up oM, fUp_ne oM]
theorem lftN_step {len c : Nat → Nat} {p v : Nat} (h1 : c p ≤ v) (h2 : v ≤ len p) : ∀ {n : Nat}, p < n → lftN len (fUp c p v) n + (v - c p) = lftN len c n
 | 0, h => by omega
 | n + 1, h => by
   unfold lftN
   by_cases hp : p < n
   ·have := lftN_step (n := n) h1 h2 hp
    rw [fUp_ne oM]; omega
   ·obtain rfl : p = n := by omega
    rw [lftN_up (Nat.le_refl _), fUp_same]; omega
def lft (t : Tr) (c : Nat → Nat) : Nat := lftN (fun p => (evsOf t p).length) c t.length
theorem lft_step {t : Tr} {c : Nat → Nat} {p v : Nat} (hp : p < t.length) (h1 : c p ≤ v) (h2 : v ≤ (evsOf t p).length) : lft t (fUp c p v) + (v - c p) = lft t c := lftN_step (len := fun p => (evsOf t p).length) h1 h2 hp
noncomputable def bkL (t : Tr) (p n i : Nat) : List (Nat × Nat) := (List.range (n - i)).flatMap fun k => backL t (p, n - k)
theorem bkL_nil {t : Tr} {p n : Nat} : bkL t p n n = [] := by unfold bkL; simp
theorem bkL_step {t : Tr} {p n i : Nat} (h : i < n) : bkL t p n i = bkL t p n (i + 1) ++ backL t (p, i + 1) := by
 unfold bkL
 rw [show n - i = (n - (i + 1)) + 1 by omega, List.range_succ, List.flatMap_append]
 simp only [List.flatMap_cons, List.flatMap_nil, List.append_nil]
 rw [show n - (n - (i + 1)) = i + 1 by omega]
theorem bkL_len {t : Tr} {p n i : Nat} (h : i ≤ n) : (bkL t p n i).length ≤ 2 * (n - i) := by
 obtain ⟨d, rfl⟩ : ∃ d, n = i + d := ⟨n - i, by omega⟩
 induction d generalizing i with
 | zero => rw [Nat.add_zero, bkL_nil]; simp
 | succ d ih =>
   rw [bkL_step oM, List.length_append, show i + (d + 1) = (i + 1) + d by omega]
   have h1 := ih (i := i + 1) oM
   have h2 := backL_len t (p, i + 1)
   omega
theorem mem_bkL {t : Tr} {p n i : Nat} {y : Nat × Nat} (h : y ∈ bkL t p n i) : ∃ j, i < j ∧ j ≤ n ∧ y ∈ backL t (p, j) := by
 unfold bkL at h
 obtain ⟨k, hk, hy⟩ := List.mem_flatMap.1 h
 have := List.mem_range.1 hk
 exact ⟨n - k, by omega, by omega, hy⟩
theorem bkL_mem {t : Tr} {p n i j : Nat} {y : Nat × Nat} (h1 : i < j) (h2 : j ≤ n) (hy : y ∈ backL t (p, j)) : y ∈ bkL t p n i := by
 unfold bkL
 exact List.mem_flatMap.2 ⟨n - j, List.mem_range.2 oM, by rwa [show n - (n - j) = j by omega]⟩
structure Pst (t : Tr) (x : Nat × Nat) (c : Nat → Nat) (Q : List (Nat × Nat)) : Prop where
 q : ∀ y ∈ Q, y ∈ ids t ∧ Le t y x
 le : ∀ p i, i < c p → p < t.length ∧ i < (evsOf t p).length ∧ Le t (p, i + 1) x
 src : x ∈ Q ∨ x.2 ≤ c x.1
 cl : ∀ z ∈ ids t, z.2 ≤ c z.1 → ∀ y ∈ backL t z, y ∈ Q ∨ y.2 ≤ c y.1
theorem Pst.start {t : Tr} {x : Nat × Nat} (hx : x ∈ ids t) : Pst t x (fun _ => 0) [x] := by
 refine ⟨fun y hy => ?_, fun p i h => by simp at h, .inl (by simp), fun z hz h => ?_⟩
 ·simp only [List.mem_singleton] at hy; subst hy; exact ⟨hx, .refl _⟩
 ·have := (mem_ids.1 hz).2.1
  omega
theorem Pst.cle {t : Tr} {x : Nat × Nat} {c : Nat → Nat} {Q : List (Nat × Nat)} (h : Pst t x c Q) (p : Nat) : c p ≤ (evsOf t p).length := by
 cases hc : c p with
 | zero => omega
 | succ n => have := (h.le p n oM).2.1; omega
theorem Pst.skip {t : Tr} {x y : Nat × Nat} {c : Nat → Nat} {Q : List (Nat × Nat)} (h : Pst t x c (y :: Q)) (hc : y.2 ≤ c y.1) : Pst t x c Q := by
 refine ⟨fun z hz => h.q z (by simp [hz]), h.le, ?_, fun z hz hzc w hw => ?_⟩
 ·rcases h.src with h1 | h1
  ·rcases List.mem_cons.1 h1 with rfl | h2
   ·exact .inr hc
   ·exact .inl h2
  ·exact .inr h1
 ·rcases h.cl z hz hzc w hw with h1 | h1
  ·rcases List.mem_cons.1 h1 with rfl | h2
   ·exact .inr hc
   ·exact .inl h2
  ·exact .inr h1
theorem Pst.mark {t : Tr} (hv : Vok t) {x : Nat × Nat} {p n : Nat} {c : Nat → Nat} {Q : List (Nat × Nat)} (h : Pst t x c ((p, n) :: Q)) (hc : c p < n) : Pst t x (fUp c p n) (Q ++ bkL t p n (c p)) := by
 obtain ⟨hy, hl⟩ := h.q (p, n) (by simp)
 obtain ⟨n, rfl⟩ : ∃ k, n = k + 1 := ⟨n - 1, by have := (mem_ids.1 hy).2.1; simp only at this; omega⟩
 obtain ⟨hp, hn⟩ := mem_ids2.1 hy
 have up : ∀ q, c q ≤ fUp c p (n + 1) q := fun q => by
  by_cases hq : q = p
  ·subst hq; rw [fUp_same]; omega
  ·rw [fUp_ne hq]; exact Nat.le_refl _
 refine ⟨fun z hz => ?_, fun q i hi => ?_, ?_, fun z hz hzc w hw => ?_⟩
 ·rcases List.mem_append.1 hz with hz | hz
  ·exact h.q z (by simp [hz])
  ·obtain ⟨j, h1, h2, h3⟩ := mem_bkL hz
   obtain ⟨j, rfl⟩ : ∃ k, j = k + 1 := ⟨j - 1, by omega⟩
   obtain ⟨h4, h5⟩ := back_mem hv (mem_ids2.2 ⟨hp, by omega⟩) h3
   exact ⟨h4, Le.trans (.inr h5) ((le_row h2 oM).trans hl)⟩
 ·by_cases hq : q = p
  ·subst hq
   rw [fUp_same] at hi
   exact ⟨hp, by omega, (le_row oM oM).trans hl⟩
  ·rw [fUp_ne hq] at hi
   exact h.le q i hi
 ·rcases h.src with h1 | h1
  ·rcases List.mem_cons.1 h1 with rfl | h2
   ·exact .inr (by simp only; rw [fUp_same]; omega)
   ·exact .inl (List.mem_append.2 (.inl h2))
  ·exact .inr (Nat.le_trans h1 (up _))
 ·have old : z.2 ≤ c z.1 → w ∈ Q ++ bkL t p (n + 1) (c p) ∨ w.2 ≤ fUp c p (n + 1) w.1 := fun h0 => by
   rcases h.cl z hz h0 w hw with h1 | h1
   ·rcases List.mem_cons.1 h1 with rfl | h2
    ·exact .inr (by simp only; rw [fUp_same]; omega)
    ·exact .inl (List.mem_append.2 (.inl h2))
   ·exact .inr (Nat.le_trans h1 (up _))
  obtain ⟨zp, zi⟩ := z
  by_cases hq : zp = p
  ·subst hq
   simp only at hzc
   rw [fUp_same] at hzc
   by_cases h0 : zi ≤ c zp
   ·exact old h0
   ·exact .inl (List.mem_append.2 (.inr (bkL_mem oM hzc hw)))
  ·simp only at hzc
   rw [fUp_ne hq] at hzc
   exact old hzc
theorem Pst.all {t : Tr} (hv : Vok t) {x : Nat × Nat} {c : Nat → Nat} (h : Pst t x c []) : ∀ n z, rk t z = n → z ∈ ids t → z.2 ≤ c z.1 → ∀ w ∈ ids t, Le t w z → w.2 ≤ c w.1 := by
 intro n
 induction n using Nat.strongRecOn with
 | _ n ih =>
   intro z hn hz hzc w hw hl
   rcases (le_back hv hz hw).1 hl with rfl | ⟨y, hy, hl2⟩
   ·exact hzc
   ·obtain ⟨h1, h2⟩ := back_mem hv hz hy
    rcases h.cl z hz hzc y hy with h3 | h3
    ·simp at h3
    ·exact ih (rk t y) (by rw [← hn]; exact rk_lt hv hz h2) y rfl h1 h3 w hw hl2
theorem Pst.done {t : Tr} (hv : Vok t) {x : Nat × Nat} (hx : x ∈ ids t) {c : Nat → Nat} (h : Pst t x c []) {p : Nat} (hp : p < t.length) : c p = vc t x p := by
 refine thresh (n := (evsOf t p).length) (h.cle p) vc_le (fun j hj => ?_)
 rw [← vc_iff hj]
 constructor
 ·exact fun hl => (h.le p j hl).2.2
 ·intro hl
  have hs : x.2 ≤ c x.1 := h.src.resolve_left (by simp)
  have := h.all hv (rk t x) x rfl hx hs (p, j + 1) (mem_ids2.2 ⟨hp, hj⟩) hl
  exact this
end Go.Proofs.YtnihdkfmmbpilaaDoor
namespace Go.Proofs.YtnihdkfmmbpilaaDoor
set_option linter.unusedVariables false
set_option linter.unusedSimpArgs false
theorem sndr_in {t : Tr} (hv : Vok t) {x : Nat × Nat} (hx : x ∈ ids t) (hk : (evAt t x).kind = 3) : sndr t x ∈ ids t ∧ Hb t (sndr t x) x := back_mem hv hx (sndr_back hk)
theorem sndr_peer {t : Tr} (hv : Vok t) {x : Nat × Nat} (hx : x ∈ ids t) (hk : (evAt t x).kind = 3) : (evAt t x).peer = ((sndr t x).1 : Int) ∧ (sndr t x).1 ≠ x.1 ∧ (evAt t (sndr t x)).kind = 2 ∧ (evAt t (sndr t x)).msg = (evAt t x).msg := by
 obtain ⟨m, q, hm, _, hq, hq2, hqp⟩ := formed_open (formF_formed (hv.form x hx)) (by rw [hk]; rfl)
 have hp := hv.pair x hx
 unfold pairF at hp
 rw [hk] at hp
 simp only [show ((3 : Int) == 2) = false from rfl, show ((3 : Int) == 3) = true from rfl, if_true, Bool.false_eq_true, if_false] at hp
 rw [if_pos (by have := (hv.paired.recv hx hk).1; simpa using this)] at hp
 have hs : sendsB t q (evAt t x).msg x.1 = true := by
  cases h : sendsB t q (evAt t x).msg x.1 with
  | true => rfl
  | false => rw [hq, Int.toNat_natCast, h] at hp; simp at hp
 unfold sendsB at hs
 obtain ⟨e, he, hb⟩ := List.any_eq_true.1 hs
 simp only [Bool.and_eq_true, beq_iff_eq] at hb
 rw [evsOf_lt hq2] at he
 obtain ⟨j, hj, rfl⟩ := List.getElem_of_mem he
 have hyi : (q, j + 1) ∈ ids t := mem_ids2.2 ⟨hq2, by rw [evsOf_lt hq2]; exact hj⟩
 have hye := evAt_eq hq2 hj
 have hf := hv.paired.send hyi (by rw [hye]; exact hb.1.1)
 rw [hye, hb.1.2] at hf
 have e1 : sndr t x = (q, j + 1) := (firstOf_find hf).1
 rw [e1, hye]
 exact ⟨hq, hqp, hb.1.1, hb.1.2⟩
end Go.Proofs.YtnihdkfmmbpilaaDoor
namespace Go.Proofs.YtnihdkfmmbpilaaDoor
set_option linter.unusedVariables false
set_option linter.unusedSimpArgs false
attribute [local go_sem ↓] run_skip run_region run_draw run_both run_seq run_block run_exit run_ret run_cond atN_app seqC_normal seqC_exit seqC_ret seqQ_normal seqQ_exit seqQ_ret blkQ_normal blkQ_exit blkQ_ret runOps_nil runOps_cons runD_nil runD_cons grdO_true grdO_false grdD_true grdD_false ifC_true ifC_false opS_val opS_call opS_two opK_app dS_val dS_call dS_two dK_app kUp_same kUp_ne
attribute [local go_sem] rechks_nil rechks_cons rechk gcase_true gcase_false ex_val ex_val0 gd_none gd_some ev_t ev_c evs_nil evs_cons evo_some evo_none hget_at hget_first hsetB_at hsetB_first hsetL_at hsetL_first ofOpt_some aop aload astore aslice aappend aiaddr aiaddrA afaddr alen alenS acopy amm acall alookup amupdate alenM atostr aappz comma keyEq apick binV binVB binVS isSh intOp strOp boolOp shOp eqC eqF and2 cellsOf setFrom fillA fillS rd rdI elems mk bounds AV.cell List.all_cons List.all_nil Bool.and_true Bool.true_and Bool.and_self List.length_cons List.length_nil List.length_append Nat.reduceAdd Nat.reduceSub Nat.reduceMul Nat.zero_add Nat.add_zero List.cons_append List.nil_append List.append_assoc List.append_nil List.getElem?_cons_zero List.getElem?_cons_succ List.getElem?_nil List.set_cons_zero List.set_cons_succ List.drop_zero List.drop_succ_cons List.take_zero List.take_succ_cons List.take_nil List.drop_nil List.map_cons List.map_nil Option.map_some if_true if_false Bool.false_eq_true and_self true_and and_true Nat.reduceLeDiff Nat.reduceLT Nat.le_refl Nat.reduceEqDiff ite_true ite_false beq_self_eq_true beq_true beq_false Bool.not_true Bool.not_false Bool.true_beq Bool.false_beq map_vs vs_len vs_get vs_take vs_drop vs_snoc1 vs_snoc2 vs_snoc3 vs_snoc5 vs_set1 vs_set2 vs_rep wrap_id le_T lt_T le_F lt_F leI_T ltI_T leI_F ltI_F geI gtI get_T decide_true decide_false room List.getElem?_map List.length_map List.length_take Int.toNat_natCast Nat.min_def Nat.min_self nth_kOf put_kOf put_kNo kOv_cons kOv_nil KHas KArgs List.getElem_cons_zero List.getElem_cons_succ
def a_Ind1 : AFunc := ⟨2,19,[.tmp 4],(.seq (.region [⟨some 4,.mv (.c (.v (.int .i64 0))),none⟩]) (.seq (.seq (.region [⟨some 6,.mv (.t 0),none⟩,⟨some 7,.len (.t 6),none⟩,⟨some 8,.mv (.c (.v (.int .i64 0))),none⟩]) (.block 0 (.loop (.seq (.region [⟨some 9,.bin .lss (.t 8) (.t 7),none⟩]) (.seq (.cond (.t 9) .skip (.exit 0)) (.seq (.block 1 (.seq (.region [⟨some 10,.mv (.t 8),none⟩,⟨some 5,.mv (.t 10),none⟩]) (.seq (.region [⟨some 11,.mv (.t 1),none⟩,⟨some 12,.mv (.t 0),none⟩,⟨some 13,.mv (.t 5),none⟩,⟨some 14,.iaddr 1 (.t 12) (.t 13),none⟩,⟨some 15,.load none (.t 14),none⟩,⟨some 16,.call (.t 11) [(.t 15)],none⟩]) (.cond (.t 16) (.seq (.region [⟨some 17,.mv (.t 5),none⟩,⟨some 4,.mv (.t 17),none⟩]) .ret) .skip)))) (.region [⟨some 18,.bin .add (.t 8) (.c (.v (.int .i64 1))),none⟩,⟨some 8,.mv (.t 18),none⟩]))))))) (.seq (.region [⟨some 4,.mv (.c (.v (.int .i64 (-1)))),none⟩]) .ret)))⟩
theorem a_Ind1_ok : cFunc Tryd.prog 114 = some a_Ind1 := by kernel_rfl
def r_Ind10 : List (Nat × Nat) := [(4, 5), (8, 18)]
def a_Con1 : AFunc := ⟨2,9,[.tmp 4],(.seq (.region [⟨some 4,.mv (.c (.v (.bool false))),none⟩]) (.seq (.region [⟨some 5,.mv (.t 0),none⟩,⟨some 6,.mv (.t 1),none⟩,⟨some 7,.call (.c (.fn 114 [])) [(.t 5),(.t 6)],none⟩,⟨some 8,.bin .geq (.t 7) (.c (.v (.int .i64 0))),none⟩,⟨some 4,.mv (.t 8),none⟩]) .ret))⟩
theorem a_Con1_ok : cFunc Tryd.prog 81 = some a_Con1 := by kernel_rfl

def iv (v : List Int) : AV := .v (.isl 1 (v.map eI))

def firstP (p : Nat → Bool) (n : Nat) : Int := match (List.range n).find? p with
 | some i => i
 | none => -1
theorem firstP_at {p : Nat → Bool} {n i : Nat} (h : i < n) (h0 : ∀ j, j < i → p j = false) (hi : p i = true) : firstP p n = i := by
 have hf : (List.range n).find? p = some i := by
  rw [show n = i + (1 + (n - i - 1)) by omega, List.range_add, List.find?_append]
  have : (List.range i).find? p = none := by
   rw [List.find?_eq_none]; intro q hq; simp [h0 q (List.mem_range.1 hq)]
  rw [this, Nat.add_comm 1, List.range_succ_eq_map]
  simp [hi]
 unfold firstP; rw [hf]
theorem firstP_none {p : Nat → Bool} {n : Nat} (h0 : ∀ j, j < n → p j = false) : firstP p n = -1 := by
 have : (List.range n).find? p = none := by
  rw [List.find?_eq_none]; intro q hq; simp [h0 q (List.mem_range.1 hq)]
 unfold firstP; rw [this]
theorem firstP_ge {p : Nat → Bool} {n : Nat} : decide (0 ≤ firstP p n) = (List.range n).any p := by
 unfold firstP
 cases h : (List.range n).find? p with
 | none =>
   have := List.find?_eq_none.1 h
   have hn : (List.range n).any p = false := by rw [List.any_eq_false]; exact this
   rw [hn]; rfl
 | some i =>
   have h1 := List.find?_some h
   have h2 := List.mem_of_find?_eq_some h
   have hn : (List.range n).any p = true := List.any_eq_true.2 ⟨i, h2, h1⟩
   rw [hn]; simp

theorem index1_spec (v : List Int) (k : Nat) (caps : List AV) (p : Nat → Bool) (hn : v.length ≤ 1000000) (b l : List Row)
  (hp : ∀ (i : Nat) (h : i < v.length), ACalls Tryd.prog k (.v (.int .i64 v[i]) :: caps) (b ++ l) [] (fun r b' l' => r = .v (.bool (p i)) ∧ b' = b ++ l ∧ l' = [])) :
  ACalls Tryd.prog 114 [.v (.isl 1 (v.map eI)), .fn k caps] b l (fun r b' l' => r = .v (.int .i64 (firstP p v.length)) ∧ b' = b ∧ l' = l) := by
 refine calls_kept a_Ind1_ok rfl (by decide) ?_
 intro B g hB hR hE hA
 simp only [KArgs] at hA
 simp (disch := decide) only [a_Ind1, hA, List.length_map, go_sem]
 refine loop_kept (ι := Nat) r_Ind10 (fun i => [(8, .v (.int .i64 i))]) 0 (fun _ => [])
  (fun i => i ≤ v.length ∧ ∀ j, j < i → p j = false) (fun i => v.length - i) 0 ⟨Nat.zero_le _, fun j hj => by omega⟩ (by (repeat (first | exact hE.mono oM | refine KLt.up ?_ kL))) (by ((try simp (disch := decide) only [hA, go_sem]) <;> exact kH)) (fun e => Weak.refl _ _ _) ?_
 rintro g1 hE1 hEE1 hg1 i ⟨hi, h0⟩
 by_cases hlt : i < v.length
 ·simp (disch := (first | decide | omega)) only [hA, hg1, eI, go_sem]
  refine ACalls_mono _ _ _ _ _ _ (hB ▸ hp i hlt) ?_
  rintro r b' l' ⟨rfl, rfl, rfl⟩
  cases hpi : p i
  ·simp (disch := (first | decide | omega)) only [hA, hg1, hpi, go_sem]
   refine ⟨i + 1, ⟨hlt, fun j hj => ?_⟩, by simp only; omega, ?_⟩
   ·rcases Nat.lt_or_ge j i with hji | hji
    ·exact h0 j hji
    ·have : j = i := by omega
     rw [this]; exact hpi
   exact Weak.kround (p := r_Ind10) (k := 0) (by ((repeat refine (kAny_up rfl).trans ?_); exact hEE1)) (by ((try simp (disch := decide) only [hA, go_sem]) <;> exact kH)) rfl hE1 (by simp) kV hR kL
  ·simp (disch := (first | decide | omega)) only [hA, hg1, hpi, go_sem]
   exact leave_pure (xs := [.v (.int .i64 i)]) (.inr rfl) (by simp (disch := (first | decide | omega)) only [resVs, resV, go_sem, hA, hg1]) kO hR hB ⟨by rw [firstP_at hlt h0 hpi]; rfl, rfl, rfl⟩
 ·simp (disch := (first | decide | omega)) only [hA, hg1, go_sem]
  obtain rfl : i = v.length := by omega
  exact leave_pure (xs := [.v (.int .i64 (-1))]) (.inr rfl) (by simp (disch := (first | decide | omega)) only [resVs, resV, go_sem, hA, hg1]) kO hR hB ⟨by rw [firstP_none h0]; rfl, rfl, rfl⟩
theorem contains1_spec (v : List Int) (k : Nat) (caps : List AV) (p : Nat → Bool) (hn : v.length ≤ 1000000) (b l : List Row)
  (hp : ∀ (i : Nat) (h : i < v.length), ACalls Tryd.prog k (.v (.int .i64 v[i]) :: caps) (b ++ l) [] (fun r b' l' => r = .v (.bool (p i)) ∧ b' = b ++ l ∧ l' = [])) :
  ACalls Tryd.prog 81 [.v (.isl 1 (v.map eI)), .fn k caps] b l (fun r b' l' => r = .v (.bool ((List.range v.length).any p)) ∧ b' = b ∧ l' = l) := by
 refine calls_kept a_Con1_ok rfl (by decide) ?_
 intro B g hB hR hE hA
 simp only [KArgs] at hA
 simp (disch := decide) only [a_Con1, hA, go_sem]
 refine ACalls_mono _ _ _ _ _ _ (index1_spec v k caps p hn B [] (by rw [List.append_nil, hB]; exact hp)) ?_
 rintro r b' l' ⟨rfl, rfl, rfl⟩
 simp (disch := decide) only [hA, go_sem]
 exact leave_pure (xs := [.v (.bool (decide (0 ≤ firstP p v.length)))]) (.inr rfl) (by simp (disch := (first | decide | omega)) only [resVs, resV, go_sem, hA]) kO hR hB ⟨by rw [firstP_ge]; rfl, rfl, rfl⟩
end Go.Proofs.YtnihdkfmmbpilaaDoor
