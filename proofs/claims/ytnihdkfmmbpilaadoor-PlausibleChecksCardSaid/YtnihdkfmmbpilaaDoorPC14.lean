/- Texts of one proof, laid together: I9, IB, IE, IK, VC. No condition. -/
import Derived.Test.YtnihdkfmmbpilaaDoorPC13
import Derived.Test.YtnihdkfmmbpilaaDoorPC9
import Derived.Test.YtnihdkfmmbpilaaDoorPC11
import Derived.Test.YtnihdkfmmbpilaaDoorPC2
import Derived.Test.YtnihdkfmmbpilaaDoorPC12
import Derived.Test.YtnihdkfmmbpilaaDoorPC3
namespace Go.Proofs.YtnihdkfmmbpilaaDoor
set_option linter.unusedVariables false
theorem Hb.front {t : Tr} {x y : Nat × Nat} (h : Hb t x y) : ∃ z, Dir t x z ∧ (z = y ∨ Hb t z y) := by
 induction h with
 | one d => exact ⟨_, d, .inl rfl⟩
 | more _ d ih =>
   obtain ⟨z, dz, hz⟩ := ih
   refine ⟨z, dz, .inr ?_⟩
   rcases hz with rfl | hz
   ·exact .one d
   ·exact .more hz d
end Go.Proofs.YtnihdkfmmbpilaaDoor
namespace Go.Proofs.YtnihdkfmmbpilaaDoor
set_option linter.unusedVariables false
set_option linter.unusedSimpArgs false
def lt2 (a b : Nat × Nat) : Prop := a.1 < b.1 ∨ (a.1 = b.1 ∧ a.2 < b.2)
def rcvO (t : Tr) (x : Nat × Nat) : Option (Nat × Nat) := if (evAt t x).kind = 2 then findL t 3 (evAt t x).msg else none
def rowN (t : Tr) (x : Nat × Nat) : List (Nat × Nat) := if x.2 < (evsOf t x.1).length then [(x.1, x.2 + 1)] else []
def nextL (t : Tr) (x : Nat × Nat) : List (Nat × Nat) := match rcvO t x with
 | none => rowN t x
 | some z => if z.1 < x.1 then z :: rowN t x else rowN t x ++ [z]
theorem mem_rowN {t : Tr} {x z : Nat × Nat} : z ∈ rowN t x ↔ z = (x.1, x.2 + 1) ∧ x.2 < (evsOf t x.1).length := by
 unfold rowN
 by_cases h : x.2 < (evsOf t x.1).length
 ·rw [if_pos h]; simp [h]
 ·rw [if_neg h]; simp [h]
theorem mem_nextL {t : Tr} {x z : Nat × Nat} : z ∈ nextL t x ↔ Dir t x z := by
 have e : z ∈ nextL t x ↔ z ∈ rowN t x ∨ rcvO t x = some z := by
  unfold nextL
  cases hr : rcvO t x with
  | none => simp
  | some w =>
    simp only
    by_cases hw : w.1 < x.1
    ·rw [if_pos hw, List.mem_cons]
     constructor
     ·rintro (h | h)
      ·exact .inr (by rw [h])
      ·exact .inl h
     ·rintro (h | h)
      ·exact .inr h
      ·exact .inl (Option.some.inj h).symm
    ·rw [if_neg hw, List.mem_append, List.mem_singleton]
     constructor
     ·rintro (h | h)
      ·exact .inl h
      ·exact .inr (by rw [h])
     ·rintro (h | h)
      ·exact .inl h
      ·exact .inr (Option.some.inj h).symm
 rw [e, mem_rowN]
 unfold Dir rcvO
 by_cases hk : (evAt t x).kind = 2
 ·rw [if_pos hk]; simp [hk]
 ·rw [if_neg hk]; simp [hk]
theorem le_cnt {t : Tr} {x y : Nat × Nat} (hx : x ∈ ids t) : Le t x y ↔ x.2 ≤ vc t y x.1 := by
 obtain ⟨p, i⟩ := x
 obtain ⟨i, rfl⟩ : ∃ k, i = k + 1 := ⟨i - 1, by have := mem_pos hx; simp only at this; omega⟩
 exact vc_iff (mem_ids2.1 hx).2
noncomputable def leadB (t : Tr) (y z : Nat × Nat) : Bool := decide (z.2 ≤ vc t y z.1)
theorem leadB_iff {t : Tr} (hv : Vok t) {y z : Nat × Nat} (hz : z ∈ ids t) : leadB t y z = true ↔ Le t z y := by
 unfold leadB
 rw [decide_eq_true_eq]
 exact (le_cnt hz).symm
noncomputable def stepO (t : Tr) (y x : Nat × Nat) : Option (Nat × Nat) := (nextL t x).find? (leadB t y)
theorem stepO_some {t : Tr} (hv : Vok t) {x y : Nat × Nat} (hx : x ∈ ids t) (hy : y ∈ ids t) (hl : Le t x y) (hne : x ≠ y) : ∃ z, stepO t y x = some z ∧ z ∈ ids t ∧ Dir t x z ∧ Le t z y := by
 rcases hl with rfl | h
 ·exact absurd rfl hne
 obtain ⟨z, dz, hz⟩ := h.front
 have hzm := dz.mem hx
 have hlz : Le t z y := hz
 cases hs : stepO t y x with
 | none =>
   unfold stepO at hs
   rw [List.find?_eq_none] at hs
   exact absurd ((leadB_iff hv hzm).2 hlz) (hs z (mem_nextL.2 dz))
 | some w =>
   unfold stepO at hs
   have h1 := List.mem_of_find?_eq_some hs
   have h2 := List.find?_some hs
   have dw := mem_nextL.1 h1
   have hw := dw.mem hx
   exact ⟨w, rfl, hw, dw, (leadB_iff hv hw).1 h2⟩
noncomputable def pathF (t : Tr) (y : Nat × Nat) : Nat → Nat × Nat → List (Nat × Nat)
 | 0, x => [x]
 | n + 1, x => if x = y then [x] else match stepO t y x with
   | none => [x]
   | some z => x :: pathF t y n z
noncomputable def pathL (t : Tr) (x y : Nat × Nat) : List (Nat × Nat) := pathF t y (ids t).length x
theorem rk_le {t : Tr} (hv : Vok t) {x y : Nat × Nat} (hy : y ∈ ids t) (h : Le t x y) : rk t x ≤ rk t y := by
 rcases h with rfl | h
 ·exact Nat.le_refl _
 ·exact Nat.le_of_lt (rk_lt hv hy h)
structure PathOk (t : Tr) (x0 y x : Nat × Nat) (n : Nat) (done : List (Nat × Nat)) : Prop where
 mem : x ∈ ids t
 le : Le t x y
 fuel : rk t y ≤ rk t x + n
 eq : done ++ pathF t y n x = pathL t x0 y
theorem PathOk.start {t : Tr} (hv : Vok t) {x y : Nat × Nat} (hx : x ∈ ids t) (h : Le t x y) : PathOk t x y x (ids t).length [] :=
 ⟨hx, h, by have := List.countP_le_length (p := fun z => leB t z y) (l := ids t); unfold rk; omega, rfl⟩
theorem PathOk.done {t : Tr} {x0 y : Nat × Nat} {n : Nat} {D : List (Nat × Nat)} (h : PathOk t x0 y y n D) : D ++ [y] = pathL t x0 y := by
 rw [← h.eq]
 cases n with
 | zero => rfl
 | succ n => unfold pathF; rw [if_pos rfl]
theorem PathOk.step {t : Tr} (hv : Vok t) {x0 y x : Nat × Nat} {n : Nat} {D : List (Nat × Nat)} (h : PathOk t x0 y x n D) (hy : y ∈ ids t) (hne : x ≠ y) : ∃ z m, n = m + 1 ∧ stepO t y x = some z ∧ PathOk t x0 y z m (D ++ [x]) ∧ Dir t x z := by
 obtain ⟨z, hs, hz, dz, hl⟩ := stepO_some hv h.mem hy h.le hne
 have hlt := rk_lt hv hz (.one dz)
 have hle := rk_le hv hy hl
 have hf := h.fuel
 cases n with
 | zero => omega
 | succ m =>
   refine ⟨z, m, rfl, hs, ⟨hz, hl, by omega, ?_⟩, dz⟩
   rw [← h.eq, List.append_assoc]
   congr 1
   rw [pathF, if_neg hne, hs]
   rfl
def PathIs (t : Tr) (y : Nat × Nat) (l : List (Nat × Nat)) : Prop := l.getLast? = some y ∧ ∀ a (h : a + 1 < l.length), l[a + 1] ∈ ids t ∧ Dir t l[a] l[a + 1]
theorem PathIs.cons {t : Tr} {y x z : Nat × Nat} {r : List (Nat × Nat)} (hz : z ∈ ids t) (d : Dir t x z) (h : PathIs t y (z :: r)) : PathIs t y (x :: z :: r) := by
 refine ⟨by rw [List.getLast?_cons_cons]; exact h.1, fun a ha => ?_⟩
 cases a with
 | zero => exact ⟨hz, d⟩
 | succ a => exact h.2 a (by simpa using ha)
end Go.Proofs.YtnihdkfmmbpilaaDoor
namespace Go.Proofs.YtnihdkfmmbpilaaDoor
set_option linter.unusedVariables false
set_option linter.unusedSimpArgs false
structure Cinv (t : Tr) (x : Nat × Nat) (c : Nat → Nat) : Prop where
 le : ∀ q, c q ≤ vc t x q
 src : x.2 ≤ c x.1
 out : ∀ q, t.length ≤ q → c q = 0
theorem Cinv.dn {t : Tr} {x : Nat × Nat} {c : Nat → Nat} (h : Cinv t x c) (q : Nat) : c q ≤ (evsOf t q).length := Nat.le_trans (h.le q) vc_le
theorem Cinv.at {t : Tr} {x : Nat × Nat} {c : Nat → Nat} (h : Cinv t x c) {q j : Nat} (hj : j < c q) : (q, j + 1) ∈ ids t ∧ Le t (q, j + 1) x := by
 have hq : q < t.length := Nat.lt_of_not_le fun hn => by have := h.out q hn; omega
 have h1 := h.dn q
 exact ⟨mem_ids2.2 ⟨hq, by omega⟩, (vc_iff oM).2 (by have := h.le q; omega)⟩
def clo0 (x : Nat × Nat) : Nat → Nat := fUp (fun _ => 0) x.1 x.2
theorem Cinv.start {t : Tr} (hv : Vok t) {x : Nat × Nat} (hx : x ∈ ids t) : Cinv t x (clo0 x) := by
 have hp := (mem_ids.1 hx).1
 refine ⟨fun q => ?_, by unfold clo0; rw [fUp_same]; exact Nat.le_refl _, fun q hq => ?_⟩
 ·unfold clo0
  by_cases hq : q = x.1
  ·subst hq; rw [fUp_same]; exact (le_cnt hx).1 (.refl _)
  ·rw [fUp_ne hq]; exact Nat.zero_le _
 ·unfold clo0
  rw [fUp_ne oM]
def okC (t : Tr) (c : Nat → Nat) (q j : Nat) : Prop := (evAt t (q, j + 1)).kind = 3 → (sndr t (q, j + 1)).2 ≤ c (sndr t (q, j + 1)).1
theorem Cinv.up {t : Tr} (hv : Vok t) {x : Nat × Nat} {c : Nat → Nat} (h : Cinv t x c) {q j : Nat} (hj : j < c q) (hk : (evAt t (q, j + 1)).kind = 3) (hlt : c (sndr t (q, j + 1)).1 < (sndr t (q, j + 1)).2) :
  Cinv t x (fUp c (sndr t (q, j + 1)).1 (sndr t (q, j + 1)).2) := by
 obtain ⟨h1, h2⟩ := h.at hj
 obtain ⟨s1, s2⟩ := sndr_in hv h1 hk
 have hl : Le t (sndr t (q, j + 1)) x := Le.trans (.inr s2) h2
 refine ⟨fun r => ?_, ?_, fun r hr => ?_⟩
 ·by_cases hr : r = (sndr t (q, j + 1)).1
  ·rw [hr, fUp_same]; exact (le_cnt s1).1 hl
  ·rw [fUp_ne hr]; exact h.le r
 ·by_cases hr : x.1 = (sndr t (q, j + 1)).1
  ·rw [hr, fUp_same]; have := h.src; rw [hr] at this; omega
  ·rw [fUp_ne hr]; exact h.src
 ·rw [fUp_ne (by have := (mem_ids.1 s1).1; omega)]; exact h.out r hr
theorem Cinv.done {t : Tr} (hv : Vok t) {x : Nat × Nat} (hx : x ∈ ids t) {c : Nat → Nat} (h : Cinv t x c) (hc : ∀ q, q < t.length → ∀ j, j < c q → okC t c q j) {q : Nat} (hq : q < t.length) : c q = vc t x q := by
 have hP : Pst t x c [] := by
  refine ⟨fun y hy => by simp at hy, fun p i hi => ?_, .inr h.src, fun z hz hzc y hy => .inr ?_⟩
  ·obtain ⟨h1, h2⟩ := h.at hi
   exact ⟨(mem_ids2.1 h1).1, (mem_ids2.1 h1).2, h2⟩
  ·obtain ⟨p, i⟩ := z
   obtain ⟨i, rfl⟩ : ∃ k, i = k + 1 := ⟨i - 1, by have := mem_pos hz; simp only at this; omega⟩
   simp only at hzc
   rcases backL_cases hy with ⟨h1, rfl⟩ | ⟨h1, rfl⟩
   ·simp only; omega
   ·exact hc p (mem_ids2.1 hz).1 i oM h1
 exact hP.done hv hx hq
end Go.Proofs.YtnihdkfmmbpilaaDoor
namespace Go.Proofs.YtnihdkfmmbpilaaDoor
set_option linter.unusedVariables false
set_option linter.unusedSimpArgs false
attribute [local go_sem ↓] run_skip run_region run_draw run_both run_seq run_block run_exit run_ret run_cond atN_app seqC_normal seqC_exit seqC_ret seqQ_normal seqQ_exit seqQ_ret blkQ_normal blkQ_exit blkQ_ret runOps_nil runOps_cons runD_nil runD_cons grdO_true grdO_false grdD_true grdD_false ifC_true ifC_false opS_val opS_call opS_two opK_app dS_val dS_call dS_two dK_app kUp_same kUp_ne
attribute [local go_sem] rechks_nil rechks_cons rechk gcase_true gcase_false ex_val ex_val0 gd_none gd_some ev_t ev_c evs_nil evs_cons evo_some evo_none hget_at hget_first hsetB_at hsetB_first hsetL_at hsetL_first ofOpt_some aop aload astore aslice aappend aiaddr aiaddrA afaddr alen alenS acopy amm acall alookup amupdate alenM atostr aappz comma keyEq apick binV binVB binVS isSh intOp strOp boolOp shOp eqC eqF and2 cellsOf setFrom fillA fillS rd rdI elems mk bounds AV.cell List.all_cons List.all_nil Bool.and_true Bool.true_and Bool.and_self List.length_cons List.length_nil List.length_append Nat.reduceAdd Nat.reduceSub Nat.reduceMul Nat.zero_add Nat.add_zero List.cons_append List.nil_append List.append_assoc List.append_nil List.getElem?_cons_zero List.getElem?_cons_succ List.getElem?_nil List.set_cons_zero List.set_cons_succ List.drop_zero List.drop_succ_cons List.take_zero List.take_succ_cons List.take_nil List.drop_nil List.map_cons List.map_nil Option.map_some if_true if_false Bool.false_eq_true and_self true_and and_true Nat.reduceLeDiff Nat.reduceLT Nat.le_refl Nat.reduceEqDiff ite_true ite_false beq_self_eq_true beq_true beq_false Bool.not_true Bool.not_false Bool.true_beq Bool.false_beq map_vs vs_len vs_get vs_take vs_drop vs_snoc1 vs_snoc2 vs_snoc3 vs_snoc5 vs_set1 vs_set2 vs_rep wrap_id le_T lt_T le_F lt_F leI_T ltI_T leI_F ltI_F geI gtI get_T decide_true decide_false room List.getElem?_map List.length_map List.length_take Int.toNat_natCast Nat.min_def Nat.min_self nth_kOf put_kOf put_kNo kOv_cons kOv_nil KHas KArgs List.getElem_cons_zero List.getElem_cons_succ
theorem Weak.shift {e e' : List AV} {b pre l l' : List Row} (h : Weak e (b ++ pre) l e' (b ++ pre) l') : Weak e b (pre ++ l) e' b (pre ++ l') := by
 intro F L w a s he
 rw [← List.append_assoc] at s
 obtain ⟨F', L', h1, h2, h3, h4⟩ := h F L w a s he
 refine ⟨F', L', by rw [← List.append_assoc]; exact h1, h2, ?_, rfl⟩
 rw [← List.append_assoc, ← List.append_assoc]
 exact h3.weaken (by simp)
theorem mR_lt' {n v0 base sz m : Nat} {ver : Nat → Nat} {R : Nat → List (List IV)} (h : base + (n + 1) ≤ m) : RowsLt m (mR n v0 base sz 0 ver R) := by
 intro id ver' sz' els hr row hrow c hc
 unfold mR at hr
 cases id with
 | zero =>
   rw [List.getElem?_cons_zero] at hr
   cases hr
   obtain ⟨j, hj, rfl⟩ := List.mem_map.1 hrow
   simp only [List.mem_singleton] at hc
   subst hc
   have := List.mem_range.1 hj
   unfold mC
   rw [if_neg oM]
   exact .sl _ _ _ _ oM
 | succ id =>
   rw [List.getElem?_cons_succ] at hr
   by_cases hid : id < n
   ·rw [fl_get hid] at hr
    unfold mD at hr
    rw [if_neg oM] at hr
    cases hr
    obtain ⟨r0, _, rfl⟩ := List.mem_map.1 hrow
    obtain ⟨x0, _, rfl⟩ := List.mem_map.1 hc
    exact .v _
   ·rw [fl_none oM] at hr; cases hr
theorem leave_matP {rs : List ARes} {Q : AV → List Row → List Row → Prop} {B e l : List _} {ex : AExit} (hex : ex = .normal ∨ ex = .ret) {n m v0 sz : Nat} {ver : Nat → Nat} {R : Nat → List (List IV)} {pre junk : List Row} (hx : resVs e B l rs = some [.sl (B.length + m) v0 0 n]) (hm : pre.length = m) (hl : l = pre ++ mR n v0 (B.length + m) sz 0 ver R ++ junk)
  (hp : RowsLt (B.length + m) pre) (hR : RowsLt B.length B) {b0 l0 : List Row} (hB : B = b0 ++ l0) (hq : Q (.v (.isl 1 (mV n sz R))) b0 l0) : Leaves rs Q b0.length ex e B l := by
 subst hm
 have hlm : (mR n v0 (B.length + pre.length) sz 0 ver R).length = n + 1 := by simp [mR, fl_len]
 have hbl : (B ++ pre).length = B.length + pre.length := List.length_append
 refine leave hex hx (y := .v (.isl 1 (mV n sz R))) (l' := []) ?_ hB (by simpa using hq)
 refine (Weak.trim (l1 := pre ++ mR n v0 (B.length + pre.length) sz 0 ver R) hl ?_ (hR.mono oM) ?_).trans ?_
 ·intro x hx
  simp only [one, List.mem_singleton] at hx
  subst hx
  exact .sl _ _ _ _ (by rw [List.length_append]; omega)
 ·intro id ver' sz' els hr row hrow c hc
  by_cases hid : id < pre.length
  ·rw [List.getElem?_append_left hid] at hr
   exact (hp id ver' sz' els hr row hrow c hc).mono (by rw [List.length_append]; omega)
  ·rw [List.getElem?_append_right oM] at hr
   exact mR_lt' (m := B.length + (pre ++ mR n v0 (B.length + pre.length) sz 0 ver R).length) (by rw [List.length_append]; omega) _ ver' sz' els hr row hrow c hc
 have h0 : Weak [one [AV.sl (B.length + pre.length) v0 0 n]] (B ++ pre) (mR n v0 (B ++ pre).length sz 0 ver R) [one [AV.sl (B.length + pre.length) v0 0 n]] (B ++ pre) (mR n v0 (B ++ pre).length sz n ver R) :=
  Weak.mfrz (fun i hi => by
   simp only [one, List.map_cons, List.map_nil, frz, frz0]
   rw [if_neg (by rw [hbl]; omega)]) n (Nat.le_refl _)
 have h1 := Weak.freezeR (e := [one [AV.sl (B.length + pre.length) v0 0 n]]) (b := B ++ pre) (i := 0) (rows := mV n sz R) (mR_all (n := n) (v0 := v0) (base := (B ++ pre).length) (sz := sz) (ver := ver) (R := R))
 have h2 : List.map (frz ((B ++ pre).length + 0) v0 1 (mV n sz R)) [one [AV.sl (B.length + pre.length) v0 0 n]] = [.v (.isl 1 (mV n sz R))] := by
  simp [one, frz, frz0, mV, fl_len, hbl]
  unfold fl
  rw [List.take_of_length_le (by simp)]
 rw [h2] at h1
 have h3 := (h0.trans h1).shift
 rw [hbl] at h3
 refine h3.trans ?_
 exact Weak.trim (l1 := []) rfl (by
  intro x hx
  simp only [List.mem_singleton] at hx
  subst hx
  exact .v _) (by simpa using hR) RowsLt_nil
def bR (n : Nat) (f : Nat → Bool) : List (List IV) := fl n fun k => [.bool (f k)]
theorem bR_len {n : Nat} {f : Nat → Bool} : (bR n f).length = n := fl_len
theorem bR_set {n c : Nat} {f : Nat → Bool} {v : Bool} : (bR n f).set c [.bool v] = bR n (fUp f c v) := by
 unfold bR
 rw [fl_set]
 refine fl_congr (fun k _ => ?_)
 by_cases hk : k = c
 ·subst hk; rw [fUp_same, fUp_same]
 ·rw [fUp_ne hk, fUp_ne hk]
theorem bR_get {n c : Nat} {f : Nat → Bool} (h : c < n) : (bR n f)[c]? = some [.bool (f c)] := fl_get h
theorem bR_zero {n : Nat} : List.replicate n [IV.bool false] = bR n (fun _ => false) := by unfold bR; rw [fl_const]
def tbW (n : Nat) (R : Nat → Nat → Bool) (j : Nat) : Row := .live 0 1 (vs (bR n (R j)))
theorem tbW_put {n m i c : Nat} {R R' : Nat → Nat → Bool} {v : Bool} (h : ∀ a b, R' a b = if a = i ∧ b = c then v else R a b) : fl m (fUp (tbW n R) i (.live 0 1 (vs (bR n (fUp (R i) c v))))) = fl m (tbW n R') := by
 refine fl_congr (fun a _ => ?_)
 by_cases ha : a = i
 ·subst ha
  rw [fUp_same]
  unfold tbW bR
  congr 2
  refine fl_congr (fun b _ => ?_)
  rw [h]
  by_cases hb : b = c
  ·subst hb; rw [fUp_same, if_pos ⟨rfl, rfl⟩]
  ·rw [fUp_ne hb, if_neg (fun k => hb k.2)]
 ·rw [fUp_ne ha]
  unfold tbW bR
  congr 2
  refine fl_congr (fun b _ => ?_)
  rw [h, if_neg (fun k => ha k.1)]
theorem tW_end {n m : Nat} {R R' : Nat → Nat → Bool} (h : ∀ a b, a < m → b < n → R a b = R' a b) : fl m (tbW n R) = fl m (tbW n R') := by
 refine fl_congr (fun a ha => ?_)
 unfold tbW bR
 congr 2
 exact fl_congr (fun b hb => by rw [h a b ha hb])
end Go.Proofs.YtnihdkfmmbpilaaDoor
namespace Go.Proofs.YtnihdkfmmbpilaaDoor
set_option linter.unusedVariables false
def concB (t : Tr) (rank : Nat × Nat → Nat) : Bool :=
 decide (1 ≤ t.length) && (decide (t.length ≤ 8) && ((List.range t.length).all (fun p => headF t p == 0) && ((ids t).all (fun x => formF t x == 0) && ((ids t).all (fun x => pairF t x == 0) && (ids t).all (fun x => (dirL t x).all fun y => decide (rank x < rank y))))))
theorem conc_fault {t : Tr} {rank : Nat × Nat → Nat} (h : concB t rank = true) : faultL t = ((0, 0), 0) := by
 simp only [concB, Bool.and_eq_true, decide_eq_true_eq, List.all_eq_true, beq_iff_eq] at h
 obtain ⟨h1, h2, h3, h4, h5, h6⟩ := h
 have hb : ∀ {x y : Nat × Nat}, Hb t x y → x ∈ ids t → rank x < rank y := by
  intro x y hxy
  induction hxy with
  | one h => intro hx; exact h6 _ hx _ (mem_dirL.2 h)
  | more h k ih =>
    intro hx
    exact Nat.lt_trans (ih hx) (h6 _ (Hb.mem hx h) _ (mem_dirL.2 k))
 unfold faultL
 rw [if_neg oM]
 have e1 : (List.range t.length).find? (fun p => headF t p != 0) = none := by
  rw [List.find?_eq_none]; intro p hp; simp [h3 p hp]
 have e2 : (ids t).find? (fun x => formF t x != 0) = none := by
  rw [List.find?_eq_none]; intro p hp; simp [h4 p hp]
 have e3 : (ids t).find? (fun x => pairF t x != 0) = none := by
  rw [List.find?_eq_none]; intro p hp; simp [h5 p hp]
 rw [e1]; simp only
 rw [e2]; simp only
 rw [e3]; simp only
 have e4 : (ids t).find? (fun x => @decide (Hb t x x) (Classical.propDecidable _)) = none := by
  rw [List.find?_eq_none]
  intro x hx
  simp only [decide_eq_true_eq]
  intro hh
  have := hb hh hx
  omega
 rw [e4]
theorem conc_valid {t : Tr} {rank : Nat × Nat → Nat} (h : concB t rank = true) : validL t = true := by simp [validL, conc_fault h]
end Go.Proofs.YtnihdkfmmbpilaaDoor
