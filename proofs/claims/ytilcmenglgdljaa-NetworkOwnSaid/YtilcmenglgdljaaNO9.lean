/- Texts of one proof, laid together: NX, NY. No condition. -/
import Derived.Test.YtilcmenglgdljaaNO8
namespace Go.Proofs.Ytilcmenglgdljaa
set_option linter.unusedVariables false
set_option linter.unusedSimpArgs false
inductive CellEq : AV → AV → Prop where
 | refl (x : AV) : CellEq x x
 | int (a c : Int) : CellEq (.v (.int .i64 a)) (.v (.int .i64 c))
theorem CellEq.trans {x y z : AV} (h : CellEq x y) (k : CellEq y z) : CellEq x z := by
 cases h with
 | refl => exact k
 | int a c => cases k with
   | refl => exact .int a c
   | int _ d => exact .int a d
def LstEq (r q : List AV) : Prop := r.length = q.length ∧ ∀ (j : Nat) (a c : AV), r[j]? = some a → q[j]? = some c → CellEq a c
theorem LstEq.refl (r : List AV) : LstEq r r := ⟨rfl, fun j a c h1 h2 => by rw [h1] at h2; cases h2; exact .refl a⟩
theorem LstEq.trans {r q s : List AV} (h : LstEq r q) (k : LstEq q s) : LstEq r s := by
 refine ⟨h.1.trans k.1, fun j a c h1 h2 => ?_⟩
 have hj := (List.getElem?_eq_some_iff.1 h1).1
 have hq : q[j]? = some (q[j]'(by rw [← h.1]; exact hj)) := List.getElem?_eq_getElem _
 exact (h.2 j a _ h1 hq).trans (k.2 j _ c hq h2)
def ElsEq (e f : List (List AV)) : Prop := e.length = f.length ∧ ∀ (k : Nat) (r q : List AV), e[k]? = some r → f[k]? = some q → LstEq r q
theorem ElsEq.refl (e : List (List AV)) : ElsEq e e := ⟨rfl, fun k r q h1 h2 => by rw [h1] at h2; cases h2; exact .refl r⟩
theorem ElsEq.trans {e f g : List (List AV)} (h : ElsEq e f) (k : ElsEq f g) : ElsEq e g := by
 refine ⟨h.1.trans k.1, fun j a c h1 h2 => ?_⟩
 have hj := (List.getElem?_eq_some_iff.1 h1).1
 have hq : f[j]? = some (f[j]'(by rw [← h.1]; exact hj)) := List.getElem?_eq_getElem _
 exact (h.2 j a _ h1 hq).trans (k.2 j _ c hq h2)
def RowEq : Row → Row → Prop
 | .live v s e, .live v' s' e' => v = v' ∧ s = s' ∧ ElsEq e e'
 | .dead v, .dead v' => v = v'
 | _, _ => False
theorem RowEq.refl : ∀ (r : Row), RowEq r r
 | .live v s e => ⟨rfl, rfl, .refl e⟩
 | .dead v => rfl
theorem RowEq.trans : ∀ {r q s : Row}, RowEq r q → RowEq q s → RowEq r s
 | .live .., .live .., .live .., ⟨a1, a2, a3⟩, ⟨b1, b2, b3⟩ => ⟨a1.trans b1, a2.trans b2, a3.trans b3⟩
 | .dead _, .dead _, .dead _, h, k => Eq.trans h k
def RowsEq (l m : List Row) : Prop := ∀ (i : Nat) (r : Row), l[i]? = some r → ∃ q, m[i]? = some q ∧ RowEq r q
theorem RowsEq.refl (l : List Row) : RowsEq l l := fun k r h1 => ⟨r, h1, .refl r⟩
theorem RowsEq.trans {l m n : List Row} (h : RowsEq l m) (k : RowsEq m n) : RowsEq l n := fun i r hr => by
 obtain ⟨q, h1, h2⟩ := h i r hr
 obtain ⟨s, h3, h4⟩ := k i q h1
 exact ⟨s, h3, h2.trans h4⟩
theorem RowsEq.get {l m : List Row} (h : RowsEq l m) {i v s : Nat} {e : List (List AV)} (hi : l[i]? = some (.live v s e)) : ∃ e', m[i]? = some (.live v s e') ∧ ElsEq e e' := by
 obtain ⟨q, h1, h2⟩ := h i _ hi
 cases q with
 | live v' s' e' =>
   obtain ⟨rfl, rfl, h3⟩ := h2
   exact ⟨e', h1, h3⟩
 | dead v' => exact h2.elim
theorem RowsEq.app {l m : List Row} (h : RowsEq l m) (r : List Row) : RowsEq l (m ++ r) := fun i x hx => by
 obtain ⟨q, h1, h2⟩ := h i x hx
 exact ⟨q, by rw [List.getElem?_append_left (List.getElem?_eq_some_iff.1 h1).1]; exact h1, h2⟩
theorem RowsEq.set {l m : List Row} (h : RowsEq l m) {i v s : Nat} {e e' : List (List AV)} (hi : m[i]? = some (.live v s e)) (he : ElsEq e e') : RowsEq l (m.set i (.live v s e')) := fun j r h1 => by
 obtain ⟨q, h2, h3⟩ := h j r h1
 by_cases hij : i = j
 ·subst hij
  rw [hi] at h2; cases h2
  exact ⟨.live v s e', List.getElem?_set_self (List.getElem?_eq_some_iff.1 hi).1, h3.trans ⟨rfl, rfl, he⟩⟩
 ·exact ⟨q, by rw [List.getElem?_set_ne hij]; exact h2, h3⟩
theorem ElsEq.set {e : List (List AV)} {k : Nat} {r q : List AV} (hk : e[k]? = some r) (h : LstEq r q) : ElsEq e (e.set k q) := by
 refine ⟨by rw [List.length_set], fun j a c h1 h2 => ?_⟩
 by_cases hij : k = j
 ·subst hij
  rw [List.getElem?_set_self (List.getElem?_eq_some_iff.1 hk).1] at h2
  rw [hk] at h1
  cases h1; cases h2; exact h
 ·rw [List.getElem?_set_ne hij] at h2
  rw [h1] at h2; cases h2; exact .refl a
theorem LstEq.set {r : List AV} {j : Nat} {a c : Int} (hj : r[j]? = some (.v (.int .i64 a))) : LstEq r (r.set j (.v (.int .i64 c))) := by
 refine ⟨by rw [List.length_set], fun i x y h1 h2 => ?_⟩
 by_cases hij : j = i
 ·subst hij
  rw [List.getElem?_set_self (List.getElem?_eq_some_iff.1 hj).1] at h2
  rw [hj] at h1
  cases h1; cases h2; exact .int a c
 ·rw [List.getElem?_set_ne hij] at h2
  rw [h1] at h2; cases h2; exact .refl x
theorem vsI_eq : ∀ {w : List Int} {e : List (List AV)}, ElsEq (vs (w.map eI)) e → ∃ w' : List Int, e = vs (w'.map eI) ∧ w'.length = w.length
 | [], e, h => by
   have : e = [] := List.eq_nil_of_length_eq_zero (by rw [← h.1]; rfl)
   exact ⟨[], by rw [this]; rfl, rfl⟩
 | a :: w, [], h => by have := h.1; simp [vs] at this
 | a :: w, r :: e, h => by
   obtain ⟨w', h1, h2⟩ := vsI_eq (w := w) (e := e) ⟨by have := h.1; simpa [vs] using this, fun k r q g1 g2 => h.2 (k + 1) r q g1 g2⟩
   have h0 := h.2 0 _ r rfl rfl
   match r, h0 with
   | [x], h0 =>
     have := h0.2 0 _ x rfl rfl
     cases this with
     | refl => exact ⟨a :: w', by rw [h1]; rfl, by simp [h2]⟩
     | int _ c => exact ⟨c :: w', by rw [h1]; rfl, by simp [h2]⟩
   | [], h0 => have := h0.1; cases this
   | x :: y :: r, h0 => have := h0.1; simp [eI] at this
theorem vsF_eq : ∀ {w : List (Int × Int)} {e : List (List AV)}, ElsEq (vs (w.map eFt)) e → ∃ w' : List (Int × Int), e = vs (w'.map eFt) ∧ w'.length = w.length
 | [], e, h => by
   have : e = [] := List.eq_nil_of_length_eq_zero (by rw [← h.1]; rfl)
   exact ⟨[], by rw [this]; rfl, rfl⟩
 | a :: w, [], h => by have := h.1; simp [vs] at this
 | a :: w, r :: e, h => by
   obtain ⟨w', h1, h2⟩ := vsF_eq (w := w) (e := e) ⟨by have := h.1; simpa [vs] using this, fun k r q g1 g2 => h.2 (k + 1) r q g1 g2⟩
   have h0 := h.2 0 _ r rfl rfl
   match r, h0 with
   | [x, y], h0 =>
     have hx := h0.2 0 _ x rfl rfl
     have hy := h0.2 1 _ y rfl rfl
     obtain ⟨c, rfl⟩ : ∃ c, x = .v (.int .i64 c) := by cases hx with
      | refl => exact ⟨_, rfl⟩
      | int _ c => exact ⟨c, rfl⟩
     obtain ⟨d, rfl⟩ : ∃ d, y = .v (.int .i64 d) := by cases hy with
      | refl => exact ⟨_, rfl⟩
      | int _ d => exact ⟨d, rfl⟩
     exact ⟨(c, d) :: w', by rw [h1]; rfl, by simp [h2]⟩
   | [], h0 => have := h0.1; cases this
   | [x], h0 => have := h0.1; simp [eFt] at this
   | x :: y :: z :: r, h0 => have := h0.1; simp [eFt] at this
def MsgR (B : Nat) (l : List Row) (r : List AV) (id len : Nat) : Prop := ∃ (a c d : Int) (w : List Int), r = [.v (.int .i64 a), .v (.int .i64 c), .v (.int .i64 d), .sl (B + id) 1 0 len] ∧ 4 ≤ id ∧ len ≤ 1000000 ∧ l[id]? = some (.live 1 1 (vs (w.map eI))) ∧ w.length = len
def MsgRow (B : Nat) (l : List Row) (r : List AV) : Prop := ∃ id len, MsgR B l r id len
structure WN (B : Nat) (l : List Row) (idL vL kL idA vA kA idF o kF : Nat) : Prop where
 le : kL ≤ kA ∧ kL ≤ 1000000 ∧ kF ≤ 1000000
 ge : 4 ≤ idL ∧ 4 ≤ idA ∧ 4 ≤ idF
 L : ∃ els : List (List AV), l[idL]? = some (.live vL 4 els) ∧ els.length = kL ∧ ∀ (k : Nat) (r : List AV), els[k]? = some r → MsgRow B l r
 A : ∃ w : List Int, l[idA]? = some (.live vA 1 (vs (w.map eI))) ∧ w.length = kA
 F : ∃ fs : List (Int × Int), l[idF]? = some (.live 1 2 (vs (fs.map eFt))) ∧ fs.length = o + kF
theorem MsgR.eq {B : Nat} {l m : List Row} (h : RowsEq l m) {r q : List AV} {id len : Nat} (hr : MsgR B l r id len) (hq : LstEq r q) : MsgR B m q id len := by
 obtain ⟨a, c, d, w, rfl, h1, h2, h3, h0⟩ := hr
 obtain ⟨e', g1, g2⟩ := h.get h3
 obtain ⟨w', rfl, g3⟩ := vsI_eq g2
 match q, hq with
 | [x, y, z, s], hq =>
   have hx := hq.2 0 _ x rfl rfl
   have hy := hq.2 1 _ y rfl rfl
   have hz := hq.2 2 _ z rfl rfl
   have hs := hq.2 3 _ s rfl rfl
   obtain ⟨x', rfl⟩ : ∃ c, x = .v (.int .i64 c) := by cases hx with
    | refl => exact ⟨_, rfl⟩
    | int _ c => exact ⟨c, rfl⟩
   obtain ⟨y', rfl⟩ : ∃ c, y = .v (.int .i64 c) := by cases hy with
    | refl => exact ⟨_, rfl⟩
    | int _ c => exact ⟨c, rfl⟩
   obtain ⟨z', rfl⟩ : ∃ c, z = .v (.int .i64 c) := by cases hz with
    | refl => exact ⟨_, rfl⟩
    | int _ c => exact ⟨c, rfl⟩
   cases hs
   exact ⟨x', y', z', w', rfl, h1, h2, g1, by omega⟩
 | [], hq => have := hq.1; simp at this
 | [x], hq => have := hq.1; simp at this
 | [x, y], hq => have := hq.1; simp at this
 | [x, y, z], hq => have := hq.1; simp at this
 | x :: y :: z :: s :: t :: r, hq => have := hq.1; simp at this
theorem MsgRow.eq {B : Nat} {l m : List Row} (h : RowsEq l m) {r q : List AV} (hr : MsgRow B l r) (hq : LstEq r q) : MsgRow B m q := by
 obtain ⟨id, len, hr⟩ := hr
 exact ⟨id, len, hr.eq h hq⟩
theorem WN.eq {B : Nat} {l m : List Row} {idL vL kL idA vA kA idF o kF : Nat} (h : RowsEq l m) (hw : WN B l idL vL kL idA vA kA idF o kF) : WN B m idL vL kL idA vA kA idF o kF := by
 obtain ⟨els, h1, h2, h3⟩ := hw.L
 obtain ⟨w, h4, h5⟩ := hw.A
 obtain ⟨fs, h6, h7⟩ := hw.F
 obtain ⟨e', g1, g2⟩ := h.get h1
 obtain ⟨w1, g3, g4⟩ := h.get h4
 obtain ⟨f1, g5, g6⟩ := h.get h6
 obtain ⟨w', rfl, g7⟩ := vsI_eq g4
 obtain ⟨f', rfl, g8⟩ := vsF_eq g6
 refine ⟨hw.le, hw.ge, ⟨e', g1, by rw [← g2.1]; exact h2, fun k q hq => ?_⟩, ⟨w', g3, by rw [g7]; exact h5⟩, ⟨f', g5, by rw [g8]; exact h7⟩⟩
 have hk := (List.getElem?_eq_some_iff.1 hq).1
 have hr : els[k]? = some (els[k]'(by rw [g2.1]; exact hk)) := List.getElem?_eq_getElem _
 exact (h3 k _ hr).eq h (g2.2 k _ q hr hq)
def Hi (l m : List Row) : Prop := ∀ i, 4 ≤ i → ∀ r, l[i]? = some r → m[i]? = some r
theorem Hi.refl (l : List Row) : Hi l l := fun _ _ _ h => h
theorem Hi.app {l m : List Row} (h : Hi l m) (r : List Row) : Hi l (m ++ r) := fun i hi x hx => by
 have := h i hi x hx
 rw [List.getElem?_append_left (List.getElem?_eq_some_iff.1 this).1]; exact this
theorem Hi.set {l m : List Row} (h : Hi l m) {p : Nat} (hp : p < 4) (r : Row) : Hi l (m.set p r) := fun i hi x hx => by
 rw [List.getElem?_set_ne oM]; exact h i hi x hx
theorem MsgRow.hi {B : Nat} {l m : List Row} (h : Hi l m) {r : List AV} (hr : MsgRow B l r) : MsgRow B m r := by
 obtain ⟨id, len, a, c, d, w, rfl, h1, h2, h3, h0⟩ := hr
 exact ⟨id, len, a, c, d, w, rfl, h1, h2, h id h1 _ h3, h0⟩
theorem WN.hi {B : Nat} {l m : List Row} {idL vL kL idA vA kA idF o kF : Nat} (h : Hi l m) (hw : WN B l idL vL kL idA vA kA idF o kF) : WN B m idL vL kL idA vA kA idF o kF := by
 obtain ⟨els, h1, h2, h3⟩ := hw.L
 obtain ⟨w, h4, h5⟩ := hw.A
 obtain ⟨fs, h6, h7⟩ := hw.F
 exact ⟨hw.le, hw.ge, ⟨els, h _ hw.ge.1 _ h1, h2, fun k r hr => (h3 k r hr).hi h⟩, ⟨w, h _ hw.ge.2.1 _ h4, h5⟩, ⟨fs, h _ hw.ge.2.2 _ h6, h7⟩⟩
def wnE (B : Nat) (now : Int) (fifo : Bool) (idL vL kL idA vA kA idF o kF : Nat) : List AV := [.v (.int .i64 now), .v (.bool fifo), .sl (B + idL) vL 0 kL, .sl (B + idA) vA 0 kA, .sl (B + idF) 1 o kF]
def WE (B : Nat) (l : List Row) (e : List AV) : Prop := ∃ now fifo idL vL kL idA vA kA idF o kF, e = wnE B now fifo idL vL kL idA vA kA idF o kF ∧ WN B l idL vL kL idA vA kA idF o kF
theorem WE.hi {B : Nat} {l m : List Row} (h : Hi l m) {e : List AV} (hw : WE B l e) : WE B m e := by
 obtain ⟨now, fifo, idL, vL, kL, idA, vA, kA, idF, o, kF, rfl, hw⟩ := hw
 exact ⟨now, fifo, idL, vL, kL, idA, vA, kA, idF, o, kF, rfl, hw.hi h⟩
theorem WE.eq {B : Nat} {l m : List Row} (h : RowsEq l m) {e : List AV} (hw : WE B l e) : WE B m e := by
 obtain ⟨now, fifo, idL, vL, kL, idA, vA, kA, idF, o, kF, rfl, hw⟩ := hw
 exact ⟨now, fifo, idL, vL, kL, idA, vA, kA, idF, o, kF, rfl, hw.eq h⟩
theorem Lv.we {z : Lv} (h : z.ok) (hs : NwS z.nw) (hlen : z.xs.length = z.tm.length) {B : Nat} {l junk : List Row} (hl : 4 ≤ l.length) : WE B (l ++ (z.rows (B + l.length) ++ junk)) [.v (.int .i64 z.now), .v (.bool z.fifo), .sl (B + l.length) z.vL 0 z.xs.length, .sl (B + l.length + 1) z.vA 0 z.tm.length, .sl (B + l.length + 2) 1 z.o (z.fs.length - z.o)] := by
 have h0 := hs.l
 have h1 := hs.fates
 have hbd := hs.body
 unfold Lv.nw at h0 h1 hbd
 simp only [List.length_map, List.length_drop] at h0 h1 hbd
 have ho := h.o
 have gt : ∀ {j : Nat} {r : Row}, (z.rows (B + l.length))[j]? = some r → (l ++ (z.rows (B + l.length) ++ junk))[l.length + j]? = some r := fun hr => by
  rw [List.getElem?_append_right oM, Nat.add_sub_cancel_left, List.getElem?_append_left (List.getElem?_eq_some_iff.1 hr).1]; exact hr
 refine ⟨z.now, z.fifo, l.length, z.vL, z.xs.length, l.length + 1, z.vA, z.tm.length, l.length + 2, z.o, z.fs.length - z.o, rfl, ⟨by omega, by omega, by omega⟩, ⟨by omega, by omega, by omega⟩, ⟨z.xs.map (lvE (B + l.length)), gt (j := 0) rfl, by simp, fun k r hr => ?_⟩, ⟨z.tm, gt (j := 1) rfl, rfl⟩, ⟨z.fs, gt (j := 2) rfl, by omega⟩⟩
 rw [List.getElem?_map] at hr
 cases hq : z.xs[k]? with
 | none => rw [hq] at hr; cases hr
 | some x =>
   rw [hq] at hr; cases hr
   have hx := List.mem_of_getElem? hq
   have hb := h.bd x hx
   refine ⟨l.length + (3 + x.2), x.1.body.length, x.1.fr, x.1.to, x.1.nu, x.1.body, by unfold lvE; rw [Nat.add_assoc], by omega, hbd x.1 (List.mem_map.2 ⟨x, hx, rfl⟩), gt ?_, rfl⟩
   unfold Lv.rows
   rw [Nat.add_comm 3]
   simp only [List.getElem?_cons_succ, List.getElem?_map, hb]
   rfl
def Kp (l m : List Row) : Prop := RowsEq l m ∧ ∀ i, i < 4 → ∀ r, l[i]? = some r → m[i]? = some r
theorem Kp.refl (l : List Row) : Kp l l := ⟨.refl l, fun _ _ _ h => h⟩
theorem Kp.trans {l m n : List Row} (h : Kp l m) (k : Kp m n) : Kp l n := ⟨h.1.trans k.1, fun i hi r hr => k.2 i hi r (h.2 i hi r hr)⟩
theorem Kp.app {l m : List Row} (h : Kp l m) (r : List Row) : Kp l (m ++ r) := ⟨h.1.app r, fun i hi x hx => by
 have := h.2 i hi x hx
 rw [List.getElem?_append_left (List.getElem?_eq_some_iff.1 this).1]; exact this⟩
theorem Kp.set {l m : List Row} (h : Kp l m) {i v s : Nat} {e e' : List (List AV)} (hi : m[i]? = some (.live v s e)) (he : ElsEq e e') (h4 : 4 ≤ i) : Kp l (m.set i (.live v s e')) := ⟨h.1.set hi he, fun j hj r hr => by
 rw [List.getElem?_set_ne oM]; exact h.2 j hj r hr⟩
theorem wnE_eq {B : Nat} {now : Int} {fifo : Bool} {idL vL kL idA vA kA idF o kF : Nat} {q : List AV} (h : LstEq (wnE B now fifo idL vL kL idA vA kA idF o kF) q) : ∃ now', q = wnE B now' fifo idL vL kL idA vA kA idF o kF := by
 unfold wnE at *
 match q, h with
 | [a, b, c, d, e], h =>
   have ha := h.2 0 _ a rfl rfl
   have hb := h.2 1 _ b rfl rfl
   have hc := h.2 2 _ c rfl rfl
   have hd := h.2 3 _ d rfl rfl
   have he := h.2 4 _ e rfl rfl
   cases hb; cases hc; cases hd; cases he
   cases ha with
   | refl => exact ⟨_, rfl⟩
   | int _ c => exact ⟨c, rfl⟩
 | [], h => have := h.1; simp at this
 | [a], h => have := h.1; simp at this
 | [a, b], h => have := h.1; simp at this
 | [a, b, c], h => have := h.1; simp at this
 | [a, b, c, d], h => have := h.1; simp at this
 | a :: b :: c :: d :: e :: f :: r, h => have := h.1; simp at this
theorem Kp.box {l m : List Row} (h : Kp l m) {q B : Nat} {now : Int} {fifo : Bool} {idL vL kL idA vA kA idF o kF : Nat} (hq : l[q]? = some (.live 0 5 [wnE B now fifo idL vL kL idA vA kA idF o kF])) : ∃ now', m[q]? = some (.live 0 5 [wnE B now' fifo idL vL kL idA vA kA idF o kF]) := by
 obtain ⟨e', h1, h2⟩ := h.1.get hq
 match e', h2 with
 | [r], h2 =>
   obtain ⟨now', rfl⟩ := wnE_eq (h2.2 0 _ r rfl rfl)
   exact ⟨now', h1⟩
 | [], h2 => have := h2.1; simp at this
 | r :: s :: t, h2 => have := h2.1; simp at this
theorem loop_kept0 {P : Program} {c : ACode} {Q : AExit → List AV → List Row → List Row → Prop} {N : Nat} {f : Nat → AV} {b l : List Row} {ι : Type} (p : List (Nat × Nat)) (ov : ι → List (Nat × AV)) (L : ι → List Row) (Cd : ι → Prop) (μ : ι → Nat) (i0 : ι) (h0 : Cd i0)
  (hov : KHas f (ov i0)) (hw : ∀ e, Weak e b l e b (L i0))
  (step : ∀ g, kAny p g = g → (∀ n, kIn p n = false → g n = f n) → ∀ i, Cd i → run (ACalls P) Weak c (kOf N (kOv (ov i) g)) b (L i) (seqQ (KRound N g ov b L Cd μ i) Q)) : run (ACalls P) Weak (.loop c) (kOf N f) b l Q :=
 loop_rule (fun i => kOf N (kOv (ov i) (kAny p f))) (fun _ => b) L Cd μ i0 h0 ((Weak.named p _ hov).trans (hw _))
  (step (kAny p f) kAny_idem (fun _ h => kAny_out h))
theorem Weak.kround0 {N : Nat} {p : List (Nat × Nat)} {ov : List (Nat × AV)} {f g : Nat → AV} {b l : List Row} (he : kAny p f = g) (h : KHas f ov) : Weak (kOf N f) b l (kOf N (kOv ov g)) b l := by
 subst he
 exact Weak.named p ov h
theorem app_at {l r : List Row} {j : Nat} : (l ++ r)[l.length + j]? = r[j]? := by rw [List.getElem?_append_right oM, Nat.add_sub_cancel_left]
theorem app_at0 {l r : List Row} : (l ++ r)[l.length]? = r[0]? := app_at (j := 0)
theorem app_set {l r : List Row} {j : Nat} {x : Row} : (l ++ r).set (l.length + j) x = l ++ r.set j x := by rw [List.set_append_right _ _ oM, Nat.add_sub_cancel_left]
theorem app_set0 {l r : List Row} {x : Row} : (l ++ r).set l.length x = l ++ r.set 0 x := app_set (j := 0)
end Go.Proofs.Ytilcmenglgdljaa
namespace Go.Proofs.Ytilcmenglgdljaa
set_option linter.unusedVariables false
set_option linter.unusedSimpArgs false
attribute [local go_sem ↓] run_skip run_region run_draw run_seq run_block run_exit run_ret run_cond atN_app seqC_normal seqC_exit seqC_ret seqQ_normal seqQ_exit seqQ_ret blkQ_normal blkQ_exit blkQ_ret runOps_nil runOps_cons runD_nil runD_cons grdO_true grdO_false grdD_true grdD_false ifC_true ifC_false opS_val opS_call opS_two opK_app dS_val dS_call dS_two dK_app kUp_same kUp_ne
attribute [local go_sem] rechks_nil rechks_cons rechk gcase_true gcase_false ex_val ex_val0 gd_none gd_some ev_t ev_c evs_nil evs_cons evo_some evo_none hget_at hget_first hsetB_at hsetB_first hsetL_at hsetL_first ofOpt_some aop aload astore aslice aappend aiaddr aiaddrA afaddr alen alenS acopy amm acall alookup amupdate alenM comma keyEq apick binV binVB binVS isSh intOp strOp boolOp shOp eqC eqF and2 cellsOf setFrom fillA fillS rd rdI elems mk bounds AV.cell List.all_cons List.all_nil Bool.and_true Bool.true_and Bool.and_self List.length_cons List.length_nil List.length_append Nat.reduceAdd Nat.reduceSub Nat.reduceMul Nat.zero_add Nat.add_zero List.cons_append List.nil_append List.append_assoc List.append_nil List.getElem?_cons_zero List.getElem?_cons_succ List.getElem?_nil List.set_cons_zero List.set_cons_succ List.drop_zero List.drop_succ_cons List.take_zero List.take_succ_cons List.take_nil List.drop_nil List.map_cons List.map_nil Option.map_some if_true if_false Bool.false_eq_true and_self true_and and_true Nat.reduceLeDiff Nat.reduceLT Nat.le_refl Nat.reduceEqDiff ite_true ite_false beq_self_eq_true beq_true beq_false Bool.not_true Bool.not_false Bool.true_beq Bool.false_beq map_vs vs_len vs_get vs_take vs_drop vs_snoc1 vs_snoc2 vs_snoc3 vs_snoc5 vs_set1 vs_set2 vs_rep wrap_id le_T lt_T le_F lt_F leI_T ltI_T leI_F ltI_F geI gtI get_T decide_true decide_false room List.getElem?_map List.length_map List.length_take Int.toNat_natCast Nat.min_def Nat.min_self nth_kOf put_kOf put_kNo kOv_cons kOv_nil KHas KArgs List.getElem_cons_zero List.getElem_cons_succ
def a_lawOwn : AFunc := ⟨2,162,[.tmp 4],(.seq (.region [⟨some 2,.box (.t 0),none⟩,⟨some 3,.box (.t 1),none⟩,⟨some 4,.mv (.c (.v (.bool false))),none⟩]) (.seq (.seq (.region [⟨some 22,.call (.c (.fn 27 [])) [],none⟩,⟨some 23,.not (.t 22),none⟩]) (.cond (.t 23) (.seq (.region [⟨some 4,.mv (.c (.v (.bool false))),none⟩]) .ret) .skip)) (.seq (.seq (.region [⟨some 24,.load (some 5) (.t 2),none⟩,⟨some 25,.call (.c (.fn 28 [])) [(.t 24)],none⟩,⟨some 26,.mv (.t 25),none⟩,⟨some 27,.load (some 5) (.t 2),some (26,false)⟩,⟨some 28,.call (.c (.fn 30 [])) [(.t 27)],some (26,false)⟩,⟨some 29,.not (.t 28),some (26,false)⟩,⟨some 30,.pick (.t 26) (.c (.v (.bool true))) (.t 29),none⟩,⟨some 31,.mv (.t 30),none⟩,⟨some 32,.load (some 4) (.t 3),some (31,false)⟩,⟨some 33,.call (.c (.fn 31 [])) [(.t 32)],some (31,false)⟩,⟨some 34,.not (.t 33),some (31,false)⟩,⟨some 35,.pick (.t 31) (.c (.v (.bool true))) (.t 34),none⟩]) (.cond (.t 35) (.seq (.region [⟨some 4,.mv (.c (.v (.bool true))),none⟩]) .ret) .skip)) (.seq (.region [⟨some 5,.mv (.c (.fn 50 [])),none⟩]) (.seq (.draw [⟨0,⟨some 36,.mv (.t 5),none⟩,[]⟩,⟨1,⟨some 37,.load (some 5) (.t 2),none⟩,[]⟩,⟨3,⟨some 39,.faddr 3 (.t 3),none⟩,[]⟩,⟨4,⟨some 40,.load none (.t 39),none⟩,[]⟩,⟨2,⟨some 38,.call (.t 36) [(.t 37)],none⟩,[⟨some 39,.faddr 3 (.t 3),none⟩,⟨some 40,.load none (.t 39),none⟩]⟩,⟨5,⟨some 41,.call (.c (.fn 52 [])) [(.t 40)],none⟩,[]⟩,⟨6,⟨some 6,.alloc [(.v (.int .i64 0)),(.v (.bool false)),(.v .zsl),(.v .zsl),(.v .zsl)],none⟩,[⟨some 36,.mv (.t 5),none⟩,⟨some 37,.load (some 5) (.t 2),none⟩,⟨some 39,.faddr 3 (.t 3),none⟩,⟨some 40,.load none (.t 39),none⟩]⟩,⟨7,⟨none,.store 5 (.t 6) (.t 38),none⟩,[]⟩,⟨8,⟨some 7,.mv (.t 41),none⟩,[]⟩]) (.seq (.region [⟨some 42,.bslice 5 [(.v (.int .i64 0)),(.v (.bool false)),(.v .zsl),(.v .zsl),(.v .zsl)] 0 [],none⟩,⟨some 8,.mv (.t 42),none⟩]) (.seq (.seq (.region [⟨some 44,.load (some 5) (.t 2),none⟩,⟨some 45,.load (some 4) (.t 3),none⟩,⟨some 46,.call (.c (.fn 29 [])) [(.t 44),(.t 45)],none⟩,⟨some 43,.mv (.t 46),none⟩,⟨some 47,.extract 0 (.t 43),none⟩,⟨some 48,.extract 1 (.t 43),none⟩,⟨some 9,.alloc [(.v (.int .i64 0)),(.v (.bool false)),(.v .zsl),(.v .zsl),(.v .zsl)],none⟩,⟨none,.store 5 (.t 9) (.t 47),none⟩,⟨some 10,.mv (.t 48),none⟩]) (.seq (.region [⟨some 49,.mv (.t 10),none⟩,⟨some 50,.bin .eql (.t 49) (.c (.v (.int .i64 0))),none⟩]) (.cond (.t 50) (.region [⟨some 51,.mv (.t 8),none⟩,⟨some 52,.load (some 5) (.t 9),none⟩,⟨some 53,.bslice 5 [(.v (.int .i64 0)),(.v (.bool false)),(.v .zsl),(.v .zsl),(.v .zsl)] 1 [(0,(.t 52))],none⟩,⟨some 54,.append 5 88 (.t 51) (.t 53),none⟩,⟨some 8,.mv (.t 54),none⟩]) .skip))) (.seq (.seq (.region [⟨some 55,.mv (.c (.v (.int .i64 0))),none⟩]) (.block 0 (.loop (.seq (.region [⟨some 56,.bin .lss (.t 55) (.c (.v (.int .i64 8))),none⟩]) (.seq (.cond (.t 56) .skip (.exit 0)) (.seq (.block 1 (.seq (.region [⟨some 57,.mv (.t 55),none⟩,⟨some 11,.mv (.t 57),none⟩]) (.seq (.region [⟨some 59,.load (some 5) (.t 2),none⟩,⟨some 60,.mv (.t 11),none⟩,⟨some 61,.call (.c (.fn 35 [])) [(.t 59),(.t 60)],none⟩,⟨some 58,.mv (.t 61),none⟩,⟨some 62,.extract 0 (.t 58),none⟩,⟨some 63,.extract 1 (.t 58),none⟩,⟨some 64,.extract 2 (.t 58),none⟩,⟨some 12,.alloc [(.v (.int .i64 0)),(.v (.bool false)),(.v .zsl),(.v .zsl),(.v .zsl)],none⟩,⟨some 13,.alloc [(.v (.int .i64 0)),(.v (.int .i64 0)),(.v (.int .i64 0)),(.v .zsl)],none⟩,⟨none,.store 5 (.t 12) (.t 62),none⟩,⟨none,.store 4 (.t 13) (.t 63),none⟩,⟨some 14,.mv (.t 64),none⟩]) (.seq (.region [⟨some 65,.mv (.t 14),none⟩,⟨some 66,.bin .eql (.t 65) (.c (.v (.int .i64 0))),none⟩]) (.cond (.t 66) (.region [⟨some 67,.mv (.t 8),none⟩,⟨some 68,.load (some 5) (.t 12),none⟩,⟨some 69,.bslice 5 [(.v (.int .i64 0)),(.v (.bool false)),(.v .zsl),(.v .zsl),(.v .zsl)] 1 [(0,(.t 68))],none⟩,⟨some 70,.append 5 88 (.t 67) (.t 69),none⟩,⟨some 8,.mv (.t 70),none⟩]) .skip))))) (.region [⟨some 71,.bin .add (.t 55) (.c (.v (.int .i64 1))),none⟩,⟨some 55,.mv (.t 71),none⟩]))))))) (.seq (.seq (.region [⟨some 73,.load (some 5) (.t 2),none⟩,⟨some 74,.faddr 0 (.t 2),none⟩,⟨some 75,.load none (.t 74),none⟩,⟨some 76,.call (.c (.fn 36 [])) [(.t 73),(.t 75)],none⟩,⟨some 72,.mv (.t 76),none⟩,⟨some 77,.extract 0 (.t 72),none⟩,⟨some 78,.extract 1 (.t 72),none⟩,⟨some 15,.alloc [(.v (.int .i64 0)),(.v (.bool false)),(.v .zsl),(.v .zsl),(.v .zsl)],none⟩,⟨none,.store 5 (.t 15) (.t 77),none⟩,⟨some 16,.mv (.t 78),none⟩]) (.seq (.region [⟨some 79,.mv (.t 16),none⟩,⟨some 80,.bin .eql (.t 79) (.c (.v (.int .i64 0))),none⟩]) (.cond (.t 80) (.region [⟨some 81,.mv (.t 8),none⟩,⟨some 82,.load (some 5) (.t 15),none⟩,⟨some 83,.bslice 5 [(.v (.int .i64 0)),(.v (.bool false)),(.v .zsl),(.v .zsl),(.v .zsl)] 1 [(0,(.t 82))],none⟩,⟨some 84,.append 5 88 (.t 81) (.t 83),none⟩,⟨some 8,.mv (.t 84),none⟩]) .skip))) (.seq (.seq (.region [⟨some 85,.mv (.t 8),none⟩,⟨some 86,.len (.t 85),none⟩,⟨some 87,.mv (.c (.v (.int .i64 0))),none⟩]) (.block 2 (.loop (.seq (.region [⟨some 88,.bin .lss (.t 87) (.t 86),none⟩]) (.seq (.cond (.t 88) .skip (.exit 2)) (.seq (.block 3 (.seq (.region [⟨some 89,.iaddr 5 (.t 85) (.t 87),none⟩,⟨some 90,.load (some 5) (.t 89),none⟩,⟨some 18,.alloc [(.v (.int .i64 0)),(.v (.bool false)),(.v .zsl),(.v .zsl),(.v .zsl)],none⟩,⟨none,.store 5 (.t 18) (.t 90),none⟩]) (.seq (.seq (.region [⟨some 91,.faddr 2 (.t 18),none⟩,⟨some 92,.load none (.t 91),none⟩,⟨some 93,.len (.t 92),none⟩,⟨some 94,.mv (.c (.v (.int .i64 0))),none⟩]) (.block 4 (.loop (.seq (.region [⟨some 95,.bin .lss (.t 94) (.t 93),none⟩]) (.seq (.cond (.t 95) .skip (.exit 4)) (.seq (.block 5 (.seq (.region [⟨some 96,.mv (.t 94),none⟩,⟨some 19,.mv (.t 96),none⟩]) (.seq (.region [⟨some 97,.faddr 3 (.t 18),none⟩,⟨some 98,.load none (.t 97),none⟩,⟨some 99,.mv (.t 19),none⟩,⟨some 100,.iaddr 1 (.t 98) (.t 99),none⟩,⟨some 101,.load none (.t 100),none⟩,⟨some 102,.bin .add (.t 101) (.c (.v (.int .i64 1))),none⟩,⟨some 103,.iaddr 1 (.t 98) (.t 99),none⟩,⟨none,.store 1 (.t 103) (.t 102),none⟩]) (.seq (.region [⟨some 104,.faddr 2 (.t 18),none⟩,⟨some 105,.load none (.t 104),none⟩,⟨some 106,.mv (.t 19),none⟩,⟨some 107,.iaddr 4 (.t 105) (.t 106),none⟩,⟨some 108,.faddr 2 (.t 107),none⟩,⟨some 109,.load none (.t 108),none⟩,⟨some 110,.bin .add (.t 109) (.c (.v (.int .i64 1))),none⟩,⟨some 111,.iaddr 4 (.t 105) (.t 106),none⟩,⟨some 112,.faddr 2 (.t 111),none⟩,⟨none,.store 1 (.t 112) (.t 110),none⟩]) (.seq (.region [⟨some 113,.faddr 2 (.t 18),none⟩,⟨some 114,.load none (.t 113),none⟩,⟨some 115,.mv (.t 19),none⟩,⟨some 116,.iaddr 4 (.t 114) (.t 115),none⟩,⟨some 117,.faddr 3 (.t 116),none⟩,⟨some 118,.load none (.t 117),none⟩,⟨some 119,.len (.t 118),none⟩,⟨some 120,.mv (.c (.v (.int .i64 0))),none⟩]) (.block 6 (.loop (.seq (.region [⟨some 121,.bin .lss (.t 120) (.t 119),none⟩]) (.seq (.cond (.t 121) .skip (.exit 6)) (.seq (.block 7 (.seq (.region [⟨some 122,.mv (.t 120),none⟩,⟨some 20,.mv (.t 122),none⟩]) (.region [⟨some 123,.faddr 2 (.t 18),none⟩,⟨some 124,.load none (.t 123),none⟩,⟨some 125,.mv (.t 19),none⟩,⟨some 126,.iaddr 4 (.t 124) (.t 125),none⟩,⟨some 127,.faddr 3 (.t 126),none⟩,⟨some 128,.load none (.t 127),none⟩,⟨some 129,.mv (.t 20),none⟩,⟨some 130,.iaddr 1 (.t 128) (.t 129),none⟩,⟨some 131,.load none (.t 130),none⟩,⟨some 132,.bin .add (.t 131) (.c (.v (.int .i64 1))),none⟩,⟨some 133,.iaddr 1 (.t 128) (.t 129),none⟩,⟨none,.store 1 (.t 133) (.t 132),none⟩]))) (.region [⟨some 134,.bin .add (.t 120) (.c (.v (.int .i64 1))),none⟩,⟨some 120,.mv (.t 134),none⟩]))))))))))) (.region [⟨some 135,.bin .add (.t 94) (.c (.v (.int .i64 1))),none⟩,⟨some 94,.mv (.t 135),none⟩]))))))) (.seq (.region [⟨some 136,.faddr 4 (.t 18),none⟩,⟨some 137,.load none (.t 136),none⟩,⟨some 138,.len (.t 137),none⟩,⟨some 139,.mv (.c (.v (.int .i64 0))),none⟩]) (.block 8 (.loop (.seq (.region [⟨some 140,.bin .lss (.t 139) (.t 138),none⟩]) (.seq (.cond (.t 140) .skip (.exit 8)) (.seq (.block 9 (.seq (.region [⟨some 141,.mv (.t 139),none⟩,⟨some 21,.mv (.t 141),none⟩]) (.region [⟨some 142,.faddr 4 (.t 18),none⟩,⟨some 143,.load none (.t 142),none⟩,⟨some 144,.mv (.t 21),none⟩,⟨some 145,.iaddr 2 (.t 143) (.t 144),none⟩,⟨some 146,.faddr 1 (.t 145),none⟩,⟨some 147,.load none (.t 146),none⟩,⟨some 148,.bin .add (.t 147) (.c (.v (.int .i64 1))),none⟩,⟨some 149,.iaddr 2 (.t 143) (.t 144),none⟩,⟨some 150,.faddr 1 (.t 149),none⟩,⟨none,.store 1 (.t 150) (.t 148),none⟩]))) (.region [⟨some 151,.bin .add (.t 139) (.c (.v (.int .i64 1))),none⟩,⟨some 139,.mv (.t 151),none⟩])))))))))) (.region [⟨some 152,.bin .add (.t 87) (.c (.v (.int .i64 1))),none⟩,⟨some 87,.mv (.t 152),none⟩]))))))) (.seq (.region [⟨some 153,.load (some 5) (.t 2),none⟩,⟨some 154,.load (some 5) (.t 6),none⟩,⟨some 155,.call (.c (.fn 34 [])) [(.t 153),(.t 154)],none⟩,⟨some 156,.mv (.t 155),none⟩,⟨some 157,.faddr 3 (.t 3),some (156,true)⟩,⟨some 158,.load none (.t 157),some (156,true)⟩,⟨some 159,.mv (.t 7),some (156,true)⟩,⟨some 160,.call (.c (.fn 54 [])) [(.t 158),(.t 159)],some (156,true)⟩,⟨some 161,.pick (.t 156) (.t 160) (.c (.v (.bool false))),none⟩,⟨some 4,.mv (.t 161),none⟩]) .ret)))))))))))⟩
theorem a_lawOwn_ok : cFunc Try.prog 9 = some a_lawOwn := by kernel_rfl
def r_lawOwn0 : List (Nat × Nat) := [(8, 8), (11, 14), (55, 71)]
def r_lawOwn1 : List (Nat × Nat) := [(18, 21), (87, 152)]
def r_lawOwn2 : List (Nat × Nat) := [(19, 20), (94, 135)]
def r_lawOwn3 : List (Nat × Nat) := [(20, 20), (120, 134)]
def r_lawOwn4 : List (Nat × Nat) := [(21, 21), (139, 151)]
def a_lawOwnC : AFunc := ⟨1,36,[.cell 2 (some 5)],(.seq (.region [⟨some 1,.box (.t 0),none⟩,⟨some 2,.alloc [(.v (.int .i64 0)),(.v (.bool false)),(.v .zsl),(.v .zsl),(.v .zsl)],none⟩]) (.seq (.draw [⟨0,⟨some 4,.faddr 2 (.t 1),none⟩,[]⟩,⟨1,⟨some 5,.load none (.t 4),none⟩,[]⟩,⟨3,⟨some 7,.faddr 3 (.t 1),none⟩,[]⟩,⟨4,⟨some 8,.load none (.t 7),none⟩,[]⟩,⟨6,⟨some 10,.faddr 4 (.t 1),none⟩,[]⟩,⟨7,⟨some 11,.load none (.t 10),none⟩,[]⟩,⟨2,⟨some 6,.call (.c (.fn 51 [])) [(.t 5)],none⟩,[⟨some 7,.faddr 3 (.t 1),none⟩,⟨some 8,.load none (.t 7),none⟩,⟨some 10,.faddr 4 (.t 1),none⟩,⟨some 11,.load none (.t 10),none⟩]⟩,⟨9,⟨some 13,.faddr 2 (.t 1),none⟩,[]⟩,⟨5,⟨some 9,.call (.c (.fn 52 [])) [(.t 8)],none⟩,[⟨some 10,.faddr 4 (.t 1),none⟩,⟨some 11,.load none (.t 10),none⟩,⟨some 13,.faddr 2 (.t 1),none⟩]⟩,⟨8,⟨some 12,.call (.c (.fn 53 [])) [(.t 11)],none⟩,[⟨some 13,.faddr 2 (.t 1),none⟩]⟩,⟨10,⟨none,.store 1 (.t 13) (.t 6),none⟩,[]⟩,⟨11,⟨some 14,.faddr 3 (.t 1),none⟩,[]⟩,⟨12,⟨none,.store 1 (.t 14) (.t 9),none⟩,[]⟩,⟨13,⟨some 15,.faddr 4 (.t 1),none⟩,[]⟩,⟨14,⟨none,.store 1 (.t 15) (.t 12),none⟩,[]⟩]) (.seq (.seq (.region [⟨some 16,.faddr 2 (.t 1),none⟩,⟨some 17,.load none (.t 16),none⟩,⟨some 18,.len (.t 17),none⟩,⟨some 19,.mv (.c (.v (.int .i64 0))),none⟩]) (.block 0 (.loop (.seq (.region [⟨some 20,.bin .lss (.t 19) (.t 18),none⟩]) (.seq (.cond (.t 20) .skip (.exit 0)) (.seq (.block 1 (.seq (.region [⟨some 21,.mv (.t 19),none⟩,⟨some 3,.mv (.t 21),none⟩]) (.draw [⟨0,⟨some 22,.faddr 2 (.t 1),none⟩,[]⟩,⟨1,⟨some 23,.load none (.t 22),none⟩,[]⟩,⟨2,⟨some 24,.mv (.t 3),none⟩,[]⟩,⟨3,⟨some 25,.faddr 2 (.t 1),none⟩,[]⟩,⟨4,⟨some 26,.load none (.t 25),none⟩,[]⟩,⟨5,⟨some 27,.mv (.t 3),none⟩,[]⟩,⟨6,⟨some 28,.iaddr 4 (.t 26) (.t 27),none⟩,[]⟩,⟨7,⟨some 29,.faddr 3 (.t 28),none⟩,[]⟩,⟨8,⟨some 30,.load none (.t 29),none⟩,[]⟩,⟨9,⟨some 31,.call (.c (.fn 52 [])) [(.t 30)],none⟩,[⟨some 22,.faddr 2 (.t 1),none⟩,⟨some 23,.load none (.t 22),none⟩,⟨some 24,.mv (.t 3),none⟩]⟩,⟨10,⟨some 32,.iaddr 4 (.t 23) (.t 24),none⟩,[]⟩,⟨11,⟨some 33,.faddr 3 (.t 32),none⟩,[]⟩,⟨12,⟨none,.store 1 (.t 33) (.t 31),none⟩,[]⟩]))) (.region [⟨some 34,.bin .add (.t 19) (.c (.v (.int .i64 1))),none⟩,⟨some 19,.mv (.t 34),none⟩]))))))) (.seq (.region [⟨some 35,.load (some 5) (.t 1),none⟩,⟨none,.store 5 (.t 2) (.t 35),none⟩]) .ret))))⟩
theorem a_lawOwnC_ok : cFunc Try.prog 50 = some a_lawOwnC := by kernel_rfl
def r_lawOwnC0 : List (Nat × Nat) := [(3, 3), (19, 34)]
def a_EqI : AFunc := ⟨2,26,[.tmp 4],(.seq (.region [⟨some 4,.mv (.c (.v (.bool false))),none⟩]) (.seq (.seq (.region [⟨some 6,.mv (.t 0),none⟩,⟨some 7,.len (.t 6),none⟩,⟨some 8,.mv (.t 1),none⟩,⟨some 9,.len (.t 8),none⟩,⟨some 10,.bin .neq (.t 7) (.t 9),none⟩]) (.cond (.t 10) (.seq (.region [⟨some 4,.mv (.c (.v (.bool false))),none⟩]) .ret) .skip)) (.seq (.seq (.region [⟨some 11,.mv (.t 0),none⟩,⟨some 12,.len (.t 11),none⟩,⟨some 13,.mv (.c (.v (.int .i64 0))),none⟩]) (.block 0 (.loop (.seq (.region [⟨some 14,.bin .lss (.t 13) (.t 12),none⟩]) (.seq (.cond (.t 14) .skip (.exit 0)) (.seq (.block 1 (.seq (.region [⟨some 15,.mv (.t 13),none⟩,⟨some 5,.mv (.t 15),none⟩]) (.seq (.draw [⟨0,⟨some 16,.mv (.t 0),none⟩,[]⟩,⟨1,⟨some 17,.mv (.t 5),none⟩,[]⟩,⟨2,⟨some 18,.iaddr 1 (.t 16) (.t 17),none⟩,[]⟩,⟨3,⟨some 19,.load none (.t 18),none⟩,[]⟩,⟨4,⟨some 20,.mv (.t 1),none⟩,[]⟩,⟨5,⟨some 21,.mv (.t 5),none⟩,[]⟩,⟨6,⟨some 22,.iaddr 1 (.t 20) (.t 21),none⟩,[]⟩,⟨7,⟨some 23,.load none (.t 22),none⟩,[]⟩,⟨8,⟨some 24,.bin .neq (.t 19) (.t 23),none⟩,[]⟩]) (.cond (.t 24) (.seq (.region [⟨some 4,.mv (.c (.v (.bool false))),none⟩]) .ret) .skip)))) (.region [⟨some 25,.bin .add (.t 13) (.c (.v (.int .i64 1))),none⟩,⟨some 13,.mv (.t 25),none⟩]))))))) (.seq (.region [⟨some 4,.mv (.c (.v (.bool true))),none⟩]) .ret))))⟩
theorem a_EqI_ok : cFunc Try.prog 54 = some a_EqI := by kernel_rfl
def r_EqI0 : List (Nat × Nat) := [(4, 5), (13, 25)]

theorem eqI_spec (v : List Int) (hv : v.length ≤ 1000000) (b l : List Row) : ACalls Try.prog 54 [.v (.isl 1 (v.map eI)), .v (.isl 1 (v.map eI))] b l (fun r b' l' => r = .v (.bool true) ∧ b' = b ∧ l' = l) := by
 refine calls_kept a_EqI_ok rfl (by decide) ?_
 intro B g hB hR hE hA
 simp only [KArgs] at hA
 have hd : ((v.length : Int) != (v.length : Int)) = false := by simp
 simp (disch := (first | decide | omega)) only [a_EqI, hA, List.length_map, hd, go_sem]
 refine loop_kept (ι := Nat) r_EqI0 (fun i => [(13, .v (.int .i64 i))]) 0 (fun _ => [])
  (fun i => i ≤ v.length) (fun i => v.length - i) 0 (Nat.zero_le _) (by (repeat (first | exact hE.mono oM | refine KLt.up ?_ kL))) (by ((try simp (disch := decide) only [hA, go_sem]) <;> exact kH)) (fun e => Weak.refl _ _ _) ?_
 rintro g1 hE1 hEE1 hg1 i hi
 by_cases hlt : i < v.length
 ·have hg := eI_get hlt
  have hd2 : (v.getD i 0 != v.getD i 0) = false := by simp
  simp (disch := (first | decide | omega)) only [hA, hg1, hg, hd2, go_sem]
  refine ⟨i + 1, hlt, by simp only; omega, ?_⟩
  exact Weak.kround (p := r_EqI0) (k := 0) (by ((repeat refine (kAny_up rfl).trans ?_); exact hEE1)) (by ((try simp (disch := decide) only [hA, go_sem]) <;> exact kH)) rfl hE1 (by simp) kV hR kL
 ·obtain rfl : i = v.length := by omega
  simp (disch := (first | decide | omega)) only [hA, hg1, go_sem]
  exact leave_pure (xs := [.v (.bool true)]) (.inr rfl) (by simp (disch := (first | decide | omega)) only [resVs, resV, go_sem, hA, hg1]) kO hR hB ⟨rfl, rfl, rfl⟩
theorem cloI_val (v : List Int) (hn : v.length ≤ 1000000) (b l : List Row) : ACalls Try.prog 52 [.v (.isl 1 (v.map eI))] b l (fun r b' l' => r = .v (.isl 1 (v.map eI)) ∧ b' = b ∧ l' = l) :=
 ACalls.deep (Dv.slV (i := 0) rfl (by simp)) (cloI_spec v hn b l)
theorem clE_next {n : Nw} {B i : Nat} (h : i < n.l.length) : (clE n B i).set i [.v (.int .i64 n.l[i].fr), .v (.int .i64 n.l[i].to), .v (.int .i64 n.l[i].nu), .sl (B + (i + 1 + 1 + 1 + 1 + 1)) 1 0 n.l[i].body.length] = clE n B (i + 1) := by
 unfold clE
 rw [fl_set]
 refine fl_congr (fun j hj => ?_)
 by_cases hji : j = i
 ·subst hji
  rw [fUp_same, if_pos oM, getD_at h, show B + (5 + j) = B + (j + 1 + 1 + 1 + 1 + 1) by omega]
 ·rw [fUp_ne hji]
  by_cases hlt : j < i
  ·rw [if_pos hlt, if_pos oM]
  ·rw [if_neg hlt, if_neg oM]
theorem clB_next {n : Nw} {i : Nat} (h : i < n.l.length) : fl i (clB n) ++ [.live 1 1 (vs (n.l[i].body.map eI))] = fl (i + 1) (clB n) := by
 unfold fl
 rw [List.range_succ, List.map_append]
 congr 1
 simp only [List.map_cons, List.map_nil]
 unfold clB bdR
 rw [getD_at h]
def ocRows (n : Nw) (B i : Nat) : List Row := .live 0 5 [[.v (.int .i64 n.now), .v (.bool n.fifo), .sl (B + 2) 1 0 n.l.length, .sl (B + 3) 1 0 n.tm.length, .sl (B + 4) 1 0 n.fates.length]] :: sdO :: .live 1 4 (clE n B i) :: .live 1 1 (vs (n.tm.map eI)) :: .live 1 2 (vs (n.fates.map eFt)) :: fl i (clB n)
set_option maxRecDepth 20000 in
set_option maxHeartbeats 4000000 in
theorem lawOwnC_spec (n : Nw) (hS : NwS n) (b l : List Row) : ACalls Try.prog 50 [.agg [.v (.int .i64 n.now), .v (.bool n.fifo), .v (.isl 4 (n.l.map eMs)), .v (.isl 1 (n.tm.map eI)), .v (.isl 2 (n.fates.map eFt))]] b l
  (fun r b' l' => r = nwA n ∧ b' = b ∧ l' = l) := by
 refine calls_kept a_lawOwnC_ok rfl (by decide) ?_
 intro B g hB hR hE hA
 simp only [KArgs] at hA
 have hnl := hS.l
 simp (disch := (first | decide | omega)) only [a_lawOwnC, hA, go_sem]
 refine ACalls.nxt (cloM_spec n.l hS.l _ _) ?_
 simp (disch := (first | decide | omega)) only [hA, go_sem]
 refine ACalls.nxt (cloI_spec n.tm hS.tm _ _) ?_
 simp (disch := (first | decide | omega)) only [hA, go_sem]
 refine ACalls.nxt (cloF_spec n.fates hS.fates _ _) ?_
 simp (disch := (first | decide | omega)) only [hA, setFrom, cellsOf, go_sem]
 have hz := clE_zero (n := n) (base := B.length)
 have hopen : ∀ i, ocRows n B.length i = .live 0 5 [[.v (.int .i64 n.now), .v (.bool n.fifo), .sl (B.length + 2) 1 0 n.l.length, .sl (B.length + 3) 1 0 n.tm.length, .sl (B.length + 4) 1 0 n.fates.length]] :: .live 0 5 [[.v (.int .i64 0), .v (.bool false), .v .zsl, .v .zsl, .v .zsl]] :: .live 1 4 (clE n B.length i) :: .live 1 1 (vs (n.tm.map eI)) :: .live 1 2 (vs (n.fates.map eFt)) :: fl i (clB n) := fun _ => rfl
 refine loop_kept0 (ι := Nat) r_lawOwnC0 (fun i => [(19, .v (.int .i64 i))]) (fun i => ocRows n B.length i)
  (fun i => i ≤ n.l.length) (fun i => n.l.length - i) 0 (Nat.zero_le _) (by ((try simp (disch := decide) only [hA, go_sem]) <;> exact kH)) (fun e => by rw [hopen, hz]; exact Weak.refl _ _ _) ?_
 intro g1 hEE1 hg1 i hi
 have ho := hopen i
 by_cases hlt : i < n.l.length
 ·have hge : (clE n B.length i)[i]? = some [.v (.int .i64 n.l[i].fr), .v (.int .i64 n.l[i].to), .v (.int .i64 n.l[i].nu), .v (.isl 1 (n.l[i].body.map eI))] := by
   unfold clE
   rw [fl_get hlt, if_neg oM, getD_at hlt]; rfl
  simp (disch := (first | decide | omega)) only [hA, hg1, ho, hge, go_sem]
  refine ACalls.nxt (cloI_spec n.l[i].body (hS.body _ (List.getElem_mem hlt)) _ _) ?_
  simp (disch := (first | decide | omega)) only [hA, hg1, hge, fl_len, setFrom, cellsOf, go_sem]
  refine ⟨i + 1, hlt, by simp only; omega, ?_⟩
  show Weak _ B _ (kOf 36 (kOv [(19, .v (.int .i64 ((i + 1 : Nat) : Int)))] g1)) B (ocRows n B.length (i + 1))
  rw [clE_next hlt, clB_next hlt, hopen]
  exact Weak.kround0 (p := r_lawOwnC0) (by ((repeat refine (kAny_up rfl).trans ?_); exact hEE1)) (by ((try simp (disch := decide) only [hA, hg1, go_sem]) <;> exact kH))
 ·obtain rfl : i = n.l.length := by omega
  simp (disch := (first | decide | omega)) only [hA, hg1, ho, setFrom, cellsOf, go_sem]
  refine leave_deep (.inr rfl) (xs := [.agg [.v (.int .i64 n.now), .v (.bool n.fifo), .sl (B.length + 2) 1 0 n.l.length, .sl (B.length + 3) 1 0 n.tm.length, .sl (B.length + 4) 1 0 n.fates.length]]) (y := nwA n) (by simp (disch := (first | decide | omega)) only [resVs, resV, hA, hg1, go_sem]) ?_ hR hB ⟨rfl, rfl, rfl⟩
  rw [one_agg]
  refine Dv.aggL (.cons (.v _) (.cons (.v _) (.cons (Dv.slR (i := 2) rfl (by unfold clE; rw [fl_len]; omega) (by simp) (fun k r row h1 h2 => ?_)) (.cons (Dv.slV (i := 3) rfl (by simp)) (.cons (Dv.slV (i := 4) rfl (by simp)) .nil)))))
  rw [Nat.zero_add] at h1
  rw [List.getElem?_map] at h2
  by_cases hk : k < n.l.length
  ·unfold clE at h1
   rw [fl_get hk, if_pos hk, getD_at hk] at h1
   rw [List.getElem?_eq_getElem hk] at h2
   cases h1; cases h2
   refine .cons (.v _) (.cons (.v _) (.cons (.v _) (.cons (Dv.slV (i := 5 + k) (rows := n.l[k].body.map eI) ?_ (by simp)) .nil)))
   rw [Nat.add_comm 5]
   simp only [List.getElem?_cons_succ]
   rw [fl_get hk]
   unfold clB bdR
   rw [getD_at hk]
  ·rw [List.getElem?_eq_none oM] at h2; cases h2
end Go.Proofs.Ytilcmenglgdljaa
