/- Texts of one proof, laid together: E1, WR, MS, CT, CQ, VA, VB, VD, VE, VF, VG. No condition. -/
import Derived.Test.YtiiflkcebikecaaQB1
/- Concrete runs, whose rows may be frozen ahead of a call. No condition. -/
namespace Go.Proofs.Ytiiflkcebikecaa.E1
set_option linter.unusedVariables false
/-- Rows of plain values of the caller's own are frozen ahead of a call: its arguments read as plain values. -/
theorem ACalls.freezeDeep {P : Program} {f i ver sz : Nat} {args : List AV} {rows : List (List IV)} {b l : List Row} {Q : AV → List Row → List Row → Prop} (n : Nat) (hi : l[i]? = some (.live ver sz (vs rows)))
    (h : ACalls P f (args.map (deep (frz0 (b.length + i) ver sz rows) n)) b ((l.set i (.dead ver)).map (rowMap (frz0 (b.length + i) ver sz rows))) Q) : ACalls P f args b l Q := by
  refine ⟨h.1, fun F L w us s hr => ?_⟩
  obtain ⟨F', s1, he1, st1, h4⟩ := freeze_core (e := []) hi F L w { tmps := #[], defers := [] } s ⟨rfl, rfl, fun j x v hx hv => by simp at hx⟩
  obtain ⟨s2, own⟩ := s1.mapRows h4 (fun x hx => frz0_cell x hx)
  refine Calls.mono (h.2 F' L w us s2 ⟨by have := hr.1; simpa using this, fun j x v hx hv => ?_⟩) ?_
  · rw [List.getElem?_map] at hx
    cases hq : args[j]? with
    | none => simp [hq] at hx
    | some y => simp [hq] at hx; subst hx; exact deep_rep h4 n y v ((hr.2 j y v hq hv).mono st1.imm (fun _ _ => rfl) (fun _ _ _ h => h))
  rintro en w' ⟨v, x, b', l', F2, L2, h1, h2, h3, h4', h5, h6⟩
  have hlen : (b ++ (l.set i (.dead ver)).map (rowMap (frz0 (b.length + i) ver sz rows))).length = (b ++ l).length := by simp
  have st : Step (b ++ l).length F L (b ++ l) w F' L (b ++ (l.set i (.dead ver)).map (rowMap (frz0 (b.length + i) ver sz rows))) w := by
    refine ⟨st1.imm, fun _ _ _ _ hl => hl, rfl, rfl, rfl, Nat.le_refl _, fun _ _ _ => rfl, fun k hk ho => st1.own k hk (own k ho), fun id hid v hv => ?_, st1.fnew⟩
    by_cases hj : id < b.length
    · rw [List.getElem?_append_left hj] at hv ⊢; exact hv
    · rw [List.getElem?_append_right (by omega)] at hv ⊢
      rw [List.getElem?_map]
      by_cases hji : i = id - b.length
      · rw [← hji, hi] at hv; cases hv
      · rw [List.getElem?_set_ne hji, hv]; rfl
  exact ⟨v, x, b', l', F2, L2, h1, h2, h3, st.trans (hlen ▸ h4'), h5, h6⟩
def frzArgs (nb : Nat) : List Nat → List AV → List Row → List AV × List Row
  | [], y, l => (y, l)
  | i :: is, y, l => match l[i]? with
    | some (.live ver sz els) => match mapO (mapO unV) els with
      | some rows => frzArgs nb is (y.map (deep (frz0 (nb + i) ver sz rows) 6)) ((l.set i (.dead ver)).map (rowMap (frz0 (nb + i) ver sz rows)))
      | none => frzArgs nb is y l
    | _ => frzArgs nb is y l
theorem frzArgs_ok {P : Program} {f : Nat} {b : List Row} {Q : AV → List Row → List Row → Prop} : ∀ (is : List Nat) (y : List AV) (l : List Row), ACalls P f (frzArgs b.length is y l).1 b (frzArgs b.length is y l).2 Q → ACalls P f y b l Q
  | [], y, l, h => h
  | i :: is, y, l, h => by
    unfold frzArgs at h
    split at h
    · rename_i ver sz els hi
      split at h
      · rename_i rows hr
        have := unV_els hr
        subst this
        exact ACalls.freezeDeep 6 hi (frzArgs_ok is _ _ h)
      · exact frzArgs_ok is _ _ h
    · exact frzArgs_ok is _ _ h

section
variable (T : Nat → Option AFunc) (O : Nat → List AV → Option AV) (Z : Nat → Nat)
def xcall0 (ex : ACode → List AV → List Row → List Row → Bool → XR) : XCall := fun f args b l => match O f args with
  | some y => .ok y b l false
  | none => match T f with
    | some af => if args.length = af.nargs then
        match ex af.body (args ++ List.replicate (af.ntmps - args.length) (.tup [])) (b ++ l) [] false with
        | .ok (.exit _) _ _ _ _ => .bad
        | .ok _ e B l' t => match resVs e B l' af.res with
          | some xs => fin (Z f % 100) b l (one xs) B l' t
          | none => .bad
        | .bad => .bad
      else .bad
    | none => .bad
/-- A call; Z says how often rows are gone through to be frozen: ahead of the call (hundreds), behind it. -/
def xcall (ex : ACode → List AV → List Row → List Row → Bool → XR) : XCall := fun f args b l =>
  let p := frzArgs b.length (times (Z f / 100) (List.range l.length).reverse) args l
  xcall0 T O Z ex f p.1 b p.2
def execS (ex : ACode → List AV → List Row → List Row → Bool → XR) : ACode → List AV → List Row → List Row → Bool → XR
  | .skip, e, b, l, t => .ok .normal e b l t
  | .region ops, e, b, l, t => xops (xcall T O Z ex) ops e b l t
  | .draw ds, e, b, l, t => xdraw (xcall T O Z ex) ds e b l t
  | .seq x y, e, b, l, t => match ex x e b l t with
    | .ok .normal e b l t => ex y e b l t
    | r => r
  | .cond c x y, e, b, l, t => match ev e c with
    | .v (.bool true) => ex x e b l t
    | .v (.bool false) => ex y e b l t
    | _ => .bad
  | .block id c, e, b, l, t => match ex c e b l t with
    | .ok (.exit i) e b l t => if i = id then .ok .normal e b l t else .ok (.exit i) e b l t
    | r => r
  | .loop c, e, b, l, t => match ex c e b l t with
    | .ok .normal e b l t => ex (.loop c) e b l t
    | r => r
  | .exit i, e, b, l, t => .ok (.exit i) e b l t
  | .ret, e, b, l, t => .ok .ret e b l t
def exec : Nat → ACode → List AV → List Row → List Row → Bool → XR
  | 0 => fun _ _ _ _ _ => .bad
  | n + 1 => execS T O Z (exec n)
end

/-! What is computed is what a run does. -/
section
variable {P : Program} {T : Nat → Option AFunc} {O : Nat → List AV → Option AV} {Z : Nat → Nat}

def XCallOk (P : Program) (call : XCall) : Prop := ∀ f args b l y b' l' t, call f args b l = .ok y b' l' t → (t = false → b' = b) ∧ ACalls P f args b l (fun x b1 l1 => x = y ∧ b1 = b' ∧ l1 = l')
def CodeOk (P : Program) (ex : ACode → List AV → List Row → List Row → Bool → XR) : Prop := ∀ c e b l t x e' b' l' t', ex c e b l t = .ok x e' b' l' t' → (t' = false → t = false ∧ b' = b) ∧ ∀ Q : AExit → List AV → List Row → List Row → Prop, Q x e' b' l' → run (ACalls P) Weak c e b l Q

theorem xops_ok {call : XCall} (hc : XCallOk P call) : ∀ (os : List AOper) (e : List AV) (b l : List Row) (t : Bool) (x : AExit) (e' : List AV) (b' l' : List Row) (t' : Bool), xops call os e b l t = .ok x e' b' l' t' →
    x = .normal ∧ (t' = false → t = false ∧ b' = b) ∧ ∀ K : List AV → List Row → List Row → Prop, K e' b' l' → runOps (ACalls P) os e b l K
  | [], e, b, l, t, x, e', b', l', t', h => by
    simp only [xops, XR.ok.injEq] at h
    obtain ⟨rfl, rfl, rfl, rfl, rfl⟩ := h
    exact ⟨rfl, fun h => ⟨h, rfl⟩, fun K hK => hK⟩
  | o :: os, e, b, l, t, x, e', b', l', t', h => by
    unfold xops at h
    simp only [runOps]
    unfold gcase
    split at h
    · rename_i hg
      rw [hg]
      simp only [if_true]
      split at h
      · rename_i v b1 l1 ha
        rw [ha]
        obtain ⟨k1, k2, k3⟩ := xops_ok hc os _ _ _ _ _ _ _ _ _ h
        refine ⟨k1, fun ht => ?_, fun K hK => k3 K hK⟩
        obtain ⟨h1, h2⟩ := k2 ht
        simp only [Bool.or_eq_false_iff] at h1
        exact ⟨h1.1, by rw [h2, wrB_ok ha h1.2]⟩
      · rename_i c v y ha
        rw [ha]
        split at h
        · cases h
        · rename_i hcf
          obtain ⟨k1, k2, k3⟩ := xops_ok hc os _ _ _ _ _ _ _ _ _ h
          exact ⟨k1, k2, fun K hK => ⟨fun hh => absurd hh hcf, k3 K hK⟩⟩
      · rename_i f args ha
        rw [ha]
        split at h
        · rename_i y b1 l1 t1 hcall
          obtain ⟨g1, g2⟩ := hc _ _ _ _ _ _ _ _ hcall
          obtain ⟨k1, k2, k3⟩ := xops_ok hc os _ _ _ _ _ _ _ _ _ h
          refine ⟨k1, fun ht => ?_, fun K hK => ?_⟩
          · obtain ⟨h1, h2⟩ := k2 ht
            simp only [Bool.or_eq_false_iff] at h1
            exact ⟨h1.1, by rw [h2, g1 h1.2]⟩
          · refine ACalls_mono _ _ _ _ _ _ g2 ?_
            rintro x b2 l2 ⟨rfl, rfl, rfl⟩
            exact k3 K hK
        · cases h
      · cases h
    · rename_i hg
      rw [hg]
      simp only [Bool.false_eq_true, if_false]
      exact xops_ok hc os _ _ _ _ _ _ _ _ _ h
    · cases h

theorem xdraw_ok {call : XCall} (hc : XCallOk P call) : ∀ (os : List DOper) (e : List AV) (b l : List Row) (t : Bool) (x : AExit) (e' : List AV) (b' l' : List Row) (t' : Bool), xdraw call os e b l t = .ok x e' b' l' t' →
    x = .normal ∧ (t' = false → t = false ∧ b' = b) ∧ ∀ K : List AV → List Row → List Row → Prop, K e' b' l' → runD (ACalls P) os e b l K
  | [], e, b, l, t, x, e', b', l', t', h => by
    simp only [xdraw, XR.ok.injEq] at h
    obtain ⟨rfl, rfl, rfl, rfl, rfl⟩ := h
    exact ⟨rfl, fun h => ⟨h, rfl⟩, fun K hK => hK⟩
  | o :: os, e, b, l, t, x, e', b', l', t', h => by
    unfold xdraw at h
    simp only [runD]
    unfold gcase
    split at h
    · rename_i hg
      rw [hg]
      simp only [if_true]
      split at h
      · rename_i v b1 l1 ha
        rw [ha]
        split at h
        case isFalse => cases h
        rename_i hre
        obtain ⟨k1, k2, k3⟩ := xdraw_ok hc os _ _ _ _ _ _ _ _ _ h
        refine ⟨k1, fun ht => ?_, fun K hK => ⟨rechksB_ok hre, k3 K hK⟩⟩
        obtain ⟨h1, h2⟩ := k2 ht
        simp only [Bool.or_eq_false_iff] at h1
        exact ⟨h1.1, by rw [h2, wrB_ok ha h1.2]⟩
      · cases h
      · rename_i f args ha
        rw [ha]
        split at h
        · rename_i y b1 l1 t1 hcall
          split at h
          case isFalse => cases h
          rename_i hre
          obtain ⟨g1, g2⟩ := hc _ _ _ _ _ _ _ _ hcall
          obtain ⟨k1, k2, k3⟩ := xdraw_ok hc os _ _ _ _ _ _ _ _ _ h
          refine ⟨k1, fun ht => ?_, fun K hK => ?_⟩
          · obtain ⟨h1, h2⟩ := k2 ht
            simp only [Bool.or_eq_false_iff] at h1
            exact ⟨h1.1, by rw [h2, g1 h1.2]⟩
          · refine ACalls_mono _ _ _ _ _ _ g2 ?_
            rintro x b2 l2 ⟨rfl, rfl, rfl⟩
            exact ⟨rechksB_ok hre, k3 K hK⟩
        · cases h
      · cases h
    · rename_i hg
      rw [hg]
      simp only [Bool.false_eq_true, if_false]
      exact xdraw_ok hc os _ _ _ _ _ _ _ _ _ h
    · cases h

theorem xcall0_ok (hT : ∀ f af, T f = some af → cFunc P f = some af) (hO : ∀ f args y, O f args = some y → ∀ b l, ACalls P f args b l (fun r b' l' => r = y ∧ b' = b ∧ l' = l))
    {ex : ACode → List AV → List Row → List Row → Bool → XR} (hx : CodeOk P ex) : XCallOk P (xcall0 T O Z ex) := by
  intro f args b l y b' l' t h
  unfold xcall0 at h
  split at h
  · rename_i y' ho
    simp only [XV.ok.injEq] at h
    obtain ⟨rfl, rfl, rfl, rfl⟩ := h
    exact ⟨fun _ => rfl, hO _ _ _ ho b l⟩
  · split at h
    case h_2 => cases h
    rename_i af haf
    split at h
    case isFalse => cases h
    rename_i hlen
    split at h
    · cases h
    · rename_i x e B l1 t1 hne hrun
      split at h
      case h_2 => cases h
      rename_i xs hxs
      obtain ⟨k1, k2⟩ := hx _ _ _ _ _ _ _ _ _ _ hrun
      have hex : x = .normal ∨ x = .ret := by
        cases x with
        | normal => exact .inl rfl
        | ret => exact .inr rfl
        | exit i => exact absurd rfl (hne i)
      have hfz := frzRows_ok (b := B) (times (Z f % 100) (List.range l1.length).reverse) (one xs) l1
      unfold fin at h
      simp only at h
      split at h
      · rename_i hc
        obtain ⟨rfl, hlt⟩ := hc
        simp only [XV.ok.injEq] at h
        obtain ⟨rfl, rfl, rfl, rfl⟩ := h
        have hB := (k1 rfl).2
        refine ⟨fun _ => rfl, calls_of (hT _ _ haf) hlen ?_⟩
        intro B0 hB0 hR _
        subst hB0
        refine k2 _ ⟨hex, xs, hxs, (frzRows (b.length + l.length) (times (Z f % 100) (List.range l1.length).reverse) (one xs) l1).1, B, [], ?_, ?_⟩
        · have hlenB : (b ++ l).length = b.length + l.length := by simp
          rw [hB] at hfz ⊢
          rw [← hlenB] at hlt ⊢
          refine hfz.trans (Weak.trim (l1 := []) rfl ?_ (by simpa using hR) RowsLt_nil)
          intro z hz
          simp only [List.mem_singleton] at hz
          subst hz
          simpa using ltB_ok _ _ hlt
        · rw [hB]; simp
      · split at h
        case isFalse => cases h
        rename_i hl
        simp only [XV.ok.injEq] at h
        obtain ⟨rfl, rfl, rfl, rfl⟩ := h
        refine ⟨fun ht => ?_, calls_of (hT _ _ haf) hlen ?_⟩
        · have hB := (k1 ht).2
          rw [hB]; simp
        · intro B0 hB0 hR _
          subst hB0
          refine k2 _ ⟨hex, xs, hxs, (frzRows (b.length + l.length) (times (Z f % 100) (List.range l1.length).reverse) (one xs) l1).1, B, (frzRows (b.length + l.length) (times (Z f % 100) (List.range l1.length).reverse) (one xs) l1).2, ?_, ?_⟩
          · exact hl ▸ hfz
          · simp
    · cases h

theorem xcall_ok (hT : ∀ f af, T f = some af → cFunc P f = some af) (hO : ∀ f args y, O f args = some y → ∀ b l, ACalls P f args b l (fun r b' l' => r = y ∧ b' = b ∧ l' = l))
    {ex : ACode → List AV → List Row → List Row → Bool → XR} (hx : CodeOk P ex) : XCallOk P (xcall T O Z ex) := by
  intro f args b l y b' l' t h
  obtain ⟨h1, h2⟩ := xcall0_ok hT hO hx _ _ _ _ _ _ _ _ h
  exact ⟨h1, frzArgs_ok _ _ _ h2⟩

theorem exec_ok (hT : ∀ f af, T f = some af → cFunc P f = some af) (hO : ∀ f args y, O f args = some y → ∀ b l, ACalls P f args b l (fun r b' l' => r = y ∧ b' = b ∧ l' = l)) :
    ∀ n, CodeOk P (exec T O Z n)
  | 0 => fun c e b l t x e' b' l' t' h => by simp [exec] at h
  | n + 1 => by
    have ih := exec_ok hT hO n
    have hcall := xcall_ok (Z := Z) hT hO ih
    intro c e b l t x e' b' l' t' h
    cases c with
    | skip =>
      simp only [exec, execS, XR.ok.injEq] at h
      obtain ⟨rfl, rfl, rfl, rfl, rfl⟩ := h
      exact ⟨fun h => ⟨h, rfl⟩, fun Q hQ => hQ⟩
    | exit i =>
      simp only [exec, execS, XR.ok.injEq] at h
      obtain ⟨rfl, rfl, rfl, rfl, rfl⟩ := h
      exact ⟨fun h => ⟨h, rfl⟩, fun Q hQ => hQ⟩
    | ret =>
      simp only [exec, execS, XR.ok.injEq] at h
      obtain ⟨rfl, rfl, rfl, rfl, rfl⟩ := h
      exact ⟨fun h => ⟨h, rfl⟩, fun Q hQ => hQ⟩
    | region ops =>
      simp only [exec, execS] at h
      obtain ⟨rfl, h2, h3⟩ := xops_ok hcall ops e b l t x e' b' l' t' h
      exact ⟨h2, fun Q hQ => h3 (Q .normal) hQ⟩
    | draw ds =>
      simp only [exec, execS] at h
      obtain ⟨rfl, h2, h3⟩ := xdraw_ok hcall ds e b l t x e' b' l' t' h
      exact ⟨h2, fun Q hQ => h3 (Q .normal) hQ⟩
    | seq c1 c2 =>
      simp only [exec, execS] at h
      split at h
      · rename_i e1 b1 l1 t1 h1
        obtain ⟨k1, k2⟩ := ih _ _ _ _ _ _ _ _ _ _ h1
        obtain ⟨g1, g2⟩ := ih _ _ _ _ _ _ _ _ _ _ h
        refine ⟨fun ht => ?_, fun Q hQ => k2 _ (g2 Q hQ)⟩
        obtain ⟨q1, q2⟩ := g1 ht
        obtain ⟨q3, q4⟩ := k1 q1
        exact ⟨q3, by rw [q2, q4]⟩
      · rename_i hne
        obtain ⟨k1, k2⟩ := ih _ _ _ _ _ _ _ _ _ _ h
        refine ⟨k1, fun Q hQ => k2 _ ?_⟩
        cases x with
        | normal => exact absurd h (hne _ _ _ _)
        | exit i => exact hQ
        | ret => exact hQ
    | cond c c1 c2 =>
      simp only [exec, execS] at h
      simp only [run]
      split at h
      · rename_i hc
        rw [hc]
        exact ih _ _ _ _ _ _ _ _ _ _ h
      · rename_i hc
        rw [hc]
        exact ih _ _ _ _ _ _ _ _ _ _ h
      · cases h
    | block id c =>
      simp only [exec, execS] at h
      split at h
      · rename_i i e1 b1 l1 t1 h1
        obtain ⟨k1, k2⟩ := ih _ _ _ _ _ _ _ _ _ _ h1
        split at h
        · rename_i hi
          simp only [XR.ok.injEq] at h
          obtain ⟨rfl, rfl, rfl, rfl, rfl⟩ := h
          refine ⟨k1, fun Q hQ => k2 _ ?_⟩
          simp only [blkQ]; rw [if_pos hi]; exact hQ
        · rename_i hi
          simp only [XR.ok.injEq] at h
          obtain ⟨rfl, rfl, rfl, rfl, rfl⟩ := h
          refine ⟨k1, fun Q hQ => k2 _ ?_⟩
          simp only [blkQ]; rw [if_neg hi]; exact hQ
      · rename_i hne
        obtain ⟨k1, k2⟩ := ih _ _ _ _ _ _ _ _ _ _ h
        refine ⟨k1, fun Q hQ => k2 _ ?_⟩
        cases x with
        | normal => exact hQ
        | exit i => exact absurd h (hne _ _ _ _ _)
        | ret => exact hQ
    | loop c =>
      have key : ∀ m, m ≤ n + 1 → ∀ e b l t x e' b' l' t', exec T O Z m (.loop c) e b l t = .ok x e' b' l' t' → (t' = false → t = false ∧ b' = b) ∧ ∃ k, m = k + 1 ∧
          ∀ Q : AExit → List AV → List Row → List Row → Prop, Q x e' b' l' → run (ACalls P) Weak c e b l (seqQ (fun e1 b1 l1 => ∃ t1, exec T O Z k (.loop c) e1 b1 l1 t1 = .ok x e' b' l' t') Q) := by
        intro m hm e b l t x e' b' l' t' h
        cases m with
        | zero => simp [exec] at h
        | succ m =>
          have ihm := exec_ok hT hO m
          simp only [exec, execS] at h
          split at h
          · rename_i e1 b1 l1 t1 h1
            obtain ⟨k1, k2⟩ := ihm _ _ _ _ _ _ _ _ _ _ h1
            obtain ⟨g1, g2⟩ := ihm _ _ _ _ _ _ _ _ _ _ h
            refine ⟨fun ht => ?_, m, rfl, fun Q hQ => k2 _ ⟨t1, h⟩⟩
            obtain ⟨q1, q2⟩ := g1 ht
            obtain ⟨q3, q4⟩ := k1 q1
            exact ⟨q3, by rw [q2, q4]⟩
          · rename_i hne
            obtain ⟨k1, k2⟩ := ihm _ _ _ _ _ _ _ _ _ _ h
            refine ⟨k1, m, rfl, fun Q hQ => k2 _ ?_⟩
            cases x with
            | normal => exact absurd h (hne _ _ _ _)
            | exit i => exact hQ
            | ret => exact hQ
      refine ⟨(key _ (Nat.le_refl _) _ _ _ _ _ _ _ _ _ h).1, fun Q hQ => ?_⟩
      refine ⟨fun e b l m => m ≤ n + 1 ∧ ∃ t, exec T O Z m (.loop c) e b l t = .ok x e' b' l' t', ⟨e, b, l, n + 1, Weak.refl _ _ _, Nat.le_refl _, t, h⟩, ?_⟩
      rintro e1 b1 l1 m ⟨hm, t1, h1⟩
      obtain ⟨_, k, rfl, hk⟩ := key m hm _ _ _ _ _ _ _ _ _ h1
      refine run_mono' ACalls_mono (hk Q hQ) ?_
      intro ex e2 b2 l2 h2
      cases ex with
      | normal =>
        obtain ⟨t2, h3⟩ := h2
        exact ⟨e2, b2, l2, k, Weak.refl _ _ _, ⟨by omega, t2, h3⟩, by omega⟩
      | exit j => exact h2
      | ret => exact h2

/-- A function without arguments that answers with a plain value: in every world. -/
theorem ACalls.of_exec (hT : ∀ f af, T f = some af → cFunc P f = some af) (hO : ∀ f args y, O f args = some y → ∀ b l, ACalls P f args b l (fun r b' l' => r = y ∧ b' = b ∧ l' = l))
    {n f : Nat} {x : IV} {b1 l1 : List Row} {t : Bool} (h : xcall T O Z (exec T O Z n) f [] [] [] = .ok (.v x) b1 l1 t) : ACalls P f [] [] [] (fun r b' l' => r = .v x) := by
  refine ACalls_mono _ _ _ _ _ _ (xcall_ok hT hO (exec_ok hT hO n) f [] [] [] _ _ _ _ h).2 ?_
  rintro r b' l' ⟨rfl, _, _⟩
  rfl
end
end Go.Proofs.Ytiiflkcebikecaa.E1

/- Rows of the call's own whose cells are rows of the call's own: matrices in the making. No condition. -/
namespace Go.Proofs.Ytiiflkcebikecaa
set_option linter.unusedVariables false

/-- The list of n elements that a function says. -/
def fl {α : Type} (n : Nat) (f : Nat → α) : List α := (List.range n).map f
def fUp {α : Type} (f : Nat → α) (i : Nat) (x : α) : Nat → α := fun j => if j = i then x else f j
section
variable {α β : Type}
theorem fl_len {n : Nat} {f : Nat → α} : (fl n f).length = n := by simp [fl]
theorem fl_get {n : Nat} {f : Nat → α} {i : Nat} (h : i < n) : (fl n f)[i]? = some (f i) := by
  unfold fl; rw [List.getElem?_map, List.getElem?_range h]; rfl
theorem fl_none {n : Nat} {f : Nat → α} {i : Nat} (h : n ≤ i) : (fl n f)[i]? = none := by
  rw [List.getElem?_eq_none]; rw [fl_len]; exact h
theorem fl_congr {n : Nat} {f g : Nat → α} (h : ∀ i, i < n → f i = g i) : fl n f = fl n g := by
  unfold fl
  refine List.map_congr_left (fun i hi => h i (List.mem_range.1 hi))
theorem fl_map {n : Nat} {f : Nat → α} {g : α → β} : (fl n f).map g = fl n (fun i => g (f i)) := by simp [fl]
theorem fl_set {n : Nat} {f : Nat → α} {i : Nat} {x : α} : (fl n f).set i x = fl n (fUp f i x) := by
  apply List.ext_getElem?
  intro j
  by_cases hj : j < n
  · rw [fl_get hj]
    unfold fUp
    by_cases hij : j = i
    · subst hij
      rw [List.getElem?_set_self (by rw [fl_len]; exact hj), if_pos rfl]
    · rw [List.getElem?_set_ne (Ne.symm hij), fl_get hj, if_neg hij]
  · rw [fl_none (by omega), List.getElem?_eq_none]; rw [List.length_set, fl_len]; omega
theorem fl_snoc {n : Nat} {f : Nat → α} {x : α} : fl n f ++ [x] = fl (n + 1) (fUp f n x) := by
  unfold fl
  rw [List.range_succ, List.map_append]
  congr 1
  · refine List.map_congr_left (fun i hi => ?_)
    have := List.mem_range.1 hi
    unfold fUp; rw [if_neg (by omega)]
  · simp [fUp]
theorem fl_take {n i : Nat} {f : Nat → α} (h : i ≤ n) : (fl n f).take i = fl i f := by
  unfold fl; rw [← List.map_take, List.take_range, Nat.min_eq_left h]
theorem fl_list {l : List α} {d : α} : fl l.length (fun i => l.getD i d) = l := by
  apply List.ext_getElem?
  intro j
  by_cases hj : j < l.length
  · rw [fl_get hj, List.getD_eq_getElem?_getD, List.getElem?_eq_getElem hj]; rfl
  · rw [fl_none (by omega), List.getElem?_eq_none (by omega)]
theorem fl_getD {n i : Nat} {f : Nat → α} {d : α} (h : i < n) : (fl n f).getD i d = f i := by
  rw [List.getD_eq_getElem?_getD, fl_get h]; rfl
theorem fl_getE {n i : Nat} {f : Nat → α} (h : i < (fl n f).length) : (fl n f)[i] = f i := by
  have := fl_get (f := f) (show i < n by rwa [fl_len] at h)
  rw [List.getElem?_eq_getElem h] at this
  exact Option.some.inj this
theorem fUp_same {f : Nat → α} {i : Nat} {x : α} : fUp f i x i = x := by unfold fUp; rw [if_pos rfl]
theorem fUp_ne {f : Nat → α} {i j : Nat} {x : α} (h : j ≠ i) : fUp f i x j = f j := by unfold fUp; rw [if_neg h]
theorem fl_zero {f : Nat → α} : fl 0 f = [] := rfl
end

/-- A row of rows of which the first i are frozen. -/
def mC (base sz i : Nat) (ver : Nat → Nat) (R : Nat → List (List IV)) (j : Nat) : AV := if j < i then .v (.isl sz (R j)) else .sl (base + (j + 1)) (ver j) 0 (R j).length
def mD (sz i : Nat) (ver : Nat → Nat) (R : Nat → List (List IV)) (j : Nat) : Row := if j < i then .dead (ver j) else .live (ver j) sz (vs (R j))
def mR (n v0 base sz i : Nat) (ver : Nat → Nat) (R : Nat → List (List IV)) : List Row := .live v0 1 (fl n fun j => [mC base sz i ver R j]) :: fl n (mD sz i ver R)
/-- The matrix as a value. -/
def mV (n sz : Nat) (R : Nat → List (List IV)) : List (List IV) := fl n fun j => [.isl sz (R j)]
theorem vs_frz0 {id ver sz : Nat} {rows r : List (List IV)} : (vs r).map (List.map (frz0 id ver sz rows)) = vs r := by
  simp [vs, frz0]
theorem mR_step {n v0 base sz i : Nat} {ver : Nat → Nat} {R : Nat → List (List IV)} (h : i < n) :
    ((mR n v0 base sz i ver R).set (i + 1) (.dead (ver i))).map (rowMap (frz0 (base + (i + 1)) (ver i) sz (R i))) = mR n v0 base sz (i + 1) ver R := by
  unfold mR
  rw [List.set_cons_succ, List.map_cons, fl_set, fl_map]
  congr 1
  · simp only [rowMap, fl_map, List.map_cons, List.map_nil]
    congr 1
    refine fl_congr (fun j hj => ?_)
    congr 1
    unfold mC
    by_cases h1 : j < i
    · rw [if_pos h1, if_pos (by omega)]; rfl
    · rw [if_neg h1]
      by_cases h2 : j = i
      · subst h2
        rw [if_pos (by omega)]
        simp [frz0]
      · rw [if_neg (by omega)]
        simp only [frz0]
        rw [if_neg (by omega)]
  · refine fl_congr (fun j hj => ?_)
    unfold fUp
    by_cases h2 : j = i
    · rw [if_pos h2, h2]; unfold mD; rw [if_pos (by omega)]; rfl
    · rw [if_neg h2]
      unfold mD
      by_cases h1 : j < i
      · rw [if_pos h1, if_pos (by omega)]; rfl
      · rw [if_neg h1, if_neg (by omega)]
        simp only [rowMap, vs_frz0]
theorem mR_at {n v0 base sz i : Nat} {ver : Nat → Nat} {R : Nat → List (List IV)} (h : i < n) : (mR n v0 base sz i ver R)[i + 1]? = some (.live (ver i) sz (vs (R i))) := by
  unfold mR
  rw [List.getElem?_cons_succ, fl_get h]
  unfold mD; rw [if_neg (by omega)]
theorem mR_all {n v0 base sz : Nat} {ver : Nat → Nat} {R : Nat → List (List IV)} : (mR n v0 base sz n ver R)[0]? = some (.live v0 1 (vs (mV n sz R))) := by
  unfold mR mV
  rw [List.getElem?_cons_zero, vs, fl_map]
  congr 2
  refine fl_congr (fun j hj => ?_)
  unfold mC; rw [if_pos hj]; rfl
theorem Weak.freezeR {e : List AV} {b l : List Row} {i ver sz : Nat} {rows : List (List IV)} (hi : l[i]? = some (.live ver sz (vs rows))) :
    Weak e b l (e.map (frz (b.length + i) ver sz rows)) b ((l.set i (.dead ver)).map (rowMap (frz0 (b.length + i) ver sz rows))) := by
  intro F L w a s hea
  obtain ⟨F', h1, h2, h3, h4⟩ := freeze_core hi F L w a s hea
  obtain ⟨s2, own⟩ := h1.mapRows h4 (fun x hx => frz0_cell x hx)
  refine ⟨F', L, s2, h2, ⟨h3.imm, h3.loc, h3.os, h3.tape, h3.output, h3.size, h3.block, fun k hk ho => h3.own k hk (own k ho), fun id hid v hv => ?_, h3.fnew⟩, rfl⟩
  have := h3.base id hid v hv
  rw [List.getElem?_append_left hid] at this ⊢
  exact this
theorem Weak.mfrz {e : List AV} {b : List Row} {n v0 sz : Nat} {ver : Nat → Nat} {R : Nat → List (List IV)} (he : ∀ i, i < n → e.map (frz (b.length + (i + 1)) (ver i) sz (R i)) = e) : ∀ i, i ≤ n → Weak e b (mR n v0 b.length sz 0 ver R) e b (mR n v0 b.length sz i ver R)
  | 0, _ => Weak.refl _ _ _
  | i + 1, hi => by
    refine (Weak.mfrz he i (by omega)).trans ?_
    have := Weak.freezeR (e := e) (b := b) (i := i + 1) (rows := R i) (mR_at (v0 := v0) (base := b.length) (sz := sz) (ver := ver) (R := R) (show i < n by omega))
    rwa [he i (by omega), mR_step (by omega)] at this
theorem ACalls.mfrz {P : Program} {f : Nat} {args : List AV} {b : List Row} {n v0 sz : Nat} {ver : Nat → Nat} {R : Nat → List (List IV)} {Q : AV → List Row → List Row → Prop} (he : ∀ i, i < n → args.map (deep (frz0 (b.length + (i + 1)) (ver i) sz (R i)) 1) = args) :
    ∀ i, i ≤ n → ACalls P f args b (mR n v0 b.length sz i ver R) Q → ACalls P f args b (mR n v0 b.length sz 0 ver R) Q
  | 0, _, h => h
  | i + 1, hi, h => by
    refine ACalls.mfrz he i (by omega) ?_
    refine E1.ACalls.freezeDeep 1 (i := i + 1) (rows := R i) (mR_at (by omega)) ?_
    rw [he i (by omega), mR_step (by omega)]
    exact h
/-- Handed on to a call as a value. -/
theorem ACalls.mat {P : Program} {f : Nat} {args args' : List AV} {b : List Row} {n v0 sz : Nat} {ver : Nat → Nat} {R : Nat → List (List IV)} {Q : AV → List Row → List Row → Prop} (he : ∀ i, i < n → args.map (deep (frz0 (b.length + (i + 1)) (ver i) sz (R i)) 1) = args)
    (ha : args.map (deep (frz0 b.length v0 1 (mV n sz R)) 1) = args') (h : ∀ l, ACalls P f args' b l Q) : ACalls P f args b (mR n v0 b.length sz 0 ver R) Q := by
  refine ACalls.mfrz he n (Nat.le_refl _) ?_
  refine E1.ACalls.freezeDeep 1 (i := 0) (rows := mV n sz R) mR_all ?_
  rw [Nat.add_zero, ha]
  exact h _
theorem leave_mat2 {rs : List ARes} {Q : AV → List Row → List Row → Prop} {B e l : List _} {ex : AExit} (hex : ex = .normal ∨ ex = .ret) {n v0 sz : Nat} {ver : Nat → Nat} {R : Nat → List (List IV)} {z : IV} {junk : List Row} (hx : resVs e B l rs = some [.sl B.length v0 0 n, .v z]) (hl : l = mR n v0 B.length sz 0 ver R ++ junk)
    (hR : RowsLt B.length B) {b0 l0 : List Row} (hB : B = b0 ++ l0) (hq : Q (.tup [.v (.isl 1 (mV n sz R)), .v z]) b0 l0) : Leaves rs Q b0.length ex e B l := by
  have hlm : (mR n v0 B.length sz 0 ver R).length = n + 1 := by simp [mR, fl_len]
  refine leave hex hx (y := .tup [.v (.isl 1 (mV n sz R)), .v z]) (l' := []) ?_ hB (by simpa using hq)
  refine (Weak.trim (l1 := mR n v0 B.length sz 0 ver R) hl ?_ (hR.mono (by omega)) ?_).trans ?_
  · intro x hx
    simp only [one, List.mem_singleton] at hx
    subst hx
    refine .tup _ (fun c hc => ?_)
    simp only [List.mem_cons, List.not_mem_nil, or_false] at hc
    rcases hc with rfl | rfl
    · exact .sl _ _ _ _ (by omega)
    · exact .v _
  · intro id ver' sz' els hr row hrow c hc
    unfold mR at hr
    cases id with
    | zero =>
      rw [List.getElem?_cons_zero] at hr
      cases hr
      obtain ⟨j, hj, rfl⟩ := List.mem_map.1 hrow
      simp only [List.mem_singleton] at hc
      subst hc
      have := List.mem_range.1 hj
      unfold mC
      rw [if_neg (by omega)]
      exact .sl _ _ _ _ (by omega)
    | succ id =>
      rw [List.getElem?_cons_succ] at hr
      by_cases hid : id < n
      · rw [fl_get hid] at hr
        unfold mD at hr
        rw [if_neg (by omega)] at hr
        cases hr
        obtain ⟨r0, _, rfl⟩ := List.mem_map.1 hrow
        obtain ⟨x0, _, rfl⟩ := List.mem_map.1 hc
        exact .v _
      · rw [fl_none (by omega)] at hr; cases hr
  refine (Weak.mfrz (fun i hi => ?_) n (Nat.le_refl _)).trans ?_
  · simp only [one, List.map_cons, List.map_nil, frz, frz0]
    rw [if_neg (by omega)]
  have h1 := Weak.freezeR (e := [one [AV.sl B.length v0 0 n, .v z]]) (b := B) (i := 0) (rows := mV n sz R) (mR_all (n := n) (v0 := v0) (base := B.length) (sz := sz) (ver := ver) (R := R))
  refine h1.trans ?_
  have h2 : List.map (frz (B.length + 0) v0 1 (mV n sz R)) [one [AV.sl B.length v0 0 n, .v z]] = [.tup [.v (.isl 1 (mV n sz R)), .v z]] := by
    simp [one, frz, frz0, mV, fl_len]
    unfold fl
    rw [List.take_of_length_le (by simp)]
  rw [h2]
  exact Weak.trim (l1 := []) rfl (by
    intro x hx
    simp only [List.mem_singleton] at hx
    subst hx
    refine .tup _ (fun c hc => ?_)
    simp only [List.mem_cons, List.not_mem_nil, or_false] at hc
    rcases hc with rfl | rfl <;> exact .v _) (by simpa using hR) RowsLt_nil
end Go.Proofs.Ytiiflkcebikecaa

/- Lists of lists of numbers, as values. No condition. -/
namespace Go.Proofs.Ytiiflkcebikecaa
set_option linter.unusedVariables false
def eRw (r : List Int) : List IV := [.isl 1 (r.map eI)]
theorem tr_mat : TR Try.prog 29 1 (fun m : List (List Int) => [.isl 1 (m.map eRw)]) (fun m => m.length ≤ maxLen ∧ ∀ r ∈ m, r.length ≤ maxLen ∧ ∀ n ∈ r, (Lit.int .i64 n).wf = true) := tr_slice tr_ints Try.underlying29 (by kernel_rfl) (by decide)
theorem fl_next {α : Type} {n : Nat} {f : Nat → α} {x : α} (h : f n = x) : fl n f ++ [x] = fl (n + 1) f := by
  rw [fl_snoc]
  refine fl_congr (fun j hj => ?_)
  unfold fUp
  by_cases hj2 : j = n
  · rw [if_pos hj2, hj2, h]
  · rw [if_neg hj2]
end Go.Proofs.Ytiiflkcebikecaa

/- What happened before, in a valid trace: counts of events, and a rank. No condition. -/
namespace Go.Proofs.Ytiiflkcebikecaa
set_option linter.unusedVariables false

structure Vok (t : Tr) : Prop where
  lo : 1 ≤ t.length
  hi : t.length ≤ 8
  head : ∀ p, p < t.length → headF t p = 0
  form : ∀ x ∈ ids t, formF t x = 0
  pair : ∀ x ∈ ids t, pairF t x = 0
  acyc : ∀ x ∈ ids t, ¬ Hb t x x
theorem vok {t : Tr} (h : validL t = true) : Vok t := by
  unfold validL faultL at h
  split at h
  · simp at h
  rename_i hl
  split at h
  · rename_i p hp
    have := List.find?_some hp
    simp at h this; exact absurd h this
  rename_i h1
  split at h
  · rename_i p hp
    have := List.find?_some hp
    simp at h this; exact absurd h this
  rename_i h2
  split at h
  · rename_i p hp
    have := List.find?_some hp
    simp at h this; exact absurd h this
  rename_i h3
  split at h
  · simp at h
  rename_i h4
  rw [List.find?_eq_none] at h1 h2 h3 h4
  refine ⟨by omega, by omega, fun p hp => ?_, fun x hx => ?_, fun x hx => ?_, fun x hx => ?_⟩
  · simpa using h1 p (List.mem_range.2 hp)
  · simpa using h2 x hx
  · simpa using h3 x hx
  · simpa using h4 x hx
theorem Vok.paired {t : Tr} (h : Vok t) : Paired t := ⟨fun x hx => formF_formed (h.form x hx), h.pair⟩
theorem evsOf_lt {t : Tr} {p : Nat} (h : p < t.length) : evsOf t p = t[p].evs := by unfold evsOf; simp [List.getD, h]
theorem mem_ids2 {t : Tr} {p i : Nat} : (p, i + 1) ∈ ids t ↔ p < t.length ∧ i < (evsOf t p).length := by
  rw [mem_ids]
  constructor
  · rintro ⟨hp, _, h⟩
    have h : i + 1 ≤ t[p].evs.length := h
    exact ⟨hp, by rw [evsOf_lt hp]; omega⟩
  · rintro ⟨hp, h⟩; rw [evsOf_lt hp] at h; exact ⟨hp, by simp, (show i + 1 ≤ t[p].evs.length by omega)⟩

theorem Hb.trans {t : Tr} {x y z : Nat × Nat} (h : Hb t x y) (k : Hb t y z) : Hb t x z := by
  induction k with
  | one h2 => exact .more h h2
  | more _ h2 ih => exact .more ih h2
def Le (t : Tr) (x y : Nat × Nat) : Prop := x = y ∨ Hb t x y
theorem Le.refl {t : Tr} (x : Nat × Nat) : Le t x x := .inl rfl
theorem Le.hb {t : Tr} {x y z : Nat × Nat} (h : Le t x y) (k : Hb t y z) : Hb t x z := by
  rcases h with rfl | h
  · exact k
  · exact h.trans k
theorem Le.trans {t : Tr} {x y z : Nat × Nat} (h : Le t x y) (k : Le t y z) : Le t x z := by
  rcases k with rfl | k
  · exact h
  · exact .inr (h.hb k)
theorem hb_row {t : Tr} {p i : Nat} : ∀ {j : Nat}, i < j → j ≤ (evsOf t p).length → Hb t (p, i) (p, j)
  | 0, h, _ => by omega
  | j + 1, h, hl => by
    have d : Dir t (p, j) (p, j + 1) := .inl ⟨rfl, hl⟩
    by_cases hj : i = j
    · subst hj; exact .one d
    · exact .more (hb_row (show i < j by omega) (by omega)) d
theorem le_row {t : Tr} {p i j : Nat} (h : i ≤ j) (hl : j ≤ (evsOf t p).length) : Le t (p, i) (p, j) := by
  by_cases hj : i = j
  · exact .inl (by rw [hj])
  · exact .inr (hb_row (by omega) hl)

/-! Counts. -/
noncomputable def leB (t : Tr) (x y : Nat × Nat) : Bool := @decide (Le t x y) (Classical.propDecidable _)
theorem leB_iff {t : Tr} {x y : Nat × Nat} : leB t x y = true ↔ Le t x y := by unfold leB; exact @decide_eq_true_iff _ (Classical.propDecidable _)
/-- How many events of a process happened before an event, itself included. -/
noncomputable def vc (t : Tr) (x : Nat × Nat) (q : Nat) : Nat := (List.range (evsOf t q).length).countP fun i => leB t (q, i + 1) x
theorem count_down {P : Nat → Bool} : ∀ {n : Nat}, (∀ i j, i < n → j ≤ i → P i = true → P j = true) → ∀ i, i < n → (P i = true ↔ i < (List.range n).countP P)
  | 0, _, i, hi => by omega
  | n + 1, h, i, hi => by
    have ih := count_down (P := P) (n := n) (fun i j hi hj hp => h i j (by omega) hj hp)
    have hle := List.countP_le_length (p := P) (l := List.range n)
    rw [List.length_range] at hle
    rw [List.range_succ, List.countP_append, List.countP_singleton]
    by_cases hn : P n = true
    · have all : ∀ j, j < n → P j = true := fun j hj => h n j (by omega) (by omega) hn
      have hc : (List.range n).countP P = n := by
        rcases Nat.lt_or_ge ((List.range n).countP P) n with hlt | hge
        · have := (ih _ hlt).1 (all _ hlt); omega
        · omega
      rw [if_pos hn, hc]
      constructor
      · intro _; omega
      · intro _
        rcases Nat.lt_or_ge i n with hlt | hge
        · exact all i hlt
        · have : i = n := by omega
          subst this; exact hn
    · rw [if_neg hn]
      rcases Nat.lt_or_ge i n with hlt | hge
      · exact ih i hlt
      · have : i = n := by omega
        subst this
        constructor
        · intro hp; exact absurd hp hn
        · intro hp; omega
theorem vc_iff {t : Tr} {x : Nat × Nat} {q i : Nat} (h : i < (evsOf t q).length) : Le t (q, i + 1) x ↔ i < vc t x q := by
  have := count_down (P := fun i => leB t (q, i + 1) x) (n := (evsOf t q).length) (fun i j hi hj hp => by
    rw [leB_iff] at hp ⊢
    exact (le_row (by omega) (by omega)).trans hp) i h
  rw [← leB_iff]
  exact this
theorem vc_le {t : Tr} {x : Nat × Nat} {q : Nat} : vc t x q ≤ (evsOf t q).length := by
  have := List.countP_le_length (p := fun i => leB t (q, i + 1) x) (l := List.range (evsOf t q).length)
  rwa [List.length_range] at this
theorem thresh {a b n : Nat} (ha : a ≤ n) (hb : b ≤ n) (h : ∀ j, j < n → (j < a ↔ j < b)) : a = b := by
  rcases Nat.lt_trichotomy a b with hl | hl | hl
  · have := (h a (by omega)).2 hl; omega
  · exact hl
  · have := (h b (by omega)).1 hl; omega
/-- What comes at or before an event: itself, and what comes at or before those directly before it. -/
theorem le_back {t : Tr} (hv : Vok t) {x w : Nat × Nat} (hx : x ∈ ids t) (hw : w ∈ ids t) : Le t w x ↔ w = x ∨ ∃ y ∈ backL t x, Le t w y := by
  constructor
  · rintro (h | h)
    · exact .inl h
    · obtain ⟨y, h1, h2⟩ := h.back
      refine .inr ⟨y, ?_, ?_⟩
      · refine (mem_backL hv.paired hx).2 ⟨?_, h1⟩
        rcases h2 with rfl | h2
        · exact hw
        · exact h2.mem hw
      · rcases h2 with rfl | h2
        · exact .inl rfl
        · exact .inr h2
  · rintro (h | ⟨y, h1, h2⟩)
    · exact .inl h
    · exact .inr (h2.hb (.one ((mem_backL hv.paired hx).1 h1).2))
theorem back_mem {t : Tr} (hv : Vok t) {x y : Nat × Nat} (hx : x ∈ ids t) (hy : y ∈ backL t x) : y ∈ ids t ∧ Hb t y x := by
  obtain ⟨h1, h2⟩ := (mem_backL hv.paired hx).1 hy
  exact ⟨h1, .one h2⟩
/-- The sender of what an event receives. -/
noncomputable def sndr (t : Tr) (x : Nat × Nat) : Nat × Nat := findV t 2 (evAt t x).msg
theorem sndr_back {t : Tr} {x : Nat × Nat} (hk : (evAt t x).kind = 3) : sndr t x ∈ backL t x := by
  unfold backL sndr; rw [hk]; simp
theorem prev_back {t : Tr} {p i : Nat} : (p, i + 1) ∈ backL t (p, i + 2) := by unfold backL; simp
theorem backL_cases {t : Tr} {x y : Nat × Nat} (h : y ∈ backL t x) : (1 < x.2 ∧ y = (x.1, x.2 - 1)) ∨ ((evAt t x).kind = 3 ∧ y = sndr t x) := by
  unfold backL at h
  rw [List.mem_append] at h
  rcases h with h | h
  · split at h
    · rename_i h1; exact .inl ⟨h1, by simpa using h⟩
    · simp at h
  · split at h
    · rename_i h1; exact .inr ⟨by simpa using h1, by simpa [sndr] using h⟩
    · simp at h
/-- The counts of what was before: of the process's own last event, and of the sender. -/
noncomputable def vPrev (t : Tr) (p i q : Nat) : Nat := if i = 0 then 0 else vc t (p, i) q
noncomputable def vRecv (t : Tr) (x : Nat × Nat) (q : Nat) : Nat := if (evAt t x).kind = 3 then vc t (sndr t x) q else 0
theorem vc_own {t : Tr} (hv : Vok t) {p i : Nat} (hx : (p, i + 1) ∈ ids t) : vc t (p, i + 1) p = i + 1 := by
  obtain ⟨hp, hi⟩ := mem_ids2.1 hx
  refine thresh (n := (evsOf t p).length) vc_le hi (fun j hj => ?_)
  rw [← vc_iff hj]
  constructor
  · intro h
    refine Classical.byContradiction fun hn => hv.acyc _ hx ?_
    exact (hb_row (show i + 1 < j + 1 by omega) hj).trans (h.resolve_left (fun e => by cases e; omega))
  · intro h
    exact le_row (by omega) (by omega)
theorem vc_step {t : Tr} (hv : Vok t) {p i : Nat} (hx : (p, i + 1) ∈ ids t) {q : Nat} (hq : q < t.length) : vc t (p, i + 1) q = max (vPrev t p i q) (vRecv t (p, i + 1) q) + if q = p then 1 else 0 := by
  obtain ⟨hp, hi⟩ := mem_ids2.1 hx
  have hPl : vPrev t p i q ≤ (evsOf t q).length := by unfold vPrev; split; omega; exact vc_le
  have hRl : vRecv t (p, i + 1) q ≤ (evsOf t q).length := by unfold vRecv; split; exact vc_le; omega
  have lP : ∀ j, j < (evsOf t q).length → (j < vPrev t p i q ↔ i ≠ 0 ∧ Le t (q, j + 1) (p, i)) := by
    intro j hj
    unfold vPrev
    by_cases h0 : i = 0
    · rw [if_pos h0]; constructor
      · intro h; omega
      · intro h; exact absurd h0 h.1
    · rw [if_neg h0, ← vc_iff hj]; exact ⟨fun h => ⟨h0, h⟩, fun h => h.2⟩
  have lR : ∀ j, j < (evsOf t q).length → (j < vRecv t (p, i + 1) q ↔ (evAt t (p, i + 1)).kind = 3 ∧ Le t (q, j + 1) (sndr t (p, i + 1))) := by
    intro j hj
    unfold vRecv
    by_cases h0 : (evAt t (p, i + 1)).kind = 3
    · rw [if_pos h0, ← vc_iff hj]; exact ⟨fun h => ⟨h0, h⟩, fun h => h.2⟩
    · rw [if_neg h0]; constructor
      · intro h; omega
      · intro h; exact absurd h.1 h0
  by_cases hqp : q = p
  · subst hqp
    rw [if_pos rfl, vc_own hv hx]
    have h1 : vPrev t q i q = i := by
      unfold vPrev
      by_cases h0 : i = 0
      · rw [if_pos h0]; exact h0.symm
      · rw [if_neg h0]
        obtain ⟨i', rfl⟩ : ∃ i', i = i' + 1 := ⟨i - 1, by omega⟩
        exact vc_own hv (mem_ids2.2 ⟨hp, by omega⟩)
    have h2 : vRecv t (q, i + 1) q ≤ i := by
      refine Classical.byContradiction fun hn => ?_
      obtain ⟨hk, hl⟩ := (lR i hi).1 (by omega)
      exact hv.acyc _ hx (hl.hb (back_mem hv hx (sndr_back hk)).2)
    omega
  · rw [if_neg hqp]
    refine thresh (n := (evsOf t q).length) vc_le (by omega) (fun j hj => ?_)
    rw [← vc_iff hj, le_back hv hx (mem_ids2.2 ⟨hq, hj⟩)]
    have hm : j < max (vPrev t p i q) (vRecv t (p, i + 1) q) ↔ j < vPrev t p i q ∨ j < vRecv t (p, i + 1) q := by omega
    show _ ↔ j < max (vPrev t p i q) (vRecv t (p, i + 1) q)
    rw [hm, lP j hj, lR j hj]
    constructor
    · rintro (h | ⟨y, h1, h2⟩)
      · cases h; exact absurd rfl hqp
      · rcases backL_cases h1 with ⟨h3, rfl⟩ | ⟨h3, rfl⟩
        · simp only [Nat.add_sub_cancel] at h2 h3
          exact .inl ⟨by omega, h2⟩
        · exact .inr ⟨h3, h2⟩
    · rintro (⟨h1, h2⟩ | ⟨h1, h2⟩)
      · obtain ⟨i', rfl⟩ : ∃ i', i = i' + 1 := ⟨i - 1, by omega⟩
        exact .inr ⟨_, prev_back, h2⟩
      · exact .inr ⟨_, sndr_back h1, h2⟩

/-! A rank. -/
noncomputable def rk (t : Tr) (x : Nat × Nat) : Nat := (ids t).countP fun z => leB t z x
theorem countP_lt {α : Type} {P Q : α → Bool} : ∀ {l : List α} {a : α}, (∀ x ∈ l, P x = true → Q x = true) → a ∈ l → P a = false → Q a = true → l.countP P < l.countP Q
  | [], a, _, h, _, _ => by simp at h
  | y :: l, a, h, ha, h1, h2 => by
    have hle : l.countP P ≤ l.countP Q := List.countP_mono_left (fun x hx hp => h x (by simp [hx]) hp)
    rw [List.countP_cons, List.countP_cons]
    rcases List.mem_cons.1 ha with rfl | ha
    · rw [h1, h2]; simp; omega
    · have ih := countP_lt (fun x hx => h x (by simp [hx])) ha h1 h2
      have hy := h y (by simp)
      cases hP : P y
      · simp; omega
      · rw [hy hP]; simp; omega
theorem rk_lt {t : Tr} (hv : Vok t) {x y : Nat × Nat} (hy : y ∈ ids t) (h : Hb t x y) : rk t x < rk t y := by
  unfold rk
  refine countP_lt (a := y) (fun z _ hz => ?_) hy ?_ (leB_iff.2 (.refl y))
  · rw [leB_iff] at hz ⊢; exact .inr (hz.hb h)
  · rw [Bool.eq_false_iff]
    intro hz
    exact hv.acyc y hy ((leB_iff.1 hz).hb h)
/-- Where some process has events left, one of the next events waits for nothing. -/
theorem some_ready {t : Tr} (hv : Vok t) (D : Nat → Nat) (hD : ∀ p, p < t.length → D p ≤ (evsOf t p).length) (hl : ∃ p, p < t.length ∧ D p < (evsOf t p).length) :
    ∃ p, p < t.length ∧ D p < (evsOf t p).length ∧ ((evAt t (p, D p + 1)).kind = 3 → (sndr t (p, D p + 1)).2 ≤ D (sndr t (p, D p + 1)).1) := by
  obtain ⟨p0, h1, h2⟩ := hl
  have key : ∀ n p, rk t (p, D p + 1) = n → p < t.length → D p < (evsOf t p).length → ∃ p, p < t.length ∧ D p < (evsOf t p).length ∧ ((evAt t (p, D p + 1)).kind = 3 → (sndr t (p, D p + 1)).2 ≤ D (sndr t (p, D p + 1)).1) := by
    intro n
    induction n using Nat.strongRecOn with
    | ind n ih =>
      intro p hn hp hd
      by_cases hr : (evAt t (p, D p + 1)).kind = 3 → (sndr t (p, D p + 1)).2 ≤ D (sndr t (p, D p + 1)).1
      · exact ⟨p, hp, hd, hr⟩
      · have hk : (evAt t (p, D p + 1)).kind = 3 := Classical.byContradiction fun h => hr (fun h2 => absurd h2 h)
        have hs : ¬ (sndr t (p, D p + 1)).2 ≤ D (sndr t (p, D p + 1)).1 := fun h => hr (fun _ => h)
        have hx : (p, D p + 1) ∈ ids t := mem_ids2.2 ⟨hp, hd⟩
        obtain ⟨hm, hb⟩ := back_mem hv hx (sndr_back hk)
        generalize sndr t (p, D p + 1) = s at *
        obtain ⟨q, j⟩ := s
        obtain ⟨j, rfl⟩ : ∃ j', j = j' + 1 := by
          obtain ⟨_, h3, _⟩ := mem_ids.1 hm
          exact ⟨j - 1, by simp only at h3; omega⟩
        obtain ⟨hq, hj⟩ := mem_ids2.1 hm
        simp only at hs
        have hle : Le t (q, D q + 1) (q, j + 1) := le_row (by omega) (by omega)
        exact ih _ (by rw [← hn]; exact rk_lt hv hx (hle.hb hb)) q rfl hq (by omega)
  exact key _ p0 rfl h1 h2
end Go.Proofs.Ytiiflkcebikecaa

/- The contract of the reference's Past in the words of runs. No condition but on lengths. -/
namespace Go.Proofs.Ytiiflkcebikecaa
set_option linter.unusedVariables false

/-- A contract whose result may lie in new memory. -/
theorem ACalls.of_newA {P : Program} {f : Nat} {args : List AV} {b l : List Row} {Q : AV → List Row → List Row → Prop} (hf : ∃ fn, P.funcs[f]? = some fn ∧ (fn.name == "runtime.NumGoroutine") = false ∧ fn.body.isSome = true)
    (h : ∀ F L w (vs : Array Value), (∀ b, F b → b < w.heap.size) → RepL w F L args vs.toList → Calls P f vs w fun en w' => Ext w w' ∧ ∃ v x F', en = .returned v ∧ (∀ b, F b → F' b) ∧ (∀ b, b < w.heap.size → F' b → F b) ∧ (∀ b, F' b → b < w'.heap.size) ∧ RepA w' F' (fun _ _ => none) x v ∧ Q x b l) : ACalls P f args b l Q := by
  refine ⟨hf, fun F L w vs s hr => Calls.mono (h F L w vs (fun b hb => (s.imm b hb).1) hr) ?_⟩
  rintro en w' ⟨he, v, x, F', h1, h2, h3, h4, h5, h6⟩
  have hblk : ∀ k, k < w.heap.size → w'.heap[k]? = w.heap[k]? := he.block
  have hown : ∀ k, Owned L (b ++ l) k → k < w.heap.size := by
    rintro k ⟨id, ver, sz, els, q0, k1, k2, k3⟩
    obtain ⟨q, q1, q2⟩ := s.row id ver sz els k1
    rw [k2] at q1; cases q1
    exact q2.lt k3
  refine ⟨v, x, b, l, F', L, h1, h5.mono (fun _ h => h) (fun _ _ => rfl) (fun _ _ _ h => by cases h), ⟨fun i v z els hi => ?_, s.born, s.apart, fun k hk => ⟨h4 k hk, fun ho => (s.imm k (h3 k (hown k ho) hk)).2 ho⟩⟩,
    ⟨h2, fun _ _ _ _ h => h, he.os, he.tape, he.output, he.size, fun k hk _ => hblk k hk, fun _ _ h => h, fun _ _ _ h => h, fun k hk hf => .inl (h3 k hk hf)⟩, rfl, h6⟩
  obtain ⟨q, g1, g2⟩ := s.row i v z els hi
  exact ⟨q, g1, g2.mono (fun k hk => hblk k (g2.lt hk)) (fun _ _ hx => hx.mono h2 (fun k hk => hblk k (s.imm k hk).1) (fun _ _ _ h => h))⟩

/-- The table of the past of an event. -/
def tabRow (S : List (Nat × Nat)) (p n : Nat) : List (List IV) := fl n fun i => [.bool (decide ((p, i) ∈ S))]
def tabV (t : Tr) (S : List (Nat × Nat)) : IV := .isl 1 (fl t.length fun p => [.isl 1 (tabRow S p ((evsOf t p).length + 1))])
theorem past_spec (t : Tr) (hv : Vok t) (hS : Small t) (hN : Nm t) (x : Nat × Nat) (hx : x ∈ ids t) (hC : (ids t).length ≤ 1000000) (b l : List Row) :
    ACalls Try.prog 113 [.agg [.v (eT t)], idA x] b l (fun r b' l' => ∃ S, (∀ y ∈ ids t, y ∈ S ↔ Hb t y x) ∧ r = .v (tabV t S) ∧ b' = b ∧ l' = l) := by
  refine ACalls.of_newA ⟨_, Try.func113, by kernel_rfl, by kernel_rfl⟩ (fun F L w vs hF hr => ?_)
  obtain ⟨u, us, rfl, hs, h3⟩ := repL_tr hN hr
  obtain ⟨v2, us2, rfl, h4, h5⟩ := repL_cons h3
  obtain rfl := repL_nil h5
  obtain ⟨p, i⟩ := x
  have hv2 : v2 = idVal (p, i) := by
    obtain ⟨ws, rfl, hl⟩ := h4.aggL
    obtain ⟨a1, as1, e1, g1, k1⟩ := repL_cons hl
    obtain ⟨a2, as2, e2, g2, k2⟩ := repL_cons k1
    obtain rfl := repL_nil k2
    have r1 := repN g1
    have r2 := repN g2
    subst r1; subst r2; subst e2
    unfold idVal
    congr 1
    exact Array.toList_inj.1 e1
  subst hv2
  refine (Past_any u t p i w hx hv.paired hC hS hs).mono ?_
  rintro e w' ⟨v, gs, S, rfl, hg, hgl, hS2, he⟩
  refine ⟨he, v, .v (tabV t S), fun k => F k ∨ (w.heap.size ≤ k ∧ k < w'.heap.size), rfl, fun _ h => .inl h, fun k hk h => h.resolve_right (by omega), fun k h => h.elim (fun h => Nat.lt_of_lt_of_le (hF k h) he.size) (fun h => h.2), .v _ _ ?_, S, hS2, rfl, rfl, rfl⟩
  obtain ⟨o1, o2⟩ := hg.out
  have hlen : gs.length = t.length := hgl.1
  have hrow : ∀ q (hq : q < gs.length), RepI w' (fun k => F k ∨ (w.heap.size ≤ k ∧ k < w'.heap.size)) (.isl 1 (tabRow S q ((evsOf t q).length + 1))) (rowV gs[q]) := by
    intro q hq
    obtain ⟨b1, b2⟩ := hg.row q hq
    have hqt : q < t.length := by omega
    have hn : gs[q].2 = (evsOf t q).length + 1 := by rw [hgl.2 q hq hqt, evsOf_lt hqt]
    unfold rowV
    rw [hn] at b1 ⊢
    have := RepI.isl (w := w') (F := fun k => F k ∨ (w.heap.size ≤ k ∧ k < w'.heap.size)) (tabRow S q ((evsOf t q).length + 1)) gs[q].1 0 1 ((evsOf t q).length + 1) (fun k j => .bool (decide ((q, k) ∈ S))) (.inr ⟨b2, b1.lt⟩) (by simp [tabRow, fl_len])
      (by have := hS.ne _ (List.getElem_mem hqt); rw [evsOf_lt hqt]; have h9 : maxLen = 9223372036854775807 := by decide
          omega)
      (fun k row hk => by
        unfold tabRow at hk
        by_cases hkn : k < (evsOf t q).length + 1
        · rw [fl_get hkn] at hk; cases hk; rfl
        · rw [fl_none (by omega)] at hk; cases hk)
      (fun k row j a hk hj => by
        unfold tabRow at hk
        by_cases hkn : k < (evsOf t q).length + 1
        · rw [fl_get hkn] at hk; cases hk
          cases j with
          | zero => simp only [Nat.mul_one, Nat.add_zero, Nat.zero_add]; exact b1.cell (rowM_get hkn)
          | succ j => simp at hj
        · rw [fl_none (by omega)] at hk; cases hk)
      (fun k row j a hk hj => by
        unfold tabRow at hk
        by_cases hkn : k < (evsOf t q).length + 1
        · rw [fl_get hkn] at hk; cases hk
          cases j with
          | zero => simp at hj; subst hj; exact .bool _
          | succ j => simp at hj
        · rw [fl_none (by omega)] at hk; cases hk)
    rw [show (tabRow S q ((evsOf t q).length + 1)).length = (evsOf t q).length + 1 by simp [tabRow, fl_len]] at this
    exact this
  unfold tabV
  rcases o2 with ⟨rfl, h0⟩ | ⟨g, off, cap, cur, rfl, hBg, hbx, hcap, hmx, hsz, hcell⟩
  · rw [show t.length = 0 by omega]
    exact .isl0 _ _ _ (Nat.zero_le _)
  · have hgv : ∀ q (hq : q < gs.length), cur[off + q]? = some (rowV gs[q]) := fun q hq => hcell q _ (by rw [List.getElem?_map, List.getElem?_eq_getElem hq]; rfl)
    have := RepI.isl (w := w') (F := fun k => F k ∨ (w.heap.size ≤ k ∧ k < w'.heap.size)) (fl t.length fun p => [.isl 1 (tabRow S p ((evsOf t p).length + 1))]) g off 1 cap (fun k j => if h : k < gs.length then rowV gs[k] else undef) (.inr ⟨hBg, hbx.lt⟩) (by rw [fl_len]; omega) hmx
      (fun k row hk => by
        by_cases hkn : k < t.length
        · rw [fl_get hkn] at hk; cases hk; rfl
        · rw [fl_none (by omega)] at hk; cases hk)
      (fun k row j a hk hj => by
        by_cases hkn : k < t.length
        · rw [fl_get hkn] at hk; cases hk
          cases j with
          | zero =>
            simp only [Nat.mul_one, Nat.add_zero]
            rw [dif_pos (show k < gs.length by omega)]
            exact hbx.cell (hgv k (by omega))
          | succ j => simp at hj
        · rw [fl_none (by omega)] at hk; cases hk)
      (fun k row j a hk hj => by
        by_cases hkn : k < t.length
        · rw [fl_get hkn] at hk; cases hk
          cases j with
          | zero =>
            simp at hj; subst hj
            rw [dif_pos (show k < gs.length by omega)]
            exact hrow k (by omega)
          | succ j => simp at hj
        · rw [fl_none (by omega)] at hk; cases hk)
    rw [fl_len, ← hlen] at this
    rw [← hlen]
    exact this
end Go.Proofs.Ytiiflkcebikecaa

/- Chapter 15: the reference's stamps, as runs. No condition but on lengths. -/
namespace Go.Proofs.Ytiiflkcebikecaa
set_option linter.unusedVariables false
set_option linter.unusedSimpArgs false
attribute [local go_sem ↓] run_skip run_region run_draw run_seq run_block run_exit run_ret run_cond atN_app seqC_normal seqC_exit seqC_ret seqQ_normal seqQ_exit seqQ_ret blkQ_normal blkQ_exit blkQ_ret runOps_nil runOps_cons runD_nil runD_cons grdO_true grdO_false grdD_true grdD_false ifC_true ifC_false opS_val opS_call opS_two opK_app dS_val dS_call dS_two dK_app kUp_same kUp_ne
attribute [local go_sem] rechks_nil rechks_cons rechk gcase_true gcase_false ex_val ex_val0 gd_none gd_some ev_t ev_c evs_nil evs_cons evo_some evo_none hget_at hget_first hsetB_at hsetB_first hsetL_at hsetL_first ofOpt_some aop aload astore aslice aappend aiaddr aiaddrA afaddr alen alenS acopy amm acall alookup amupdate alenM comma keyEq apick binV binVB binVS isSh intOp strOp boolOp shOp eqC eqF and2 cellsOf setFrom fillA fillS rd rdI elems mk bounds AV.cell List.all_cons List.all_nil Bool.and_true Bool.true_and Bool.and_self List.length_cons List.length_nil List.length_append Nat.reduceAdd Nat.reduceSub Nat.reduceMul Nat.zero_add Nat.add_zero List.cons_append List.nil_append List.append_assoc List.append_nil List.getElem?_cons_zero List.getElem?_cons_succ List.getElem?_nil List.set_cons_zero List.set_cons_succ List.drop_zero List.drop_succ_cons List.take_zero List.take_succ_cons List.take_nil List.drop_nil List.map_cons List.map_nil Option.map_some if_true if_false Bool.false_eq_true and_self true_and and_true Nat.reduceLeDiff Nat.reduceLT Nat.le_refl Nat.reduceEqDiff ite_true ite_false beq_self_eq_true beq_true beq_false Bool.not_true Bool.not_false Bool.true_beq Bool.false_beq map_vs vs_len vs_get vs_take vs_drop vs_snoc1 vs_snoc2 vs_snoc3 vs_snoc5 vs_set1 vs_set2 vs_rep wrap_id le_T lt_T le_F lt_F leI_T ltI_T leI_F ltI_F geI gtI get_T decide_true decide_false room List.getElem?_map List.length_map List.length_take Int.toNat_natCast Nat.min_def Nat.min_self nth_kOf put_kOf put_kNo kOv_cons kOv_nil KHas KArgs List.getElem_cons_zero List.getElem_cons_succ
def a_rStamp : AFunc := ⟨2, 55, [.tmp 4],
  (.seq (.region [⟨(some 2), .box (.t 0), none⟩, ⟨(some 3), .box (.t 1), none⟩, ⟨(some 4), .mv (.c (.v .zsl)), none⟩])
  (.seq (.region [⟨(some 10), .load (some 1) (.t 2), none⟩, ⟨(some 11), .load (some 2) (.t 3), none⟩, ⟨(some 12), .call (.c (.fn 113 [])) [(.t 10), (.t 11)], none⟩, ⟨(some 5), .mv (.t 12), none⟩])
  (.seq (.region [⟨(some 6), .mv (.c (.v .zsl)), none⟩])
  (.seq (.seq (.region [⟨(some 7), .mv (.c (.v (.int .i64 0))), none⟩])
  (.block 0 (.loop (.seq (.seq (.region [⟨(some 13), .mv (.t 7), none⟩, ⟨(some 14), .faddr 0 (.t 2), none⟩, ⟨(some 15), .load none (.t 14), none⟩, ⟨(some 16), .len (.t 15), none⟩, ⟨(some 17), .bin .lss (.t 13) (.t 16), none⟩])
  (.cond (.t 17) .skip
  (.exit 0)))
  (.seq (.block 1 (.seq (.region [⟨(some 8), .mv (.c (.v (.int .i64 0))), none⟩])
  (.seq (.seq (.region [⟨(some 9), .mv (.c (.v (.int .i64 1))), none⟩])
  (.block 2 (.loop (.seq (.seq (.region [⟨(some 20), .mv (.t 9), none⟩, ⟨(some 21), .faddr 0 (.t 2), none⟩, ⟨(some 22), .load none (.t 21), none⟩, ⟨(some 23), .mv (.t 7), none⟩, ⟨(some 24), .iaddr 3 (.t 22) (.t 23), none⟩, ⟨(some 25), .faddr 2 (.t 24), none⟩, ⟨(some 26), .load none (.t 25), none⟩, ⟨(some 27), .len (.t 26), none⟩, ⟨(some 28), .bin .leq (.t 20) (.t 27), none⟩])
  (.cond (.t 28) .skip
  (.exit 2)))
  (.seq (.block 3 (.seq (.region [⟨(some 31), .mv (.t 5), none⟩, ⟨(some 32), .mv (.t 7), none⟩, ⟨(some 33), .iaddr 1 (.t 31) (.t 32), none⟩, ⟨(some 34), .load none (.t 33), none⟩, ⟨(some 35), .mv (.t 9), none⟩, ⟨(some 36), .iaddr 1 (.t 34) (.t 35), none⟩, ⟨(some 37), .load none (.t 36), none⟩])
  (.cond (.t 37) (.region [⟨(some 38), .mv (.t 8), none⟩, ⟨(some 39), .bin .add (.t 38) (.c (.v (.int .i64 1))), none⟩, ⟨(some 8), .mv (.t 39), none⟩])
  .skip)))
  (.region [⟨(some 29), .mv (.t 9), none⟩, ⟨(some 30), .bin .add (.t 29) (.c (.v (.int .i64 1))), none⟩, ⟨(some 9), .mv (.t 30), none⟩]))))))
  (.region [⟨(some 40), .mv (.t 6), none⟩, ⟨(some 41), .mv (.t 8), none⟩, ⟨(some 42), .bslice 1 [(.v (.int .i64 0))] 1 [(0, (.t 41))], none⟩, ⟨(some 43), .append 1 8 (.t 40) (.t 42), none⟩, ⟨(some 6), .mv (.t 43), none⟩]))))
  (.region [⟨(some 18), .mv (.t 7), none⟩, ⟨(some 19), .bin .add (.t 18) (.c (.v (.int .i64 1))), none⟩, ⟨(some 7), .mv (.t 19), none⟩]))))))
  (.seq (.draw [⟨0, ⟨(some 44), .mv (.t 6), none⟩, []⟩, ⟨1, ⟨(some 45), .faddr 0 (.t 3), none⟩, []⟩, ⟨2, ⟨(some 46), .load none (.t 45), none⟩, []⟩, ⟨3, ⟨(some 47), .mv (.t 6), none⟩, []⟩, ⟨4, ⟨(some 48), .faddr 0 (.t 3), none⟩, []⟩, ⟨5, ⟨(some 49), .load none (.t 48), none⟩, []⟩, ⟨6, ⟨(some 50), .iaddr 1 (.t 47) (.t 49), none⟩, []⟩, ⟨7, ⟨(some 51), .load none (.t 50), none⟩, []⟩, ⟨8, ⟨(some 52), .bin .add (.t 51) (.c (.v (.int .i64 1))), none⟩, []⟩, ⟨9, ⟨(some 53), .iaddr 1 (.t 44) (.t 46), none⟩, []⟩, ⟨10, ⟨none, .store 1 (.t 53) (.t 52), none⟩, []⟩])
  (.seq (.region [⟨(some 54), .mv (.t 6), none⟩, ⟨(some 4), .mv (.t 54), none⟩])
  .ret))))))⟩
theorem a_rStamp_ok : cFunc Try.prog 79 = some a_rStamp := by kernel_rfl
def r_rStamp0 : List (Nat × Nat) := [(6, 9), (13, 43)]
def r_rStamp1 : List (Nat × Nat) := [(8, 9), (20, 39)]
def a_rStamps : AFunc := ⟨1, 38, [.tmp 2],
  (.seq (.region [⟨(some 1), .box (.t 0), none⟩, ⟨(some 2), .mv (.c (.v .zsl)), none⟩])
  (.seq (.region [⟨(some 3), .mv (.c (.v .zsl)), none⟩])
  (.seq (.seq (.region [⟨(some 4), .mv (.c (.v (.int .i64 0))), none⟩])
  (.block 0 (.loop (.seq (.seq (.region [⟨(some 7), .mv (.t 4), none⟩, ⟨(some 8), .faddr 0 (.t 1), none⟩, ⟨(some 9), .load none (.t 8), none⟩, ⟨(some 10), .len (.t 9), none⟩, ⟨(some 11), .bin .lss (.t 7) (.t 10), none⟩])
  (.cond (.t 11) .skip
  (.exit 0)))
  (.seq (.block 1 (.seq (.region [⟨(some 5), .mv (.c (.v .zsl)), none⟩])
  (.seq (.seq (.region [⟨(some 6), .mv (.c (.v (.int .i64 1))), none⟩])
  (.block 2 (.loop (.seq (.seq (.region [⟨(some 14), .mv (.t 6), none⟩, ⟨(some 15), .faddr 0 (.t 1), none⟩, ⟨(some 16), .load none (.t 15), none⟩, ⟨(some 17), .mv (.t 4), none⟩, ⟨(some 18), .iaddr 3 (.t 16) (.t 17), none⟩, ⟨(some 19), .faddr 2 (.t 18), none⟩, ⟨(some 20), .load none (.t 19), none⟩, ⟨(some 21), .len (.t 20), none⟩, ⟨(some 22), .bin .leq (.t 14) (.t 21), none⟩])
  (.cond (.t 22) .skip
  (.exit 2)))
  (.seq (.block 3 (.region [⟨(some 25), .mv (.t 5), none⟩, ⟨(some 26), .load (some 1) (.t 1), none⟩, ⟨(some 27), .mv (.t 4), none⟩, ⟨(some 28), .mv (.t 6), none⟩, ⟨(some 29), .build [(.v (.int .i64 0)), (.v (.int .i64 0))] [(0, 1, (.t 27)), (1, 1, (.t 28))], none⟩, ⟨(some 30), .call (.c (.fn 79 [])) [(.t 26), (.t 29)], none⟩, ⟨(some 31), .bslice 1 [(.v .zsl)] 1 [(0, (.t 30))], none⟩, ⟨(some 32), .append 1 24 (.t 25) (.t 31), none⟩, ⟨(some 5), .mv (.t 32), none⟩]))
  (.region [⟨(some 23), .mv (.t 6), none⟩, ⟨(some 24), .bin .add (.t 23) (.c (.v (.int .i64 1))), none⟩, ⟨(some 6), .mv (.t 24), none⟩]))))))
  (.region [⟨(some 33), .mv (.t 3), none⟩, ⟨(some 34), .mv (.t 5), none⟩, ⟨(some 35), .bslice 1 [(.v .zsl)] 1 [(0, (.t 34))], none⟩, ⟨(some 36), .append 1 24 (.t 33) (.t 35), none⟩, ⟨(some 3), .mv (.t 36), none⟩]))))
  (.region [⟨(some 12), .mv (.t 4), none⟩, ⟨(some 13), .bin .add (.t 12) (.c (.v (.int .i64 1))), none⟩, ⟨(some 4), .mv (.t 13), none⟩]))))))
  (.seq (.region [⟨(some 37), .mv (.t 3), none⟩, ⟨(some 2), .mv (.t 37), none⟩])
  .ret))))⟩
theorem a_rStamps_ok : cFunc Try.prog 22 = some a_rStamps := by kernel_rfl
def r_rStamps0 : List (Nat × Nat) := [(3, 36)]
def r_rStamps1 : List (Nat × Nat) := [(5, 6), (14, 32)]

def cntS (S : List (Nat × Nat)) (q n : Nat) : Nat := (List.range n).countP fun i => decide ((q, i + 1) ∈ S)
theorem cntS_next {S : List (Nat × Nat)} {q n : Nat} : cntS S q (n + 1) = cntS S q n + if decide ((q, n + 1) ∈ S) = true then 1 else 0 := by
  unfold cntS; rw [List.range_succ, List.countP_append, List.countP_singleton]
theorem cntS_le {S : List (Nat × Nat)} {q n : Nat} : cntS S q n ≤ n := by
  have := List.countP_le_length (p := fun i => decide ((q, i + 1) ∈ S)) (l := List.range n)
  rwa [List.length_range] at this
/-- The stamp of an event. -/
noncomputable def vcs (t : Tr) (x : Nat × Nat) : List Int := fl t.length fun q => (vc t x q : Int)
theorem cnt_vc {t : Tr} (hv : Vok t) {S : List (Nat × Nat)} {p k : Nat} (hx : (p, k + 1) ∈ ids t) (hS : ∀ y ∈ ids t, y ∈ S ↔ Hb t y (p, k + 1)) {q : Nat} (hq : q < t.length) :
    vc t (p, k + 1) q = cntS S q (evsOf t q).length + if q = p then 1 else 0 := by
  obtain ⟨hp, hk⟩ := mem_ids2.1 hx
  have hcl : cntS S q (evsOf t q).length ≤ (evsOf t q).length := cntS_le
  have hd := count_down (P := fun i => decide ((q, i + 1) ∈ S)) (n := (evsOf t q).length) (fun i j hi hj hp' => by
    simp only [decide_eq_true_eq] at hp' ⊢
    rw [hS _ (mem_ids2.2 ⟨hq, by omega⟩)]
    rw [hS _ (mem_ids2.2 ⟨hq, hi⟩)] at hp'
    exact (le_row (by omega) (by omega)).hb hp')
  have hd : ∀ i, i < (evsOf t q).length → (Hb t (q, i + 1) (p, k + 1) ↔ i < cntS S q (evsOf t q).length) := by
    intro i hi
    have := hd i hi
    simp only [decide_eq_true_eq] at this
    rw [hS _ (mem_ids2.2 ⟨hq, hi⟩)] at this
    exact this
  by_cases hqp : q = p
  · subst hqp
    rw [if_pos rfl, vc_own hv hx]
    have : cntS S q (evsOf t q).length = k := by
      refine thresh (n := (evsOf t q).length) hcl (by omega) (fun j hj => ?_)
      rw [← hd j hj]
      constructor
      · intro h
        refine Classical.byContradiction fun hn => hv.acyc _ hx ?_
        exact (le_row (show k + 1 ≤ j + 1 by omega) (by omega)).hb h
      · intro h
        exact hb_row (by omega) (by omega)
    omega
  · rw [if_neg hqp]
    show vc t (p, k + 1) q = cntS S q (evsOf t q).length
    refine thresh (n := (evsOf t q).length) vc_le hcl (fun j hj => ?_)
    rw [← hd j hj, ← vc_iff hj]
    constructor
    · intro h
      exact h.resolve_left (fun e => by cases e; exact hqp rfl)
    · intro h; exact .inr h
set_option maxRecDepth 20000 in
theorem rStamp_spec (t : Tr) (hv : Vok t) (hS : Small t) (hN : Nm t) (hC : (ids t).length ≤ 1000000) (p k : Nat) (hx : (p, k + 1) ∈ ids t) (b l : List Row) :
    ACalls Try.prog 79 [.agg [.v (eT t)], idA (p, k + 1)] b l (fun r b' l' => r = .v (.isl 1 ((vcs t (p, k + 1)).map eI)) ∧ b' = b ∧ l' = l) := by
  refine calls_kept a_rStamp_ok rfl (by decide) ?_
  intro B g hB hR hE hA
  simp only [KArgs] at hA
  obtain ⟨hp, hk⟩ := mem_ids2.1 hx
  have hlo := hv.hi
  simp (disch := decide) only [a_rStamp, eT, idA, hA, go_sem]
  refine ACalls_mono _ _ _ _ _ _ (past_spec t hv hS hN (p, k + 1) hx hC _ _) ?_
  rintro r b' l' ⟨S, hSS, rfl, rfl, rfl⟩
  simp (disch := (first | decide | omega)) only [hA, List.length_map, go_sem]
  refine loop_kept_nil (ι := Nat) 6 1 r_rStamp0 (fun q => [(6, .sl (b'.length + 2) q 0 q), (7, .v (.int .i64 q))]) 3 (fun q => [.live 0 1 [[.v (.isl 3 (t.map ePr))]], .live 0 2 [[.v (.int .i64 p), .v (.int .i64 ((k + 1 : Nat) : Int))]], .live q 1 (vs ((fl q (fun q => (cntS S q (evsOf t q).length : Int))).map eI))])
    (fun q => q ≤ t.length) (fun q => t.length - q) 0 (Nat.zero_le _) (by simp (disch := decide) only [hA, go_sem]) (by decide) rfl (by (repeat (first | exact hE.mono (by omega) | refine KLt.up ?_ (by simp (disch := omega) only [AVlt_v, AVlt_any, AVlt_sl, AVlt_ptr, AVlt_mp, AVlt_agg, AVlt_tup, AVlt_fn, RowsLt_nil, RowsLt_live, RowsLt_dead, List.mem_cons, List.not_mem_nil, List.forall_mem_cons, List.forall_mem_nil, or_false, false_or, forall_eq_or_imp, forall_eq, vs_lt, Nat.add_lt_add_iff_left, Nat.reduceLT, true_and, and_true, and_self, List.length_cons, List.length_nil, Nat.reduceAdd, Nat.zero_add, implies_true, false_imp_iff, lt_T, List.mem_map])))) (by ((try simp (disch := decide) only [hA, go_sem]) <;> (repeat' (first | exact trivial | refine And.intro ?_ ?_)) <;> (first | rfl | (congr 2; omega)))) (fun e => Weak.refl _ _ _) ?_
  intro g1 hE1 hEE1 hg1 q hq
  by_cases hlt : q < t.length
  · have heq := evsOf_lt hlt
    have hne := hS.ne _ (List.getElem_mem hlt)
    simp (disch := (first | decide | omega)) only [hA, hg1, ePr, go_sem]
    refine loop_kept (ι := Nat) r_rStamp1 (fun j => [(8, .v (.int .i64 (cntS S q j : Int))), (9, .v (.int .i64 ((j : Int) + 1)))]) 3 (fun j => [.live 0 1 [[.v (.isl 3 (t.map ePr))]], .live 0 2 [[.v (.int .i64 p), .v (.int .i64 ((k + 1 : Nat) : Int))]], .live q 1 (vs ((fl q (fun q => (cntS S q (evsOf t q).length : Int))).map eI))])
      (fun j => j ≤ t[q].evs.length) (fun j => t[q].evs.length - j) 0 (Nat.zero_le _) (by (repeat (first | exact hE1.mono (by omega) | refine KLt.up ?_ (by simp (disch := omega) only [AVlt_v, AVlt_any, AVlt_sl, AVlt_ptr, AVlt_mp, AVlt_agg, AVlt_tup, AVlt_fn, RowsLt_nil, RowsLt_live, RowsLt_dead, List.mem_cons, List.not_mem_nil, List.forall_mem_cons, List.forall_mem_nil, or_false, false_or, forall_eq_or_imp, forall_eq, vs_lt, Nat.add_lt_add_iff_left, Nat.reduceLT, true_and, and_true, and_self, List.length_cons, List.length_nil, Nat.reduceAdd, Nat.zero_add, implies_true, false_imp_iff, lt_T, List.mem_map])))) (by ((try simp (disch := decide) only [hA, hg1, go_sem]) <;> (repeat' (first | exact trivial | refine And.intro ?_ ?_)) <;> (first | rfl | (congr 2; omega)))) (fun e => Weak.refl _ _ _) ?_
    intro g2 hE2 hEE2 hg2 j hj
    by_cases hjl : j < t[q].evs.length
    · have hcn := cntS_next (S := S) (q := q) (n := j)
      have hcl := cntS_le (S := S) (q := q) (n := j)
      have hle : decide ((j : Int) + 1 ≤ (t[q].evs.length : Int)) = true := decide_eq_true (by omega)
      have hcast : ((j + 1 : Nat) : Int) = (j : Int) + 1 := by omega
      have htn : ((j : Int) + 1).toNat = j + 1 := by omega
      cases hb : decide ((q, j + 1) ∈ S)
      · rw [hb] at hcn
        simp only [Bool.false_eq_true, if_false, Nat.add_zero] at hcn
        simp (disch := (first | decide | omega)) only [hA, hg1, hg2, ePr, hle, tabV, tabRow, fl_get, fl_len, heq, htn, hb, List.length_map, go_sem]
        refine ⟨j + 1, hjl, by simp only; omega, ?_⟩
        exact Weak.kround (p := r_rStamp1) (k := 3) (by ((repeat refine (kAny_up rfl).trans ?_); exact hEE2)) (by ((try simp (disch := decide) only [hA, hcn, hcast, go_sem]) <;> (repeat' (first | exact trivial | refine And.intro ?_ ?_)) <;> (first | rfl | (congr 2; omega)))) rfl hE2 (by simp) (by simp (disch := omega) only [KOvLt, AVlt_v, AVlt_any, AVlt_sl, AVlt_ptr, AVlt_mp, AVlt_agg, AVlt_tup, AVlt_fn, RowsLt_nil, RowsLt_live, RowsLt_dead, List.mem_cons, List.not_mem_nil, List.forall_mem_cons, List.forall_mem_nil, or_false, false_or, forall_eq_or_imp, forall_eq, vs_lt, Nat.add_lt_add_iff_left, Nat.reduceLT, true_and, and_true, and_self, List.length_cons, List.length_nil, Nat.reduceAdd, Nat.zero_add, implies_true, false_imp_iff, lt_T, List.mem_map]) hR (by simp (disch := omega) only [AVlt_v, AVlt_any, AVlt_sl, AVlt_ptr, AVlt_mp, AVlt_agg, AVlt_tup, AVlt_fn, RowsLt_nil, RowsLt_live, RowsLt_dead, List.mem_cons, List.not_mem_nil, List.forall_mem_cons, List.forall_mem_nil, or_false, false_or, forall_eq_or_imp, forall_eq, vs_lt, Nat.add_lt_add_iff_left, Nat.reduceLT, true_and, and_true, and_self, List.length_cons, List.length_nil, Nat.reduceAdd, Nat.zero_add, implies_true, false_imp_iff, lt_T, List.mem_map])
      · rw [hb, if_pos rfl] at hcn
        have hcc : ((cntS S q (j + 1) : Nat) : Int) = (cntS S q j : Int) + 1 := by omega
        simp (disch := (first | decide | omega)) only [hA, hg1, hg2, ePr, hle, tabV, tabRow, fl_get, fl_len, heq, htn, hb, List.length_map, go_sem]
        refine ⟨j + 1, hjl, by simp only; omega, ?_⟩
        exact Weak.kround (p := r_rStamp1) (k := 3) (by ((repeat refine (kAny_up rfl).trans ?_); exact hEE2)) (by ((try simp (disch := decide) only [hA, hcc, hcast, go_sem]) <;> (repeat' (first | exact trivial | refine And.intro ?_ ?_)) <;> (first | rfl | (congr 2; omega)))) rfl hE2 (by simp) (by simp (disch := omega) only [KOvLt, AVlt_v, AVlt_any, AVlt_sl, AVlt_ptr, AVlt_mp, AVlt_agg, AVlt_tup, AVlt_fn, RowsLt_nil, RowsLt_live, RowsLt_dead, List.mem_cons, List.not_mem_nil, List.forall_mem_cons, List.forall_mem_nil, or_false, false_or, forall_eq_or_imp, forall_eq, vs_lt, Nat.add_lt_add_iff_left, Nat.reduceLT, true_and, and_true, and_self, List.length_cons, List.length_nil, Nat.reduceAdd, Nat.zero_add, implies_true, false_imp_iff, lt_T, List.mem_map]) hR (by simp (disch := omega) only [AVlt_v, AVlt_any, AVlt_sl, AVlt_ptr, AVlt_mp, AVlt_agg, AVlt_tup, AVlt_fn, RowsLt_nil, RowsLt_live, RowsLt_dead, List.mem_cons, List.not_mem_nil, List.forall_mem_cons, List.forall_mem_nil, or_false, false_or, forall_eq_or_imp, forall_eq, vs_lt, Nat.add_lt_add_iff_left, Nat.reduceLT, true_and, and_true, and_self, List.length_cons, List.length_nil, Nat.reduceAdd, Nat.zero_add, implies_true, false_imp_iff, lt_T, List.mem_map])
    · have hle : decide ((j : Int) + 1 ≤ (t[q].evs.length : Int)) = false := decide_eq_false (by omega)
      obtain rfl : j = t[q].evs.length := by omega
      have tk : ((fl q (fun q => (cntS S q (evsOf t q).length : Int))).map eI).take q = (fl q (fun q => (cntS S q (evsOf t q).length : Int))).map eI := List.take_of_length_le (by simp [fl_len])
      have ts : (fl q (fun q => (cntS S q (evsOf t q).length : Int))).map eI ++ [[.int .i64 (cntS S q t[q].evs.length : Int)]] = (fl (q + 1) (fun q => (cntS S q (evsOf t q).length : Int))).map eI := by
        rw [← fl_next (f := fun q => (cntS S q (evsOf t q).length : Int)) (x := (cntS S q t[q].evs.length : Int)) (by rw [heq]), List.map_append]; rfl
      simp (disch := (first | decide | omega)) only [hA, hg1, hg2, ePr, hle, List.length_map, fl_len, List.replicate_succ, List.replicate_zero, tk, ts, setFrom, cellsOf, go_sem]
      refine ⟨q + 1, hlt, by simp only; omega, ?_⟩
      exact Weak.kround (p := r_rStamp0) (k := 3) (by ((repeat refine (kAny_up rfl).trans ?_); refine (kAny_sub hg2 (kIn_sub rfl)).trans ?_; (repeat refine (kAny_up rfl).trans ?_); exact hEE1)) (by ((try simp (disch := decide) only [hA, hg1, go_sem]) <;> (repeat' (first | exact trivial | refine And.intro ?_ ?_)) <;> (first | rfl | (congr 2; omega)))) rfl hE1 (by simp) (by simp (disch := omega) only [KOvLt, AVlt_v, AVlt_any, AVlt_sl, AVlt_ptr, AVlt_mp, AVlt_agg, AVlt_tup, AVlt_fn, RowsLt_nil, RowsLt_live, RowsLt_dead, List.mem_cons, List.not_mem_nil, List.forall_mem_cons, List.forall_mem_nil, or_false, false_or, forall_eq_or_imp, forall_eq, vs_lt, Nat.add_lt_add_iff_left, Nat.reduceLT, true_and, and_true, and_self, List.length_cons, List.length_nil, Nat.reduceAdd, Nat.zero_add, implies_true, false_imp_iff, lt_T, List.mem_map]) hR (by simp (disch := omega) only [AVlt_v, AVlt_any, AVlt_sl, AVlt_ptr, AVlt_mp, AVlt_agg, AVlt_tup, AVlt_fn, RowsLt_nil, RowsLt_live, RowsLt_dead, List.mem_cons, List.not_mem_nil, List.forall_mem_cons, List.forall_mem_nil, or_false, false_or, forall_eq_or_imp, forall_eq, vs_lt, Nat.add_lt_add_iff_left, Nat.reduceLT, true_and, and_true, and_self, List.length_cons, List.length_nil, Nat.reduceAdd, Nat.zero_add, implies_true, false_imp_iff, lt_T, List.mem_map])
  · obtain rfl : q = t.length := by omega
    have hge : ∀ h : p < (fl t.length (fun q => (cntS S q (evsOf t q).length : Int))).length, (fl t.length (fun q => (cntS S q (evsOf t q).length : Int)))[p] = (cntS S p (evsOf t p).length : Int) := fun h => fl_getE h
    have hpc := cnt_vc hv hx hSS hp
    rw [if_pos rfl, vc_own hv hx] at hpc
    have hpc2 : (cntS S p (evsOf t p).length : Int) = k := by omega
    have hset : ((fl t.length (fun q => (cntS S q (evsOf t q).length : Int))).map eI).set p [.int .i64 ((k : Int) + 1)] = (vcs t (p, k + 1)).map eI := by
      rw [show [IV.int .i64 ((k : Int) + 1)] = eI ((k : Int) + 1) from rfl, ← List.map_set]
      congr 1
      unfold vcs
      rw [fl_set]
      refine fl_congr (fun j hj => ?_)
      unfold fUp
      have := cnt_vc hv hx hSS hj
      by_cases hjp : j = p
      · subst hjp; rw [if_pos rfl]; rw [if_pos rfl] at this; omega
      · rw [if_neg hjp]; rw [if_neg hjp] at this
        show (cntS S j (evsOf t j).length : Int) = (vc t (p, k + 1) j : Int)
        omega
    have hkb : (k : Int) + 1 ≤ 1000000 := by
      have := hS.ne _ (List.getElem_mem hp)
      rw [evsOf_lt hp] at hk
      omega
    simp (disch := (first | decide | omega)) only [hA, hg1, List.length_map, fl_len, fl_get, hpc2, eI, setFrom, cellsOf, hset, go_sem]
    exact leave_frz (i := 2) (n := t.length) (rows := (vcs t (p, k + 1)).map eI) (.inr rfl) (by simp (disch := (first | decide | omega)) only [resVs, resV, hA, hg1, go_sem]) rfl (by simp [vcs, fl_len]) hR hB ⟨rfl, rfl, rfl⟩
/-! A round whose last row of its own is frozen. -/
theorem frz0_lt {m id ver sz : Nat} {rows : List (List IV)} {x : AV} (h : AVlt m x) (hm : m ≤ id) : frz0 id ver sz rows x = x := by
  cases h with
  | sl i v o n hi => simp only [frz0]; rw [if_neg (by omega)]
  | _ => rfl
theorem frz_lt {m id ver sz : Nat} {rows : List (List IV)} {x : AV} (h : AVlt m x) (hm : m ≤ id) : frz id ver sz rows x = x := by
  cases h with
  | agg cs hc =>
    simp only [frz]
    congr 1
    rw [List.map_congr_left (fun c hcc => frz0_lt (hc c hcc) hm), List.map_id']
  | tup cs hc =>
    simp only [frz]
    congr 1
    rw [List.map_congr_left (fun c hcc => frz0_lt (hc c hcc) hm), List.map_id']
  | sl i v o n hi => exact frz0_lt (.sl i v o n hi) hm
  | _ => rfl
theorem KHas.frz {f : Nat → AV} {m id ver sz : Nat} {rows : List (List IV)} (hm : m ≤ id) : ∀ {ov : List (Nat × AV)}, KHas f ov → KOvLt m ov → KHas (fun n => frz id ver sz rows (f n)) ov
  | [], _, _ => trivial
  | (n, x) :: r, h, ho => ⟨by show Go.Proofs.Ytiiflkcebikecaa.frz id ver sz rows (f n) = x; rw [h.1]; exact frz_lt ho.1 hm, KHas.frz hm h.2 ho.2⟩
theorem Weak.kroundF {N : Nat} {p : List (Nat × Nat)} {ov : List (Nat × AV)} {f g : Nat → AV} {b l l1 junk : List Row} {k i ver sz : Nat} {rows : List (List IV)} (hi : l[i]? = some (.live ver sz (vs rows))) (he : kAny p f = g) (h : KHas f ov) (hl : (l.set i (.dead ver)).map (rowMap (frz0 (b.length + i) ver sz rows)) = l1 ++ junk) (hE : KLt (b.length + k) g) (hk : k ≤ l1.length) (hki : l1.length ≤ i) (ho : KOvLt (b.length + l1.length) ov) (hb : RowsLt b.length b) (h1 : RowsLt (b.length + l1.length) l1) :
    Weak (kOf N f) b l (kOf N (kOv ov g)) b l1 := by
  have h2 := Weak.freezeR (e := kOf N f) (b := b) hi
  have h3 : (kOf N f).map (frz (b.length + i) ver sz rows) = kOf N (fun n => frz (b.length + i) ver sz rows (f n)) := by unfold kOf; rw [List.map_map]; rfl
  rw [h3] at h2
  refine h2.trans ?_
  refine Weak.kround (p := p) (k := k) ?_ (h.frz (m := b.length + l1.length) (by omega) ho) hl hE hk ho hb h1
  rw [← he]
  funext n
  unfold kAny
  split
  · rfl
  · rename_i hn
    have hf : f n = g n := by rw [← he]; unfold kAny; rw [if_neg hn]
    show frz (b.length + i) ver sz rows (f n) = f n
    rw [hf]
    exact frz_lt (m := b.length + k) (id := b.length + i) (hE n) (by omega)

/-- The stamps of a trace, as values. -/
noncomputable def stRow (t : Tr) (p n : Nat) : List (List IV) := fl n fun i => [.isl 1 ((vcs t (p, i + 1)).map eI)]
noncomputable def stAll (t : Tr) (n : Nat) : List (List IV) := fl n fun p => [.isl 1 (stRow t p (evsOf t p).length)]
theorem stRow_next {t : Tr} {p n : Nat} : stRow t p n ++ [[.isl 1 ((vcs t (p, n + 1)).map eI)]] = stRow t p (n + 1) := fl_next rfl
theorem frz0_v {id ver sz : Nat} {rows : List (List IV)} : (List.map (frz0 id ver sz rows) ∘ List.map AV.v) = List.map AV.v := by
  funext x; simp [frz0]
theorem stAll_next {t : Tr} {n : Nat} : stAll t n ++ [[.isl 1 (stRow t n (evsOf t n).length)]] = stAll t (n + 1) := fl_next rfl
set_option maxRecDepth 20000 in
theorem rStamps_spec (t : Tr) (hv : Vok t) (hS : Small t) (hN : Nm t) (hC : (ids t).length ≤ 1000000) (b l : List Row) :
    ACalls Try.prog 22 [.agg [.v (eT t)]] b l (fun r b' l' => r = .v (.isl 1 (stAll t t.length)) ∧ b' = b ∧ l' = l) := by
  refine calls_kept a_rStamps_ok rfl (by decide) ?_
  intro B g hB hR hE hA
  simp only [KArgs] at hA
  have hlo := hv.hi
  simp (disch := (first | decide | omega)) only [a_rStamps, eT, hA, List.length_map, go_sem]
  refine loop_kept_nil (ι := Nat) 3 1 r_rStamps0 (fun q => [(3, .sl (B.length + 1) q 0 q), (4, .v (.int .i64 q))]) 2 (fun q => [.live 0 1 [[.v (.isl 3 (t.map ePr))]], .live q 1 (vs (stAll t q))])
    (fun q => q ≤ t.length) (fun q => t.length - q) 0 (Nat.zero_le _) (by simp (disch := decide) only [hA, go_sem]) (by decide) rfl (by (repeat (first | exact hE.mono (by omega) | refine KLt.up ?_ (by simp (disch := omega) only [AVlt_v, AVlt_any, AVlt_sl, AVlt_ptr, AVlt_mp, AVlt_agg, AVlt_tup, AVlt_fn, RowsLt_nil, RowsLt_live, RowsLt_dead, List.mem_cons, List.not_mem_nil, List.forall_mem_cons, List.forall_mem_nil, or_false, false_or, forall_eq_or_imp, forall_eq, vs_lt, Nat.add_lt_add_iff_left, Nat.reduceLT, true_and, and_true, and_self, List.length_cons, List.length_nil, Nat.reduceAdd, Nat.zero_add, implies_true, false_imp_iff, lt_T, List.mem_map])))) (by ((try simp (disch := decide) only [hA, go_sem]) <;> (repeat' (first | exact trivial | refine And.intro ?_ ?_)) <;> (first | rfl | (congr 2; omega)))) (fun e => Weak.refl _ _ _) ?_
  intro g1 hE1 hEE1 hg1 q hq
  by_cases hlt : q < t.length
  · have heq := evsOf_lt hlt
    have hne := hS.ne _ (List.getElem_mem hlt)
    simp (disch := (first | decide | omega)) only [hA, hg1, ePr, List.length_map, go_sem]
    refine loop_kept_nil (ι := Nat) 5 1 r_rStamps1 (fun j => [(5, .sl (B.length + 2) j 0 j), (6, .v (.int .i64 ((j : Int) + 1)))]) 3 (fun j => [.live 0 1 [[.v (.isl 3 (t.map ePr))]], .live q 1 (vs (stAll t q)), .live j 1 (vs (stRow t q j))])
      (fun j => j ≤ t[q].evs.length) (fun j => t[q].evs.length - j) 0 (Nat.zero_le _) (by simp (disch := decide) only [hA, go_sem]) (by decide) rfl (by (repeat (first | exact hE1.mono (by omega) | refine KLt.up ?_ (by simp (disch := omega) only [AVlt_v, AVlt_any, AVlt_sl, AVlt_ptr, AVlt_mp, AVlt_agg, AVlt_tup, AVlt_fn, RowsLt_nil, RowsLt_live, RowsLt_dead, List.mem_cons, List.not_mem_nil, List.forall_mem_cons, List.forall_mem_nil, or_false, false_or, forall_eq_or_imp, forall_eq, vs_lt, Nat.add_lt_add_iff_left, Nat.reduceLT, true_and, and_true, and_self, List.length_cons, List.length_nil, Nat.reduceAdd, Nat.zero_add, implies_true, false_imp_iff, lt_T, List.mem_map])))) (by ((try simp (disch := decide) only [hA, hg1, go_sem]) <;> (repeat' (first | exact trivial | refine And.intro ?_ ?_)) <;> (first | rfl | (congr 2; omega)))) (fun e => Weak.refl _ _ _) ?_
    intro g2 hE2 hEE2 hg2 j hj
    by_cases hjl : j < t[q].evs.length
    · have hle : decide ((j : Int) + 1 ≤ (t[q].evs.length : Int)) = true := decide_eq_true (by omega)
      have hcast : ((j + 1 : Nat) : Int) = (j : Int) + 1 := by omega
      have hx : (q, j + 1) ∈ ids t := mem_ids2.2 ⟨hlt, by rw [heq]; exact hjl⟩
      have tk : (stRow t q j).take j = stRow t q j := List.take_of_length_le (by simp [stRow, fl_len])
      have tl : (stRow t q j).length = j := fl_len
      have hst := rStamp_spec t hv hS hN hC q j hx
      simp only [idA, eT, hcast] at hst
      simp (disch := (first | decide | omega)) only [hA, hg1, hg2, ePr, hle, List.length_map, fillA, setFrom, cellsOf, go_sem]
      refine ACalls.nxt (hst _ _) ?_
      simp (disch := (first | decide | omega)) only [hA, hg1, hg2, List.replicate_succ, List.replicate_zero, setFrom, cellsOf, tk, tl, stRow_next, go_sem]
      refine ⟨j + 1, hjl, by simp only; omega, ?_⟩
      exact Weak.kround (p := r_rStamps1) (k := 3) (by ((repeat refine (kAny_up rfl).trans ?_); exact hEE2)) (by ((try simp (disch := decide) only [hA, hcast, go_sem]) <;> (repeat' (first | exact trivial | refine And.intro ?_ ?_)) <;> (first | rfl | (congr 2; omega)))) rfl hE2 (by simp) (by simp (disch := omega) only [KOvLt, AVlt_v, AVlt_any, AVlt_sl, AVlt_ptr, AVlt_mp, AVlt_agg, AVlt_tup, AVlt_fn, RowsLt_nil, RowsLt_live, RowsLt_dead, List.mem_cons, List.not_mem_nil, List.forall_mem_cons, List.forall_mem_nil, or_false, false_or, forall_eq_or_imp, forall_eq, vs_lt, Nat.add_lt_add_iff_left, Nat.reduceLT, true_and, and_true, and_self, List.length_cons, List.length_nil, Nat.reduceAdd, Nat.zero_add, implies_true, false_imp_iff, lt_T, List.mem_map]) hR (by simp (disch := omega) only [AVlt_v, AVlt_any, AVlt_sl, AVlt_ptr, AVlt_mp, AVlt_agg, AVlt_tup, AVlt_fn, RowsLt_nil, RowsLt_live, RowsLt_dead, List.mem_cons, List.not_mem_nil, List.forall_mem_cons, List.forall_mem_nil, or_false, false_or, forall_eq_or_imp, forall_eq, vs_lt, Nat.add_lt_add_iff_left, Nat.reduceLT, true_and, and_true, and_self, List.length_cons, List.length_nil, Nat.reduceAdd, Nat.zero_add, implies_true, false_imp_iff, lt_T, List.mem_map])
    · have hle : decide ((j : Int) + 1 ≤ (t[q].evs.length : Int)) = false := decide_eq_false (by omega)
      obtain rfl : j = t[q].evs.length := by omega
      have tk : (stAll t q).take q = stAll t q := List.take_of_length_le (by simp [stAll, fl_len])
      have tl : (stAll t q).length = q := fl_len
      simp (disch := (first | decide | omega)) only [hA, hg1, hg2, ePr, hle, List.length_map, List.replicate_succ, List.replicate_zero, setFrom, cellsOf, tk, tl, go_sem]
      refine ⟨q + 1, hlt, by simp only; omega, ?_⟩
      have hcast : ((q + 1 : Nat) : Int) = (q : Int) + 1 := by omega
      refine Weak.kroundF (p := r_rStamps0) (i := 2) (ver := t[q].evs.length) (sz := 1) (rows := stRow t q t[q].evs.length) (k := 2) (l1 := [.live 0 1 [[.v (.isl 3 (t.map ePr))]], .live (q + 1) 1 (vs (stAll t (q + 1)))]) (junk := [.dead t[q].evs.length, .live 0 1 [[.v (.isl 1 (stRow t q t[q].evs.length))]]]) rfl (by ((repeat refine (kAny_up rfl).trans ?_); refine (kAny_sub hg2 (kIn_sub rfl)).trans ?_; (repeat refine (kAny_up rfl).trans ?_); exact hEE1)) (by ((try simp (disch := decide) only [hA, hg1, go_sem]) <;> (repeat' (first | exact trivial | refine And.intro ?_ ?_)) <;> (first | rfl | (congr 2; omega)))) ?_ (by (repeat (first | exact hE1.mono (by omega) | refine KLt.up ?_ (by simp (disch := omega) only [AVlt_v, AVlt_any, AVlt_sl, AVlt_ptr, AVlt_mp, AVlt_agg, AVlt_tup, AVlt_fn, RowsLt_nil, RowsLt_live, RowsLt_dead, List.mem_cons, List.not_mem_nil, List.forall_mem_cons, List.forall_mem_nil, or_false, false_or, forall_eq_or_imp, forall_eq, vs_lt, Nat.add_lt_add_iff_left, Nat.reduceLT, true_and, and_true, and_self, List.length_cons, List.length_nil, Nat.reduceAdd, Nat.zero_add, implies_true, false_imp_iff, lt_T, List.mem_map])))) (by simp) (by simp) (by simp (disch := omega) only [KOvLt, AVlt_v, AVlt_any, AVlt_sl, AVlt_ptr, AVlt_mp, AVlt_agg, AVlt_tup, AVlt_fn, RowsLt_nil, RowsLt_live, RowsLt_dead, List.mem_cons, List.not_mem_nil, List.forall_mem_cons, List.forall_mem_nil, or_false, false_or, forall_eq_or_imp, forall_eq, vs_lt, Nat.add_lt_add_iff_left, Nat.reduceLT, true_and, and_true, and_self, List.length_cons, List.length_nil, Nat.reduceAdd, Nat.zero_add, implies_true, false_imp_iff, lt_T, List.mem_map]) hR (by simp (disch := omega) only [AVlt_v, AVlt_any, AVlt_sl, AVlt_ptr, AVlt_mp, AVlt_agg, AVlt_tup, AVlt_fn, RowsLt_nil, RowsLt_live, RowsLt_dead, List.mem_cons, List.not_mem_nil, List.forall_mem_cons, List.forall_mem_nil, or_false, false_or, forall_eq_or_imp, forall_eq, vs_lt, Nat.add_lt_add_iff_left, Nat.reduceLT, true_and, and_true, and_self, List.length_cons, List.length_nil, Nat.reduceAdd, Nat.zero_add, implies_true, false_imp_iff, lt_T, List.mem_map])
      have tl2 : (stRow t q t[q].evs.length).length = t[q].evs.length := fl_len
      simp [rowMap, frz0, vs, frz0_v, ← stAll_next, heq, tl2]
      exact List.take_of_length_le (by omega)
  · simp (disch := (first | decide | omega)) only [hA, hg1, List.length_map, go_sem]
    obtain rfl : q = t.length := by omega
    exact leave_frz (i := 1) (n := t.length) (rows := stAll t t.length) (.inr rfl) (by simp (disch := (first | decide | omega)) only [resVs, resV, hA, hg1, go_sem]) rfl (by simp [stAll, fl_len]) hR hB ⟨rfl, rfl, rfl⟩
end Go.Proofs.Ytiiflkcebikecaa

/- Chapter 15: what the work on the stamps of a trace has done so far: plain law. -/
namespace Go.Proofs.Ytiiflkcebikecaa
set_option linter.unusedVariables false
set_option linter.unusedSimpArgs false
theorem fl_const {α : Type} {n : Nat} {x : α} : fl n (fun _ => x) = List.replicate n x := by
  apply List.ext_getElem?
  intro j
  by_cases hj : j < n
  · rw [fl_get hj, List.getElem?_replicate_of_lt hj]
  · rw [fl_none (by omega), List.getElem?_eq_none (by simp; omega)]
/-- What is left to do. -/
def remN (len D : Nat → Nat) : Nat → Nat
  | 0 => 0
  | n + 1 => remN len D n + (len n - D n)
theorem remN_up {len D : Nat → Nat} {p v : Nat} : ∀ {n : Nat}, n ≤ p → remN len (fUp D p v) n = remN len D n
  | 0, _ => rfl
  | n + 1, h => by
    unfold remN
    rw [remN_up (by omega), fUp_ne (by omega)]
theorem remN_step {len D : Nat → Nat} {p : Nat} (hd : D p < len p) : ∀ {n : Nat}, p < n → remN len (fUp D p (D p + 1)) n + 1 = remN len D n
  | 0, h => by omega
  | n + 1, h => by
    unfold remN
    by_cases hp : p < n
    · have := remN_step (n := n) hd hp
      rw [fUp_ne (by omega)]; omega
    · obtain rfl : p = n := by omega
      rw [remN_up (Nat.le_refl _), fUp_same]; omega
def remT (t : Tr) (D : Nat → Nat) : Nat := remN (fun p => (evsOf t p).length) D t.length
theorem remT_step {t : Tr} {D : Nat → Nat} {p : Nat} (hp : p < t.length) (hd : D p < (evsOf t p).length) : remT t (fUp D p (D p + 1)) + 1 = remT t D := remN_step (len := fun p => (evsOf t p).length) hd hp
/-- The next event of a process can be done. -/
def Rdy (t : Tr) (D : Nat → Nat) (p : Nat) : Prop := D p < (evsOf t p).length ∧ ((evAt t (p, D p + 1)).kind = 3 → (sndr t (p, D p + 1)).2 ≤ D (sndr t (p, D p + 1)).1)
theorem none_left {t : Tr} (hv : Vok t) {D : Nat → Nat} (hD : ∀ p, p < t.length → D p ≤ (evsOf t p).length) (h : ∀ p, p < t.length → ¬ Rdy t D p) : ∀ p, p < t.length → D p = (evsOf t p).length := by
  intro p hp
  refine Classical.byContradiction fun hn => ?_
  obtain ⟨q, h1, h2, h3⟩ := some_ready hv D hD ⟨p, hp, by have := hD p hp; omega⟩
  exact h q h1 ⟨h2, h3⟩
/-- The stamp that went with a message, as far as its sender is done. -/
noncomputable def sentV (t : Tr) (D : Nat → Nat) (m : Nat) : IV := if 0 < (findV t 2 m).2 ∧ (findV t 2 m).2 ≤ D (findV t 2 m).1 then .isl 1 ((vcs t (findV t 2 m)).map eI) else .zsl
noncomputable def sentL (t : Tr) (D : Nat → Nat) : List (List IV) := fl 200 fun m => [sentV t D m]
theorem sentL_zero {t : Tr} : List.replicate 200 [AV.v IV.zsl] = vs (sentL t fun _ => 0) := by
  have : sentL t (fun _ => 0) = fl 200 fun _ => [.zsl] := by
    refine fl_congr (fun m _ => ?_)
    unfold sentV; rw [if_neg (fun h => by have := h.1; have := h.2; simp only at this; omega)]
  rw [this]
  unfold vs
  rw [fl_map]
  exact fl_const.symm
theorem sndr_own {t : Tr} (hv : Vok t) {x : Nat × Nat} (hx : x ∈ ids t) (hk : (evAt t x).kind = 2) : findV t 2 (evAt t x).msg = x := by
  have h := hv.pair x hx
  unfold pairF at h
  rw [if_pos (by rw [hk]; rfl)] at h
  have h2 : (findL t 2 (evAt t x).msg == some x) = true := by
    cases h3 : findL t 2 (evAt t x).msg == some x
    · rw [h3] at h; simp at h
    · rfl
  rw [findV_is (mem_ids.1 hx).2.1] at h2
  exact of_decide_eq_true h2
theorem msg_in {t : Tr} (hv : Vok t) {x : Nat × Nat} (hx : x ∈ ids t) (hk : (evAt t x).kind = 2 ∨ (evAt t x).kind = 3) : ∃ m : Nat, (evAt t x).msg = m ∧ m < 200 := by
  have h := formF_formed (hv.form x hx)
  unfold formedB at h
  rw [if_neg (by rcases hk with e | e <;> rw [e] <;> decide), if_pos (by rcases hk with e | e <;> rw [e] <;> decide)] at h
  simp only [Bool.and_eq_true, inB, decide_eq_true_eq] at h
  exact ⟨(evAt t x).msg.toNat, by omega, by omega⟩
theorem findV_some2 {t : Tr} {k m : Int} (h : 0 < (findV t k m).2) : findV t k m ∈ ids t ∧ (evAt t (findV t k m)).kind = k ∧ (evAt t (findV t k m)).msg = m := by
  unfold findV firstOf at h ⊢
  cases hf : (ids t).find? (keyB t k m) with
  | none => rw [hf] at h; simp at h
  | some y =>
    have h1 := List.mem_of_find?_eq_some hf
    have h2 := List.find?_some hf
    simp only [keyB, Bool.and_eq_true, beq_iff_eq] at h2
    exact ⟨h1, h2⟩
theorem sentV_same {t : Tr} {D : Nat → Nat} {p m : Nat} (h : findV t 2 m ≠ (p, D p + 1)) : sentV t (fUp D p (D p + 1)) m = sentV t D m := by
  unfold sentV
  by_cases hp : (findV t 2 m).1 = p
  · rw [hp, fUp_same]
    have : (findV t 2 m).2 ≠ D p + 1 := fun e => h (Prod.ext hp e)
    by_cases hc : 0 < (findV t 2 m).2 ∧ (findV t 2 m).2 ≤ D p
    · rw [if_pos hc, if_pos (by omega)]
    · rw [if_neg hc, if_neg (by omega)]
  · rw [fUp_ne hp]
theorem sentL_other {t : Tr} {D : Nat → Nat} {p : Nat} (hk : (evAt t (p, D p + 1)).kind ≠ 2) : sentL t (fUp D p (D p + 1)) = sentL t D := by
  refine fl_congr (fun m _ => ?_)
  rw [sentV_same]
  intro e
  refine hk ?_
  have := findV_some2 (t := t) (k := 2) (m := m) (by rw [e]; simp)
  rw [e] at this
  exact this.2.1
theorem sentL_send {t : Tr} (hv : Vok t) {D : Nat → Nat} {p m : Nat} (hx : (p, D p + 1) ∈ ids t) (hk : (evAt t (p, D p + 1)).kind = 2) (hm : (evAt t (p, D p + 1)).msg = m) : (sentL t D).set m [.isl 1 ((vcs t (p, D p + 1)).map eI)] = sentL t (fUp D p (D p + 1)) := by
  have ho := sndr_own hv hx hk
  rw [hm] at ho
  unfold sentL
  rw [fl_set]
  refine fl_congr (fun j _ => ?_)
  by_cases hj : j = m
  · subst hj
    rw [fUp_same]
    unfold sentV
    rw [ho, if_pos ⟨by simp, by simp [fUp_same]⟩]
  · rw [fUp_ne hj, sentV_same]
    intro e
    have := findV_some2 (t := t) (k := 2) (m := j) (by rw [e]; simp)
    rw [e, hm] at this
    have := this.2.2
    omega
/-- What a receiver finds. -/
theorem sentV_recv {t : Tr} (hv : Vok t) {D : Nat → Nat} {p m : Nat} (hx : (p, D p + 1) ∈ ids t) (hk : (evAt t (p, D p + 1)).kind = 3) (hm : (evAt t (p, D p + 1)).msg = m) :
    sentV t D m = if (sndr t (p, D p + 1)).2 ≤ D (sndr t (p, D p + 1)).1 then .isl 1 ((vcs t (sndr t (p, D p + 1))).map eI) else .zsl := by
  obtain ⟨h1, _⟩ := back_mem hv hx (sndr_back hk)
  have h2 := (mem_ids.1 h1).2.1
  unfold sndr at h2 ⊢
  rw [hm] at h2 ⊢
  unfold sentV
  by_cases hc : (findV t 2 m).2 ≤ D (findV t 2 m).1
  · rw [if_pos ⟨by omega, hc⟩, if_pos hc]
  · rw [if_neg (fun h => hc h.2), if_neg hc]
/-- The stamp of the event before. -/
noncomputable def prvV (t : Tr) (p k : Nat) : List Int := fl t.length fun q => (vPrev t p k q : Int)
theorem prvV_zero {t : Tr} {p : Nat} : (prvV t p 0).map eI = List.replicate t.length [.int .i64 0] := by
  unfold prvV
  rw [fl_map, ← fl_const]
  refine fl_congr (fun q _ => ?_)
  simp [vPrev, eI]
theorem prvV_succ {t : Tr} {p k : Nat} : prvV t p (k + 1) = vcs t (p, k + 1) := by
  refine fl_congr (fun q _ => ?_)
  unfold vPrev; rw [if_neg (by omega)]
/-- With what is received. -/
noncomputable def rcvV (t : Tr) (p k : Nat) : List Int := if (evAt t (p, k + 1)).kind = 3 then joinV (prvV t p k) (vcs t (sndr t (p, k + 1))) else prvV t p k
theorem rcvV_len {t : Tr} {p k : Nat} : (rcvV t p k).length = t.length := by
  unfold rcvV
  split
  · rw [joinV_len (by simp [prvV, vcs, fl_len])]; simp [prvV, fl_len]
  · simp [prvV, fl_len]
theorem vcs_set {t : Tr} (hv : Vok t) {p k : Nat} (hx : (p, k + 1) ∈ ids t) : (rcvV t p k).set p ((rcvV t p k).getD p 0 + 1) = vcs t (p, k + 1) := by
  have hl := rcvV_len (t := t) (p := p) (k := k)
  have hp := (mem_ids2.1 hx).1
  have hg : ∀ q, q < t.length → (rcvV t p k).getD q 0 = ((max (vPrev t p k q) (vRecv t (p, k + 1) q) : Nat) : Int) := by
    intro q hq
    unfold rcvV vRecv
    split
    · rw [joinV_get (by simp [prvV, vcs, fl_len]) (by simp [prvV, fl_len, hq])]
      unfold prvV vcs
      rw [fl_getD hq, fl_getD hq]
      omega
    · unfold prvV; rw [fl_getD hq]; omega
  refine ext_getD (by rw [List.length_set, hl]; simp [vcs, fl_len]) (fun q hq => ?_)
  rw [List.length_set, hl] at hq
  unfold vcs
  rw [fl_getD hq, vc_step hv hx hq]
  by_cases hqp : q = p
  · subst hqp
    rw [getD_at (by rw [List.length_set, hl]; exact hq), List.getElem_set_self, hg q hq, if_pos rfl]; omega
  · rw [getD_set_ne (fun e => hqp e.symm), hg q hq, if_neg hqp]; omega
end Go.Proofs.Ytiiflkcebikecaa

/- Chapter 15: stamps, as a run. -/
namespace Go.Proofs.Ytiiflkcebikecaa
set_option linter.unusedVariables false
set_option linter.unusedSimpArgs false
attribute [local go_sem ↓] run_skip run_region run_draw run_seq run_block run_exit run_ret run_cond atN_app seqC_normal seqC_exit seqC_ret seqQ_normal seqQ_exit seqQ_ret blkQ_normal blkQ_exit blkQ_ret runOps_nil runOps_cons runD_nil runD_cons grdO_true grdO_false grdD_true grdD_false ifC_true ifC_false opS_val opS_call opS_two opK_app dS_val dS_call dS_two dK_app kUp_same kUp_ne
attribute [local go_sem] rechks_nil rechks_cons rechk gcase_true gcase_false ex_val ex_val0 gd_none gd_some ev_t ev_c evs_nil evs_cons evo_some evo_none hget_at hget_first hsetB_at hsetB_first hsetL_at hsetL_first ofOpt_some aop aload astore aslice aappend aiaddr aiaddrA afaddr alen alenS acopy amm acall alookup amupdate alenM comma keyEq apick binV binVB binVS isSh intOp strOp boolOp shOp eqC eqF and2 cellsOf setFrom fillA fillS rd rdI elems mk bounds AV.cell List.all_cons List.all_nil Bool.and_true Bool.true_and Bool.and_self List.length_cons List.length_nil List.length_append Nat.reduceAdd Nat.reduceSub Nat.reduceMul Nat.zero_add Nat.add_zero List.cons_append List.nil_append List.append_assoc List.append_nil List.getElem?_cons_zero List.getElem?_cons_succ List.getElem?_nil List.set_cons_zero List.set_cons_succ List.drop_zero List.drop_succ_cons List.take_zero List.take_succ_cons List.take_nil List.drop_nil List.map_cons List.map_nil Option.map_some if_true if_false Bool.false_eq_true and_self true_and and_true Nat.reduceLeDiff Nat.reduceLT Nat.le_refl Nat.reduceEqDiff ite_true ite_false beq_self_eq_true beq_true beq_false Bool.not_true Bool.not_false Bool.true_beq Bool.false_beq map_vs vs_len vs_get vs_take vs_drop vs_snoc1 vs_snoc2 vs_snoc3 vs_snoc5 vs_set1 vs_set2 vs_rep wrap_id le_T lt_T le_F lt_F leI_T ltI_T leI_F ltI_F geI gtI get_T decide_true decide_false room List.getElem?_map List.length_map List.length_take Int.toNat_natCast Nat.min_def Nat.min_self nth_kOf put_kOf put_kNo kOv_cons kOv_nil KHas KArgs List.getElem_cons_zero List.getElem_cons_succ
def a_stamps : AFunc := ⟨1, 107, [.tmp 2],
  (.seq (.region [⟨(some 1), .box (.t 0), none⟩, ⟨(some 2), .mv (.c (.v .zsl)), none⟩])
  (.seq (.region [⟨(some 11), .faddr 0 (.t 1), none⟩, ⟨(some 12), .load none (.t 11), none⟩, ⟨(some 13), .len (.t 12), none⟩, ⟨(some 14), .mkslice 1 [(.v .zsl)] 24 (.t 13) (.t 13), none⟩, ⟨(some 3), .mv (.t 14), none⟩])
  (.seq (.region [⟨(some 15), .mkslice 1 [(.v .zsl)] 24 (.c (.v (.int .i64 200))) (.c (.v (.int .i64 200))), none⟩, ⟨(some 4), .mv (.t 15), none⟩])
  (.seq (.seq (.region [⟨(some 5), .mv (.c (.v (.bool true))), none⟩])
  (.block 0 (.loop (.seq (.seq (.region [⟨(some 16), .mv (.t 5), none⟩])
  (.cond (.t 16) .skip
  (.exit 0)))
  (.block 1 (.seq (.region [⟨(some 5), .mv (.c (.v (.bool false))), none⟩])
  (.seq (.region [⟨(some 17), .faddr 0 (.t 1), none⟩, ⟨(some 18), .load none (.t 17), none⟩, ⟨(some 19), .len (.t 18), none⟩, ⟨(some 20), .mv (.c (.v (.int .i64 0))), none⟩])
  (.block 2 (.loop (.seq (.region [⟨(some 21), .bin .lss (.t 20) (.t 19), none⟩])
  (.seq (.cond (.t 21) .skip
  (.exit 2))
  (.seq (.block 3 (.seq (.region [⟨(some 22), .mv (.t 20), none⟩, ⟨(some 23), .iaddr 3 (.t 18) (.t 20), none⟩, ⟨(some 24), .load (some 3) (.t 23), none⟩, ⟨(some 7), .alloc [(.v (.str ⟨#[]⟩)), (.v .zsl), (.v .zsl)], none⟩, ⟨(some 6), .mv (.t 22), none⟩, ⟨none, .store 3 (.t 7) (.t 24), none⟩])
  (.block 4 (.loop (.seq (.seq (.draw [⟨0, ⟨(some 25), .mv (.t 3), none⟩, []⟩, ⟨1, ⟨(some 26), .mv (.t 6), none⟩, []⟩, ⟨2, ⟨(some 27), .iaddr 1 (.t 25) (.t 26), none⟩, []⟩, ⟨3, ⟨(some 28), .load none (.t 27), none⟩, []⟩, ⟨4, ⟨(some 29), .len (.t 28), none⟩, []⟩, ⟨5, ⟨(some 30), .faddr 2 (.t 7), none⟩, []⟩, ⟨6, ⟨(some 31), .load none (.t 30), none⟩, []⟩, ⟨7, ⟨(some 32), .len (.t 31), none⟩, []⟩, ⟨8, ⟨(some 33), .bin .lss (.t 29) (.t 32), none⟩, []⟩])
  (.cond (.t 33) .skip
  (.exit 4)))
  (.block 5 (.seq (.draw [⟨0, ⟨(some 34), .faddr 2 (.t 7), none⟩, []⟩, ⟨1, ⟨(some 35), .load none (.t 34), none⟩, []⟩, ⟨2, ⟨(some 36), .mv (.t 3), none⟩, []⟩, ⟨3, ⟨(some 37), .mv (.t 6), none⟩, []⟩, ⟨4, ⟨(some 38), .iaddr 1 (.t 36) (.t 37), none⟩, []⟩, ⟨5, ⟨(some 39), .load none (.t 38), none⟩, []⟩, ⟨6, ⟨(some 40), .len (.t 39), none⟩, []⟩, ⟨7, ⟨(some 41), .iaddr 5 (.t 35) (.t 40), none⟩, []⟩, ⟨8, ⟨(some 42), .load (some 5) (.t 41), none⟩, []⟩, ⟨9, ⟨(some 8), .alloc [(.v (.int .i64 0)), (.v (.int .i64 0)), (.v (.int .i64 0)), (.v (.int .i64 0)), (.v .zsl)], none⟩, [⟨(some 34), .faddr 2 (.t 7), none⟩, ⟨(some 35), .load none (.t 34), none⟩, ⟨(some 36), .mv (.t 3), none⟩, ⟨(some 37), .mv (.t 6), none⟩, ⟨(some 38), .iaddr 1 (.t 36) (.t 37), none⟩, ⟨(some 39), .load none (.t 38), none⟩, ⟨(some 40), .len (.t 39), none⟩, ⟨(some 41), .iaddr 5 (.t 35) (.t 40), none⟩, ⟨(some 42), .load (some 5) (.t 41), none⟩]⟩, ⟨10, ⟨none, .store 5 (.t 8) (.t 42), none⟩, []⟩])
  (.seq (.region [⟨(some 43), .faddr 0 (.t 1), none⟩, ⟨(some 44), .load none (.t 43), none⟩, ⟨(some 45), .len (.t 44), none⟩, ⟨(some 46), .mkslice 1 [(.v (.int .i64 0))] 8 (.t 45) (.t 45), none⟩, ⟨(some 9), .mv (.t 46), none⟩])
  (.seq (.seq (.region [⟨(some 47), .mv (.t 3), none⟩, ⟨(some 48), .mv (.t 6), none⟩, ⟨(some 49), .iaddr 1 (.t 47) (.t 48), none⟩, ⟨(some 50), .load none (.t 49), none⟩, ⟨(some 51), .len (.t 50), none⟩, ⟨(some 10), .mv (.t 51), none⟩])
  (.seq (.region [⟨(some 52), .mv (.t 10), none⟩, ⟨(some 53), .bin .gtr (.t 52) (.c (.v (.int .i64 0))), none⟩])
  (.cond (.t 53) (.region [⟨(some 54), .mv (.t 9), none⟩, ⟨(some 55), .mv (.t 3), none⟩, ⟨(some 56), .mv (.t 6), none⟩, ⟨(some 57), .iaddr 1 (.t 55) (.t 56), none⟩, ⟨(some 58), .load none (.t 57), none⟩, ⟨(some 59), .mv (.t 10), none⟩, ⟨(some 60), .bin .sub (.t 59) (.c (.v (.int .i64 1))), none⟩, ⟨(some 61), .iaddr 1 (.t 58) (.t 60), none⟩, ⟨(some 62), .load none (.t 61), none⟩, ⟨(some 63), .copy 1 (.t 54) (.t 62), none⟩])
  .skip)))
  (.seq (.seq (.region [⟨(some 64), .faddr 0 (.t 8), none⟩, ⟨(some 65), .load none (.t 64), none⟩, ⟨(some 66), .bin .eql (.t 65) (.c (.v (.int .i64 3))), none⟩])
  (.cond (.t 66) (.seq (.seq (.region [⟨(some 67), .mv (.t 4), none⟩, ⟨(some 68), .faddr 2 (.t 8), none⟩, ⟨(some 69), .load none (.t 68), none⟩, ⟨(some 70), .iaddr 1 (.t 67) (.t 69), none⟩, ⟨(some 71), .load none (.t 70), none⟩, ⟨(some 72), .len (.t 71), none⟩, ⟨(some 73), .bin .eql (.t 72) (.c (.v (.int .i64 0))), none⟩])
  (.cond (.t 73) (.exit 4)
  .skip))
  (.region [⟨(some 74), .mv (.t 9), none⟩, ⟨(some 75), .mv (.t 4), none⟩, ⟨(some 76), .faddr 2 (.t 8), none⟩, ⟨(some 77), .load none (.t 76), none⟩, ⟨(some 78), .iaddr 1 (.t 75) (.t 77), none⟩, ⟨(some 79), .load none (.t 78), none⟩, ⟨(some 80), .call (.c (.fn 88 [])) [(.t 74), (.t 79)], none⟩, ⟨(some 9), .mv (.t 80), none⟩]))
  .skip))
  (.seq (.region [⟨(some 81), .mv (.t 9), none⟩, ⟨(some 82), .mv (.t 6), none⟩, ⟨(some 83), .iaddr 1 (.t 81) (.t 82), none⟩, ⟨(some 84), .load none (.t 83), none⟩, ⟨(some 85), .bin .add (.t 84) (.c (.v (.int .i64 1))), none⟩, ⟨(some 86), .iaddr 1 (.t 81) (.t 82), none⟩, ⟨none, .store 1 (.t 86) (.t 85), none⟩])
  (.seq (.seq (.region [⟨(some 87), .faddr 0 (.t 8), none⟩, ⟨(some 88), .load none (.t 87), none⟩, ⟨(some 89), .bin .eql (.t 88) (.c (.v (.int .i64 2))), none⟩])
  (.cond (.t 89) (.region [⟨(some 90), .mv (.t 4), none⟩, ⟨(some 91), .faddr 2 (.t 8), none⟩, ⟨(some 92), .load none (.t 91), none⟩, ⟨(some 93), .mv (.t 9), none⟩, ⟨(some 94), .iaddr 1 (.t 90) (.t 92), none⟩, ⟨none, .store 1 (.t 94) (.t 93), none⟩])
  .skip))
  (.seq (.region [⟨(some 95), .mv (.t 3), none⟩, ⟨(some 96), .mv (.t 6), none⟩, ⟨(some 97), .mv (.t 3), none⟩, ⟨(some 98), .mv (.t 6), none⟩, ⟨(some 99), .iaddr 1 (.t 97) (.t 98), none⟩, ⟨(some 100), .load none (.t 99), none⟩, ⟨(some 101), .mv (.t 9), none⟩, ⟨(some 102), .bslice 1 [(.v .zsl)] 1 [(0, (.t 101))], none⟩, ⟨(some 103), .append 1 24 (.t 100) (.t 102), none⟩, ⟨(some 104), .iaddr 1 (.t 95) (.t 96), none⟩, ⟨none, .store 1 (.t 104) (.t 103), none⟩])
  (.region [⟨(some 5), .mv (.c (.v (.bool true))), none⟩]))))))))))))))
  (.region [⟨(some 105), .bin .add (.t 20) (.c (.v (.int .i64 1))), none⟩, ⟨(some 20), .mv (.t 105), none⟩])))))))))))))
  (.seq (.region [⟨(some 106), .mv (.t 3), none⟩, ⟨(some 2), .mv (.t 106), none⟩])
  .ret)))))⟩
theorem a_stamps_ok : cFunc Try.prog 73 = some a_stamps := by kernel_rfl
def r_stamps0 : List (Nat × Nat) := [(5, 10), (16, 105)]
def r_stamps1 : List (Nat × Nat) := [(5, 10), (20, 105)]
def r_stamps2 : List (Nat × Nat) := [(5, 5), (8, 10), (25, 104)]

/-- The same, with its own row handed out. -/
theorem joined_own (v w : List Int) (h1 : 1 ≤ v.length) (h2 : v.length ≤ 1000000) (h : v.length = w.length) (b l : List Row) : ACalls Try.prog 88 [.v (.isl 1 (v.map eI)), .v (.isl 1 (w.map eI))] b l (fun r b' l' => r = .sl (b.length + l.length) 1 0 v.length ∧ b' = b ∧ l' = l ++ [.live 1 1 (vs ((joinV v w).map eI))]) := by
  refine calls_kept a_joined_ok rfl (by decide) ?_
  intro B g hB hR hE hA
  simp only [KArgs] at hA
  simp (disch := decide) only [a_joined, hA, go_sem]
  refine ACalls_mono _ _ _ _ _ _ (clo1_spec v h1 h2 _ _) ?_
  rintro r b' l' ⟨rfl, rfl, rfl⟩
  have j0 := joTo_zero v w
  simp (disch := (first | decide | omega)) only [hA, List.length_map, go_sem]
  refine loop_kept (ι := Nat) r_joined0 (fun i => [(12, .v (.int .i64 i))]) 1 (fun i => [.live 1 1 (vs ((joTo v w i).map eI))])
    (fun i => i ≤ v.length) (fun i => v.length - i) 0 (Nat.zero_le _) (by (repeat (first | exact hE.mono (by omega) | refine KLt.up ?_ (by simp (disch := omega) only [AVlt_v, AVlt_any, AVlt_sl, AVlt_ptr, AVlt_mp, AVlt_agg, AVlt_tup, AVlt_fn, RowsLt_nil, RowsLt_live, RowsLt_dead, List.mem_cons, List.not_mem_nil, List.forall_mem_cons, List.forall_mem_nil, or_false, false_or, forall_eq_or_imp, forall_eq, vs_lt, Nat.add_lt_add_iff_left, Nat.reduceLT, true_and, and_true, and_self, List.length_cons, List.length_nil, Nat.reduceAdd, Nat.zero_add, implies_true, false_imp_iff, lt_T, List.mem_map])))) (by ((try simp (disch := decide) only [hA, go_sem]) <;> (repeat' (first | exact trivial | refine And.intro ?_ ?_)) <;> (first | rfl | (congr 2; omega)))) (fun e => by rw [j0]; exact Weak.refl _ _ _) ?_
  intro g1 hE1 hEE1 hg1 i hi
  by_cases hlt : i < v.length
  · have hlw : i < w.length := by omega
    have jl := joTo_len h i hi
    have jg := joTo_get h hlt (by omega)
    have js := joTo_set h hlt hlw
    have hm : (if v[i] < w[i] then w[i] else v[i]) = max v[i] w[i] := by split <;> omega
    simp (disch := (first | decide | omega)) only [hA, hg1, eI, jg, hm, js, jl, go_sem]
    refine ⟨i + 1, hlt, by simp only; omega, ?_⟩
    exact Weak.kround (p := r_joined0) (k := 1) (by ((repeat refine (kAny_up rfl).trans ?_); exact hEE1)) (by ((try simp (disch := decide) only [hA, go_sem]) <;> (repeat' (first | exact trivial | refine And.intro ?_ ?_)) <;> (first | rfl | (congr 2; omega)))) rfl hE1 (by simp) (by simp (disch := omega) only [KOvLt, AVlt_v, AVlt_any, AVlt_sl, AVlt_ptr, AVlt_mp, AVlt_agg, AVlt_tup, AVlt_fn, RowsLt_nil, RowsLt_live, RowsLt_dead, List.mem_cons, List.not_mem_nil, List.forall_mem_cons, List.forall_mem_nil, or_false, false_or, forall_eq_or_imp, forall_eq, vs_lt, Nat.add_lt_add_iff_left, Nat.reduceLT, true_and, and_true, and_self, List.length_cons, List.length_nil, Nat.reduceAdd, Nat.zero_add, implies_true, false_imp_iff, lt_T, List.mem_map]) hR (by simp (disch := omega) only [AVlt_v, AVlt_any, AVlt_sl, AVlt_ptr, AVlt_mp, AVlt_agg, AVlt_tup, AVlt_fn, RowsLt_nil, RowsLt_live, RowsLt_dead, List.mem_cons, List.not_mem_nil, List.forall_mem_cons, List.forall_mem_nil, or_false, false_or, forall_eq_or_imp, forall_eq, vs_lt, Nat.add_lt_add_iff_left, Nat.reduceLT, true_and, and_true, and_self, List.length_cons, List.length_nil, Nat.reduceAdd, Nat.zero_add, implies_true, false_imp_iff, lt_T, List.mem_map])
  · have jl := joTo_len h i hi
    simp (disch := (first | decide | omega)) only [hA, hg1, go_sem]
    obtain rfl : i = v.length := by omega
    have hlen : b'.length = b.length + l.length := by rw [hB, List.length_append]
    exact leave_own (ver := 1) (sz := 1) (n := v.length) (rows := (joTo v w v.length).map eI) (junk := []) (.inr rfl) (by simp (disch := (first | decide | omega)) only [resVs, resV, hA, hg1, go_sem]) rfl hR hB ⟨by rw [hlen], rfl, by rw [joTo_all h]⟩
/-- A row of the stamps of a process. -/
noncomputable def cR (t : Tr) (D : Nat → Nat) (p : Nat) : Row := .live (D p) 1 (vs (stRow t p (D p)))
/-- The rows of the work. -/
noncomputable def stR (t : Tr) (base : Nat) (D : Nat → Nat) (T : List Row) : List Row :=
  .live 0 1 [[.v (.isl 3 (t.map ePr))]] :: .live 0 1 (fl t.length fun p => [.sl (base + (p + 1 + 1 + 1)) (D p) 0 (D p)]) :: .live 0 1 (vs (sentL t D)) :: (fl t.length (cR t D) ++ T)
section
variable {α : Type} {n : Nat} {C : Nat → α} {T : List α}
theorem fa_at {p : Nat} (h : p < n) : (fl n C ++ T)[p]? = some (C p) := by rw [List.getElem?_append_left (by rw [fl_len]; exact h), fl_get h]
theorem fa_tail {j : Nat} : (fl n C ++ T)[n + j]? = T[j]? := by rw [List.getElem?_append_right (by rw [fl_len]; omega), fl_len, Nat.add_sub_cancel_left]
theorem fa_tail0 : (fl n C ++ T)[n]? = T[0]? := fa_tail (j := 0)
theorem fa_set {p : Nat} {x : α} (h : p < n) : (fl n C ++ T).set p x = fl n (fUp C p x) ++ T := by rw [List.set_append_left _ _ (by rw [fl_len]; exact h), fl_set]
theorem fa_settail {j : Nat} {x : α} : (fl n C ++ T).set (n + j) x = fl n C ++ T.set j x := by rw [List.set_append_right _ _ (by rw [fl_len]; omega), fl_len, Nat.add_sub_cancel_left]
theorem fa_settail0 {x : α} : (fl n C ++ T).set n x = fl n C ++ T.set 0 x := fa_settail (j := 0)
end
theorem stR_lt {t : Tr} {m base : Nat} {D : Nat → Nat} {T : List Row} (hm : base + (t.length + 3) ≤ m) (hT : RowsLt m T) : RowsLt m (stR t base D T) := by
  intro id ver sz els hr row hrow c hc
  have hp : ∀ rows : List (List IV), row ∈ vs rows → AVlt m c := by
    intro rows h
    obtain ⟨r0, _, rfl⟩ := List.mem_map.1 h
    obtain ⟨x0, _, rfl⟩ := List.mem_map.1 hc
    exact .v _
  match id, hr with
  | 0, hr =>
    cases hr
    simp only [List.mem_singleton] at hrow
    subst hrow
    simp only [List.mem_singleton] at hc
    subst hc
    exact .v _
  | 1, hr =>
    cases hr
    obtain ⟨j, hj, rfl⟩ := List.mem_map.1 hrow
    simp only [List.mem_singleton] at hc
    subst hc
    have := List.mem_range.1 hj
    exact .sl _ _ _ _ (by omega)
  | 2, hr => cases hr; exact hp _ hrow
  | id + 3, hr =>
    have hr : (fl t.length (cR t D) ++ T)[id]? = some (.live ver sz els) := hr
    by_cases hid : id < t.length
    · rw [fa_at hid] at hr
      cases hr
      exact hp _ hrow
    · rw [List.getElem?_append_right (by rw [fl_len]; omega)] at hr
      exact hT _ _ _ _ hr row hrow c hc
/-- The nil cells of the list of lists become rows. -/
theorem Weak.nilrows {t : Tr} {e : List AV} {b : List Row} : ∀ i, i ≤ t.length → Weak e b [.live 0 1 [[.v (.isl 3 (t.map ePr))]], .live 0 1 (List.replicate t.length [.v .zsl]), .live 0 1 (vs (sentL t fun _ => 0))] e b
    (.live 0 1 [[.v (.isl 3 (t.map ePr))]] :: .live 0 1 (fl t.length fun p => if p < i then [.sl (b.length + (p + 1 + 1 + 1)) 0 0 0] else [.v .zsl]) :: .live 0 1 (vs (sentL t fun _ => 0)) :: fl i (cR t fun _ => 0))
  | 0, _ => by
    have : (fl t.length fun p => if p < 0 then [.sl (b.length + (p + 1 + 1 + 1)) 0 0 0] else [AV.v .zsl]) = List.replicate t.length [.v .zsl] := by
      rw [← fl_const]; exact fl_congr (fun j _ => if_neg (by omega))
    rw [this]
    exact Weak.refl _ _ _
  | i + 1, hi => by
    refine (Weak.nilrows i (by omega)).trans ?_
    have := Weak.nilcell (e := e) (b := b) (sz := 1) (i := 1) (ver := 0) (z := 1) (k := i) (j := 0) (row := [.v .zsl]) (l := .live 0 1 [[.v (.isl 3 (t.map ePr))]] :: .live 0 1 (fl t.length fun p => if p < i then [.sl (b.length + (p + 1 + 1 + 1)) 0 0 0] else [.v .zsl]) :: .live 0 1 (vs (sentL t fun _ => 0)) :: fl i (cR t fun _ => 0)) rfl (by rw [fl_get (by omega), if_neg (by omega)]) rfl
    refine Weak.trans this ?_
    have e2 : (fl t.length fun p => if p < i then [.sl (b.length + (p + 1 + 1 + 1)) 0 0 0] else [AV.v .zsl]).set i [.sl (b.length + (i + 1 + 1 + 1)) 0 0 0] = fl t.length fun p => if p < i + 1 then [.sl (b.length + (p + 1 + 1 + 1)) 0 0 0] else [.v .zsl] := by
      rw [fl_set]
      refine fl_congr (fun j _ => ?_)
      unfold fUp
      by_cases hj : j = i
      · subst hj; rw [if_pos rfl, if_pos (by omega)]
      · rw [if_neg hj]
        show (if j < i then _ else _) = _
        by_cases hji : j < i
        · rw [if_pos hji, if_pos (by omega)]
        · rw [if_neg hji, if_neg (by omega)]
    have e3 : fl i (cR t fun _ => 0) ++ [.live 0 1 []] = fl (i + 1) (cR t fun _ => 0) := fl_next rfl
    simp only [List.set_cons_succ, List.set_cons_zero, List.length_cons, fl_len, List.cons_append, e3]
    rw [e2]
    exact Weak.refl _ _ _
theorem Weak.nilall {t : Tr} {e : List AV} {b : List Row} : Weak e b [.live 0 1 [[.v (.isl 3 (t.map ePr))]], .live 0 1 (List.replicate t.length [.v .zsl]), .live 0 1 (List.replicate 200 [AV.v IV.zsl])] e b (stR t b.length (fun _ => 0) []) := by
  have h := Weak.nilrows (t := t) (e := e) (b := b) t.length (Nat.le_refl _)
  have e2 : (fl t.length fun p => if p < t.length then [.sl (b.length + (p + 1 + 1 + 1)) 0 0 0] else [AV.v .zsl]) = fl t.length fun p => [.sl (b.length + (p + 1 + 1 + 1)) 0 0 0] := fl_congr (fun j hj => if_pos hj)
  rw [e2] at h
  rw [sentL_zero (t := t)]
  unfold stR
  rw [List.append_nil]
  exact h
end Go.Proofs.Ytiiflkcebikecaa

/- Chapter 15: stamps, as a run. -/
namespace Go.Proofs.Ytiiflkcebikecaa
set_option linter.unusedVariables false
set_option linter.unusedSimpArgs false
attribute [local go_sem ↓] run_skip run_region run_draw run_seq run_block run_exit run_ret run_cond atN_app seqC_normal seqC_exit seqC_ret seqQ_normal seqQ_exit seqQ_ret blkQ_normal blkQ_exit blkQ_ret runOps_nil runOps_cons runD_nil runD_cons grdO_true grdO_false grdD_true grdD_false ifC_true ifC_false opS_val opS_call opS_two opK_app dS_val dS_call dS_two dK_app kUp_same kUp_ne
attribute [local go_sem] rechks_nil rechks_cons rechk gcase_true gcase_false ex_val ex_val0 gd_none gd_some ev_t ev_c evs_nil evs_cons evo_some evo_none hget_at hget_first hsetB_at hsetB_first hsetL_at hsetL_first ofOpt_some aop aload astore aslice aappend aiaddr aiaddrA afaddr alen alenS acopy amm acall alookup amupdate alenM comma keyEq apick binV binVB binVS isSh intOp strOp boolOp shOp eqC eqF and2 cellsOf setFrom fillA fillS rd rdI elems mk bounds AV.cell List.all_cons List.all_nil Bool.and_true Bool.true_and Bool.and_self List.length_cons List.length_nil List.length_append Nat.reduceAdd Nat.reduceSub Nat.reduceMul Nat.zero_add Nat.add_zero List.cons_append List.nil_append List.append_assoc List.append_nil List.getElem?_cons_zero List.getElem?_cons_succ List.getElem?_nil List.set_cons_zero List.set_cons_succ List.drop_zero List.drop_succ_cons List.take_zero List.take_succ_cons List.take_nil List.drop_nil List.map_cons List.map_nil Option.map_some if_true if_false Bool.false_eq_true and_self true_and and_true Nat.reduceLeDiff Nat.reduceLT Nat.le_refl Nat.reduceEqDiff ite_true ite_false beq_self_eq_true beq_true beq_false Bool.not_true Bool.not_false Bool.true_beq Bool.false_beq map_vs vs_len vs_get vs_take vs_drop vs_snoc1 vs_snoc2 vs_snoc3 vs_snoc5 vs_set1 vs_set2 vs_rep wrap_id le_T lt_T le_F lt_F leI_T ltI_T leI_F ltI_F geI gtI get_T decide_true decide_false room List.getElem?_map List.length_map List.length_take Int.toNat_natCast Nat.min_def Nat.min_self nth_kOf put_kOf put_kNo kOv_cons kOv_nil KHas KArgs List.getElem_cons_zero List.getElem_cons_succ
def Dn (t : Tr) (D : Nat → Nat) : Prop := ∀ p, p < t.length → D p ≤ (evsOf t p).length
/-- What a round has done since its start at D0, before process n. -/
def Prg (t : Tr) (D0 D : Nat → Nat) (ag : Bool) (n : Nat) : Prop := Dn t D ∧ (ag = false → D = D0 ∧ ∀ q, q < n → ¬ Rdy t D0 q) ∧ (ag = true → remT t D < remT t D0)
theorem stR_lt0 {t : Tr} {m base : Nat} {D : Nat → Nat} (hm : base + (t.length + 3) ≤ m) : RowsLt m (.live 0 1 [[.v (.isl 3 (t.map ePr))]] :: .live 0 1 (fl t.length fun p => [.sl (base + (p + 1 + 1 + 1)) (D p) 0 (D p)]) :: .live 0 1 (vs (sentL t D)) :: fl t.length (cR t D)) := by
  have h := stR_lt (t := t) (D := D) hm RowsLt_nil
  unfold stR at h
  rwa [List.append_nil] at h
theorem oR_frz {n id ver sz base p : Nat} {rows : List (List IV)} {D : Nat → Nat} (hp : p < n) (hid : base + (n + 3) ≤ id) :
    ((fl n fun q => [AV.sl (base + (q + 1 + 1 + 1)) (D q) 0 (D q)]).set p [.sl (base + (p + 1 + 1 + 1)) (D p + 1) 0 (D p + 1)]).map (List.map (frz0 id ver sz rows)) = fl n fun q => [.sl (base + (q + 1 + 1 + 1)) (fUp D p (D p + 1) q) 0 (fUp D p (D p + 1) q)] := by
  rw [fl_set, fl_map]
  refine fl_congr (fun q hq => ?_)
  by_cases hqp : q = p
  · subst hqp
    rw [fUp_same, fUp_same]
    simp only [List.map_cons, List.map_nil, frz0]
    rw [if_neg (by omega)]
  · rw [fUp_ne hqp, fUp_ne hqp]
    simp only [List.map_cons, List.map_nil, frz0]
    rw [if_neg (by omega)]
theorem cR_frz {t : Tr} {id ver p : Nat} {D : Nat → Nat} (hp : p < t.length) :
    (fl t.length (fUp (cR t D) p (.live (D p + 1) 1 (vs (stRow t p (D p)) ++ [[.sl id ver 0 t.length]])))).map (rowMap (frz0 id ver 1 ((vcs t (p, D p + 1)).map eI))) = fl t.length (cR t (fUp D p (D p + 1))) := by
  rw [fl_map]
  refine fl_congr (fun q hq => ?_)
  by_cases hqp : q = p
  · subst hqp
    unfold cR
    rw [fUp_same, fUp_same]
    simp only [rowMap, List.map_append, vs_frz0, List.map_cons, List.map_nil, frz0]
    rw [if_pos ⟨trivial, trivial, by simp [vcs, fl_len]⟩, ← stRow_next]
    simp [vs, vcs, fl_len]
    unfold fl
    rw [List.take_of_length_le (by simp)]
  · unfold cR
    rw [fUp_ne hqp, fUp_ne hqp]
    simp only [rowMap, vs_frz0]
theorem sent_frz {t : Tr} (hv : Vok t) {id ver p m : Nat} {D : Nat → Nat} (hx : (p, D p + 1) ∈ ids t) (hk : (evAt t (p, D p + 1)).kind = 2) (hm : (evAt t (p, D p + 1)).msg = m) :
    ((vs (sentL t D)).set m [.sl id ver 0 t.length]).map (List.map (frz0 id ver 1 ((vcs t (p, D p + 1)).map eI))) = vs (sentL t (fUp D p (D p + 1))) := by
  rw [← sentL_send hv hx hk hm, List.map_set, vs_frz0]
  simp only [List.map_cons, List.map_nil, frz0]
  rw [if_pos ⟨trivial, trivial, by simp [vcs, fl_len]⟩]
  simp only [vs, List.map_set, List.map_cons, List.map_nil, List.drop_zero]
  rw [List.take_of_length_le (by simp [vcs, fl_len])]
/-- The row of a process at hand. -/
def xRow (x : Pr) : Row := .live 0 3 [[.v (.str x.name), .v (.isl 2 (x.vars.map eVr)), .v (.isl 5 (x.evs.map eEv))]]
theorem st_frz {t : Tr} {base ver p j : Nat} {D : Nat → Nat} {S : List (List AV)} {S' : List (List IV)} {x : Pr} {T : List Row} (hp : p < t.length)
    (hS : S.map (List.map (frz0 (base + (t.length + (j + 1) + 1 + 1 + 1)) ver 1 ((vcs t (p, D p + 1)).map eI))) = vs S') :
    ((Row.live 0 1 [[.v (.isl 3 (t.map ePr))]] :: Row.live 0 1 ((fl t.length fun q => [AV.sl (base + (q + 1 + 1 + 1)) (D q) 0 (D q)]).set p [.sl (base + (p + 1 + 1 + 1)) (D p + 1) 0 (D p + 1)]) :: Row.live 0 1 S ::
      (fl t.length (fUp (cR t D) p (.live (D p + 1) 1 (vs (stRow t p (D p)) ++ [[.sl (base + (t.length + (j + 1) + 1 + 1 + 1)) ver 0 t.length]]))) ++ xRow x :: T)).set (t.length + (j + 1) + 1 + 1 + 1) (.dead ver)).map (rowMap (frz0 (base + (t.length + (j + 1) + 1 + 1 + 1)) ver 1 ((vcs t (p, D p + 1)).map eI)))
    = (Row.live 0 1 [[.v (.isl 3 (t.map ePr))]] :: Row.live 0 1 (fl t.length fun q => [AV.sl (base + (q + 1 + 1 + 1)) (fUp D p (D p + 1) q) 0 (fUp D p (D p + 1) q)]) :: Row.live 0 1 (vs S') :: (fl t.length (cR t (fUp D p (D p + 1))) ++ [xRow x])) ++ (T.set j (.dead ver)).map (rowMap (frz0 (base + (t.length + (j + 1) + 1 + 1 + 1)) ver 1 ((vcs t (p, D p + 1)).map eI))) := by
  simp only [List.set_cons_succ, fa_settail, List.map_cons, List.map_append, rowMap, hS, cR_frz hp]
  rw [oR_frz hp (by omega)]
  simp [rowMap, xRow, frz0]
theorem stR_ltx {t : Tr} {m base : Nat} {D : Nat → Nat} {x : Pr} (hm : base + (t.length + 3) ≤ m) : RowsLt m (.live 0 1 [[.v (.isl 3 (t.map ePr))]] :: .live 0 1 (fl t.length fun p => [.sl (base + (p + 1 + 1 + 1)) (D p) 0 (D p)]) :: .live 0 1 (vs (sentL t D)) :: (fl t.length (cR t D) ++ [xRow x])) :=
  stR_lt (t := t) (D := D) (T := [xRow x]) hm (by simp (disch := omega) only [xRow, AVlt_v, AVlt_any, AVlt_sl, AVlt_ptr, AVlt_mp, AVlt_agg, AVlt_tup, AVlt_fn, RowsLt_nil, RowsLt_live, RowsLt_dead, List.mem_cons, List.not_mem_nil, List.forall_mem_cons, List.forall_mem_nil, or_false, false_or, forall_eq_or_imp, forall_eq, vs_lt, Nat.add_lt_add_iff_left, Nat.reduceLT, true_and, and_true, and_self, List.length_cons, List.length_nil, Nat.reduceAdd, Nat.zero_add, implies_true, false_imp_iff, lt_T, List.mem_map])
/-- The rows of the work, the first i frozen. -/
noncomputable def sfR (t : Tr) (base : Nat) (D : Nat → Nat) (i : Nat) : List Row :=
  .live 0 1 [[.v (.isl 3 (t.map ePr))]] :: .live 0 1 (fl t.length fun p => if p < i then [.v (.isl 1 (stRow t p (D p)))] else [.sl (base + (p + 1 + 1 + 1)) (D p) 0 (D p)]) :: .live 0 1 (vs (sentL t D)) :: fl t.length fun p => if p < i then .dead (D p) else cR t D p
theorem sfR_step {t : Tr} {base : Nat} {D : Nat → Nat} {i : Nat} (h : i < t.length) :
    ((sfR t base D i).set (i + 1 + 1 + 1) (.dead (D i))).map (rowMap (frz0 (base + (i + 1 + 1 + 1)) (D i) 1 (stRow t i (D i)))) = sfR t base D (i + 1) := by
  unfold sfR
  simp only [List.set_cons_succ, List.map_cons, rowMap, vs_frz0, fl_set, fl_map]
  have e0 : List.map (frz0 (base + (i + 1 + 1 + 1)) (D i) 1 (stRow t i (D i))) [AV.v (.isl 3 (t.map ePr))] = [AV.v (.isl 3 (t.map ePr))] := rfl
  refine congr (congrArg _ ?_) ?_
  · simp [frz0]
  refine congr (congrArg _ ?_) (congrArg _ ?_)
  · congr 1
    refine fl_congr (fun j hj => ?_)
    by_cases h1 : j < i
    · rw [if_pos h1, if_pos (by omega)]; rfl
    · rw [if_neg h1]
      by_cases h2 : j = i
      · subst h2
        rw [if_pos (by omega)]
        have : (stRow t j (D j)).length = D j := fl_len
        simp only [List.map_cons, List.map_nil, frz0]
        rw [if_pos ⟨trivial, trivial, by omega⟩, List.drop_zero, List.take_of_length_le (by omega)]
      · rw [if_neg (by omega)]
        simp only [List.map_cons, List.map_nil, frz0]
        rw [if_neg (by omega)]
  · refine fl_congr (fun j hj => ?_)
    by_cases h2 : j = i
    · subst h2
      rw [fUp_same, if_pos (by omega)]
    · rw [fUp_ne h2]
      by_cases h1 : j < i
      · rw [if_pos h1, if_pos (by omega)]
      · rw [if_neg h1, if_neg (by omega)]
        unfold cR
        simp only [rowMap, vs_frz0]
theorem Weak.sfrz {e : List AV} {b : List Row} {t : Tr} {D : Nat → Nat} (he : ∀ i, i < t.length → e.map (frz (b.length + (i + 1 + 1 + 1)) (D i) 1 (stRow t i (D i))) = e) : ∀ i, i ≤ t.length → Weak e b (sfR t b.length D 0) e b (sfR t b.length D i)
  | 0, _ => Weak.refl _ _ _
  | i + 1, hi => by
    refine (Weak.sfrz he i (by omega)).trans ?_
    have := Weak.freezeR (e := e) (b := b) (l := sfR t b.length D i) (i := i + 1 + 1 + 1) (ver := D i) (sz := 1) (rows := stRow t i (D i)) (by
      unfold sfR
      simp only [List.getElem?_cons_succ]
      rw [fl_get (by omega), if_neg (by omega)]; rfl)
    rwa [he i (by omega), sfR_step (by omega)] at this
theorem leave_st {rs : List ARes} {Q : AV → List Row → List Row → Prop} {B e l : _} {t : Tr} {D : Nat → Nat} (hD : ∀ p, p < t.length → D p = (evsOf t p).length) (hx : resVs e B l rs = some [.sl (B.length + 1) 0 0 t.length]) (hl : l = stR t B.length D [])
    (hR : RowsLt B.length B) {b0 l0 : List Row} (hB : B = b0 ++ l0) (hq : Q (.v (.isl 1 (stAll t t.length))) b0 l0) : Leaves rs Q b0.length .ret e B l := by
  have e1 : stR t B.length D [] = sfR t B.length D 0 := by
    unfold stR sfR
    rw [List.append_nil]
    simp
  have e2 : (sfR t B.length D t.length)[1]? = some (.live 0 1 (vs (stAll t t.length))) := by
    unfold sfR
    simp only [List.getElem?_cons_succ, List.getElem?_cons_zero]
    congr 2
    unfold vs stAll
    rw [fl_map]
    refine fl_congr (fun j hj => ?_)
    rw [if_pos hj, hD j hj]; rfl
  refine leave (.inr rfl) hx (y := .v (.isl 1 (stAll t t.length))) (l' := []) ?_ hB (by simpa using hq)
  rw [hl, e1]
  refine (Weak.sfrz (e := [one [AV.sl (B.length + 1) 0 0 t.length]]) (b := B) (fun i hi => ?_) t.length (Nat.le_refl _)).trans ?_
  · simp only [one, List.map_cons, List.map_nil, frz, frz0]
    rw [if_neg (by omega)]
  have h1 := Weak.freezeR (e := [one [AV.sl (B.length + 1) 0 0 t.length]]) (b := B) (i := 1) (rows := stAll t t.length) e2
  refine h1.trans ?_
  have h2 : List.map (frz (B.length + 1) 0 1 (stAll t t.length)) [one [AV.sl (B.length + 1) 0 0 t.length]] = [.v (.isl 1 (stAll t t.length))] := by
    simp [one, frz, frz0, stAll, fl_len]
    unfold fl
    rw [List.take_of_length_le (by simp)]
  rw [h2]
  exact Weak.trim (l1 := []) rfl (by
    intro x hx
    simp only [List.mem_singleton] at hx
    subst hx
    exact .v _) (by simpa using hR) RowsLt_nil
set_option maxRecDepth 20000 in
set_option maxHeartbeats 2000000 in
theorem stamps_spec (t : Tr) (hv : Vok t) (hS : Small t) (b l : List Row) :
    ACalls Try.prog 73 [.agg [.v (eT t)]] b l (fun r b' l' => r = .v (.isl 1 (stAll t t.length)) ∧ b' = b ∧ l' = l) := by
  refine calls_kept a_stamps_ok rfl (by decide) ?_
  intro B g hB hR hE hA
  simp only [KArgs] at hA
  have hlo := hv.hi
  simp (disch := (first | decide | omega)) only [a_stamps, eT, hA, List.length_map, go_sem]
  refine loop_kept (ι := (Nat → Nat) × Bool) r_stamps0 (fun i => [(5, .v (.bool i.2))]) (t.length + 3) (fun i => stR t B.length i.1 [])
    (fun i => Dn t i.1 ∧ (i.2 = false → ∀ p, p < t.length → i.1 p = (evsOf t p).length)) (fun i => 2 * remT t i.1 + cond i.2 1 0) (fun _ => 0, true) ⟨fun p hp => Nat.zero_le _, fun h => by cases h⟩ (by (repeat (first | exact hE.mono (by omega) | refine KLt.up ?_ (by simp (disch := omega) only [AVlt_v, AVlt_any, AVlt_sl, AVlt_ptr, AVlt_mp, AVlt_agg, AVlt_tup, AVlt_fn, RowsLt_nil, RowsLt_live, RowsLt_dead, List.mem_cons, List.not_mem_nil, List.forall_mem_cons, List.forall_mem_nil, or_false, false_or, forall_eq_or_imp, forall_eq, vs_lt, Nat.add_lt_add_iff_left, Nat.reduceLT, true_and, and_true, and_self, List.length_cons, List.length_nil, Nat.reduceAdd, Nat.zero_add, implies_true, false_imp_iff, lt_T, List.mem_map])))) (by ((try simp (disch := decide) only [hA, go_sem]) <;> (repeat' (first | exact trivial | refine And.intro ?_ ?_)) <;> (first | rfl | (congr 2; omega)))) (fun e => by have h := Weak.nilall (t := t) (e := e) (b := B); simp only [vs, List.map_replicate, List.map_cons, List.map_nil]; exact h) ?_
  rintro g1 hE1 hEE1 hg1 ⟨D0, ag0⟩ ⟨hD0, hag0⟩
  cases ag0 with
  | false =>
    have hall := hag0 rfl
    simp (disch := (first | decide | omega)) only [hA, hg1, go_sem]
    exact leave_st hall (by simp (disch := (first | decide | omega)) only [resVs, resV, hA, hg1, go_sem]) rfl hR hB ⟨rfl, rfl, rfl⟩
  | true =>
    simp (disch := (first | decide | omega)) only [hA, hg1, List.length_map, stR, go_sem]
    refine loop_kept (ι := Nat × (Nat → Nat) × Bool) r_stamps1 (fun i => [(5, .v (.bool i.2.2)), (20, .v (.int .i64 i.1))]) (t.length + 3) (fun i => stR t B.length i.2.1 [])
      (fun i => i.1 ≤ t.length ∧ Prg t D0 i.2.1 i.2.2 i.1) (fun i => t.length - i.1) (0, D0, false) ⟨Nat.zero_le _, hD0, fun _ => ⟨rfl, fun q hq => by omega⟩, fun h => by cases h⟩ (by (repeat (first | exact hE1.mono (by omega) | refine KLt.up ?_ (by simp (disch := omega) only [AVlt_v, AVlt_any, AVlt_sl, AVlt_ptr, AVlt_mp, AVlt_agg, AVlt_tup, AVlt_fn, RowsLt_nil, RowsLt_live, RowsLt_dead, List.mem_cons, List.not_mem_nil, List.forall_mem_cons, List.forall_mem_nil, or_false, false_or, forall_eq_or_imp, forall_eq, vs_lt, Nat.add_lt_add_iff_left, Nat.reduceLT, true_and, and_true, and_self, List.length_cons, List.length_nil, Nat.reduceAdd, Nat.zero_add, implies_true, false_imp_iff, lt_T, List.mem_map])))) (by ((try simp (disch := decide) only [hA, hg1, go_sem]) <;> (repeat' (first | exact trivial | refine And.intro ?_ ?_)) <;> (first | rfl | (congr 2; omega)))) (fun e => by unfold stR; rw [List.append_nil]; exact Weak.refl _ _ _) ?_
    rintro g2 hE2 hEE2 hg2 ⟨p, D1, ag1⟩ ⟨hp, hP1⟩
    simp only at hp hP1
    by_cases hlt : p < t.length
    · have heq := evsOf_lt hlt
      have hne := hS.ne _ (List.getElem_mem hlt)
      simp (disch := (first | decide | omega)) only [hA, hg1, hg2, ePr, List.length_map, stR, fl_len, fa_at, fa_tail, fa_tail0, fa_set, fa_settail, fa_settail0, fl_get, go_sem]
      refine loop_kept (ι := (Nat → Nat) × Bool) r_stamps2 (fun i => [(5, .v (.bool i.2))]) (t.length + 4) (fun i => stR t B.length i.1 [xRow t[p]])
        (fun i => Prg t D0 i.1 i.2 p) (fun i => remT t i.1) (D1, ag1) hP1 (by (repeat (first | exact hE2.mono (by omega) | refine KLt.up ?_ (by simp (disch := omega) only [AVlt_v, AVlt_any, AVlt_sl, AVlt_ptr, AVlt_mp, AVlt_agg, AVlt_tup, AVlt_fn, RowsLt_nil, RowsLt_live, RowsLt_dead, List.mem_cons, List.not_mem_nil, List.forall_mem_cons, List.forall_mem_nil, or_false, false_or, forall_eq_or_imp, forall_eq, vs_lt, Nat.add_lt_add_iff_left, Nat.reduceLT, true_and, and_true, and_self, List.length_cons, List.length_nil, Nat.reduceAdd, Nat.zero_add, implies_true, false_imp_iff, lt_T, List.mem_map])))) (by ((try simp (disch := decide) only [hA, hg1, hg2, go_sem]) <;> (repeat' (first | exact trivial | refine And.intro ?_ ?_)) <;> (first | rfl | (congr 2; omega)))) (fun e => by first | exact Weak.refl _ _ _) ?_
      rintro g3 hE3 hEE3 hg3 ⟨D, ag⟩ hP
      simp only at hP
      by_cases hd : D p < (evsOf t p).length
      · have hd' : D p < t[p].evs.length := by rw [← heq]; exact hd
        have hcd : decide ((D p : Int) < (t[p].evs.length : Int)) = true := decide_eq_true (by omega)
        simp (disch := (first | decide | omega)) only [hA, hg1, hg2, hg3, ePr, List.length_map, stR, fl_len, fa_at, fa_tail, fa_tail0, fa_set, fa_settail, fa_settail0, fl_get, xRow, hcd, eEv, go_sem]
        have hx : (p, D p + 1) ∈ ids t := mem_ids2.2 ⟨hlt, hd⟩
        have hev : evAt t (p, D p + 1) = t[p].evs[D p] := by unfold evAt; simp [heq, List.getD, hd']
        have hpl : (prvV t p (D p)).length = t.length := fl_len
        have hrl : (rcvV t p (D p)).length = t.length := rcvV_len
        have hn0 : ((t.length : Int) == 0) = false := beq_eq_false_iff_ne.2 (by omega)
        have hown : (rcvV t p (D p)).getD p 0 = (D p : Int) := by
          have h1 : ((rcvV t p (D p)).set p ((rcvV t p (D p)).getD p 0 + 1)).getD p 0 = (vcs t (p, D p + 1)).getD p 0 := by rw [vcs_set hv hx]
          rw [getD_at (by rw [List.length_set, hrl]; exact hlt), List.getElem_set_self] at h1
          unfold vcs at h1
          rw [fl_getD hlt, vc_own hv hx] at h1
          omega
        have hrg : (rcvV t p (D p))[p]? = some (D p : Int) := by rw [List.getElem?_eq_getElem (by rw [hrl]; exact hlt), ← getD_at (d := 0), hown]
        have hrs : ((rcvV t p (D p)).map eI).set p [.int .i64 ((D p : Int) + 1)] = (vcs t (p, D p + 1)).map eI := by
          rw [← vcs_set hv hx, hown, List.map_set]; rfl
        have h32 : ((3 : Int) == 2) = false := rfl
        have hprg : Prg t D0 (fUp D p (D p + 1)) true p := by
          have hst := remT_step hlt hd
          refine ⟨fun q hq => ?_, (fun h => by cases h), fun _ => ?_⟩
          · by_cases hqp : q = p
            · subst hqp; rw [fUp_same]; omega
            · rw [fUp_ne hqp]; exact hP.1 q hq
          · cases ag with
            | true => have := hP.2.2 rfl; omega
            | false => rw [← (hP.2.1 rfl).1]; omega
        have hvl : ∀ x, (vcs t x).length = t.length := fun x => fl_len
        have hsL : (sentL t D).length = 200 := fl_len
        have hrw : (stRow t p (D p)).length = D p := fl_len
        have tkr : List.take (D p) (stRow t p (D p)) = stRow t p (D p) := List.take_of_length_le (by omega)
        by_cases hk : 0 < D p
        · have hk1 : decide (0 < (D p : Int)) = true := decide_eq_true (by omega)
          have hkt : ((D p : Int) - 1).toNat = D p - 1 := by omega
          have hst : (stRow t p (D p))[D p - 1]? = some [.isl 1 ((prvV t p (D p)).map eI)] := by
            obtain ⟨k, hkk⟩ : ∃ k, D p = k + 1 := ⟨D p - 1, by omega⟩
            rw [hkk, prvV_succ]
            exact fl_get (by omega)
          have tk : List.take t.length ((prvV t p (D p)).map eI) = (prvV t p (D p)).map eI := List.take_of_length_le (by simp [hpl])
          have dr : List.drop t.length (List.replicate t.length [IV.int .i64 0]) = [] := List.drop_eq_nil_of_le (by simp)
          simp (disch := (first | decide | omega)) only [hA, hg1, hg2, hg3, List.length_map, fl_len, fa_at, fa_tail, fa_tail0, fa_set, fa_settail, fa_settail0, fl_get, List.length_replicate, vs_nil, List.length_set, hk1, hkt, hst, hpl, tk, dr, cR, go_sem]
          by_cases hk3 : t[p].evs[D p].kind = 3
          · -- receive
            obtain ⟨m, hm, hm2⟩ := msg_in hv hx (.inr (by rw [hev]; exact hk3))
            have hsv := sentV_recv hv hx (by rw [hev]; exact hk3) hm
            rw [hev] at hm
            have hsg : (sentL t D)[m]? = some [sentV t D m] := fl_get hm2
            by_cases hr : (sndr t (p, D p + 1)).2 ≤ D (sndr t (p, D p + 1)).1
            · rw [if_pos hr] at hsv
              rw [hsv] at hsg
              have hrv : joinV (prvV t p (D p)) (vcs t (sndr t (p, D p + 1))) = rcvV t p (D p) := by unfold rcvV; rw [if_pos (by rw [hev]; exact hk3)]
              simp (disch := (first | decide | omega)) only [hA, hg1, hg2, hg3, List.length_map, fl_len, fa_at, fa_tail, fa_tail0, fa_set, fa_settail, fa_settail0, fl_get, List.length_replicate, vs_nil, List.length_set, hk3, hm, hsg, hsL, hvl, hpl, hn0, go_sem]
              refine ACalls.frzB (i := t.length + 2 + 1 + 1 + 1) (ver := 0) (sz := 1) (rows := (prvV t p (D p)).map eI) (by simp only [List.getElem?_cons_succ, fa_tail, List.getElem?_cons_zero]) (by simp only [List.map_cons, List.map_nil]; rw [frz_own (by simp [hpl]), frz_v]) ?_
              refine ACalls.nxt (joined_own (prvV t p (D p)) (vcs t (sndr t (p, D p + 1))) (by omega) (by omega) (by rw [hpl, hvl]) _ _) ?_
              rw [hrv]
              simp (disch := (first | decide | omega)) only [hA, hg1, hg2, hg3, List.length_map, fl_len, fa_at, fa_tail, fa_tail0, fa_set, fa_settail, fa_settail0, fl_get, List.length_replicate, vs_nil, List.length_set, hk3, hm, hpl, hrl, hrg, hrs, eI, hrw, tkr, cR, h32, setFrom, cellsOf, go_sem]
              refine ⟨(fUp D p (D p + 1), true), hprg, by have := remT_step hlt hd; simp only; omega, ?_⟩
              rw [← sentL_other (D := D) (p := p) (by rw [hev, hk3]; decide)]
              exact Weak.kroundF (p := r_stamps2) (i := t.length + 3 + 1 + 1 + 1) (ver := 1) (sz := 1) (rows := (vcs t (p, D p + 1)).map eI) (k := t.length + 4) (by simp only [List.getElem?_cons_succ, fa_tail, List.getElem?_cons_zero]) (by ((repeat refine (kAny_up rfl).trans ?_); exact hEE3)) (by ((try simp (disch := decide) only [hA, go_sem]) <;> (repeat' (first | exact trivial | refine And.intro ?_ ?_)) <;> (first | rfl | (congr 2; omega)))) (st_frz (j := 2) (x := t[p]) hlt vs_frz0) (by (repeat (first | exact hE3.mono (by omega) | refine KLt.up ?_ (by simp (disch := omega) only [AVlt_v, AVlt_any, AVlt_sl, AVlt_ptr, AVlt_mp, AVlt_agg, AVlt_tup, AVlt_fn, RowsLt_nil, RowsLt_live, RowsLt_dead, List.mem_cons, List.not_mem_nil, List.forall_mem_cons, List.forall_mem_nil, or_false, false_or, forall_eq_or_imp, forall_eq, vs_lt, Nat.add_lt_add_iff_left, Nat.reduceLT, true_and, and_true, and_self, List.length_cons, List.length_nil, Nat.reduceAdd, Nat.zero_add, implies_true, false_imp_iff, lt_T, List.mem_map])))) (by simp [fl_len]) (by simp [fl_len]) (by simp (disch := omega) only [KOvLt, AVlt_v, AVlt_any, AVlt_sl, AVlt_ptr, AVlt_mp, AVlt_agg, AVlt_tup, AVlt_fn, RowsLt_nil, RowsLt_live, RowsLt_dead, List.mem_cons, List.not_mem_nil, List.forall_mem_cons, List.forall_mem_nil, or_false, false_or, forall_eq_or_imp, forall_eq, vs_lt, Nat.add_lt_add_iff_left, Nat.reduceLT, true_and, and_true, and_self, List.length_cons, List.length_nil, Nat.reduceAdd, Nat.zero_add, implies_true, false_imp_iff, lt_T, List.mem_map]) hR (stR_ltx (by simp [fl_len]))
            · rw [if_neg hr] at hsv
              rw [hsv] at hsg
              simp (disch := (first | decide | omega)) only [hA, hg1, hg2, hg3, List.length_map, fl_len, fa_at, fa_tail, fa_tail0, fa_set, fa_settail, fa_settail0, fl_get, List.length_replicate, vs_nil, List.length_set, hk3, hm, hsg, hsL, hvl, hpl, hn0, go_sem]
              refine ⟨(p + 1, D, ag), ⟨hlt, hP.1, fun h => ⟨(hP.2.1 h).1, fun q hq hr2 => ?_⟩, hP.2.2⟩, by simp only; omega, ?_⟩
              · by_cases hqp : q = p
                · subst hqp; rw [← (hP.2.1 h).1] at hr2; exact hr (hr2.2 (by rw [hev]; exact hk3))
                · exact (hP.2.1 h).2 q (by omega) hr2
              · refine Weak.kround (p := r_stamps1) (k := t.length + 3) (by ((repeat refine (kAny_up rfl).trans ?_); refine (kAny_sub hg3 (kIn_sub rfl)).trans ?_; (repeat refine (kAny_up rfl).trans ?_); exact hEE2)) (by ((try simp (disch := decide) only [hA, go_sem]) <;> (repeat' (first | exact trivial | refine And.intro ?_ ?_)) <;> (first | rfl | (congr 2; omega)))) rfl (by (repeat (first | exact hE2.mono (by omega) | refine KLt.up ?_ (by simp (disch := omega) only [AVlt_v, AVlt_any, AVlt_sl, AVlt_ptr, AVlt_mp, AVlt_agg, AVlt_tup, AVlt_fn, RowsLt_nil, RowsLt_live, RowsLt_dead, List.mem_cons, List.not_mem_nil, List.forall_mem_cons, List.forall_mem_nil, or_false, false_or, forall_eq_or_imp, forall_eq, vs_lt, Nat.add_lt_add_iff_left, Nat.reduceLT, true_and, and_true, and_self, List.length_cons, List.length_nil, Nat.reduceAdd, Nat.zero_add, implies_true, false_imp_iff, lt_T, List.mem_map])))) (by simp [fl_len]) (by simp (disch := omega) only [KOvLt, AVlt_v, AVlt_any, AVlt_sl, AVlt_ptr, AVlt_mp, AVlt_agg, AVlt_tup, AVlt_fn, RowsLt_nil, RowsLt_live, RowsLt_dead, List.mem_cons, List.not_mem_nil, List.forall_mem_cons, List.forall_mem_nil, or_false, false_or, forall_eq_or_imp, forall_eq, vs_lt, Nat.add_lt_add_iff_left, Nat.reduceLT, true_and, and_true, and_self, List.length_cons, List.length_nil, Nat.reduceAdd, Nat.zero_add, implies_true, false_imp_iff, lt_T, List.mem_map]) hR (stR_lt0 (by simp [fl_len]))
          · have hk3b : (t[p].evs[D p].kind == 3) = false := beq_eq_false_iff_ne.2 hk3
            have hrv : prvV t p (D p) = rcvV t p (D p) := by unfold rcvV; rw [if_neg (by rw [hev]; exact hk3)]
            by_cases hk2 : t[p].evs[D p].kind = 2
            · obtain ⟨m, hm, hm2⟩ := msg_in hv hx (.inl (by rw [hev]; exact hk2))
              have hm0 := hm
              rw [hev] at hm
              have h23 : ((2 : Int) == 3) = false := rfl
              have hsE : ∀ h : m < (sentL t D).length, (sentL t D)[m]'h = [sentV t D m] := fun h => fl_getE h
              simp (disch := (first | decide | omega)) only [hA, hg1, hg2, hg3, List.length_map, fl_len, fa_at, fa_tail, fa_tail0, fa_set, fa_settail, fa_settail0, fl_get, List.length_replicate, vs_nil, List.length_set, hk2, h23, hm, hsL, hsE, hrv, hrl, hrg, hrs, eI, hrw, tkr, cR, setFrom, cellsOf, go_sem]
              refine ⟨(fUp D p (D p + 1), true), hprg, by have := remT_step hlt hd; simp only; omega, ?_⟩
              exact Weak.kroundF (p := r_stamps2) (i := t.length + 2 + 1 + 1 + 1) (ver := 0) (sz := 1) (rows := (vcs t (p, D p + 1)).map eI) (k := t.length + 4) (by simp only [List.getElem?_cons_succ, fa_tail, List.getElem?_cons_zero]) (by ((repeat refine (kAny_up rfl).trans ?_); exact hEE3)) (by ((try simp (disch := decide) only [hA, go_sem]) <;> (repeat' (first | exact trivial | refine And.intro ?_ ?_)) <;> (first | rfl | (congr 2; omega)))) (st_frz (j := 1) (x := t[p]) hlt (sent_frz hv hx (by rw [hev]; exact hk2) hm0)) (by (repeat (first | exact hE3.mono (by omega) | refine KLt.up ?_ (by simp (disch := omega) only [AVlt_v, AVlt_any, AVlt_sl, AVlt_ptr, AVlt_mp, AVlt_agg, AVlt_tup, AVlt_fn, RowsLt_nil, RowsLt_live, RowsLt_dead, List.mem_cons, List.not_mem_nil, List.forall_mem_cons, List.forall_mem_nil, or_false, false_or, forall_eq_or_imp, forall_eq, vs_lt, Nat.add_lt_add_iff_left, Nat.reduceLT, true_and, and_true, and_self, List.length_cons, List.length_nil, Nat.reduceAdd, Nat.zero_add, implies_true, false_imp_iff, lt_T, List.mem_map])))) (by simp [fl_len]) (by simp [fl_len]) (by simp (disch := omega) only [KOvLt, AVlt_v, AVlt_any, AVlt_sl, AVlt_ptr, AVlt_mp, AVlt_agg, AVlt_tup, AVlt_fn, RowsLt_nil, RowsLt_live, RowsLt_dead, List.mem_cons, List.not_mem_nil, List.forall_mem_cons, List.forall_mem_nil, or_false, false_or, forall_eq_or_imp, forall_eq, vs_lt, Nat.add_lt_add_iff_left, Nat.reduceLT, true_and, and_true, and_self, List.length_cons, List.length_nil, Nat.reduceAdd, Nat.zero_add, implies_true, false_imp_iff, lt_T, List.mem_map]) hR (stR_ltx (by simp [fl_len]))
            · have hk2b : (t[p].evs[D p].kind == 2) = false := beq_eq_false_iff_ne.2 hk2
              simp (disch := (first | decide | omega)) only [hA, hg1, hg2, hg3, List.length_map, fl_len, fa_at, fa_tail, fa_tail0, fa_set, fa_settail, fa_settail0, fl_get, List.length_replicate, vs_nil, List.length_set, hk3b, hk2b, hrv, hrl, hrg, hrs, eI, hrw, tkr, cR, setFrom, cellsOf, go_sem]
              refine ⟨(fUp D p (D p + 1), true), hprg, by have := remT_step hlt hd; simp only; omega, ?_⟩
              rw [← sentL_other (D := D) (p := p) (by rw [hev]; exact hk2)]
              exact Weak.kroundF (p := r_stamps2) (i := t.length + 2 + 1 + 1 + 1) (ver := 0) (sz := 1) (rows := (vcs t (p, D p + 1)).map eI) (k := t.length + 4) (by simp only [List.getElem?_cons_succ, fa_tail, List.getElem?_cons_zero]) (by ((repeat refine (kAny_up rfl).trans ?_); exact hEE3)) (by ((try simp (disch := decide) only [hA, go_sem]) <;> (repeat' (first | exact trivial | refine And.intro ?_ ?_)) <;> (first | rfl | (congr 2; omega)))) (st_frz (j := 1) (x := t[p]) hlt vs_frz0) (by (repeat (first | exact hE3.mono (by omega) | refine KLt.up ?_ (by simp (disch := omega) only [AVlt_v, AVlt_any, AVlt_sl, AVlt_ptr, AVlt_mp, AVlt_agg, AVlt_tup, AVlt_fn, RowsLt_nil, RowsLt_live, RowsLt_dead, List.mem_cons, List.not_mem_nil, List.forall_mem_cons, List.forall_mem_nil, or_false, false_or, forall_eq_or_imp, forall_eq, vs_lt, Nat.add_lt_add_iff_left, Nat.reduceLT, true_and, and_true, and_self, List.length_cons, List.length_nil, Nat.reduceAdd, Nat.zero_add, implies_true, false_imp_iff, lt_T, List.mem_map])))) (by simp [fl_len]) (by simp [fl_len]) (by simp (disch := omega) only [KOvLt, AVlt_v, AVlt_any, AVlt_sl, AVlt_ptr, AVlt_mp, AVlt_agg, AVlt_tup, AVlt_fn, RowsLt_nil, RowsLt_live, RowsLt_dead, List.mem_cons, List.not_mem_nil, List.forall_mem_cons, List.forall_mem_nil, or_false, false_or, forall_eq_or_imp, forall_eq, vs_lt, Nat.add_lt_add_iff_left, Nat.reduceLT, true_and, and_true, and_self, List.length_cons, List.length_nil, Nat.reduceAdd, Nat.zero_add, implies_true, false_imp_iff, lt_T, List.mem_map]) hR (stR_ltx (by simp [fl_len]))
        · have hk1 : decide (0 < (D p : Int)) = false := decide_eq_false (by omega)
          have hz : D p = 0 := by omega
          have hv0 : List.replicate t.length [IV.int .i64 0] = (prvV t p (D p)).map eI := by rw [hz, prvV_zero]
          simp (disch := (first | decide | omega)) only [hA, hg1, hg2, hg3, List.length_map, fl_len, fa_at, fa_tail, fa_tail0, fa_set, fa_settail, fa_settail0, fl_get, List.length_replicate, vs_nil, List.length_set, hk1, hv0, cR, go_sem]
          by_cases hk3 : t[p].evs[D p].kind = 3
          · -- receive
            obtain ⟨m, hm, hm2⟩ := msg_in hv hx (.inr (by rw [hev]; exact hk3))
            have hsv := sentV_recv hv hx (by rw [hev]; exact hk3) hm
            rw [hev] at hm
            have hsg : (sentL t D)[m]? = some [sentV t D m] := fl_get hm2
            by_cases hr : (sndr t (p, D p + 1)).2 ≤ D (sndr t (p, D p + 1)).1
            · rw [if_pos hr] at hsv
              rw [hsv] at hsg
              have hrv : joinV (prvV t p (D p)) (vcs t (sndr t (p, D p + 1))) = rcvV t p (D p) := by unfold rcvV; rw [if_pos (by rw [hev]; exact hk3)]
              simp (disch := (first | decide | omega)) only [hA, hg1, hg2, hg3, List.length_map, fl_len, fa_at, fa_tail, fa_tail0, fa_set, fa_settail, fa_settail0, fl_get, List.length_replicate, vs_nil, List.length_set, hk3, hm, hsg, hsL, hvl, hpl, hn0, go_sem]
              refine ACalls.frzB (i := t.length + 2 + 1 + 1 + 1) (ver := 0) (sz := 1) (rows := (prvV t p (D p)).map eI) (by simp only [List.getElem?_cons_succ, fa_tail, List.getElem?_cons_zero]) (by simp only [List.map_cons, List.map_nil]; rw [frz_own (by simp [hpl]), frz_v]) ?_
              refine ACalls.nxt (joined_own (prvV t p (D p)) (vcs t (sndr t (p, D p + 1))) (by omega) (by omega) (by rw [hpl, hvl]) _ _) ?_
              rw [hrv]
              simp (disch := (first | decide | omega)) only [hA, hg1, hg2, hg3, List.length_map, fl_len, fa_at, fa_tail, fa_tail0, fa_set, fa_settail, fa_settail0, fl_get, List.length_replicate, vs_nil, List.length_set, hk3, hm, hpl, hrl, hrg, hrs, eI, hrw, tkr, cR, h32, setFrom, cellsOf, go_sem]
              refine ⟨(fUp D p (D p + 1), true), hprg, by have := remT_step hlt hd; simp only; omega, ?_⟩
              rw [← sentL_other (D := D) (p := p) (by rw [hev, hk3]; decide)]
              exact Weak.kroundF (p := r_stamps2) (i := t.length + 3 + 1 + 1 + 1) (ver := 1) (sz := 1) (rows := (vcs t (p, D p + 1)).map eI) (k := t.length + 4) (by simp only [List.getElem?_cons_succ, fa_tail, List.getElem?_cons_zero]) (by ((repeat refine (kAny_up rfl).trans ?_); exact hEE3)) (by ((try simp (disch := decide) only [hA, go_sem]) <;> (repeat' (first | exact trivial | refine And.intro ?_ ?_)) <;> (first | rfl | (congr 2; omega)))) (st_frz (j := 2) (x := t[p]) hlt vs_frz0) (by (repeat (first | exact hE3.mono (by omega) | refine KLt.up ?_ (by simp (disch := omega) only [AVlt_v, AVlt_any, AVlt_sl, AVlt_ptr, AVlt_mp, AVlt_agg, AVlt_tup, AVlt_fn, RowsLt_nil, RowsLt_live, RowsLt_dead, List.mem_cons, List.not_mem_nil, List.forall_mem_cons, List.forall_mem_nil, or_false, false_or, forall_eq_or_imp, forall_eq, vs_lt, Nat.add_lt_add_iff_left, Nat.reduceLT, true_and, and_true, and_self, List.length_cons, List.length_nil, Nat.reduceAdd, Nat.zero_add, implies_true, false_imp_iff, lt_T, List.mem_map])))) (by simp [fl_len]) (by simp [fl_len]) (by simp (disch := omega) only [KOvLt, AVlt_v, AVlt_any, AVlt_sl, AVlt_ptr, AVlt_mp, AVlt_agg, AVlt_tup, AVlt_fn, RowsLt_nil, RowsLt_live, RowsLt_dead, List.mem_cons, List.not_mem_nil, List.forall_mem_cons, List.forall_mem_nil, or_false, false_or, forall_eq_or_imp, forall_eq, vs_lt, Nat.add_lt_add_iff_left, Nat.reduceLT, true_and, and_true, and_self, List.length_cons, List.length_nil, Nat.reduceAdd, Nat.zero_add, implies_true, false_imp_iff, lt_T, List.mem_map]) hR (stR_ltx (by simp [fl_len]))
            · rw [if_neg hr] at hsv
              rw [hsv] at hsg
              simp (disch := (first | decide | omega)) only [hA, hg1, hg2, hg3, List.length_map, fl_len, fa_at, fa_tail, fa_tail0, fa_set, fa_settail, fa_settail0, fl_get, List.length_replicate, vs_nil, List.length_set, hk3, hm, hsg, hsL, hvl, hpl, hn0, go_sem]
              refine ⟨(p + 1, D, ag), ⟨hlt, hP.1, fun h => ⟨(hP.2.1 h).1, fun q hq hr2 => ?_⟩, hP.2.2⟩, by simp only; omega, ?_⟩
              · by_cases hqp : q = p
                · subst hqp; rw [← (hP.2.1 h).1] at hr2; exact hr (hr2.2 (by rw [hev]; exact hk3))
                · exact (hP.2.1 h).2 q (by omega) hr2
              · refine Weak.kround (p := r_stamps1) (k := t.length + 3) (by ((repeat refine (kAny_up rfl).trans ?_); refine (kAny_sub hg3 (kIn_sub rfl)).trans ?_; (repeat refine (kAny_up rfl).trans ?_); exact hEE2)) (by ((try simp (disch := decide) only [hA, go_sem]) <;> (repeat' (first | exact trivial | refine And.intro ?_ ?_)) <;> (first | rfl | (congr 2; omega)))) rfl (by (repeat (first | exact hE2.mono (by omega) | refine KLt.up ?_ (by simp (disch := omega) only [AVlt_v, AVlt_any, AVlt_sl, AVlt_ptr, AVlt_mp, AVlt_agg, AVlt_tup, AVlt_fn, RowsLt_nil, RowsLt_live, RowsLt_dead, List.mem_cons, List.not_mem_nil, List.forall_mem_cons, List.forall_mem_nil, or_false, false_or, forall_eq_or_imp, forall_eq, vs_lt, Nat.add_lt_add_iff_left, Nat.reduceLT, true_and, and_true, and_self, List.length_cons, List.length_nil, Nat.reduceAdd, Nat.zero_add, implies_true, false_imp_iff, lt_T, List.mem_map])))) (by simp [fl_len]) (by simp (disch := omega) only [KOvLt, AVlt_v, AVlt_any, AVlt_sl, AVlt_ptr, AVlt_mp, AVlt_agg, AVlt_tup, AVlt_fn, RowsLt_nil, RowsLt_live, RowsLt_dead, List.mem_cons, List.not_mem_nil, List.forall_mem_cons, List.forall_mem_nil, or_false, false_or, forall_eq_or_imp, forall_eq, vs_lt, Nat.add_lt_add_iff_left, Nat.reduceLT, true_and, and_true, and_self, List.length_cons, List.length_nil, Nat.reduceAdd, Nat.zero_add, implies_true, false_imp_iff, lt_T, List.mem_map]) hR (stR_lt0 (by simp [fl_len]))
          · have hk3b : (t[p].evs[D p].kind == 3) = false := beq_eq_false_iff_ne.2 hk3
            have hrv : prvV t p (D p) = rcvV t p (D p) := by unfold rcvV; rw [if_neg (by rw [hev]; exact hk3)]
            by_cases hk2 : t[p].evs[D p].kind = 2
            · obtain ⟨m, hm, hm2⟩ := msg_in hv hx (.inl (by rw [hev]; exact hk2))
              have hm0 := hm
              rw [hev] at hm
              have h23 : ((2 : Int) == 3) = false := rfl
              have hsE : ∀ h : m < (sentL t D).length, (sentL t D)[m]'h = [sentV t D m] := fun h => fl_getE h
              simp (disch := (first | decide | omega)) only [hA, hg1, hg2, hg3, List.length_map, fl_len, fa_at, fa_tail, fa_tail0, fa_set, fa_settail, fa_settail0, fl_get, List.length_replicate, vs_nil, List.length_set, hk2, h23, hm, hsL, hsE, hrv, hrl, hrg, hrs, eI, hrw, tkr, cR, setFrom, cellsOf, go_sem]
              refine ⟨(fUp D p (D p + 1), true), hprg, by have := remT_step hlt hd; simp only; omega, ?_⟩
              exact Weak.kroundF (p := r_stamps2) (i := t.length + 2 + 1 + 1 + 1) (ver := 0) (sz := 1) (rows := (vcs t (p, D p + 1)).map eI) (k := t.length + 4) (by simp only [List.getElem?_cons_succ, fa_tail, List.getElem?_cons_zero]) (by ((repeat refine (kAny_up rfl).trans ?_); exact hEE3)) (by ((try simp (disch := decide) only [hA, go_sem]) <;> (repeat' (first | exact trivial | refine And.intro ?_ ?_)) <;> (first | rfl | (congr 2; omega)))) (st_frz (j := 1) (x := t[p]) hlt (sent_frz hv hx (by rw [hev]; exact hk2) hm0)) (by (repeat (first | exact hE3.mono (by omega) | refine KLt.up ?_ (by simp (disch := omega) only [AVlt_v, AVlt_any, AVlt_sl, AVlt_ptr, AVlt_mp, AVlt_agg, AVlt_tup, AVlt_fn, RowsLt_nil, RowsLt_live, RowsLt_dead, List.mem_cons, List.not_mem_nil, List.forall_mem_cons, List.forall_mem_nil, or_false, false_or, forall_eq_or_imp, forall_eq, vs_lt, Nat.add_lt_add_iff_left, Nat.reduceLT, true_and, and_true, and_self, List.length_cons, List.length_nil, Nat.reduceAdd, Nat.zero_add, implies_true, false_imp_iff, lt_T, List.mem_map])))) (by simp [fl_len]) (by simp [fl_len]) (by simp (disch := omega) only [KOvLt, AVlt_v, AVlt_any, AVlt_sl, AVlt_ptr, AVlt_mp, AVlt_agg, AVlt_tup, AVlt_fn, RowsLt_nil, RowsLt_live, RowsLt_dead, List.mem_cons, List.not_mem_nil, List.forall_mem_cons, List.forall_mem_nil, or_false, false_or, forall_eq_or_imp, forall_eq, vs_lt, Nat.add_lt_add_iff_left, Nat.reduceLT, true_and, and_true, and_self, List.length_cons, List.length_nil, Nat.reduceAdd, Nat.zero_add, implies_true, false_imp_iff, lt_T, List.mem_map]) hR (stR_ltx (by simp [fl_len]))
            · have hk2b : (t[p].evs[D p].kind == 2) = false := beq_eq_false_iff_ne.2 hk2
              simp (disch := (first | decide | omega)) only [hA, hg1, hg2, hg3, List.length_map, fl_len, fa_at, fa_tail, fa_tail0, fa_set, fa_settail, fa_settail0, fl_get, List.length_replicate, vs_nil, List.length_set, hk3b, hk2b, hrv, hrl, hrg, hrs, eI, hrw, tkr, cR, setFrom, cellsOf, go_sem]
              refine ⟨(fUp D p (D p + 1), true), hprg, by have := remT_step hlt hd; simp only; omega, ?_⟩
              rw [← sentL_other (D := D) (p := p) (by rw [hev]; exact hk2)]
              exact Weak.kroundF (p := r_stamps2) (i := t.length + 2 + 1 + 1 + 1) (ver := 0) (sz := 1) (rows := (vcs t (p, D p + 1)).map eI) (k := t.length + 4) (by simp only [List.getElem?_cons_succ, fa_tail, List.getElem?_cons_zero]) (by ((repeat refine (kAny_up rfl).trans ?_); exact hEE3)) (by ((try simp (disch := decide) only [hA, go_sem]) <;> (repeat' (first | exact trivial | refine And.intro ?_ ?_)) <;> (first | rfl | (congr 2; omega)))) (st_frz (j := 1) (x := t[p]) hlt vs_frz0) (by (repeat (first | exact hE3.mono (by omega) | refine KLt.up ?_ (by simp (disch := omega) only [AVlt_v, AVlt_any, AVlt_sl, AVlt_ptr, AVlt_mp, AVlt_agg, AVlt_tup, AVlt_fn, RowsLt_nil, RowsLt_live, RowsLt_dead, List.mem_cons, List.not_mem_nil, List.forall_mem_cons, List.forall_mem_nil, or_false, false_or, forall_eq_or_imp, forall_eq, vs_lt, Nat.add_lt_add_iff_left, Nat.reduceLT, true_and, and_true, and_self, List.length_cons, List.length_nil, Nat.reduceAdd, Nat.zero_add, implies_true, false_imp_iff, lt_T, List.mem_map])))) (by simp [fl_len]) (by simp [fl_len]) (by simp (disch := omega) only [KOvLt, AVlt_v, AVlt_any, AVlt_sl, AVlt_ptr, AVlt_mp, AVlt_agg, AVlt_tup, AVlt_fn, RowsLt_nil, RowsLt_live, RowsLt_dead, List.mem_cons, List.not_mem_nil, List.forall_mem_cons, List.forall_mem_nil, or_false, false_or, forall_eq_or_imp, forall_eq, vs_lt, Nat.add_lt_add_iff_left, Nat.reduceLT, true_and, and_true, and_self, List.length_cons, List.length_nil, Nat.reduceAdd, Nat.zero_add, implies_true, false_imp_iff, lt_T, List.mem_map]) hR (stR_ltx (by simp [fl_len]))
      · have hcd : decide ((D p : Int) < (t[p].evs.length : Int)) = false := decide_eq_false (by rw [heq] at hd; omega)
        simp (disch := (first | decide | omega)) only [hA, hg1, hg2, hg3, ePr, List.length_map, stR, fl_len, fa_at, fa_tail, fa_tail0, fa_set, fa_settail, fa_settail0, fl_get, xRow, hcd, go_sem]
        refine ⟨(p + 1, D, ag), ⟨hlt, hP.1, fun h => ⟨(hP.2.1 h).1, fun q hq hr => ?_⟩, hP.2.2⟩, by simp only; omega, ?_⟩
        · by_cases hqp : q = p
          · subst hqp; rw [← (hP.2.1 h).1] at hr; exact hd hr.1
          · exact (hP.2.1 h).2 q (by omega) hr
        · refine Weak.kround (p := r_stamps1) (k := t.length + 3) (junk := [xRow t[p]]) (by ((repeat refine (kAny_up rfl).trans ?_); refine (kAny_sub hg3 (kIn_sub rfl)).trans ?_; (repeat refine (kAny_up rfl).trans ?_); exact hEE2)) (by ((try simp (disch := decide) only [hA, go_sem]) <;> (repeat' (first | exact trivial | refine And.intro ?_ ?_)) <;> (first | rfl | (congr 2; omega)))) (by simp [xRow]) (by (repeat (first | exact hE2.mono (by omega) | refine KLt.up ?_ (by simp (disch := omega) only [AVlt_v, AVlt_any, AVlt_sl, AVlt_ptr, AVlt_mp, AVlt_agg, AVlt_tup, AVlt_fn, RowsLt_nil, RowsLt_live, RowsLt_dead, List.mem_cons, List.not_mem_nil, List.forall_mem_cons, List.forall_mem_nil, or_false, false_or, forall_eq_or_imp, forall_eq, vs_lt, Nat.add_lt_add_iff_left, Nat.reduceLT, true_and, and_true, and_self, List.length_cons, List.length_nil, Nat.reduceAdd, Nat.zero_add, implies_true, false_imp_iff, lt_T, List.mem_map])))) (by simp [fl_len]) (by simp (disch := omega) only [KOvLt, AVlt_v, AVlt_any, AVlt_sl, AVlt_ptr, AVlt_mp, AVlt_agg, AVlt_tup, AVlt_fn, RowsLt_nil, RowsLt_live, RowsLt_dead, List.mem_cons, List.not_mem_nil, List.forall_mem_cons, List.forall_mem_nil, or_false, false_or, forall_eq_or_imp, forall_eq, vs_lt, Nat.add_lt_add_iff_left, Nat.reduceLT, true_and, and_true, and_self, List.length_cons, List.length_nil, Nat.reduceAdd, Nat.zero_add, implies_true, false_imp_iff, lt_T, List.mem_map]) hR (stR_lt0 (by simp [fl_len]))
    · simp (disch := (first | decide | omega)) only [hA, hg1, hg2, List.length_map, stR, go_sem]
      obtain rfl : p = t.length := by omega
      refine ⟨(D1, ag1), ⟨hP1.1, fun h => ?_⟩, ?_, ?_⟩
      · obtain ⟨e1, e2⟩ := hP1.2.1 h
        simp only
        rw [e1]
        exact none_left hv hD0 e2
      · cases ag1 with
        | true => have := hP1.2.2 rfl; simp only [cond]; omega
        | false => rw [(hP1.2.1 rfl).1]; simp only [cond]; omega
      · refine Weak.kround (p := r_stamps0) (k := t.length + 3) (junk := []) (by ((repeat refine (kAny_up rfl).trans ?_); refine (kAny_sub hg2 (kIn_sub rfl)).trans ?_; (repeat refine (kAny_up rfl).trans ?_); exact hEE1)) (by ((try simp (disch := decide) only [hA, go_sem]) <;> (repeat' (first | exact trivial | refine And.intro ?_ ?_)) <;> (first | rfl | (congr 2; omega)))) (by simp) (by (repeat (first | exact hE1.mono (by omega) | refine KLt.up ?_ (by simp (disch := omega) only [AVlt_v, AVlt_any, AVlt_sl, AVlt_ptr, AVlt_mp, AVlt_agg, AVlt_tup, AVlt_fn, RowsLt_nil, RowsLt_live, RowsLt_dead, List.mem_cons, List.not_mem_nil, List.forall_mem_cons, List.forall_mem_nil, or_false, false_or, forall_eq_or_imp, forall_eq, vs_lt, Nat.add_lt_add_iff_left, Nat.reduceLT, true_and, and_true, and_self, List.length_cons, List.length_nil, Nat.reduceAdd, Nat.zero_add, implies_true, false_imp_iff, lt_T, List.mem_map])))) (by simp [fl_len]) (by simp (disch := omega) only [KOvLt, AVlt_v, AVlt_any, AVlt_sl, AVlt_ptr, AVlt_mp, AVlt_agg, AVlt_tup, AVlt_fn, RowsLt_nil, RowsLt_live, RowsLt_dead, List.mem_cons, List.not_mem_nil, List.forall_mem_cons, List.forall_mem_nil, or_false, false_or, forall_eq_or_imp, forall_eq, vs_lt, Nat.add_lt_add_iff_left, Nat.reduceLT, true_and, and_true, and_self, List.length_cons, List.length_nil, Nat.reduceAdd, Nat.zero_add, implies_true, false_imp_iff, lt_T, List.mem_map]) hR (stR_lt0 (by simp [fl_len]))
end Go.Proofs.Ytiiflkcebikecaa

/- Chapter 15: comparisons of lists of stamps, as runs (printed by tools/eqgen.py). No condition but on lengths. -/
namespace Go.Proofs.Ytiiflkcebikecaa
set_option linter.unusedVariables false
set_option linter.unusedSimpArgs false
attribute [local go_sem ↓] run_skip run_region run_draw run_seq run_block run_exit run_ret run_cond atN_app seqC_normal seqC_exit seqC_ret seqQ_normal seqQ_exit seqQ_ret blkQ_normal blkQ_exit blkQ_ret runOps_nil runOps_cons runD_nil runD_cons grdO_true grdO_false grdD_true grdD_false ifC_true ifC_false opS_val opS_call opS_two opK_app dS_val dS_call dS_two dK_app kUp_same kUp_ne
attribute [local go_sem] rechks_nil rechks_cons rechk gcase_true gcase_false ex_val ex_val0 gd_none gd_some ev_t ev_c evs_nil evs_cons evo_some evo_none hget_at hget_first hsetB_at hsetB_first hsetL_at hsetL_first ofOpt_some aop aload astore aslice aappend aiaddr aiaddrA afaddr alen alenS acopy amm acall alookup amupdate alenM comma keyEq apick binV binVB binVS isSh intOp strOp boolOp shOp eqC eqF and2 cellsOf setFrom fillA fillS rd rdI elems mk bounds AV.cell List.all_cons List.all_nil Bool.and_true Bool.true_and Bool.and_self List.length_cons List.length_nil List.length_append Nat.reduceAdd Nat.reduceSub Nat.reduceMul Nat.zero_add Nat.add_zero List.cons_append List.nil_append List.append_assoc List.append_nil List.getElem?_cons_zero List.getElem?_cons_succ List.getElem?_nil List.set_cons_zero List.set_cons_succ List.drop_zero List.drop_succ_cons List.take_zero List.take_succ_cons List.take_nil List.drop_nil List.map_cons List.map_nil Option.map_some if_true if_false Bool.false_eq_true and_self true_and and_true Nat.reduceLeDiff Nat.reduceLT Nat.le_refl Nat.reduceEqDiff ite_true ite_false beq_self_eq_true beq_true beq_false Bool.not_true Bool.not_false Bool.true_beq Bool.false_beq map_vs vs_len vs_get vs_take vs_drop vs_snoc1 vs_snoc2 vs_snoc3 vs_snoc5 vs_set1 vs_set2 vs_rep wrap_id le_T lt_T le_F lt_F leI_T ltI_T leI_F ltI_F geI gtI get_T decide_true decide_false room List.getElem?_map List.length_map List.length_take Int.toNat_natCast Nat.min_def Nat.min_self nth_kOf put_kOf put_kNo kOv_cons kOv_nil KHas KArgs List.getElem_cons_zero List.getElem_cons_succ
def a_sList : AFunc := ⟨2, 26, [.tmp 4],
  (.seq (.region [⟨(some 4), .mv (.c (.v (.bool false))), none⟩])
  (.seq (.seq (.region [⟨(some 6), .mv (.t 0), none⟩, ⟨(some 7), .len (.t 6), none⟩, ⟨(some 8), .mv (.t 1), none⟩, ⟨(some 9), .len (.t 8), none⟩, ⟨(some 10), .bin .neq (.t 7) (.t 9), none⟩])
  (.cond (.t 10) (.seq (.region [⟨(some 4), .mv (.c (.v (.bool false))), none⟩])
  .ret)
  .skip))
  (.seq (.seq (.region [⟨(some 5), .mv (.c (.v (.int .i64 0))), none⟩])
  (.block 0 (.loop (.seq (.seq (.region [⟨(some 11), .mv (.t 5), none⟩, ⟨(some 12), .mv (.t 0), none⟩, ⟨(some 13), .len (.t 12), none⟩, ⟨(some 14), .bin .lss (.t 11) (.t 13), none⟩])
  (.cond (.t 14) .skip
  (.exit 0)))
  (.seq (.block 1 (.seq (.draw [⟨0, ⟨(some 17), .mv (.t 0), none⟩, []⟩, ⟨1, ⟨(some 18), .mv (.t 5), none⟩, []⟩, ⟨2, ⟨(some 19), .iaddr 1 (.t 17) (.t 18), none⟩, []⟩, ⟨3, ⟨(some 20), .load none (.t 19), none⟩, []⟩, ⟨4, ⟨(some 21), .mv (.t 1), none⟩, []⟩, ⟨5, ⟨(some 22), .mv (.t 5), none⟩, []⟩, ⟨6, ⟨(some 23), .iaddr 1 (.t 21) (.t 22), none⟩, []⟩, ⟨7, ⟨(some 24), .load none (.t 23), none⟩, []⟩, ⟨8, ⟨(some 25), .bin .neq (.t 20) (.t 24), none⟩, []⟩])
  (.cond (.t 25) (.seq (.region [⟨(some 4), .mv (.c (.v (.bool false))), none⟩])
  .ret)
  .skip)))
  (.region [⟨(some 15), .mv (.t 5), none⟩, ⟨(some 16), .bin .add (.t 15) (.c (.v (.int .i64 1))), none⟩, ⟨(some 5), .mv (.t 16), none⟩]))))))
  (.seq (.region [⟨(some 4), .mv (.c (.v (.bool true))), none⟩])
  .ret))))⟩
theorem a_sList_ok : cFunc Try.prog 114 = some a_sList := by kernel_rfl
def r_sList0 : List (Nat × Nat) := [(4, 5), (11, 25)]
def a_sRows : AFunc := ⟨2, 27, [.tmp 4],
  (.seq (.region [⟨(some 4), .mv (.c (.v (.bool false))), none⟩])
  (.seq (.seq (.region [⟨(some 6), .mv (.t 0), none⟩, ⟨(some 7), .len (.t 6), none⟩, ⟨(some 8), .mv (.t 1), none⟩, ⟨(some 9), .len (.t 8), none⟩, ⟨(some 10), .bin .neq (.t 7) (.t 9), none⟩])
  (.cond (.t 10) (.seq (.region [⟨(some 4), .mv (.c (.v (.bool false))), none⟩])
  .ret)
  .skip))
  (.seq (.seq (.region [⟨(some 5), .mv (.c (.v (.int .i64 0))), none⟩])
  (.block 0 (.loop (.seq (.seq (.region [⟨(some 11), .mv (.t 5), none⟩, ⟨(some 12), .mv (.t 0), none⟩, ⟨(some 13), .len (.t 12), none⟩, ⟨(some 14), .bin .lss (.t 11) (.t 13), none⟩])
  (.cond (.t 14) .skip
  (.exit 0)))
  (.seq (.block 1 (.seq (.draw [⟨0, ⟨(some 17), .mv (.t 0), none⟩, []⟩, ⟨1, ⟨(some 18), .mv (.t 5), none⟩, []⟩, ⟨2, ⟨(some 19), .iaddr 1 (.t 17) (.t 18), none⟩, []⟩, ⟨3, ⟨(some 20), .load none (.t 19), none⟩, []⟩, ⟨4, ⟨(some 21), .mv (.t 1), none⟩, []⟩, ⟨5, ⟨(some 22), .mv (.t 5), none⟩, []⟩, ⟨6, ⟨(some 23), .iaddr 1 (.t 21) (.t 22), none⟩, []⟩, ⟨7, ⟨(some 24), .load none (.t 23), none⟩, []⟩, ⟨8, ⟨(some 25), .call (.c (.fn 114 [])) [(.t 20), (.t 24)], none⟩, []⟩, ⟨9, ⟨(some 26), .not (.t 25), none⟩, []⟩])
  (.cond (.t 26) (.seq (.region [⟨(some 4), .mv (.c (.v (.bool false))), none⟩])
  .ret)
  .skip)))
  (.region [⟨(some 15), .mv (.t 5), none⟩, ⟨(some 16), .bin .add (.t 15) (.c (.v (.int .i64 1))), none⟩, ⟨(some 5), .mv (.t 16), none⟩]))))))
  (.seq (.region [⟨(some 4), .mv (.c (.v (.bool true))), none⟩])
  .ret))))⟩
theorem a_sRows_ok : cFunc Try.prog 80 = some a_sRows := by kernel_rfl
def r_sRows0 : List (Nat × Nat) := [(4, 5), (11, 26)]
def a_sAll : AFunc := ⟨2, 27, [.tmp 4],
  (.seq (.region [⟨(some 4), .mv (.c (.v (.bool false))), none⟩])
  (.seq (.seq (.region [⟨(some 6), .mv (.t 0), none⟩, ⟨(some 7), .len (.t 6), none⟩, ⟨(some 8), .mv (.t 1), none⟩, ⟨(some 9), .len (.t 8), none⟩, ⟨(some 10), .bin .neq (.t 7) (.t 9), none⟩])
  (.cond (.t 10) (.seq (.region [⟨(some 4), .mv (.c (.v (.bool false))), none⟩])
  .ret)
  .skip))
  (.seq (.seq (.region [⟨(some 5), .mv (.c (.v (.int .i64 0))), none⟩])
  (.block 0 (.loop (.seq (.seq (.region [⟨(some 11), .mv (.t 5), none⟩, ⟨(some 12), .mv (.t 0), none⟩, ⟨(some 13), .len (.t 12), none⟩, ⟨(some 14), .bin .lss (.t 11) (.t 13), none⟩])
  (.cond (.t 14) .skip
  (.exit 0)))
  (.seq (.block 1 (.seq (.draw [⟨0, ⟨(some 17), .mv (.t 0), none⟩, []⟩, ⟨1, ⟨(some 18), .mv (.t 5), none⟩, []⟩, ⟨2, ⟨(some 19), .iaddr 1 (.t 17) (.t 18), none⟩, []⟩, ⟨3, ⟨(some 20), .load none (.t 19), none⟩, []⟩, ⟨4, ⟨(some 21), .mv (.t 1), none⟩, []⟩, ⟨5, ⟨(some 22), .mv (.t 5), none⟩, []⟩, ⟨6, ⟨(some 23), .iaddr 1 (.t 21) (.t 22), none⟩, []⟩, ⟨7, ⟨(some 24), .load none (.t 23), none⟩, []⟩, ⟨8, ⟨(some 25), .call (.c (.fn 80 [])) [(.t 20), (.t 24)], none⟩, []⟩, ⟨9, ⟨(some 26), .not (.t 25), none⟩, []⟩])
  (.cond (.t 26) (.seq (.region [⟨(some 4), .mv (.c (.v (.bool false))), none⟩])
  .ret)
  .skip)))
  (.region [⟨(some 15), .mv (.t 5), none⟩, ⟨(some 16), .bin .add (.t 15) (.c (.v (.int .i64 1))), none⟩, ⟨(some 5), .mv (.t 16), none⟩]))))))
  (.seq (.region [⟨(some 4), .mv (.c (.v (.bool true))), none⟩])
  .ret))))⟩
theorem a_sAll_ok : cFunc Try.prog 23 = some a_sAll := by kernel_rfl
def r_sAll0 : List (Nat × Nat) := [(4, 5), (11, 26)]
def a_ckV : AFunc := ⟨2, 8, [.tmp 4],
  (.seq (.region [⟨(some 4), .mv (.c (.v (.bool false))), none⟩])
  (.seq (.region [⟨(some 5), .mv (.t 0), none⟩, ⟨(some 6), .mv (.t 1), none⟩, ⟨(some 7), .call (.c (.fn 26 [])) [(.t 5), (.t 6)], none⟩, ⟨(some 4), .mv (.t 7), none⟩])
  .ret))⟩
theorem a_ckV_ok : cFunc Try.prog 78 = some a_ckV := by kernel_rfl
def a_ckR : AFunc := ⟨2, 8, [.tmp 4],
  (.seq (.region [⟨(some 4), .mv (.c (.v (.bool false))), none⟩])
  (.seq (.region [⟨(some 5), .mv (.t 0), none⟩, ⟨(some 6), .mv (.t 1), none⟩, ⟨(some 7), .call (.c (.fn 77 [])) [(.t 5), (.t 6), (.c (.fn 78 []))], none⟩, ⟨(some 4), .mv (.t 7), none⟩])
  .ret))⟩
theorem a_ckR_ok : cFunc Try.prog 76 = some a_ckR := by kernel_rfl
def a_eqF2 : AFunc := ⟨3, 32, [.tmp 6],
  (.seq (.region [⟨(some 6), .mv (.c (.v (.bool false))), none⟩])
  (.seq (.seq (.region [⟨(some 10), .mv (.t 0), none⟩, ⟨(some 11), .len (.t 10), none⟩, ⟨(some 12), .mv (.t 1), none⟩, ⟨(some 13), .len (.t 12), none⟩, ⟨(some 14), .bin .neq (.t 11) (.t 13), none⟩])
  (.cond (.t 14) (.seq (.region [⟨(some 6), .mv (.c (.v (.bool false))), none⟩])
  .ret)
  .skip))
  (.seq (.seq (.region [⟨(some 15), .mv (.t 0), none⟩, ⟨(some 16), .len (.t 15), none⟩, ⟨(some 17), .mv (.c (.v (.int .i64 0))), none⟩])
  (.block 0 (.loop (.seq (.region [⟨(some 18), .bin .lss (.t 17) (.t 16), none⟩])
  (.seq (.cond (.t 18) .skip
  (.exit 0))
  (.seq (.block 1 (.seq (.region [⟨(some 19), .mv (.t 17), none⟩, ⟨(some 20), .iaddr 1 (.t 15) (.t 17), none⟩, ⟨(some 21), .load none (.t 20), none⟩, ⟨(some 7), .mv (.t 19), none⟩, ⟨(some 8), .mv (.t 21), none⟩])
  (.seq (.region [⟨(some 22), .mv (.t 1), none⟩, ⟨(some 23), .mv (.t 7), none⟩, ⟨(some 24), .iaddr 1 (.t 22) (.t 23), none⟩, ⟨(some 25), .load none (.t 24), none⟩, ⟨(some 9), .mv (.t 25), none⟩])
  (.seq (.region [⟨(some 26), .mv (.t 2), none⟩, ⟨(some 27), .mv (.t 8), none⟩, ⟨(some 28), .mv (.t 9), none⟩, ⟨(some 29), .call (.t 26) [(.t 27), (.t 28)], none⟩, ⟨(some 30), .not (.t 29), none⟩])
  (.cond (.t 30) (.seq (.region [⟨(some 6), .mv (.c (.v (.bool false))), none⟩])
  .ret)
  .skip)))))
  (.region [⟨(some 31), .bin .add (.t 17) (.c (.v (.int .i64 1))), none⟩, ⟨(some 17), .mv (.t 31), none⟩])))))))
  (.seq (.region [⟨(some 6), .mv (.c (.v (.bool true))), none⟩])
  .ret))))⟩
theorem a_eqF2_ok : cFunc Try.prog 77 = some a_eqF2 := by kernel_rfl
def r_eqF20 : List (Nat × Nat) := [(6, 9), (17, 31)]
def a_eqF3 : AFunc := ⟨3, 32, [.tmp 6],
  (.seq (.region [⟨(some 6), .mv (.c (.v (.bool false))), none⟩])
  (.seq (.seq (.region [⟨(some 10), .mv (.t 0), none⟩, ⟨(some 11), .len (.t 10), none⟩, ⟨(some 12), .mv (.t 1), none⟩, ⟨(some 13), .len (.t 12), none⟩, ⟨(some 14), .bin .neq (.t 11) (.t 13), none⟩])
  (.cond (.t 14) (.seq (.region [⟨(some 6), .mv (.c (.v (.bool false))), none⟩])
  .ret)
  .skip))
  (.seq (.seq (.region [⟨(some 15), .mv (.t 0), none⟩, ⟨(some 16), .len (.t 15), none⟩, ⟨(some 17), .mv (.c (.v (.int .i64 0))), none⟩])
  (.block 0 (.loop (.seq (.region [⟨(some 18), .bin .lss (.t 17) (.t 16), none⟩])
  (.seq (.cond (.t 18) .skip
  (.exit 0))
  (.seq (.block 1 (.seq (.region [⟨(some 19), .mv (.t 17), none⟩, ⟨(some 20), .iaddr 1 (.t 15) (.t 17), none⟩, ⟨(some 21), .load none (.t 20), none⟩, ⟨(some 7), .mv (.t 19), none⟩, ⟨(some 8), .mv (.t 21), none⟩])
  (.seq (.region [⟨(some 22), .mv (.t 1), none⟩, ⟨(some 23), .mv (.t 7), none⟩, ⟨(some 24), .iaddr 1 (.t 22) (.t 23), none⟩, ⟨(some 25), .load none (.t 24), none⟩, ⟨(some 9), .mv (.t 25), none⟩])
  (.seq (.region [⟨(some 26), .mv (.t 2), none⟩, ⟨(some 27), .mv (.t 8), none⟩, ⟨(some 28), .mv (.t 9), none⟩, ⟨(some 29), .call (.t 26) [(.t 27), (.t 28)], none⟩, ⟨(some 30), .not (.t 29), none⟩])
  (.cond (.t 30) (.seq (.region [⟨(some 6), .mv (.c (.v (.bool false))), none⟩])
  .ret)
  .skip)))))
  (.region [⟨(some 31), .bin .add (.t 17) (.c (.v (.int .i64 1))), none⟩, ⟨(some 17), .mv (.t 31), none⟩])))))))
  (.seq (.region [⟨(some 6), .mv (.c (.v (.bool true))), none⟩])
  .ret))))⟩
theorem a_eqF3_ok : cFunc Try.prog 75 = some a_eqF3 := by kernel_rfl
def r_eqF30 : List (Nat × Nat) := [(6, 9), (17, 31)]
def a_vStamps : AFunc := ⟨1, 9, [.tmp 2, .tmp 3],
  (.seq (.region [⟨(some 1), .box (.t 0), none⟩, ⟨(some 2), .mv (.c (.v .zsl)), none⟩, ⟨(some 3), .mv (.c (.v (.int .i64 0))), none⟩])
  (.seq (.seq (.region [⟨(some 4), .load (some 1) (.t 1), none⟩, ⟨(some 5), .call (.c (.fn 72 [])) [(.t 4)], none⟩, ⟨(some 6), .not (.t 5), none⟩])
  (.cond (.t 6) (.seq (.region [⟨(some 2), .mv (.c (.v .zsl)), none⟩, ⟨(some 3), .mv (.c (.v (.int .i64 1))), none⟩])
  .ret)
  .skip))
  (.seq (.region [⟨(some 7), .load (some 1) (.t 1), none⟩, ⟨(some 8), .call (.c (.fn 73 [])) [(.t 7)], none⟩, ⟨(some 2), .mv (.t 8), none⟩, ⟨(some 3), .mv (.c (.v (.int .i64 0))), none⟩])
  .ret)))⟩
theorem a_vStamps_ok : cFunc Try.prog 19 = some a_vStamps := by kernel_rfl
def a_vCheck : AFunc := ⟨2, 12, [.tmp 4],
  (.seq (.region [⟨(some 2), .box (.t 0), none⟩, ⟨(some 4), .mv (.c (.v (.bool false))), none⟩])
  (.seq (.seq (.region [⟨(some 5), .load (some 1) (.t 2), none⟩, ⟨(some 6), .call (.c (.fn 72 [])) [(.t 5)], none⟩, ⟨(some 7), .not (.t 6), none⟩])
  (.cond (.t 7) (.seq (.region [⟨(some 4), .mv (.c (.v (.bool false))), none⟩])
  .ret)
  .skip))
  (.seq (.region [⟨(some 8), .load (some 1) (.t 2), none⟩, ⟨(some 9), .call (.c (.fn 73 [])) [(.t 8)], none⟩, ⟨(some 10), .mv (.t 1), none⟩, ⟨(some 11), .call (.c (.fn 75 [])) [(.t 9), (.t 10), (.c (.fn 76 []))], none⟩, ⟨(some 4), .mv (.t 11), none⟩])
  .ret)))⟩
theorem a_vCheck_ok : cFunc Try.prog 21 = some a_vCheck := by kernel_rfl

theorem ext_getDg {α : Type} {d : α} {v w : List α} (hl : v.length = w.length) (h : ∀ i, i < v.length → v.getD i d = w.getD i d) : v = w := by
  refine List.ext_getElem hl (fun i h1 h2 => ?_)
  have := h i h1
  rwa [getD_at h1, getD_at h2] at this
def eMx (m : List (List Int)) : List IV := [.isl 1 (m.map eRw)]
def C1 (v w : List Int) : Prop := v.length = w.length → v.length ≤ 1000000 ∧ ∀ i (h : i < v.length) (h' : i < w.length), True
def C2 (v w : List (List Int)) : Prop := v.length = w.length → v.length ≤ 1000000 ∧ ∀ i (h : i < v.length) (h' : i < w.length), C1 v[i] w[i]
def S1 (v w : List Int) : Prop := v.length ≤ 1000000
def S2 (v w : List (List Int)) : Prop := v.length = w.length → v.length ≤ 1000000 ∧ ∀ i (h : i < v.length) (h' : i < w.length), S1 v[i] w[i]
theorem sList_spec (v w : List (Int)) (hc : v.length = w.length → v.length ≤ 1000000 ∧ ∀ i (h : i < v.length) (h' : i < w.length), (fun _ _ => True) v[i] w[i]) (b l : List Row) : ACalls Try.prog 114 [.v (.isl 1 (v.map eI)), .v (.isl 1 (w.map eI))] b l (fun r b' l' => r = .v (.bool (decide (v = w))) ∧ b' = b ∧ l' = l) := by
  refine calls_kept a_sList_ok rfl (by decide) ?_
  intro B g hB hR hE hA
  simp only [KArgs] at hA
  by_cases hl : v.length = w.length
  case neg =>
    have hd : ((v.length : Int) != (w.length : Int)) = true := by simp; omega
    have hne : decide (v = w) = false := by
      rw [decide_eq_false_iff_not]; intro h; subst h; exact hl rfl
    simp (disch := (first | decide | omega)) only [a_sList, hA, List.length_map, hd, go_sem]
    exact leave_pure (xs := [.v (.bool false)]) (.inr rfl) (by simp (disch := (first | decide | omega)) only [resVs, resV, go_sem, hA]) (by simp only [one, AVlt_v, AVlt_any, AVlt_sl, AVlt_ptr, AVlt_mp, AVlt_agg, AVlt_tup, AVlt_fn, RowsLt_nil, RowsLt_live, RowsLt_dead, List.mem_cons, List.not_mem_nil, List.forall_mem_cons, List.forall_mem_nil, or_false, false_or, forall_eq_or_imp, forall_eq, vs_lt, Nat.add_lt_add_iff_left, Nat.reduceLT, true_and, and_true, and_self, List.length_cons, List.length_nil, Nat.reduceAdd, Nat.zero_add, implies_true, false_imp_iff, lt_T, List.mem_map]) hR hB ⟨by rw [hne]; rfl, rfl, rfl⟩
  obtain ⟨hc1, hc2⟩ := hc hl
  have hd : ((v.length : Int) != (w.length : Int)) = false := by simp [hl]
  simp (disch := (first | decide | omega)) only [a_sList, hA, List.length_map, hd, go_sem]
  refine loop_kept (ι := Nat) r_sList0 (fun i => [(5, .v (.int .i64 i))]) 0 (fun _ => [])
    (fun i => i ≤ v.length ∧ ∀ j, j < i → v.getD j 0 = w.getD j 0) (fun i => v.length - i) 0 ⟨Nat.zero_le _, fun j hj => by omega⟩ (by (repeat (first | exact hE.mono (by omega) | refine KLt.up ?_ (by simp (disch := omega) only [AVlt_v, AVlt_any, AVlt_sl, AVlt_ptr, AVlt_mp, AVlt_agg, AVlt_tup, AVlt_fn, RowsLt_nil, RowsLt_live, RowsLt_dead, List.mem_cons, List.not_mem_nil, List.forall_mem_cons, List.forall_mem_nil, or_false, false_or, forall_eq_or_imp, forall_eq, vs_lt, Nat.add_lt_add_iff_left, Nat.reduceLT, true_and, and_true, and_self, List.length_cons, List.length_nil, Nat.reduceAdd, Nat.zero_add, implies_true, false_imp_iff, lt_T, List.mem_map])))) (by ((try simp (disch := decide) only [hA, go_sem]) <;> (repeat' (first | exact trivial | refine And.intro ?_ ?_)) <;> (first | rfl | (congr 2; omega)))) (fun e => Weak.refl _ _ _) ?_
  rintro g1 hE1 hEE1 hg1 i ⟨hi, h0⟩
  by_cases hlt : i < v.length
  · have hlw : i < w.length := by omega
    have hci := hc2 i hlt hlw
    have hne : v[i] ≠ w[i] → decide (v = w) = false := by
      intro he; rw [decide_eq_false_iff_not]; intro h; subst h; exact he rfl
    by_cases he : v[i] = w[i]
    · have hd2 : (v[i] != w[i]) = false := by simp [he]
      simp (disch := (first | decide | omega)) only [hA, hg1, eI, List.length_map, hd2, go_sem]
      refine ⟨i + 1, ⟨hlt, fun j hj => ?_⟩, by simp only; omega, ?_⟩
      · rcases Nat.lt_or_ge j i with hji | hji
        · exact h0 j hji
        · have : j = i := by omega
          subst this
          rw [getD_at hlt, getD_at hlw, he]
      exact Weak.kround (p := r_sList0) (k := 0) (by ((repeat refine (kAny_up rfl).trans ?_); exact hEE1)) (by ((try simp (disch := decide) only [hA, go_sem]) <;> (repeat' (first | exact trivial | refine And.intro ?_ ?_)) <;> (first | rfl | (congr 2; omega)))) rfl hE1 (by simp) (by simp (disch := omega) only [KOvLt, AVlt_v, AVlt_any, AVlt_sl, AVlt_ptr, AVlt_mp, AVlt_agg, AVlt_tup, AVlt_fn, RowsLt_nil, RowsLt_live, RowsLt_dead, List.mem_cons, List.not_mem_nil, List.forall_mem_cons, List.forall_mem_nil, or_false, false_or, forall_eq_or_imp, forall_eq, vs_lt, Nat.add_lt_add_iff_left, Nat.reduceLT, true_and, and_true, and_self, List.length_cons, List.length_nil, Nat.reduceAdd, Nat.zero_add, implies_true, false_imp_iff, lt_T, List.mem_map]) hR (by simp (disch := omega) only [AVlt_v, AVlt_any, AVlt_sl, AVlt_ptr, AVlt_mp, AVlt_agg, AVlt_tup, AVlt_fn, RowsLt_nil, RowsLt_live, RowsLt_dead, List.mem_cons, List.not_mem_nil, List.forall_mem_cons, List.forall_mem_nil, or_false, false_or, forall_eq_or_imp, forall_eq, vs_lt, Nat.add_lt_add_iff_left, Nat.reduceLT, true_and, and_true, and_self, List.length_cons, List.length_nil, Nat.reduceAdd, Nat.zero_add, implies_true, false_imp_iff, lt_T, List.mem_map])
    · have hd2 : (v[i] != w[i]) = true := by simp [he]
      simp (disch := (first | decide | omega)) only [hA, hg1, eI, List.length_map, hd2, go_sem]
      exact leave_pure (xs := [.v (.bool false)]) (.inr rfl) (by simp (disch := (first | decide | omega)) only [resVs, resV, go_sem, hA, hg1]) (by simp only [one, AVlt_v, AVlt_any, AVlt_sl, AVlt_ptr, AVlt_mp, AVlt_agg, AVlt_tup, AVlt_fn, RowsLt_nil, RowsLt_live, RowsLt_dead, List.mem_cons, List.not_mem_nil, List.forall_mem_cons, List.forall_mem_nil, or_false, false_or, forall_eq_or_imp, forall_eq, vs_lt, Nat.add_lt_add_iff_left, Nat.reduceLT, true_and, and_true, and_self, List.length_cons, List.length_nil, Nat.reduceAdd, Nat.zero_add, implies_true, false_imp_iff, lt_T, List.mem_map]) hR hB ⟨by rw [hne he]; rfl, rfl, rfl⟩
  · simp (disch := (first | decide | omega)) only [hA, hg1, List.length_map, go_sem]
    obtain rfl : i = v.length := by omega
    have he : decide (v = w) = true := decide_eq_true (ext_getDg hl h0)
    exact leave_pure (xs := [.v (.bool true)]) (.inr rfl) (by simp (disch := (first | decide | omega)) only [resVs, resV, go_sem, hA, hg1]) (by simp only [one, AVlt_v, AVlt_any, AVlt_sl, AVlt_ptr, AVlt_mp, AVlt_agg, AVlt_tup, AVlt_fn, RowsLt_nil, RowsLt_live, RowsLt_dead, List.mem_cons, List.not_mem_nil, List.forall_mem_cons, List.forall_mem_nil, or_false, false_or, forall_eq_or_imp, forall_eq, vs_lt, Nat.add_lt_add_iff_left, Nat.reduceLT, true_and, and_true, and_self, List.length_cons, List.length_nil, Nat.reduceAdd, Nat.zero_add, implies_true, false_imp_iff, lt_T, List.mem_map]) hR hB ⟨by rw [he]; rfl, rfl, rfl⟩

theorem sRows_spec (v w : List (List Int)) (hc : v.length = w.length → v.length ≤ 1000000 ∧ ∀ i (h : i < v.length) (h' : i < w.length), C1 v[i] w[i]) (b l : List Row) : ACalls Try.prog 80 [.v (.isl 1 (v.map eRw)), .v (.isl 1 (w.map eRw))] b l (fun r b' l' => r = .v (.bool (decide (v = w))) ∧ b' = b ∧ l' = l) := by
  refine calls_kept a_sRows_ok rfl (by decide) ?_
  intro B g hB hR hE hA
  simp only [KArgs] at hA
  by_cases hl : v.length = w.length
  case neg =>
    have hd : ((v.length : Int) != (w.length : Int)) = true := by simp; omega
    have hne : decide (v = w) = false := by
      rw [decide_eq_false_iff_not]; intro h; subst h; exact hl rfl
    simp (disch := (first | decide | omega)) only [a_sRows, hA, List.length_map, hd, go_sem]
    exact leave_pure (xs := [.v (.bool false)]) (.inr rfl) (by simp (disch := (first | decide | omega)) only [resVs, resV, go_sem, hA]) (by simp only [one, AVlt_v, AVlt_any, AVlt_sl, AVlt_ptr, AVlt_mp, AVlt_agg, AVlt_tup, AVlt_fn, RowsLt_nil, RowsLt_live, RowsLt_dead, List.mem_cons, List.not_mem_nil, List.forall_mem_cons, List.forall_mem_nil, or_false, false_or, forall_eq_or_imp, forall_eq, vs_lt, Nat.add_lt_add_iff_left, Nat.reduceLT, true_and, and_true, and_self, List.length_cons, List.length_nil, Nat.reduceAdd, Nat.zero_add, implies_true, false_imp_iff, lt_T, List.mem_map]) hR hB ⟨by rw [hne]; rfl, rfl, rfl⟩
  obtain ⟨hc1, hc2⟩ := hc hl
  have hd : ((v.length : Int) != (w.length : Int)) = false := by simp [hl]
  simp (disch := (first | decide | omega)) only [a_sRows, hA, List.length_map, hd, go_sem]
  refine loop_kept (ι := Nat) r_sRows0 (fun i => [(5, .v (.int .i64 i))]) 0 (fun _ => [])
    (fun i => i ≤ v.length ∧ ∀ j, j < i → v.getD j [] = w.getD j []) (fun i => v.length - i) 0 ⟨Nat.zero_le _, fun j hj => by omega⟩ (by (repeat (first | exact hE.mono (by omega) | refine KLt.up ?_ (by simp (disch := omega) only [AVlt_v, AVlt_any, AVlt_sl, AVlt_ptr, AVlt_mp, AVlt_agg, AVlt_tup, AVlt_fn, RowsLt_nil, RowsLt_live, RowsLt_dead, List.mem_cons, List.not_mem_nil, List.forall_mem_cons, List.forall_mem_nil, or_false, false_or, forall_eq_or_imp, forall_eq, vs_lt, Nat.add_lt_add_iff_left, Nat.reduceLT, true_and, and_true, and_self, List.length_cons, List.length_nil, Nat.reduceAdd, Nat.zero_add, implies_true, false_imp_iff, lt_T, List.mem_map])))) (by ((try simp (disch := decide) only [hA, go_sem]) <;> (repeat' (first | exact trivial | refine And.intro ?_ ?_)) <;> (first | rfl | (congr 2; omega)))) (fun e => Weak.refl _ _ _) ?_
  rintro g1 hE1 hEE1 hg1 i ⟨hi, h0⟩
  by_cases hlt : i < v.length
  · have hlw : i < w.length := by omega
    have hci := hc2 i hlt hlw
    have hne : v[i] ≠ w[i] → decide (v = w) = false := by
      intro he; rw [decide_eq_false_iff_not]; intro h; subst h; exact he rfl
    simp (disch := (first | decide | omega)) only [hA, hg1, eRw, List.length_map, go_sem]
    refine ACalls.nxt (sList_spec v[i] w[i] hci _ _) ?_
    by_cases he : v[i] = w[i]
    · have hd2 : decide (v[i] = w[i]) = true := decide_eq_true he
      simp (disch := (first | decide | omega)) only [hA, hg1, List.length_map, hd2, go_sem]
      refine ⟨i + 1, ⟨hlt, fun j hj => ?_⟩, by simp only; omega, ?_⟩
      · rcases Nat.lt_or_ge j i with hji | hji
        · exact h0 j hji
        · have : j = i := by omega
          subst this
          rw [getD_at hlt, getD_at hlw, he]
      exact Weak.kround (p := r_sRows0) (k := 0) (by ((repeat refine (kAny_up rfl).trans ?_); exact hEE1)) (by ((try simp (disch := decide) only [hA, go_sem]) <;> (repeat' (first | exact trivial | refine And.intro ?_ ?_)) <;> (first | rfl | (congr 2; omega)))) rfl hE1 (by simp) (by simp (disch := omega) only [KOvLt, AVlt_v, AVlt_any, AVlt_sl, AVlt_ptr, AVlt_mp, AVlt_agg, AVlt_tup, AVlt_fn, RowsLt_nil, RowsLt_live, RowsLt_dead, List.mem_cons, List.not_mem_nil, List.forall_mem_cons, List.forall_mem_nil, or_false, false_or, forall_eq_or_imp, forall_eq, vs_lt, Nat.add_lt_add_iff_left, Nat.reduceLT, true_and, and_true, and_self, List.length_cons, List.length_nil, Nat.reduceAdd, Nat.zero_add, implies_true, false_imp_iff, lt_T, List.mem_map]) hR (by simp (disch := omega) only [AVlt_v, AVlt_any, AVlt_sl, AVlt_ptr, AVlt_mp, AVlt_agg, AVlt_tup, AVlt_fn, RowsLt_nil, RowsLt_live, RowsLt_dead, List.mem_cons, List.not_mem_nil, List.forall_mem_cons, List.forall_mem_nil, or_false, false_or, forall_eq_or_imp, forall_eq, vs_lt, Nat.add_lt_add_iff_left, Nat.reduceLT, true_and, and_true, and_self, List.length_cons, List.length_nil, Nat.reduceAdd, Nat.zero_add, implies_true, false_imp_iff, lt_T, List.mem_map])
    · have hd2 : decide (v[i] = w[i]) = false := decide_eq_false he
      simp (disch := (first | decide | omega)) only [hA, hg1, List.length_map, hd2, go_sem]
      exact leave_pure (xs := [.v (.bool false)]) (.inr rfl) (by simp (disch := (first | decide | omega)) only [resVs, resV, go_sem, hA, hg1]) (by simp only [one, AVlt_v, AVlt_any, AVlt_sl, AVlt_ptr, AVlt_mp, AVlt_agg, AVlt_tup, AVlt_fn, RowsLt_nil, RowsLt_live, RowsLt_dead, List.mem_cons, List.not_mem_nil, List.forall_mem_cons, List.forall_mem_nil, or_false, false_or, forall_eq_or_imp, forall_eq, vs_lt, Nat.add_lt_add_iff_left, Nat.reduceLT, true_and, and_true, and_self, List.length_cons, List.length_nil, Nat.reduceAdd, Nat.zero_add, implies_true, false_imp_iff, lt_T, List.mem_map]) hR hB ⟨by rw [hne he]; rfl, rfl, rfl⟩
  · simp (disch := (first | decide | omega)) only [hA, hg1, List.length_map, go_sem]
    obtain rfl : i = v.length := by omega
    have he : decide (v = w) = true := decide_eq_true (ext_getDg hl h0)
    exact leave_pure (xs := [.v (.bool true)]) (.inr rfl) (by simp (disch := (first | decide | omega)) only [resVs, resV, go_sem, hA, hg1]) (by simp only [one, AVlt_v, AVlt_any, AVlt_sl, AVlt_ptr, AVlt_mp, AVlt_agg, AVlt_tup, AVlt_fn, RowsLt_nil, RowsLt_live, RowsLt_dead, List.mem_cons, List.not_mem_nil, List.forall_mem_cons, List.forall_mem_nil, or_false, false_or, forall_eq_or_imp, forall_eq, vs_lt, Nat.add_lt_add_iff_left, Nat.reduceLT, true_and, and_true, and_self, List.length_cons, List.length_nil, Nat.reduceAdd, Nat.zero_add, implies_true, false_imp_iff, lt_T, List.mem_map]) hR hB ⟨by rw [he]; rfl, rfl, rfl⟩

theorem sAll_spec (v w : List (List (List Int))) (hc : v.length = w.length → v.length ≤ 1000000 ∧ ∀ i (h : i < v.length) (h' : i < w.length), C2 v[i] w[i]) (b l : List Row) : ACalls Try.prog 23 [.v (.isl 1 (v.map eMx)), .v (.isl 1 (w.map eMx))] b l (fun r b' l' => r = .v (.bool (decide (v = w))) ∧ b' = b ∧ l' = l) := by
  refine calls_kept a_sAll_ok rfl (by decide) ?_
  intro B g hB hR hE hA
  simp only [KArgs] at hA
  by_cases hl : v.length = w.length
  case neg =>
    have hd : ((v.length : Int) != (w.length : Int)) = true := by simp; omega
    have hne : decide (v = w) = false := by
      rw [decide_eq_false_iff_not]; intro h; subst h; exact hl rfl
    simp (disch := (first | decide | omega)) only [a_sAll, hA, List.length_map, hd, go_sem]
    exact leave_pure (xs := [.v (.bool false)]) (.inr rfl) (by simp (disch := (first | decide | omega)) only [resVs, resV, go_sem, hA]) (by simp only [one, AVlt_v, AVlt_any, AVlt_sl, AVlt_ptr, AVlt_mp, AVlt_agg, AVlt_tup, AVlt_fn, RowsLt_nil, RowsLt_live, RowsLt_dead, List.mem_cons, List.not_mem_nil, List.forall_mem_cons, List.forall_mem_nil, or_false, false_or, forall_eq_or_imp, forall_eq, vs_lt, Nat.add_lt_add_iff_left, Nat.reduceLT, true_and, and_true, and_self, List.length_cons, List.length_nil, Nat.reduceAdd, Nat.zero_add, implies_true, false_imp_iff, lt_T, List.mem_map]) hR hB ⟨by rw [hne]; rfl, rfl, rfl⟩
  obtain ⟨hc1, hc2⟩ := hc hl
  have hd : ((v.length : Int) != (w.length : Int)) = false := by simp [hl]
  simp (disch := (first | decide | omega)) only [a_sAll, hA, List.length_map, hd, go_sem]
  refine loop_kept (ι := Nat) r_sAll0 (fun i => [(5, .v (.int .i64 i))]) 0 (fun _ => [])
    (fun i => i ≤ v.length ∧ ∀ j, j < i → v.getD j [] = w.getD j []) (fun i => v.length - i) 0 ⟨Nat.zero_le _, fun j hj => by omega⟩ (by (repeat (first | exact hE.mono (by omega) | refine KLt.up ?_ (by simp (disch := omega) only [AVlt_v, AVlt_any, AVlt_sl, AVlt_ptr, AVlt_mp, AVlt_agg, AVlt_tup, AVlt_fn, RowsLt_nil, RowsLt_live, RowsLt_dead, List.mem_cons, List.not_mem_nil, List.forall_mem_cons, List.forall_mem_nil, or_false, false_or, forall_eq_or_imp, forall_eq, vs_lt, Nat.add_lt_add_iff_left, Nat.reduceLT, true_and, and_true, and_self, List.length_cons, List.length_nil, Nat.reduceAdd, Nat.zero_add, implies_true, false_imp_iff, lt_T, List.mem_map])))) (by ((try simp (disch := decide) only [hA, go_sem]) <;> (repeat' (first | exact trivial | refine And.intro ?_ ?_)) <;> (first | rfl | (congr 2; omega)))) (fun e => Weak.refl _ _ _) ?_
  rintro g1 hE1 hEE1 hg1 i ⟨hi, h0⟩
  by_cases hlt : i < v.length
  · have hlw : i < w.length := by omega
    have hci := hc2 i hlt hlw
    have hne : v[i] ≠ w[i] → decide (v = w) = false := by
      intro he; rw [decide_eq_false_iff_not]; intro h; subst h; exact he rfl
    simp (disch := (first | decide | omega)) only [hA, hg1, eMx, List.length_map, go_sem]
    refine ACalls.nxt (sRows_spec v[i] w[i] hci _ _) ?_
    by_cases he : v[i] = w[i]
    · have hd2 : decide (v[i] = w[i]) = true := decide_eq_true he
      simp (disch := (first | decide | omega)) only [hA, hg1, List.length_map, hd2, go_sem]
      refine ⟨i + 1, ⟨hlt, fun j hj => ?_⟩, by simp only; omega, ?_⟩
      · rcases Nat.lt_or_ge j i with hji | hji
        · exact h0 j hji
        · have : j = i := by omega
          subst this
          rw [getD_at hlt, getD_at hlw, he]
      exact Weak.kround (p := r_sAll0) (k := 0) (by ((repeat refine (kAny_up rfl).trans ?_); exact hEE1)) (by ((try simp (disch := decide) only [hA, go_sem]) <;> (repeat' (first | exact trivial | refine And.intro ?_ ?_)) <;> (first | rfl | (congr 2; omega)))) rfl hE1 (by simp) (by simp (disch := omega) only [KOvLt, AVlt_v, AVlt_any, AVlt_sl, AVlt_ptr, AVlt_mp, AVlt_agg, AVlt_tup, AVlt_fn, RowsLt_nil, RowsLt_live, RowsLt_dead, List.mem_cons, List.not_mem_nil, List.forall_mem_cons, List.forall_mem_nil, or_false, false_or, forall_eq_or_imp, forall_eq, vs_lt, Nat.add_lt_add_iff_left, Nat.reduceLT, true_and, and_true, and_self, List.length_cons, List.length_nil, Nat.reduceAdd, Nat.zero_add, implies_true, false_imp_iff, lt_T, List.mem_map]) hR (by simp (disch := omega) only [AVlt_v, AVlt_any, AVlt_sl, AVlt_ptr, AVlt_mp, AVlt_agg, AVlt_tup, AVlt_fn, RowsLt_nil, RowsLt_live, RowsLt_dead, List.mem_cons, List.not_mem_nil, List.forall_mem_cons, List.forall_mem_nil, or_false, false_or, forall_eq_or_imp, forall_eq, vs_lt, Nat.add_lt_add_iff_left, Nat.reduceLT, true_and, and_true, and_self, List.length_cons, List.length_nil, Nat.reduceAdd, Nat.zero_add, implies_true, false_imp_iff, lt_T, List.mem_map])
    · have hd2 : decide (v[i] = w[i]) = false := decide_eq_false he
      simp (disch := (first | decide | omega)) only [hA, hg1, List.length_map, hd2, go_sem]
      exact leave_pure (xs := [.v (.bool false)]) (.inr rfl) (by simp (disch := (first | decide | omega)) only [resVs, resV, go_sem, hA, hg1]) (by simp only [one, AVlt_v, AVlt_any, AVlt_sl, AVlt_ptr, AVlt_mp, AVlt_agg, AVlt_tup, AVlt_fn, RowsLt_nil, RowsLt_live, RowsLt_dead, List.mem_cons, List.not_mem_nil, List.forall_mem_cons, List.forall_mem_nil, or_false, false_or, forall_eq_or_imp, forall_eq, vs_lt, Nat.add_lt_add_iff_left, Nat.reduceLT, true_and, and_true, and_self, List.length_cons, List.length_nil, Nat.reduceAdd, Nat.zero_add, implies_true, false_imp_iff, lt_T, List.mem_map]) hR hB ⟨by rw [hne he]; rfl, rfl, rfl⟩
  · simp (disch := (first | decide | omega)) only [hA, hg1, List.length_map, go_sem]
    obtain rfl : i = v.length := by omega
    have he : decide (v = w) = true := decide_eq_true (ext_getDg hl h0)
    exact leave_pure (xs := [.v (.bool true)]) (.inr rfl) (by simp (disch := (first | decide | omega)) only [resVs, resV, go_sem, hA, hg1]) (by simp only [one, AVlt_v, AVlt_any, AVlt_sl, AVlt_ptr, AVlt_mp, AVlt_agg, AVlt_tup, AVlt_fn, RowsLt_nil, RowsLt_live, RowsLt_dead, List.mem_cons, List.not_mem_nil, List.forall_mem_cons, List.forall_mem_nil, or_false, false_or, forall_eq_or_imp, forall_eq, vs_lt, Nat.add_lt_add_iff_left, Nat.reduceLT, true_and, and_true, and_self, List.length_cons, List.length_nil, Nat.reduceAdd, Nat.zero_add, implies_true, false_imp_iff, lt_T, List.mem_map]) hR hB ⟨by rw [he]; rfl, rfl, rfl⟩

theorem ckV_spec (v w : List Int) (h : S1 v w) (b l : List Row) : ACalls Try.prog 78 [.v (.isl 1 (v.map eI)), .v (.isl 1 (w.map eI))] b l (fun r b' l' => r = .v (.bool (decide (v = w))) ∧ b' = b ∧ l' = l) := by
  refine calls_kept a_ckV_ok rfl (by decide) ?_
  intro B g hB hR hE hA
  simp only [KArgs] at hA
  simp (disch := decide) only [a_ckV, hA, go_sem]
  refine ACalls.nxt (eq1_spec v w h _ _) ?_
  simp (disch := decide) only [hA, go_sem]
  exact leave_pure (xs := [.v (.bool (decide (v = w)))]) (.inr rfl) (by simp (disch := (first | decide | omega)) only [resVs, resV, go_sem, hA]) (by simp only [one, AVlt_v, AVlt_any, AVlt_sl, AVlt_ptr, AVlt_mp, AVlt_agg, AVlt_tup, AVlt_fn, RowsLt_nil, RowsLt_live, RowsLt_dead, List.mem_cons, List.not_mem_nil, List.forall_mem_cons, List.forall_mem_nil, or_false, false_or, forall_eq_or_imp, forall_eq, vs_lt, Nat.add_lt_add_iff_left, Nat.reduceLT, true_and, and_true, and_self, List.length_cons, List.length_nil, Nat.reduceAdd, Nat.zero_add, implies_true, false_imp_iff, lt_T, List.mem_map]) hR hB ⟨rfl, rfl, rfl⟩
theorem eqF2_spec (v w : List (List Int)) (hc : v.length = w.length → v.length ≤ 1000000 ∧ ∀ i (h : i < v.length) (h' : i < w.length), S1 v[i] w[i]) (b l : List Row) : ACalls Try.prog 77 [.v (.isl 1 (v.map eRw)), .v (.isl 1 (w.map eRw)), .fn 78 []] b l (fun r b' l' => r = .v (.bool (decide (v = w))) ∧ b' = b ∧ l' = l) := by
  refine calls_kept a_eqF2_ok rfl (by decide) ?_
  intro B g hB hR hE hA
  simp only [KArgs] at hA
  by_cases hl : v.length = w.length
  case neg =>
    have hd : ((v.length : Int) != (w.length : Int)) = true := by simp; omega
    have hne : decide (v = w) = false := by
      rw [decide_eq_false_iff_not]; intro h; subst h; exact hl rfl
    simp (disch := (first | decide | omega)) only [a_eqF2, hA, List.length_map, hd, go_sem]
    exact leave_pure (xs := [.v (.bool false)]) (.inr rfl) (by simp (disch := (first | decide | omega)) only [resVs, resV, go_sem, hA]) (by simp only [one, AVlt_v, AVlt_any, AVlt_sl, AVlt_ptr, AVlt_mp, AVlt_agg, AVlt_tup, AVlt_fn, RowsLt_nil, RowsLt_live, RowsLt_dead, List.mem_cons, List.not_mem_nil, List.forall_mem_cons, List.forall_mem_nil, or_false, false_or, forall_eq_or_imp, forall_eq, vs_lt, Nat.add_lt_add_iff_left, Nat.reduceLT, true_and, and_true, and_self, List.length_cons, List.length_nil, Nat.reduceAdd, Nat.zero_add, implies_true, false_imp_iff, lt_T, List.mem_map]) hR hB ⟨by rw [hne]; rfl, rfl, rfl⟩
  obtain ⟨hc1, hc2⟩ := hc hl
  have hd : ((v.length : Int) != (w.length : Int)) = false := by simp [hl]
  simp (disch := (first | decide | omega)) only [a_eqF2, hA, List.length_map, hd, go_sem]
  refine loop_kept (ι := Nat) r_eqF20 (fun i => [(17, .v (.int .i64 i))]) 0 (fun _ => [])
    (fun i => i ≤ v.length ∧ ∀ j, j < i → v.getD j [] = w.getD j []) (fun i => v.length - i) 0 ⟨Nat.zero_le _, fun j hj => by omega⟩ (by (repeat (first | exact hE.mono (by omega) | refine KLt.up ?_ (by simp (disch := omega) only [AVlt_v, AVlt_any, AVlt_sl, AVlt_ptr, AVlt_mp, AVlt_agg, AVlt_tup, AVlt_fn, RowsLt_nil, RowsLt_live, RowsLt_dead, List.mem_cons, List.not_mem_nil, List.forall_mem_cons, List.forall_mem_nil, or_false, false_or, forall_eq_or_imp, forall_eq, vs_lt, Nat.add_lt_add_iff_left, Nat.reduceLT, true_and, and_true, and_self, List.length_cons, List.length_nil, Nat.reduceAdd, Nat.zero_add, implies_true, false_imp_iff, lt_T, List.mem_map])))) (by ((try simp (disch := decide) only [hA, go_sem]) <;> (repeat' (first | exact trivial | refine And.intro ?_ ?_)) <;> (first | rfl | (congr 2; omega)))) (fun e => Weak.refl _ _ _) ?_
  rintro g1 hE1 hEE1 hg1 i ⟨hi, h0⟩
  by_cases hlt : i < v.length
  · have hlw : i < w.length := by omega
    have hci := hc2 i hlt hlw
    have hne : v[i] ≠ w[i] → decide (v = w) = false := by
      intro he; rw [decide_eq_false_iff_not]; intro h; subst h; exact he rfl
    simp (disch := (first | decide | omega)) only [hA, hg1, eRw, List.length_map, go_sem]
    refine ACalls.nxt (ckV_spec v[i] w[i] hci _ _) ?_
    by_cases he : v[i] = w[i]
    · have hd2 : decide (v[i] = w[i]) = true := decide_eq_true he
      simp (disch := (first | decide | omega)) only [hA, hg1, List.length_map, hd2, go_sem]
      refine ⟨i + 1, ⟨hlt, fun j hj => ?_⟩, by simp only; omega, ?_⟩
      · rcases Nat.lt_or_ge j i with hji | hji
        · exact h0 j hji
        · have : j = i := by omega
          subst this
          rw [getD_at hlt, getD_at hlw, he]
      exact Weak.kround (p := r_eqF20) (k := 0) (by ((repeat refine (kAny_up rfl).trans ?_); exact hEE1)) (by ((try simp (disch := decide) only [hA, go_sem]) <;> (repeat' (first | exact trivial | refine And.intro ?_ ?_)) <;> (first | rfl | (congr 2; omega)))) rfl hE1 (by simp) (by simp (disch := omega) only [KOvLt, AVlt_v, AVlt_any, AVlt_sl, AVlt_ptr, AVlt_mp, AVlt_agg, AVlt_tup, AVlt_fn, RowsLt_nil, RowsLt_live, RowsLt_dead, List.mem_cons, List.not_mem_nil, List.forall_mem_cons, List.forall_mem_nil, or_false, false_or, forall_eq_or_imp, forall_eq, vs_lt, Nat.add_lt_add_iff_left, Nat.reduceLT, true_and, and_true, and_self, List.length_cons, List.length_nil, Nat.reduceAdd, Nat.zero_add, implies_true, false_imp_iff, lt_T, List.mem_map]) hR (by simp (disch := omega) only [AVlt_v, AVlt_any, AVlt_sl, AVlt_ptr, AVlt_mp, AVlt_agg, AVlt_tup, AVlt_fn, RowsLt_nil, RowsLt_live, RowsLt_dead, List.mem_cons, List.not_mem_nil, List.forall_mem_cons, List.forall_mem_nil, or_false, false_or, forall_eq_or_imp, forall_eq, vs_lt, Nat.add_lt_add_iff_left, Nat.reduceLT, true_and, and_true, and_self, List.length_cons, List.length_nil, Nat.reduceAdd, Nat.zero_add, implies_true, false_imp_iff, lt_T, List.mem_map])
    · have hd2 : decide (v[i] = w[i]) = false := decide_eq_false he
      simp (disch := (first | decide | omega)) only [hA, hg1, List.length_map, hd2, go_sem]
      exact leave_pure (xs := [.v (.bool false)]) (.inr rfl) (by simp (disch := (first | decide | omega)) only [resVs, resV, go_sem, hA, hg1]) (by simp only [one, AVlt_v, AVlt_any, AVlt_sl, AVlt_ptr, AVlt_mp, AVlt_agg, AVlt_tup, AVlt_fn, RowsLt_nil, RowsLt_live, RowsLt_dead, List.mem_cons, List.not_mem_nil, List.forall_mem_cons, List.forall_mem_nil, or_false, false_or, forall_eq_or_imp, forall_eq, vs_lt, Nat.add_lt_add_iff_left, Nat.reduceLT, true_and, and_true, and_self, List.length_cons, List.length_nil, Nat.reduceAdd, Nat.zero_add, implies_true, false_imp_iff, lt_T, List.mem_map]) hR hB ⟨by rw [hne he]; rfl, rfl, rfl⟩
  · simp (disch := (first | decide | omega)) only [hA, hg1, List.length_map, go_sem]
    obtain rfl : i = v.length := by omega
    have he : decide (v = w) = true := decide_eq_true (ext_getDg hl h0)
    exact leave_pure (xs := [.v (.bool true)]) (.inr rfl) (by simp (disch := (first | decide | omega)) only [resVs, resV, go_sem, hA, hg1]) (by simp only [one, AVlt_v, AVlt_any, AVlt_sl, AVlt_ptr, AVlt_mp, AVlt_agg, AVlt_tup, AVlt_fn, RowsLt_nil, RowsLt_live, RowsLt_dead, List.mem_cons, List.not_mem_nil, List.forall_mem_cons, List.forall_mem_nil, or_false, false_or, forall_eq_or_imp, forall_eq, vs_lt, Nat.add_lt_add_iff_left, Nat.reduceLT, true_and, and_true, and_self, List.length_cons, List.length_nil, Nat.reduceAdd, Nat.zero_add, implies_true, false_imp_iff, lt_T, List.mem_map]) hR hB ⟨by rw [he]; rfl, rfl, rfl⟩

theorem ckR_spec (v w : List (List Int)) (h : S2 v w) (b l : List Row) : ACalls Try.prog 76 [.v (.isl 1 (v.map eRw)), .v (.isl 1 (w.map eRw))] b l (fun r b' l' => r = .v (.bool (decide (v = w))) ∧ b' = b ∧ l' = l) := by
  refine calls_kept a_ckR_ok rfl (by decide) ?_
  intro B g hB hR hE hA
  simp only [KArgs] at hA
  simp (disch := decide) only [a_ckR, hA, go_sem]
  refine ACalls.nxt (eqF2_spec v w h _ _) ?_
  simp (disch := decide) only [hA, go_sem]
  exact leave_pure (xs := [.v (.bool (decide (v = w)))]) (.inr rfl) (by simp (disch := (first | decide | omega)) only [resVs, resV, go_sem, hA]) (by simp only [one, AVlt_v, AVlt_any, AVlt_sl, AVlt_ptr, AVlt_mp, AVlt_agg, AVlt_tup, AVlt_fn, RowsLt_nil, RowsLt_live, RowsLt_dead, List.mem_cons, List.not_mem_nil, List.forall_mem_cons, List.forall_mem_nil, or_false, false_or, forall_eq_or_imp, forall_eq, vs_lt, Nat.add_lt_add_iff_left, Nat.reduceLT, true_and, and_true, and_self, List.length_cons, List.length_nil, Nat.reduceAdd, Nat.zero_add, implies_true, false_imp_iff, lt_T, List.mem_map]) hR hB ⟨rfl, rfl, rfl⟩
theorem eqF3_spec (v w : List (List (List Int))) (hc : v.length = w.length → v.length ≤ 1000000 ∧ ∀ i (h : i < v.length) (h' : i < w.length), S2 v[i] w[i]) (b l : List Row) : ACalls Try.prog 75 [.v (.isl 1 (v.map eMx)), .v (.isl 1 (w.map eMx)), .fn 76 []] b l (fun r b' l' => r = .v (.bool (decide (v = w))) ∧ b' = b ∧ l' = l) := by
  refine calls_kept a_eqF3_ok rfl (by decide) ?_
  intro B g hB hR hE hA
  simp only [KArgs] at hA
  by_cases hl : v.length = w.length
  case neg =>
    have hd : ((v.length : Int) != (w.length : Int)) = true := by simp; omega
    have hne : decide (v = w) = false := by
      rw [decide_eq_false_iff_not]; intro h; subst h; exact hl rfl
    simp (disch := (first | decide | omega)) only [a_eqF3, hA, List.length_map, hd, go_sem]
    exact leave_pure (xs := [.v (.bool false)]) (.inr rfl) (by simp (disch := (first | decide | omega)) only [resVs, resV, go_sem, hA]) (by simp only [one, AVlt_v, AVlt_any, AVlt_sl, AVlt_ptr, AVlt_mp, AVlt_agg, AVlt_tup, AVlt_fn, RowsLt_nil, RowsLt_live, RowsLt_dead, List.mem_cons, List.not_mem_nil, List.forall_mem_cons, List.forall_mem_nil, or_false, false_or, forall_eq_or_imp, forall_eq, vs_lt, Nat.add_lt_add_iff_left, Nat.reduceLT, true_and, and_true, and_self, List.length_cons, List.length_nil, Nat.reduceAdd, Nat.zero_add, implies_true, false_imp_iff, lt_T, List.mem_map]) hR hB ⟨by rw [hne]; rfl, rfl, rfl⟩
  obtain ⟨hc1, hc2⟩ := hc hl
  have hd : ((v.length : Int) != (w.length : Int)) = false := by simp [hl]
  simp (disch := (first | decide | omega)) only [a_eqF3, hA, List.length_map, hd, go_sem]
  refine loop_kept (ι := Nat) r_eqF30 (fun i => [(17, .v (.int .i64 i))]) 0 (fun _ => [])
    (fun i => i ≤ v.length ∧ ∀ j, j < i → v.getD j [] = w.getD j []) (fun i => v.length - i) 0 ⟨Nat.zero_le _, fun j hj => by omega⟩ (by (repeat (first | exact hE.mono (by omega) | refine KLt.up ?_ (by simp (disch := omega) only [AVlt_v, AVlt_any, AVlt_sl, AVlt_ptr, AVlt_mp, AVlt_agg, AVlt_tup, AVlt_fn, RowsLt_nil, RowsLt_live, RowsLt_dead, List.mem_cons, List.not_mem_nil, List.forall_mem_cons, List.forall_mem_nil, or_false, false_or, forall_eq_or_imp, forall_eq, vs_lt, Nat.add_lt_add_iff_left, Nat.reduceLT, true_and, and_true, and_self, List.length_cons, List.length_nil, Nat.reduceAdd, Nat.zero_add, implies_true, false_imp_iff, lt_T, List.mem_map])))) (by ((try simp (disch := decide) only [hA, go_sem]) <;> (repeat' (first | exact trivial | refine And.intro ?_ ?_)) <;> (first | rfl | (congr 2; omega)))) (fun e => Weak.refl _ _ _) ?_
  rintro g1 hE1 hEE1 hg1 i ⟨hi, h0⟩
  by_cases hlt : i < v.length
  · have hlw : i < w.length := by omega
    have hci := hc2 i hlt hlw
    have hne : v[i] ≠ w[i] → decide (v = w) = false := by
      intro he; rw [decide_eq_false_iff_not]; intro h; subst h; exact he rfl
    simp (disch := (first | decide | omega)) only [hA, hg1, eMx, List.length_map, go_sem]
    refine ACalls.nxt (ckR_spec v[i] w[i] hci _ _) ?_
    by_cases he : v[i] = w[i]
    · have hd2 : decide (v[i] = w[i]) = true := decide_eq_true he
      simp (disch := (first | decide | omega)) only [hA, hg1, List.length_map, hd2, go_sem]
      refine ⟨i + 1, ⟨hlt, fun j hj => ?_⟩, by simp only; omega, ?_⟩
      · rcases Nat.lt_or_ge j i with hji | hji
        · exact h0 j hji
        · have : j = i := by omega
          subst this
          rw [getD_at hlt, getD_at hlw, he]
      exact Weak.kround (p := r_eqF30) (k := 0) (by ((repeat refine (kAny_up rfl).trans ?_); exact hEE1)) (by ((try simp (disch := decide) only [hA, go_sem]) <;> (repeat' (first | exact trivial | refine And.intro ?_ ?_)) <;> (first | rfl | (congr 2; omega)))) rfl hE1 (by simp) (by simp (disch := omega) only [KOvLt, AVlt_v, AVlt_any, AVlt_sl, AVlt_ptr, AVlt_mp, AVlt_agg, AVlt_tup, AVlt_fn, RowsLt_nil, RowsLt_live, RowsLt_dead, List.mem_cons, List.not_mem_nil, List.forall_mem_cons, List.forall_mem_nil, or_false, false_or, forall_eq_or_imp, forall_eq, vs_lt, Nat.add_lt_add_iff_left, Nat.reduceLT, true_and, and_true, and_self, List.length_cons, List.length_nil, Nat.reduceAdd, Nat.zero_add, implies_true, false_imp_iff, lt_T, List.mem_map]) hR (by simp (disch := omega) only [AVlt_v, AVlt_any, AVlt_sl, AVlt_ptr, AVlt_mp, AVlt_agg, AVlt_tup, AVlt_fn, RowsLt_nil, RowsLt_live, RowsLt_dead, List.mem_cons, List.not_mem_nil, List.forall_mem_cons, List.forall_mem_nil, or_false, false_or, forall_eq_or_imp, forall_eq, vs_lt, Nat.add_lt_add_iff_left, Nat.reduceLT, true_and, and_true, and_self, List.length_cons, List.length_nil, Nat.reduceAdd, Nat.zero_add, implies_true, false_imp_iff, lt_T, List.mem_map])
    · have hd2 : decide (v[i] = w[i]) = false := decide_eq_false he
      simp (disch := (first | decide | omega)) only [hA, hg1, List.length_map, hd2, go_sem]
      exact leave_pure (xs := [.v (.bool false)]) (.inr rfl) (by simp (disch := (first | decide | omega)) only [resVs, resV, go_sem, hA, hg1]) (by simp only [one, AVlt_v, AVlt_any, AVlt_sl, AVlt_ptr, AVlt_mp, AVlt_agg, AVlt_tup, AVlt_fn, RowsLt_nil, RowsLt_live, RowsLt_dead, List.mem_cons, List.not_mem_nil, List.forall_mem_cons, List.forall_mem_nil, or_false, false_or, forall_eq_or_imp, forall_eq, vs_lt, Nat.add_lt_add_iff_left, Nat.reduceLT, true_and, and_true, and_self, List.length_cons, List.length_nil, Nat.reduceAdd, Nat.zero_add, implies_true, false_imp_iff, lt_T, List.mem_map]) hR hB ⟨by rw [hne he]; rfl, rfl, rfl⟩
  · simp (disch := (first | decide | omega)) only [hA, hg1, List.length_map, go_sem]
    obtain rfl : i = v.length := by omega
    have he : decide (v = w) = true := decide_eq_true (ext_getDg hl h0)
    exact leave_pure (xs := [.v (.bool true)]) (.inr rfl) (by simp (disch := (first | decide | omega)) only [resVs, resV, go_sem, hA, hg1]) (by simp only [one, AVlt_v, AVlt_any, AVlt_sl, AVlt_ptr, AVlt_mp, AVlt_agg, AVlt_tup, AVlt_fn, RowsLt_nil, RowsLt_live, RowsLt_dead, List.mem_cons, List.not_mem_nil, List.forall_mem_cons, List.forall_mem_nil, or_false, false_or, forall_eq_or_imp, forall_eq, vs_lt, Nat.add_lt_add_iff_left, Nat.reduceLT, true_and, and_true, and_self, List.length_cons, List.length_nil, Nat.reduceAdd, Nat.zero_add, implies_true, false_imp_iff, lt_T, List.mem_map]) hR hB ⟨by rw [he]; rfl, rfl, rfl⟩

end Go.Proofs.Ytiiflkcebikecaa

/- Chapter 15: Stamps, Check, as runs. No condition but on lengths. -/
namespace Go.Proofs.Ytiiflkcebikecaa
set_option linter.unusedVariables false
set_option linter.unusedSimpArgs false
attribute [local go_sem ↓] run_skip run_region run_draw run_seq run_block run_exit run_ret run_cond atN_app seqC_normal seqC_exit seqC_ret seqQ_normal seqQ_exit seqQ_ret blkQ_normal blkQ_exit blkQ_ret runOps_nil runOps_cons runD_nil runD_cons grdO_true grdO_false grdD_true grdD_false ifC_true ifC_false opS_val opS_call opS_two opK_app dS_val dS_call dS_two dK_app kUp_same kUp_ne
attribute [local go_sem] rechks_nil rechks_cons rechk gcase_true gcase_false ex_val ex_val0 gd_none gd_some ev_t ev_c evs_nil evs_cons evo_some evo_none hget_at hget_first hsetB_at hsetB_first hsetL_at hsetL_first ofOpt_some aop aload astore aslice aappend aiaddr aiaddrA afaddr alen alenS acopy amm acall alookup amupdate alenM comma keyEq apick binV binVB binVS isSh intOp strOp boolOp shOp eqC eqF and2 cellsOf setFrom fillA fillS rd rdI elems mk bounds AV.cell List.all_cons List.all_nil Bool.and_true Bool.true_and Bool.and_self List.length_cons List.length_nil List.length_append Nat.reduceAdd Nat.reduceSub Nat.reduceMul Nat.zero_add Nat.add_zero List.cons_append List.nil_append List.append_assoc List.append_nil List.getElem?_cons_zero List.getElem?_cons_succ List.getElem?_nil List.set_cons_zero List.set_cons_succ List.drop_zero List.drop_succ_cons List.take_zero List.take_succ_cons List.take_nil List.drop_nil List.map_cons List.map_nil Option.map_some if_true if_false Bool.false_eq_true and_self true_and and_true Nat.reduceLeDiff Nat.reduceLT Nat.le_refl Nat.reduceEqDiff ite_true ite_false beq_self_eq_true beq_true beq_false Bool.not_true Bool.not_false Bool.true_beq Bool.false_beq map_vs vs_len vs_get vs_take vs_drop vs_snoc1 vs_snoc2 vs_snoc3 vs_snoc5 vs_set1 vs_set2 vs_rep wrap_id le_T lt_T le_F lt_F leI_T ltI_T leI_F ltI_F geI gtI get_T decide_true decide_false room List.getElem?_map List.length_map List.length_take Int.toNat_natCast Nat.min_def Nat.min_self nth_kOf put_kOf put_kNo kOv_cons kOv_nil KHas KArgs List.getElem_cons_zero List.getElem_cons_succ
/-- The stamps of a trace, as lists. -/
noncomputable def stL (t : Tr) : List (List (List Int)) := fl t.length fun p => fl (evsOf t p).length fun i => vcs t (p, i + 1)
theorem stL_all {t : Tr} : stAll t t.length = (stL t).map eMx := by
  unfold stAll stL
  rw [fl_map]
  refine fl_congr (fun p _ => ?_)
  unfold eMx stRow
  rw [fl_map]; rfl
theorem stL_len {t : Tr} : (stL t).length = t.length := fl_len
/-- What comes out of stamps can be compared. -/
theorem stL_fit {t : Tr} (hv : Vok t) (hS : Small t) (w : List (List (List Int))) : (stL t).length = w.length → (stL t).length ≤ 1000000 ∧ ∀ i (h : i < (stL t).length) (h' : i < w.length), S2 (stL t)[i] w[i] := by
  intro _
  have h8 := hv.hi
  refine ⟨by rw [stL_len]; omega, fun i h h' => ?_⟩
  have hi : i < t.length := by rwa [stL_len] at h
  have e : (stL t)[i] = fl (evsOf t i).length fun k => vcs t (i, k + 1) := fl_getE h
  rw [e]
  intro _
  refine ⟨by rw [fl_len, evsOf_lt hi]; exact hS.ne _ (List.getElem_mem hi), fun k k1 k2 => ?_⟩
  rw [fl_getE k1]
  show (vcs t (i, k + 1)).length ≤ 1000000
  unfold vcs; rw [fl_len]; omega
theorem vStamps_spec (t : Tr) (hS : Small t) (hN : Nm t) (b l : List Row) :
    ACalls Try.prog 19 [.agg [.v (eT t)]] b l (fun r b' l' => r = (if validL t = true then .tup [.v (.isl 1 ((stL t).map eMx)), .v (.int .i64 0)] else .tup [.v .zsl, .v (.int .i64 1)]) ∧ b' = b ∧ l' = l) := by
  refine calls_kept a_vStamps_ok rfl (by decide) ?_
  intro B g hB hR hE hA
  simp only [KArgs] at hA
  simp (disch := decide) only [a_vStamps, hA, go_sem]
  refine ACalls.nxt (valid_spec t hS hN _ _) ?_
  cases hval : validL t with
  | false =>
    simp (disch := decide) only [hA, go_sem]
    exact leave_pure (xs := [.v .zsl, .v (.int .i64 1)]) (.inr rfl) (by simp (disch := (first | decide | omega)) only [resVs, resV, go_sem, hA]) (by simp only [one, AVlt_v, AVlt_any, AVlt_sl, AVlt_ptr, AVlt_mp, AVlt_agg, AVlt_tup, AVlt_fn, RowsLt_nil, RowsLt_live, RowsLt_dead, List.mem_cons, List.not_mem_nil, List.forall_mem_cons, List.forall_mem_nil, or_false, false_or, forall_eq_or_imp, forall_eq, vs_lt, Nat.add_lt_add_iff_left, Nat.reduceLT, true_and, and_true, and_self, List.length_cons, List.length_nil, Nat.reduceAdd, Nat.zero_add, implies_true, false_imp_iff, lt_T, List.mem_map]) hR hB ⟨rfl, rfl, rfl⟩
  | true =>
    have hv := vok hval
    have hst := fun b l => stamps_spec t hv hS b l
    simp only [stL_all] at hst
    simp (disch := decide) only [hA, go_sem]
    refine ACalls.nxt (hst _ _) ?_
    simp (disch := decide) only [hA, go_sem]
    exact leave_pure (xs := [.v (.isl 1 ((stL t).map eMx)), .v (.int .i64 0)]) (.inr rfl) (by simp (disch := (first | decide | omega)) only [resVs, resV, go_sem, hA]) (by simp only [one, AVlt_v, AVlt_any, AVlt_sl, AVlt_ptr, AVlt_mp, AVlt_agg, AVlt_tup, AVlt_fn, RowsLt_nil, RowsLt_live, RowsLt_dead, List.mem_cons, List.not_mem_nil, List.forall_mem_cons, List.forall_mem_nil, or_false, false_or, forall_eq_or_imp, forall_eq, vs_lt, Nat.add_lt_add_iff_left, Nat.reduceLT, true_and, and_true, and_self, List.length_cons, List.length_nil, Nat.reduceAdd, Nat.zero_add, implies_true, false_imp_iff, lt_T, List.mem_map]) hR hB ⟨rfl, rfl, rfl⟩
theorem vCheck_spec (t : Tr) (w : List (List (List Int))) (hS : Small t) (hN : Nm t) (b l : List Row) :
    ACalls Try.prog 21 [.agg [.v (eT t)], .v (.isl 1 (w.map eMx))] b l (fun r b' l' => r = .v (.bool (validL t && decide (stL t = w))) ∧ b' = b ∧ l' = l) := by
  refine calls_kept a_vCheck_ok rfl (by decide) ?_
  intro B g hB hR hE hA
  simp only [KArgs] at hA
  simp (disch := decide) only [a_vCheck, hA, go_sem]
  refine ACalls.nxt (valid_spec t hS hN _ _) ?_
  cases hval : validL t with
  | false =>
    simp (disch := decide) only [hA, go_sem]
    exact leave_pure (xs := [.v (.bool false)]) (.inr rfl) (by simp (disch := (first | decide | omega)) only [resVs, resV, go_sem, hA]) (by simp only [one, AVlt_v, AVlt_any, AVlt_sl, AVlt_ptr, AVlt_mp, AVlt_agg, AVlt_tup, AVlt_fn, RowsLt_nil, RowsLt_live, RowsLt_dead, List.mem_cons, List.not_mem_nil, List.forall_mem_cons, List.forall_mem_nil, or_false, false_or, forall_eq_or_imp, forall_eq, vs_lt, Nat.add_lt_add_iff_left, Nat.reduceLT, true_and, and_true, and_self, List.length_cons, List.length_nil, Nat.reduceAdd, Nat.zero_add, implies_true, false_imp_iff, lt_T, List.mem_map]) hR hB ⟨rfl, rfl, rfl⟩
  | true =>
    have hv := vok hval
    have hst := fun b l => stamps_spec t hv hS b l
    simp only [stL_all] at hst
    simp (disch := decide) only [hA, go_sem]
    refine ACalls.nxt (hst _ _) ?_
    simp (disch := decide) only [hA, go_sem]
    refine ACalls.nxt (eqF3_spec (stL t) w (stL_fit hv hS w) _ _) ?_
    simp (disch := decide) only [hA, go_sem]
    exact leave_pure (xs := [.v (.bool (decide (stL t = w)))]) (.inr rfl) (by simp (disch := (first | decide | omega)) only [resVs, resV, go_sem, hA]) (by simp only [one, AVlt_v, AVlt_any, AVlt_sl, AVlt_ptr, AVlt_mp, AVlt_agg, AVlt_tup, AVlt_fn, RowsLt_nil, RowsLt_live, RowsLt_dead, List.mem_cons, List.not_mem_nil, List.forall_mem_cons, List.forall_mem_nil, or_false, false_or, forall_eq_or_imp, forall_eq, vs_lt, Nat.add_lt_add_iff_left, Nat.reduceLT, true_and, and_true, and_self, List.length_cons, List.length_nil, Nat.reduceAdd, Nat.zero_add, implies_true, false_imp_iff, lt_T, List.mem_map]) hR hB ⟨rfl, rfl, rfl⟩
end Go.Proofs.Ytiiflkcebikecaa
