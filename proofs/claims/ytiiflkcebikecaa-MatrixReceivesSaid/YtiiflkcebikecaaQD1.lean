/- Texts of one proof, laid together: E1, WR, MT, MU. No condition. -/
import Derived.Test.YtiiflkcebikecaaQB1
/- Concrete runs, whose rows may be frozen ahead of a call. No condition. -/
namespace Go.Proofs.Ytiiflkcebikecaa.E1
set_option linter.unusedVariables false
/-- Rows of plain values of the caller's own are frozen ahead of a call: its arguments read as plain values. -/
theorem ACalls.freezeDeep {P : Program} {f i ver sz : Nat} {args : List AV} {rows : List (List IV)} {b l : List Row} {Q : AV → List Row → List Row → Prop} (n : Nat) (hi : l[i]? = some (.live ver sz (vs rows)))
    (h : ACalls P f (args.map (deep (frz0 (b.length + i) ver sz rows) n)) b ((l.set i (.dead ver)).map (rowMap (frz0 (b.length + i) ver sz rows))) Q) : ACalls P f args b l Q := by
  refine ⟨h.1, fun F L w us s hr => ?_⟩
  obtain ⟨F', s1, he1, st1, h4⟩ := freeze_core (e := []) hi F L w { tmps := #[], defers := [] } s ⟨rfl, rfl, fun j x v hx hv => by simp at hx⟩
  obtain ⟨s2, own⟩ := s1.mapRows h4 (fun x hx => frz0_cell x hx)
  refine Calls.mono (h.2 F' L w us s2 ⟨by have := hr.1; simpa using this, fun j x v hx hv => ?_⟩) ?_
  · rw [List.getElem?_map] at hx
    cases hq : args[j]? with
    | none => simp [hq] at hx
    | some y => simp [hq] at hx; subst hx; exact deep_rep h4 n y v ((hr.2 j y v hq hv).mono st1.imm (fun _ _ => rfl) (fun _ _ _ h => h))
  rintro en w' ⟨v, x, b', l', F2, L2, h1, h2, h3, h4', h5, h6⟩
  have hlen : (b ++ (l.set i (.dead ver)).map (rowMap (frz0 (b.length + i) ver sz rows))).length = (b ++ l).length := by simp
  have st : Step (b ++ l).length F L (b ++ l) w F' L (b ++ (l.set i (.dead ver)).map (rowMap (frz0 (b.length + i) ver sz rows))) w := by
    refine ⟨st1.imm, fun _ _ _ _ hl => hl, rfl, rfl, rfl, Nat.le_refl _, fun _ _ _ => rfl, fun k hk ho => st1.own k hk (own k ho), fun id hid v hv => ?_, st1.fnew⟩
    by_cases hj : id < b.length
    · rw [List.getElem?_append_left hj] at hv ⊢; exact hv
    · rw [List.getElem?_append_right (by omega)] at hv ⊢
      rw [List.getElem?_map]
      by_cases hji : i = id - b.length
      · rw [← hji, hi] at hv; cases hv
      · rw [List.getElem?_set_ne hji, hv]; rfl
  exact ⟨v, x, b', l', F2, L2, h1, h2, h3, st.trans (hlen ▸ h4'), h5, h6⟩
def frzArgs (nb : Nat) : List Nat → List AV → List Row → List AV × List Row
  | [], y, l => (y, l)
  | i :: is, y, l => match l[i]? with
    | some (.live ver sz els) => match mapO (mapO unV) els with
      | some rows => frzArgs nb is (y.map (deep (frz0 (nb + i) ver sz rows) 6)) ((l.set i (.dead ver)).map (rowMap (frz0 (nb + i) ver sz rows)))
      | none => frzArgs nb is y l
    | _ => frzArgs nb is y l
theorem frzArgs_ok {P : Program} {f : Nat} {b : List Row} {Q : AV → List Row → List Row → Prop} : ∀ (is : List Nat) (y : List AV) (l : List Row), ACalls P f (frzArgs b.length is y l).1 b (frzArgs b.length is y l).2 Q → ACalls P f y b l Q
  | [], y, l, h => h
  | i :: is, y, l, h => by
    unfold frzArgs at h
    split at h
    · rename_i ver sz els hi
      split at h
      · rename_i rows hr
        have := unV_els hr
        subst this
        exact ACalls.freezeDeep 6 hi (frzArgs_ok is _ _ h)
      · exact frzArgs_ok is _ _ h
    · exact frzArgs_ok is _ _ h

section
variable (T : Nat → Option AFunc) (O : Nat → List AV → Option AV) (Z : Nat → Nat)
def xcall0 (ex : ACode → List AV → List Row → List Row → Bool → XR) : XCall := fun f args b l => match O f args with
  | some y => .ok y b l false
  | none => match T f with
    | some af => if args.length = af.nargs then
        match ex af.body (args ++ List.replicate (af.ntmps - args.length) (.tup [])) (b ++ l) [] false with
        | .ok (.exit _) _ _ _ _ => .bad
        | .ok _ e B l' t => match resVs e B l' af.res with
          | some xs => fin (Z f % 100) b l (one xs) B l' t
          | none => .bad
        | .bad => .bad
      else .bad
    | none => .bad
/-- A call; Z says how often rows are gone through to be frozen: ahead of the call (hundreds), behind it. -/
def xcall (ex : ACode → List AV → List Row → List Row → Bool → XR) : XCall := fun f args b l =>
  let p := frzArgs b.length (times (Z f / 100) (List.range l.length).reverse) args l
  xcall0 T O Z ex f p.1 b p.2
def execS (ex : ACode → List AV → List Row → List Row → Bool → XR) : ACode → List AV → List Row → List Row → Bool → XR
  | .skip, e, b, l, t => .ok .normal e b l t
  | .region ops, e, b, l, t => xops (xcall T O Z ex) ops e b l t
  | .draw ds, e, b, l, t => xdraw (xcall T O Z ex) ds e b l t
  | .seq x y, e, b, l, t => match ex x e b l t with
    | .ok .normal e b l t => ex y e b l t
    | r => r
  | .cond c x y, e, b, l, t => match ev e c with
    | .v (.bool true) => ex x e b l t
    | .v (.bool false) => ex y e b l t
    | _ => .bad
  | .block id c, e, b, l, t => match ex c e b l t with
    | .ok (.exit i) e b l t => if i = id then .ok .normal e b l t else .ok (.exit i) e b l t
    | r => r
  | .loop c, e, b, l, t => match ex c e b l t with
    | .ok .normal e b l t => ex (.loop c) e b l t
    | r => r
  | .exit i, e, b, l, t => .ok (.exit i) e b l t
  | .ret, e, b, l, t => .ok .ret e b l t
def exec : Nat → ACode → List AV → List Row → List Row → Bool → XR
  | 0 => fun _ _ _ _ _ => .bad
  | n + 1 => execS T O Z (exec n)
end

/-! What is computed is what a run does. -/
section
variable {P : Program} {T : Nat → Option AFunc} {O : Nat → List AV → Option AV} {Z : Nat → Nat}

def XCallOk (P : Program) (call : XCall) : Prop := ∀ f args b l y b' l' t, call f args b l = .ok y b' l' t → (t = false → b' = b) ∧ ACalls P f args b l (fun x b1 l1 => x = y ∧ b1 = b' ∧ l1 = l')
def CodeOk (P : Program) (ex : ACode → List AV → List Row → List Row → Bool → XR) : Prop := ∀ c e b l t x e' b' l' t', ex c e b l t = .ok x e' b' l' t' → (t' = false → t = false ∧ b' = b) ∧ ∀ Q : AExit → List AV → List Row → List Row → Prop, Q x e' b' l' → run (ACalls P) Weak c e b l Q

theorem xops_ok {call : XCall} (hc : XCallOk P call) : ∀ (os : List AOper) (e : List AV) (b l : List Row) (t : Bool) (x : AExit) (e' : List AV) (b' l' : List Row) (t' : Bool), xops call os e b l t = .ok x e' b' l' t' →
    x = .normal ∧ (t' = false → t = false ∧ b' = b) ∧ ∀ K : List AV → List Row → List Row → Prop, K e' b' l' → runOps (ACalls P) os e b l K
  | [], e, b, l, t, x, e', b', l', t', h => by
    simp only [xops, XR.ok.injEq] at h
    obtain ⟨rfl, rfl, rfl, rfl, rfl⟩ := h
    exact ⟨rfl, fun h => ⟨h, rfl⟩, fun K hK => hK⟩
  | o :: os, e, b, l, t, x, e', b', l', t', h => by
    unfold xops at h
    simp only [runOps]
    unfold gcase
    split at h
    · rename_i hg
      rw [hg]
      simp only [if_true]
      split at h
      · rename_i v b1 l1 ha
        rw [ha]
        obtain ⟨k1, k2, k3⟩ := xops_ok hc os _ _ _ _ _ _ _ _ _ h
        refine ⟨k1, fun ht => ?_, fun K hK => k3 K hK⟩
        obtain ⟨h1, h2⟩ := k2 ht
        simp only [Bool.or_eq_false_iff] at h1
        exact ⟨h1.1, by rw [h2, wrB_ok ha h1.2]⟩
      · rename_i c v y ha
        rw [ha]
        split at h
        · cases h
        · rename_i hcf
          obtain ⟨k1, k2, k3⟩ := xops_ok hc os _ _ _ _ _ _ _ _ _ h
          exact ⟨k1, k2, fun K hK => ⟨fun hh => absurd hh hcf, k3 K hK⟩⟩
      · rename_i f args ha
        rw [ha]
        split at h
        · rename_i y b1 l1 t1 hcall
          obtain ⟨g1, g2⟩ := hc _ _ _ _ _ _ _ _ hcall
          obtain ⟨k1, k2, k3⟩ := xops_ok hc os _ _ _ _ _ _ _ _ _ h
          refine ⟨k1, fun ht => ?_, fun K hK => ?_⟩
          · obtain ⟨h1, h2⟩ := k2 ht
            simp only [Bool.or_eq_false_iff] at h1
            exact ⟨h1.1, by rw [h2, g1 h1.2]⟩
          · refine ACalls_mono _ _ _ _ _ _ g2 ?_
            rintro x b2 l2 ⟨rfl, rfl, rfl⟩
            exact k3 K hK
        · cases h
      · cases h
    · rename_i hg
      rw [hg]
      simp only [Bool.false_eq_true, if_false]
      exact xops_ok hc os _ _ _ _ _ _ _ _ _ h
    · cases h

theorem xdraw_ok {call : XCall} (hc : XCallOk P call) : ∀ (os : List DOper) (e : List AV) (b l : List Row) (t : Bool) (x : AExit) (e' : List AV) (b' l' : List Row) (t' : Bool), xdraw call os e b l t = .ok x e' b' l' t' →
    x = .normal ∧ (t' = false → t = false ∧ b' = b) ∧ ∀ K : List AV → List Row → List Row → Prop, K e' b' l' → runD (ACalls P) os e b l K
  | [], e, b, l, t, x, e', b', l', t', h => by
    simp only [xdraw, XR.ok.injEq] at h
    obtain ⟨rfl, rfl, rfl, rfl, rfl⟩ := h
    exact ⟨rfl, fun h => ⟨h, rfl⟩, fun K hK => hK⟩
  | o :: os, e, b, l, t, x, e', b', l', t', h => by
    unfold xdraw at h
    simp only [runD]
    unfold gcase
    split at h
    · rename_i hg
      rw [hg]
      simp only [if_true]
      split at h
      · rename_i v b1 l1 ha
        rw [ha]
        split at h
        case isFalse => cases h
        rename_i hre
        obtain ⟨k1, k2, k3⟩ := xdraw_ok hc os _ _ _ _ _ _ _ _ _ h
        refine ⟨k1, fun ht => ?_, fun K hK => ⟨rechksB_ok hre, k3 K hK⟩⟩
        obtain ⟨h1, h2⟩ := k2 ht
        simp only [Bool.or_eq_false_iff] at h1
        exact ⟨h1.1, by rw [h2, wrB_ok ha h1.2]⟩
      · cases h
      · rename_i f args ha
        rw [ha]
        split at h
        · rename_i y b1 l1 t1 hcall
          split at h
          case isFalse => cases h
          rename_i hre
          obtain ⟨g1, g2⟩ := hc _ _ _ _ _ _ _ _ hcall
          obtain ⟨k1, k2, k3⟩ := xdraw_ok hc os _ _ _ _ _ _ _ _ _ h
          refine ⟨k1, fun ht => ?_, fun K hK => ?_⟩
          · obtain ⟨h1, h2⟩ := k2 ht
            simp only [Bool.or_eq_false_iff] at h1
            exact ⟨h1.1, by rw [h2, g1 h1.2]⟩
          · refine ACalls_mono _ _ _ _ _ _ g2 ?_
            rintro x b2 l2 ⟨rfl, rfl, rfl⟩
            exact ⟨rechksB_ok hre, k3 K hK⟩
        · cases h
      · cases h
    · rename_i hg
      rw [hg]
      simp only [Bool.false_eq_true, if_false]
      exact xdraw_ok hc os _ _ _ _ _ _ _ _ _ h
    · cases h

theorem xcall0_ok (hT : ∀ f af, T f = some af → cFunc P f = some af) (hO : ∀ f args y, O f args = some y → ∀ b l, ACalls P f args b l (fun r b' l' => r = y ∧ b' = b ∧ l' = l))
    {ex : ACode → List AV → List Row → List Row → Bool → XR} (hx : CodeOk P ex) : XCallOk P (xcall0 T O Z ex) := by
  intro f args b l y b' l' t h
  unfold xcall0 at h
  split at h
  · rename_i y' ho
    simp only [XV.ok.injEq] at h
    obtain ⟨rfl, rfl, rfl, rfl⟩ := h
    exact ⟨fun _ => rfl, hO _ _ _ ho b l⟩
  · split at h
    case h_2 => cases h
    rename_i af haf
    split at h
    case isFalse => cases h
    rename_i hlen
    split at h
    · cases h
    · rename_i x e B l1 t1 hne hrun
      split at h
      case h_2 => cases h
      rename_i xs hxs
      obtain ⟨k1, k2⟩ := hx _ _ _ _ _ _ _ _ _ _ hrun
      have hex : x = .normal ∨ x = .ret := by
        cases x with
        | normal => exact .inl rfl
        | ret => exact .inr rfl
        | exit i => exact absurd rfl (hne i)
      have hfz := frzRows_ok (b := B) (times (Z f % 100) (List.range l1.length).reverse) (one xs) l1
      unfold fin at h
      simp only at h
      split at h
      · rename_i hc
        obtain ⟨rfl, hlt⟩ := hc
        simp only [XV.ok.injEq] at h
        obtain ⟨rfl, rfl, rfl, rfl⟩ := h
        have hB := (k1 rfl).2
        refine ⟨fun _ => rfl, calls_of (hT _ _ haf) hlen ?_⟩
        intro B0 hB0 hR _
        subst hB0
        refine k2 _ ⟨hex, xs, hxs, (frzRows (b.length + l.length) (times (Z f % 100) (List.range l1.length).reverse) (one xs) l1).1, B, [], ?_, ?_⟩
        · have hlenB : (b ++ l).length = b.length + l.length := by simp
          rw [hB] at hfz ⊢
          rw [← hlenB] at hlt ⊢
          refine hfz.trans (Weak.trim (l1 := []) rfl ?_ (by simpa using hR) RowsLt_nil)
          intro z hz
          simp only [List.mem_singleton] at hz
          subst hz
          simpa using ltB_ok _ _ hlt
        · rw [hB]; simp
      · split at h
        case isFalse => cases h
        rename_i hl
        simp only [XV.ok.injEq] at h
        obtain ⟨rfl, rfl, rfl, rfl⟩ := h
        refine ⟨fun ht => ?_, calls_of (hT _ _ haf) hlen ?_⟩
        · have hB := (k1 ht).2
          rw [hB]; simp
        · intro B0 hB0 hR _
          subst hB0
          refine k2 _ ⟨hex, xs, hxs, (frzRows (b.length + l.length) (times (Z f % 100) (List.range l1.length).reverse) (one xs) l1).1, B, (frzRows (b.length + l.length) (times (Z f % 100) (List.range l1.length).reverse) (one xs) l1).2, ?_, ?_⟩
          · exact hl ▸ hfz
          · simp
    · cases h

theorem xcall_ok (hT : ∀ f af, T f = some af → cFunc P f = some af) (hO : ∀ f args y, O f args = some y → ∀ b l, ACalls P f args b l (fun r b' l' => r = y ∧ b' = b ∧ l' = l))
    {ex : ACode → List AV → List Row → List Row → Bool → XR} (hx : CodeOk P ex) : XCallOk P (xcall T O Z ex) := by
  intro f args b l y b' l' t h
  obtain ⟨h1, h2⟩ := xcall0_ok hT hO hx _ _ _ _ _ _ _ _ h
  exact ⟨h1, frzArgs_ok _ _ _ h2⟩

theorem exec_ok (hT : ∀ f af, T f = some af → cFunc P f = some af) (hO : ∀ f args y, O f args = some y → ∀ b l, ACalls P f args b l (fun r b' l' => r = y ∧ b' = b ∧ l' = l)) :
    ∀ n, CodeOk P (exec T O Z n)
  | 0 => fun c e b l t x e' b' l' t' h => by simp [exec] at h
  | n + 1 => by
    have ih := exec_ok hT hO n
    have hcall := xcall_ok (Z := Z) hT hO ih
    intro c e b l t x e' b' l' t' h
    cases c with
    | skip =>
      simp only [exec, execS, XR.ok.injEq] at h
      obtain ⟨rfl, rfl, rfl, rfl, rfl⟩ := h
      exact ⟨fun h => ⟨h, rfl⟩, fun Q hQ => hQ⟩
    | exit i =>
      simp only [exec, execS, XR.ok.injEq] at h
      obtain ⟨rfl, rfl, rfl, rfl, rfl⟩ := h
      exact ⟨fun h => ⟨h, rfl⟩, fun Q hQ => hQ⟩
    | ret =>
      simp only [exec, execS, XR.ok.injEq] at h
      obtain ⟨rfl, rfl, rfl, rfl, rfl⟩ := h
      exact ⟨fun h => ⟨h, rfl⟩, fun Q hQ => hQ⟩
    | region ops =>
      simp only [exec, execS] at h
      obtain ⟨rfl, h2, h3⟩ := xops_ok hcall ops e b l t x e' b' l' t' h
      exact ⟨h2, fun Q hQ => h3 (Q .normal) hQ⟩
    | draw ds =>
      simp only [exec, execS] at h
      obtain ⟨rfl, h2, h3⟩ := xdraw_ok hcall ds e b l t x e' b' l' t' h
      exact ⟨h2, fun Q hQ => h3 (Q .normal) hQ⟩
    | seq c1 c2 =>
      simp only [exec, execS] at h
      split at h
      · rename_i e1 b1 l1 t1 h1
        obtain ⟨k1, k2⟩ := ih _ _ _ _ _ _ _ _ _ _ h1
        obtain ⟨g1, g2⟩ := ih _ _ _ _ _ _ _ _ _ _ h
        refine ⟨fun ht => ?_, fun Q hQ => k2 _ (g2 Q hQ)⟩
        obtain ⟨q1, q2⟩ := g1 ht
        obtain ⟨q3, q4⟩ := k1 q1
        exact ⟨q3, by rw [q2, q4]⟩
      · rename_i hne
        obtain ⟨k1, k2⟩ := ih _ _ _ _ _ _ _ _ _ _ h
        refine ⟨k1, fun Q hQ => k2 _ ?_⟩
        cases x with
        | normal => exact absurd h (hne _ _ _ _)
        | exit i => exact hQ
        | ret => exact hQ
    | cond c c1 c2 =>
      simp only [exec, execS] at h
      simp only [run]
      split at h
      · rename_i hc
        rw [hc]
        exact ih _ _ _ _ _ _ _ _ _ _ h
      · rename_i hc
        rw [hc]
        exact ih _ _ _ _ _ _ _ _ _ _ h
      · cases h
    | block id c =>
      simp only [exec, execS] at h
      split at h
      · rename_i i e1 b1 l1 t1 h1
        obtain ⟨k1, k2⟩ := ih _ _ _ _ _ _ _ _ _ _ h1
        split at h
        · rename_i hi
          simp only [XR.ok.injEq] at h
          obtain ⟨rfl, rfl, rfl, rfl, rfl⟩ := h
          refine ⟨k1, fun Q hQ => k2 _ ?_⟩
          simp only [blkQ]; rw [if_pos hi]; exact hQ
        · rename_i hi
          simp only [XR.ok.injEq] at h
          obtain ⟨rfl, rfl, rfl, rfl, rfl⟩ := h
          refine ⟨k1, fun Q hQ => k2 _ ?_⟩
          simp only [blkQ]; rw [if_neg hi]; exact hQ
      · rename_i hne
        obtain ⟨k1, k2⟩ := ih _ _ _ _ _ _ _ _ _ _ h
        refine ⟨k1, fun Q hQ => k2 _ ?_⟩
        cases x with
        | normal => exact hQ
        | exit i => exact absurd h (hne _ _ _ _ _)
        | ret => exact hQ
    | loop c =>
      have key : ∀ m, m ≤ n + 1 → ∀ e b l t x e' b' l' t', exec T O Z m (.loop c) e b l t = .ok x e' b' l' t' → (t' = false → t = false ∧ b' = b) ∧ ∃ k, m = k + 1 ∧
          ∀ Q : AExit → List AV → List Row → List Row → Prop, Q x e' b' l' → run (ACalls P) Weak c e b l (seqQ (fun e1 b1 l1 => ∃ t1, exec T O Z k (.loop c) e1 b1 l1 t1 = .ok x e' b' l' t') Q) := by
        intro m hm e b l t x e' b' l' t' h
        cases m with
        | zero => simp [exec] at h
        | succ m =>
          have ihm := exec_ok hT hO m
          simp only [exec, execS] at h
          split at h
          · rename_i e1 b1 l1 t1 h1
            obtain ⟨k1, k2⟩ := ihm _ _ _ _ _ _ _ _ _ _ h1
            obtain ⟨g1, g2⟩ := ihm _ _ _ _ _ _ _ _ _ _ h
            refine ⟨fun ht => ?_, m, rfl, fun Q hQ => k2 _ ⟨t1, h⟩⟩
            obtain ⟨q1, q2⟩ := g1 ht
            obtain ⟨q3, q4⟩ := k1 q1
            exact ⟨q3, by rw [q2, q4]⟩
          · rename_i hne
            obtain ⟨k1, k2⟩ := ihm _ _ _ _ _ _ _ _ _ _ h
            refine ⟨k1, m, rfl, fun Q hQ => k2 _ ?_⟩
            cases x with
            | normal => exact absurd h (hne _ _ _ _)
            | exit i => exact hQ
            | ret => exact hQ
      refine ⟨(key _ (Nat.le_refl _) _ _ _ _ _ _ _ _ _ h).1, fun Q hQ => ?_⟩
      refine ⟨fun e b l m => m ≤ n + 1 ∧ ∃ t, exec T O Z m (.loop c) e b l t = .ok x e' b' l' t', ⟨e, b, l, n + 1, Weak.refl _ _ _, Nat.le_refl _, t, h⟩, ?_⟩
      rintro e1 b1 l1 m ⟨hm, t1, h1⟩
      obtain ⟨_, k, rfl, hk⟩ := key m hm _ _ _ _ _ _ _ _ _ h1
      refine run_mono' ACalls_mono (hk Q hQ) ?_
      intro ex e2 b2 l2 h2
      cases ex with
      | normal =>
        obtain ⟨t2, h3⟩ := h2
        exact ⟨e2, b2, l2, k, Weak.refl _ _ _, ⟨by omega, t2, h3⟩, by omega⟩
      | exit j => exact h2
      | ret => exact h2

/-- A function without arguments that answers with a plain value: in every world. -/
theorem ACalls.of_exec (hT : ∀ f af, T f = some af → cFunc P f = some af) (hO : ∀ f args y, O f args = some y → ∀ b l, ACalls P f args b l (fun r b' l' => r = y ∧ b' = b ∧ l' = l))
    {n f : Nat} {x : IV} {b1 l1 : List Row} {t : Bool} (h : xcall T O Z (exec T O Z n) f [] [] [] = .ok (.v x) b1 l1 t) : ACalls P f [] [] [] (fun r b' l' => r = .v x) := by
  refine ACalls_mono _ _ _ _ _ _ (xcall_ok hT hO (exec_ok hT hO n) f [] [] [] _ _ _ _ h).2 ?_
  rintro r b' l' ⟨rfl, _, _⟩
  rfl
end
end Go.Proofs.Ytiiflkcebikecaa.E1

/- Rows of the call's own whose cells are rows of the call's own: matrices in the making. No condition. -/
namespace Go.Proofs.Ytiiflkcebikecaa
set_option linter.unusedVariables false

/-- The list of n elements that a function says. -/
def fl {α : Type} (n : Nat) (f : Nat → α) : List α := (List.range n).map f
def fUp {α : Type} (f : Nat → α) (i : Nat) (x : α) : Nat → α := fun j => if j = i then x else f j
section
variable {α β : Type}
theorem fl_len {n : Nat} {f : Nat → α} : (fl n f).length = n := by simp [fl]
theorem fl_get {n : Nat} {f : Nat → α} {i : Nat} (h : i < n) : (fl n f)[i]? = some (f i) := by
  unfold fl; rw [List.getElem?_map, List.getElem?_range h]; rfl
theorem fl_none {n : Nat} {f : Nat → α} {i : Nat} (h : n ≤ i) : (fl n f)[i]? = none := by
  rw [List.getElem?_eq_none]; rw [fl_len]; exact h
theorem fl_congr {n : Nat} {f g : Nat → α} (h : ∀ i, i < n → f i = g i) : fl n f = fl n g := by
  unfold fl
  refine List.map_congr_left (fun i hi => h i (List.mem_range.1 hi))
theorem fl_map {n : Nat} {f : Nat → α} {g : α → β} : (fl n f).map g = fl n (fun i => g (f i)) := by simp [fl]
theorem fl_set {n : Nat} {f : Nat → α} {i : Nat} {x : α} : (fl n f).set i x = fl n (fUp f i x) := by
  apply List.ext_getElem?
  intro j
  by_cases hj : j < n
  · rw [fl_get hj]
    unfold fUp
    by_cases hij : j = i
    · subst hij
      rw [List.getElem?_set_self (by rw [fl_len]; exact hj), if_pos rfl]
    · rw [List.getElem?_set_ne (Ne.symm hij), fl_get hj, if_neg hij]
  · rw [fl_none (by omega), List.getElem?_eq_none]; rw [List.length_set, fl_len]; omega
theorem fl_snoc {n : Nat} {f : Nat → α} {x : α} : fl n f ++ [x] = fl (n + 1) (fUp f n x) := by
  unfold fl
  rw [List.range_succ, List.map_append]
  congr 1
  · refine List.map_congr_left (fun i hi => ?_)
    have := List.mem_range.1 hi
    unfold fUp; rw [if_neg (by omega)]
  · simp [fUp]
theorem fl_take {n i : Nat} {f : Nat → α} (h : i ≤ n) : (fl n f).take i = fl i f := by
  unfold fl; rw [← List.map_take, List.take_range, Nat.min_eq_left h]
theorem fl_list {l : List α} {d : α} : fl l.length (fun i => l.getD i d) = l := by
  apply List.ext_getElem?
  intro j
  by_cases hj : j < l.length
  · rw [fl_get hj, List.getD_eq_getElem?_getD, List.getElem?_eq_getElem hj]; rfl
  · rw [fl_none (by omega), List.getElem?_eq_none (by omega)]
theorem fl_getD {n i : Nat} {f : Nat → α} {d : α} (h : i < n) : (fl n f).getD i d = f i := by
  rw [List.getD_eq_getElem?_getD, fl_get h]; rfl
theorem fl_getE {n i : Nat} {f : Nat → α} (h : i < (fl n f).length) : (fl n f)[i] = f i := by
  have := fl_get (f := f) (show i < n by rwa [fl_len] at h)
  rw [List.getElem?_eq_getElem h] at this
  exact Option.some.inj this
theorem fUp_same {f : Nat → α} {i : Nat} {x : α} : fUp f i x i = x := by unfold fUp; rw [if_pos rfl]
theorem fUp_ne {f : Nat → α} {i j : Nat} {x : α} (h : j ≠ i) : fUp f i x j = f j := by unfold fUp; rw [if_neg h]
theorem fl_zero {f : Nat → α} : fl 0 f = [] := rfl
end

/-- A row of rows of which the first i are frozen. -/
def mC (base sz i : Nat) (ver : Nat → Nat) (R : Nat → List (List IV)) (j : Nat) : AV := if j < i then .v (.isl sz (R j)) else .sl (base + (j + 1)) (ver j) 0 (R j).length
def mD (sz i : Nat) (ver : Nat → Nat) (R : Nat → List (List IV)) (j : Nat) : Row := if j < i then .dead (ver j) else .live (ver j) sz (vs (R j))
def mR (n v0 base sz i : Nat) (ver : Nat → Nat) (R : Nat → List (List IV)) : List Row := .live v0 1 (fl n fun j => [mC base sz i ver R j]) :: fl n (mD sz i ver R)
/-- The matrix as a value. -/
def mV (n sz : Nat) (R : Nat → List (List IV)) : List (List IV) := fl n fun j => [.isl sz (R j)]
theorem vs_frz0 {id ver sz : Nat} {rows r : List (List IV)} : (vs r).map (List.map (frz0 id ver sz rows)) = vs r := by
  simp [vs, frz0]
theorem mR_step {n v0 base sz i : Nat} {ver : Nat → Nat} {R : Nat → List (List IV)} (h : i < n) :
    ((mR n v0 base sz i ver R).set (i + 1) (.dead (ver i))).map (rowMap (frz0 (base + (i + 1)) (ver i) sz (R i))) = mR n v0 base sz (i + 1) ver R := by
  unfold mR
  rw [List.set_cons_succ, List.map_cons, fl_set, fl_map]
  congr 1
  · simp only [rowMap, fl_map, List.map_cons, List.map_nil]
    congr 1
    refine fl_congr (fun j hj => ?_)
    congr 1
    unfold mC
    by_cases h1 : j < i
    · rw [if_pos h1, if_pos (by omega)]; rfl
    · rw [if_neg h1]
      by_cases h2 : j = i
      · subst h2
        rw [if_pos (by omega)]
        simp [frz0]
      · rw [if_neg (by omega)]
        simp only [frz0]
        rw [if_neg (by omega)]
  · refine fl_congr (fun j hj => ?_)
    unfold fUp
    by_cases h2 : j = i
    · rw [if_pos h2, h2]; unfold mD; rw [if_pos (by omega)]; rfl
    · rw [if_neg h2]
      unfold mD
      by_cases h1 : j < i
      · rw [if_pos h1, if_pos (by omega)]; rfl
      · rw [if_neg h1, if_neg (by omega)]
        simp only [rowMap, vs_frz0]
theorem mR_at {n v0 base sz i : Nat} {ver : Nat → Nat} {R : Nat → List (List IV)} (h : i < n) : (mR n v0 base sz i ver R)[i + 1]? = some (.live (ver i) sz (vs (R i))) := by
  unfold mR
  rw [List.getElem?_cons_succ, fl_get h]
  unfold mD; rw [if_neg (by omega)]
theorem mR_all {n v0 base sz : Nat} {ver : Nat → Nat} {R : Nat → List (List IV)} : (mR n v0 base sz n ver R)[0]? = some (.live v0 1 (vs (mV n sz R))) := by
  unfold mR mV
  rw [List.getElem?_cons_zero, vs, fl_map]
  congr 2
  refine fl_congr (fun j hj => ?_)
  unfold mC; rw [if_pos hj]; rfl
theorem Weak.freezeR {e : List AV} {b l : List Row} {i ver sz : Nat} {rows : List (List IV)} (hi : l[i]? = some (.live ver sz (vs rows))) :
    Weak e b l (e.map (frz (b.length + i) ver sz rows)) b ((l.set i (.dead ver)).map (rowMap (frz0 (b.length + i) ver sz rows))) := by
  intro F L w a s hea
  obtain ⟨F', h1, h2, h3, h4⟩ := freeze_core hi F L w a s hea
  obtain ⟨s2, own⟩ := h1.mapRows h4 (fun x hx => frz0_cell x hx)
  refine ⟨F', L, s2, h2, ⟨h3.imm, h3.loc, h3.os, h3.tape, h3.output, h3.size, h3.block, fun k hk ho => h3.own k hk (own k ho), fun id hid v hv => ?_, h3.fnew⟩, rfl⟩
  have := h3.base id hid v hv
  rw [List.getElem?_append_left hid] at this ⊢
  exact this
theorem Weak.mfrz {e : List AV} {b : List Row} {n v0 sz : Nat} {ver : Nat → Nat} {R : Nat → List (List IV)} (he : ∀ i, i < n → e.map (frz (b.length + (i + 1)) (ver i) sz (R i)) = e) : ∀ i, i ≤ n → Weak e b (mR n v0 b.length sz 0 ver R) e b (mR n v0 b.length sz i ver R)
  | 0, _ => Weak.refl _ _ _
  | i + 1, hi => by
    refine (Weak.mfrz he i (by omega)).trans ?_
    have := Weak.freezeR (e := e) (b := b) (i := i + 1) (rows := R i) (mR_at (v0 := v0) (base := b.length) (sz := sz) (ver := ver) (R := R) (show i < n by omega))
    rwa [he i (by omega), mR_step (by omega)] at this
theorem ACalls.mfrz {P : Program} {f : Nat} {args : List AV} {b : List Row} {n v0 sz : Nat} {ver : Nat → Nat} {R : Nat → List (List IV)} {Q : AV → List Row → List Row → Prop} (he : ∀ i, i < n → args.map (deep (frz0 (b.length + (i + 1)) (ver i) sz (R i)) 1) = args) :
    ∀ i, i ≤ n → ACalls P f args b (mR n v0 b.length sz i ver R) Q → ACalls P f args b (mR n v0 b.length sz 0 ver R) Q
  | 0, _, h => h
  | i + 1, hi, h => by
    refine ACalls.mfrz he i (by omega) ?_
    refine E1.ACalls.freezeDeep 1 (i := i + 1) (rows := R i) (mR_at (by omega)) ?_
    rw [he i (by omega), mR_step (by omega)]
    exact h
/-- Handed on to a call as a value. -/
theorem ACalls.mat {P : Program} {f : Nat} {args args' : List AV} {b : List Row} {n v0 sz : Nat} {ver : Nat → Nat} {R : Nat → List (List IV)} {Q : AV → List Row → List Row → Prop} (he : ∀ i, i < n → args.map (deep (frz0 (b.length + (i + 1)) (ver i) sz (R i)) 1) = args)
    (ha : args.map (deep (frz0 b.length v0 1 (mV n sz R)) 1) = args') (h : ∀ l, ACalls P f args' b l Q) : ACalls P f args b (mR n v0 b.length sz 0 ver R) Q := by
  refine ACalls.mfrz he n (Nat.le_refl _) ?_
  refine E1.ACalls.freezeDeep 1 (i := 0) (rows := mV n sz R) mR_all ?_
  rw [Nat.add_zero, ha]
  exact h _
theorem leave_mat2 {rs : List ARes} {Q : AV → List Row → List Row → Prop} {B e l : List _} {ex : AExit} (hex : ex = .normal ∨ ex = .ret) {n v0 sz : Nat} {ver : Nat → Nat} {R : Nat → List (List IV)} {z : IV} {junk : List Row} (hx : resVs e B l rs = some [.sl B.length v0 0 n, .v z]) (hl : l = mR n v0 B.length sz 0 ver R ++ junk)
    (hR : RowsLt B.length B) {b0 l0 : List Row} (hB : B = b0 ++ l0) (hq : Q (.tup [.v (.isl 1 (mV n sz R)), .v z]) b0 l0) : Leaves rs Q b0.length ex e B l := by
  have hlm : (mR n v0 B.length sz 0 ver R).length = n + 1 := by simp [mR, fl_len]
  refine leave hex hx (y := .tup [.v (.isl 1 (mV n sz R)), .v z]) (l' := []) ?_ hB (by simpa using hq)
  refine (Weak.trim (l1 := mR n v0 B.length sz 0 ver R) hl ?_ (hR.mono (by omega)) ?_).trans ?_
  · intro x hx
    simp only [one, List.mem_singleton] at hx
    subst hx
    refine .tup _ (fun c hc => ?_)
    simp only [List.mem_cons, List.not_mem_nil, or_false] at hc
    rcases hc with rfl | rfl
    · exact .sl _ _ _ _ (by omega)
    · exact .v _
  · intro id ver' sz' els hr row hrow c hc
    unfold mR at hr
    cases id with
    | zero =>
      rw [List.getElem?_cons_zero] at hr
      cases hr
      obtain ⟨j, hj, rfl⟩ := List.mem_map.1 hrow
      simp only [List.mem_singleton] at hc
      subst hc
      have := List.mem_range.1 hj
      unfold mC
      rw [if_neg (by omega)]
      exact .sl _ _ _ _ (by omega)
    | succ id =>
      rw [List.getElem?_cons_succ] at hr
      by_cases hid : id < n
      · rw [fl_get hid] at hr
        unfold mD at hr
        rw [if_neg (by omega)] at hr
        cases hr
        obtain ⟨r0, _, rfl⟩ := List.mem_map.1 hrow
        obtain ⟨x0, _, rfl⟩ := List.mem_map.1 hc
        exact .v _
      · rw [fl_none (by omega)] at hr; cases hr
  refine (Weak.mfrz (fun i hi => ?_) n (Nat.le_refl _)).trans ?_
  · simp only [one, List.map_cons, List.map_nil, frz, frz0]
    rw [if_neg (by omega)]
  have h1 := Weak.freezeR (e := [one [AV.sl B.length v0 0 n, .v z]]) (b := B) (i := 0) (rows := mV n sz R) (mR_all (n := n) (v0 := v0) (base := B.length) (sz := sz) (ver := ver) (R := R))
  refine h1.trans ?_
  have h2 : List.map (frz (B.length + 0) v0 1 (mV n sz R)) [one [AV.sl B.length v0 0 n, .v z]] = [.tup [.v (.isl 1 (mV n sz R)), .v z]] := by
    simp [one, frz, frz0, mV, fl_len]
    unfold fl
    rw [List.take_of_length_le (by simp)]
  rw [h2]
  exact Weak.trim (l1 := []) rfl (by
    intro x hx
    simp only [List.mem_singleton] at hx
    subst hx
    refine .tup _ (fun c hc => ?_)
    simp only [List.mem_cons, List.not_mem_nil, or_false] at hc
    rcases hc with rfl | rfl <;> exact .v _) (by simpa using hR) RowsLt_nil
end Go.Proofs.Ytiiflkcebikecaa

/- Functions of chapter 16 (matrices) as runs: Valid, Zero, copied, join, Tick, Known, Receive. No condition but on lengths. -/
namespace Go.Proofs.Ytiiflkcebikecaa
set_option linter.unusedVariables false
set_option linter.unusedSimpArgs false
attribute [local go_sem ↓] run_skip run_region run_draw run_seq run_block run_exit run_ret run_cond atN_app seqC_normal seqC_exit seqC_ret seqQ_normal seqQ_exit seqQ_ret blkQ_normal blkQ_exit blkQ_ret runOps_nil runOps_cons runD_nil runD_cons grdO_true grdO_false grdD_true grdD_false ifC_true ifC_false opS_val opS_call opS_two opK_app dS_val dS_call dS_two dK_app kUp_same kUp_ne
attribute [local go_sem] rechks_nil rechks_cons rechk gcase_true gcase_false ex_val ex_val0 gd_none gd_some ev_t ev_c evs_nil evs_cons evo_some evo_none hget_at hget_first hsetB_at hsetB_first hsetL_at hsetL_first ofOpt_some aop aload astore aslice aappend aiaddr aiaddrA afaddr alen alenS acopy amm acall alookup amupdate alenM comma keyEq apick binV binVB binVS isSh intOp strOp boolOp shOp eqC eqF and2 cellsOf setFrom fillA fillS rd rdI elems mk bounds AV.cell List.all_cons List.all_nil Bool.and_true Bool.true_and Bool.and_self List.length_cons List.length_nil List.length_append Nat.reduceAdd Nat.reduceSub Nat.reduceMul Nat.zero_add Nat.add_zero List.cons_append List.nil_append List.append_assoc List.append_nil List.getElem?_cons_zero List.getElem?_cons_succ List.getElem?_nil List.set_cons_zero List.set_cons_succ List.drop_zero List.drop_succ_cons List.take_zero List.take_succ_cons List.take_nil List.drop_nil List.map_cons List.map_nil Option.map_some if_true if_false Bool.false_eq_true and_self true_and and_true Nat.reduceLeDiff Nat.reduceLT Nat.le_refl Nat.reduceEqDiff ite_true ite_false beq_self_eq_true beq_true beq_false Bool.not_true Bool.not_false Bool.true_beq Bool.false_beq map_vs vs_len vs_get vs_take vs_drop vs_snoc1 vs_snoc2 vs_snoc3 vs_snoc5 vs_set1 vs_set2 vs_rep wrap_id le_T lt_T le_F lt_F leI_T ltI_T leI_F ltI_F geI gtI get_T decide_true decide_false room List.getElem?_map List.length_map List.length_take Int.toNat_natCast Nat.min_def Nat.min_self nth_kOf put_kOf put_kNo kOv_cons kOv_nil KHas KArgs List.getElem_cons_zero List.getElem_cons_succ
def a_mZero : AFunc := ⟨1, 26, [.tmp 2, .tmp 3],
  (.seq (.region [⟨(some 2), .mv (.c (.v .zsl)), none⟩, ⟨(some 3), .mv (.c (.v (.int .i64 0))), none⟩])
  (.seq (.seq (.region [⟨(some 6), .mv (.t 0), none⟩, ⟨(some 7), .bin .lss (.t 6) (.c (.v (.int .i64 1))), none⟩, ⟨(some 8), .mv (.t 7), none⟩, ⟨(some 9), .mv (.t 0), some (8, false)⟩, ⟨(some 10), .bin .gtr (.t 9) (.c (.v (.int .i64 8))), some (8, false)⟩, ⟨(some 11), .pick (.t 8) (.c (.v (.bool true))) (.t 10), none⟩])
  (.cond (.t 11) (.seq (.region [⟨(some 2), .mv (.c (.v .zsl)), none⟩, ⟨(some 3), .mv (.c (.v (.int .i64 2))), none⟩])
  .ret)
  .skip))
  (.seq (.region [⟨(some 12), .mv (.t 0), none⟩, ⟨(some 13), .mkslice 1 [(.v .zsl)] 24 (.t 12) (.t 12), none⟩, ⟨(some 4), .mv (.t 13), none⟩])
  (.seq (.seq (.region [⟨(some 14), .mv (.t 4), none⟩, ⟨(some 15), .len (.t 14), none⟩, ⟨(some 16), .mv (.c (.v (.int .i64 0))), none⟩])
  (.block 0 (.loop (.seq (.region [⟨(some 17), .bin .lss (.t 16) (.t 15), none⟩])
  (.seq (.cond (.t 17) .skip
  (.exit 0))
  (.seq (.block 1 (.seq (.region [⟨(some 18), .mv (.t 16), none⟩, ⟨(some 5), .mv (.t 18), none⟩])
  (.region [⟨(some 19), .mv (.t 4), none⟩, ⟨(some 20), .mv (.t 5), none⟩, ⟨(some 21), .mv (.t 0), none⟩, ⟨(some 22), .mkslice 1 [(.v (.int .i64 0))] 8 (.t 21) (.t 21), none⟩, ⟨(some 23), .iaddr 1 (.t 19) (.t 20), none⟩, ⟨none, .store 1 (.t 23) (.t 22), none⟩])))
  (.region [⟨(some 24), .bin .add (.t 16) (.c (.v (.int .i64 1))), none⟩, ⟨(some 16), .mv (.t 24), none⟩])))))))
  (.seq (.region [⟨(some 25), .mv (.t 4), none⟩, ⟨(some 2), .mv (.t 25), none⟩, ⟨(some 3), .mv (.c (.v (.int .i64 0))), none⟩])
  .ret)))))⟩
theorem a_mZero_ok : cFunc Try.prog 44 = some a_mZero := by kernel_rfl
def r_mZero0 : List (Nat × Nat) := [(5, 5), (16, 24)]
def a_mValid : AFunc := ⟨1, 15, [.tmp 2],
  (.seq (.region [⟨(some 1), .box (.t 0), none⟩, ⟨(some 2), .mv (.c (.v (.bool false))), none⟩])
  (.seq (.seq (.region [⟨(some 3), .load none (.t 1), none⟩, ⟨(some 4), .len (.t 3), none⟩, ⟨(some 5), .bin .lss (.t 4) (.c (.v (.int .i64 1))), none⟩, ⟨(some 6), .mv (.t 5), none⟩, ⟨(some 7), .load none (.t 1), some (6, false)⟩, ⟨(some 8), .len (.t 7), some (6, false)⟩, ⟨(some 9), .bin .gtr (.t 8) (.c (.v (.int .i64 8))), some (6, false)⟩, ⟨(some 10), .pick (.t 6) (.c (.v (.bool true))) (.t 9), none⟩])
  (.cond (.t 10) (.seq (.region [⟨(some 2), .mv (.c (.v (.bool false))), none⟩])
  .ret)
  .skip))
  (.seq (.region [⟨(some 11), .load none (.t 1), none⟩, ⟨(some 12), .mkfn 96 [(.t 1)], none⟩, ⟨(some 13), .call (.c (.fn 60 [])) [(.t 11), (.t 12)], none⟩, ⟨(some 14), .not (.t 13), none⟩, ⟨(some 2), .mv (.t 14), none⟩])
  .ret)))⟩
theorem a_mValid_ok : cFunc Try.prog 50 = some a_mValid := by kernel_rfl
def a_vc1 : AFunc := ⟨2, 13, [.tmp 3],
  (.seq (.region [⟨(some 3), .mv (.c (.v (.bool false))), none⟩])
  (.seq (.region [⟨(some 4), .mv (.t 0), none⟩, ⟨(some 5), .len (.t 4), none⟩, ⟨(some 6), .load none (.t 1), none⟩, ⟨(some 7), .len (.t 6), none⟩, ⟨(some 8), .bin .neq (.t 5) (.t 7), none⟩, ⟨(some 9), .mv (.t 8), none⟩, ⟨(some 10), .mv (.t 0), some (9, false)⟩, ⟨(some 11), .call (.c (.fn 62 [])) [(.t 10), (.c (.fn 97 []))], some (9, false)⟩, ⟨(some 12), .pick (.t 9) (.c (.v (.bool true))) (.t 11), none⟩, ⟨(some 3), .mv (.t 12), none⟩])
  .ret))⟩
theorem a_vc1_ok : cFunc Try.prog 96 = some a_vc1 := by kernel_rfl
def a_vc11 : AFunc := ⟨1, 9, [.tmp 2],
  (.seq (.region [⟨(some 2), .mv (.c (.v (.bool false))), none⟩])
  (.seq (.region [⟨(some 3), .mv (.t 0), none⟩, ⟨(some 4), .bin .lss (.t 3) (.c (.v (.int .i64 0))), none⟩, ⟨(some 5), .mv (.t 4), none⟩, ⟨(some 6), .mv (.t 0), some (5, false)⟩, ⟨(some 7), .bin .gtr (.t 6) (.c (.v (.int .i64 1125899906842624))), some (5, false)⟩, ⟨(some 8), .pick (.t 5) (.c (.v (.bool true))) (.t 7), none⟩, ⟨(some 2), .mv (.t 8), none⟩])
  .ret))⟩
theorem a_vc11_ok : cFunc Try.prog 97 = some a_vc11 := by kernel_rfl
def a_ConM : AFunc := ⟨2, 9, [.tmp 4],
  (.seq (.region [⟨(some 4), .mv (.c (.v (.bool false))), none⟩])
  (.seq (.region [⟨(some 5), .mv (.t 0), none⟩, ⟨(some 6), .mv (.t 1), none⟩, ⟨(some 7), .call (.c (.fn 104 [])) [(.t 5), (.t 6)], none⟩, ⟨(some 8), .bin .geq (.t 7) (.c (.v (.int .i64 0))), none⟩, ⟨(some 4), .mv (.t 8), none⟩])
  .ret))⟩
theorem a_ConM_ok : cFunc Try.prog 60 = some a_ConM := by kernel_rfl
def a_IndM : AFunc := ⟨2, 19, [.tmp 4],
  (.seq (.region [⟨(some 4), .mv (.c (.v (.int .i64 0))), none⟩])
  (.seq (.seq (.region [⟨(some 6), .mv (.t 0), none⟩, ⟨(some 7), .len (.t 6), none⟩, ⟨(some 8), .mv (.c (.v (.int .i64 0))), none⟩])
  (.block 0 (.loop (.seq (.region [⟨(some 9), .bin .lss (.t 8) (.t 7), none⟩])
  (.seq (.cond (.t 9) .skip
  (.exit 0))
  (.seq (.block 1 (.seq (.region [⟨(some 10), .mv (.t 8), none⟩, ⟨(some 5), .mv (.t 10), none⟩])
  (.seq (.region [⟨(some 11), .mv (.t 1), none⟩, ⟨(some 12), .mv (.t 0), none⟩, ⟨(some 13), .mv (.t 5), none⟩, ⟨(some 14), .iaddr 1 (.t 12) (.t 13), none⟩, ⟨(some 15), .load none (.t 14), none⟩, ⟨(some 16), .call (.t 11) [(.t 15)], none⟩])
  (.cond (.t 16) (.seq (.region [⟨(some 17), .mv (.t 5), none⟩, ⟨(some 4), .mv (.t 17), none⟩])
  .ret)
  .skip))))
  (.region [⟨(some 18), .bin .add (.t 8) (.c (.v (.int .i64 1))), none⟩, ⟨(some 8), .mv (.t 18), none⟩])))))))
  (.seq (.region [⟨(some 4), .mv (.c (.v (.int .i64 (-1)))), none⟩])
  .ret)))⟩
theorem a_IndM_ok : cFunc Try.prog 104 = some a_IndM := by kernel_rfl
def r_IndM0 : List (Nat × Nat) := [(4, 5), (8, 18)]
def a_copied : AFunc := ⟨1, 23, [.tmp 2],
  (.seq (.region [⟨(some 2), .mv (.c (.v .zsl)), none⟩])
  (.seq (.region [⟨(some 6), .mv (.t 0), none⟩, ⟨(some 7), .len (.t 6), none⟩, ⟨(some 8), .mkslice 1 [(.v .zsl)] 24 (.t 7) (.t 7), none⟩, ⟨(some 3), .mv (.t 8), none⟩])
  (.seq (.seq (.region [⟨(some 9), .mv (.t 0), none⟩, ⟨(some 10), .len (.t 9), none⟩, ⟨(some 11), .mv (.c (.v (.int .i64 0))), none⟩])
  (.block 0 (.loop (.seq (.region [⟨(some 12), .bin .lss (.t 11) (.t 10), none⟩])
  (.seq (.cond (.t 12) .skip
  (.exit 0))
  (.seq (.block 1 (.seq (.region [⟨(some 13), .mv (.t 11), none⟩, ⟨(some 14), .iaddr 1 (.t 9) (.t 11), none⟩, ⟨(some 15), .load none (.t 14), none⟩, ⟨(some 4), .mv (.t 13), none⟩, ⟨(some 5), .mv (.t 15), none⟩])
  (.region [⟨(some 16), .mv (.t 3), none⟩, ⟨(some 17), .mv (.t 4), none⟩, ⟨(some 18), .mv (.t 5), none⟩, ⟨(some 19), .call (.c (.fn 84 [])) [(.t 18)], none⟩, ⟨(some 20), .iaddr 1 (.t 16) (.t 17), none⟩, ⟨none, .store 1 (.t 20) (.t 19), none⟩])))
  (.region [⟨(some 21), .bin .add (.t 11) (.c (.v (.int .i64 1))), none⟩, ⟨(some 11), .mv (.t 21), none⟩])))))))
  (.seq (.region [⟨(some 22), .mv (.t 3), none⟩, ⟨(some 2), .mv (.t 22), none⟩])
  .ret))))⟩
theorem a_copied_ok : cFunc Try.prog 95 = some a_copied := by kernel_rfl
def r_copied0 : List (Nat × Nat) := [(4, 5), (11, 21)]
def a_join : AFunc := ⟨2, 23, [],
  (.seq (.region [⟨(some 5), .mv (.t 0), none⟩, ⟨(some 6), .len (.t 5), none⟩, ⟨(some 7), .mv (.c (.v (.int .i64 0))), none⟩])
  (.block 0 (.loop (.seq (.region [⟨(some 8), .bin .lss (.t 7) (.t 6), none⟩])
  (.seq (.cond (.t 8) .skip
  (.exit 0))
  (.seq (.block 1 (.seq (.region [⟨(some 9), .mv (.t 7), none⟩, ⟨(some 4), .mv (.t 9), none⟩])
  (.draw [⟨0, ⟨(some 10), .mv (.t 0), none⟩, []⟩, ⟨1, ⟨(some 11), .mv (.t 4), none⟩, []⟩, ⟨2, ⟨(some 12), .mv (.t 0), none⟩, []⟩, ⟨3, ⟨(some 13), .mv (.t 4), none⟩, []⟩, ⟨4, ⟨(some 14), .iaddr 1 (.t 12) (.t 13), none⟩, []⟩, ⟨5, ⟨(some 15), .load none (.t 14), none⟩, []⟩, ⟨6, ⟨(some 16), .mv (.t 1), none⟩, []⟩, ⟨7, ⟨(some 17), .mv (.t 4), none⟩, []⟩, ⟨8, ⟨(some 18), .iaddr 1 (.t 16) (.t 17), none⟩, []⟩, ⟨9, ⟨(some 19), .load none (.t 18), none⟩, []⟩, ⟨10, ⟨(some 20), .mm true (.t 15) (.t 19), none⟩, []⟩, ⟨11, ⟨(some 21), .iaddr 1 (.t 10) (.t 11), none⟩, []⟩, ⟨12, ⟨none, .store 1 (.t 21) (.t 20), none⟩, []⟩])))
  (.region [⟨(some 22), .bin .add (.t 7) (.c (.v (.int .i64 1))), none⟩, ⟨(some 7), .mv (.t 22), none⟩])))))))⟩
theorem a_join_ok : cFunc Try.prog 99 = some a_join := by kernel_rfl
def r_join0 : List (Nat × Nat) := [(4, 4), (7, 22)]
def a_mTick : AFunc := ⟨2, 40, [.tmp 4, .tmp 5],
  (.seq (.region [⟨(some 4), .mv (.c (.v .zsl)), none⟩, ⟨(some 5), .mv (.c (.v (.int .i64 0))), none⟩])
  (.seq (.block 0 (.seq (.region [⟨(some 7), .mv (.t 0), none⟩, ⟨(some 8), .call (.c (.fn 50 [])) [(.t 7)], none⟩, ⟨(some 9), .not (.t 8), none⟩, ⟨(some 6), .mv (.t 9), none⟩])
  (.cond (.t 6) (.seq (.region [⟨(some 4), .mv (.c (.v .zsl)), none⟩, ⟨(some 5), .mv (.c (.v (.int .i64 1))), none⟩])
  .ret)
  (.seq (.region [⟨(some 11), .mv (.t 1), none⟩, ⟨(some 12), .bin .lss (.t 11) (.c (.v (.int .i64 0))), none⟩, ⟨(some 13), .mv (.t 12), none⟩, ⟨(some 14), .mv (.t 1), some (13, false)⟩, ⟨(some 15), .mv (.t 0), some (13, false)⟩, ⟨(some 16), .len (.t 15), some (13, false)⟩, ⟨(some 17), .bin .geq (.t 14) (.t 16), some (13, false)⟩, ⟨(some 18), .pick (.t 13) (.c (.v (.bool true))) (.t 17), none⟩, ⟨(some 10), .mv (.t 18), none⟩])
  (.cond (.t 10) (.seq (.region [⟨(some 4), .mv (.c (.v .zsl)), none⟩, ⟨(some 5), .mv (.c (.v (.int .i64 2))), none⟩])
  .ret)
  (.seq (.region [⟨(some 20), .mv (.t 0), none⟩, ⟨(some 21), .mv (.t 1), none⟩, ⟨(some 22), .iaddr 1 (.t 20) (.t 21), none⟩, ⟨(some 23), .load none (.t 22), none⟩, ⟨(some 24), .mv (.t 1), none⟩, ⟨(some 25), .iaddr 1 (.t 23) (.t 24), none⟩, ⟨(some 26), .load none (.t 25), none⟩, ⟨(some 27), .bin .geq (.t 26) (.c (.v (.int .i64 1125899906842624))), none⟩, ⟨(some 19), .mv (.t 27), none⟩])
  (.cond (.t 19) (.seq (.region [⟨(some 4), .mv (.c (.v .zsl)), none⟩, ⟨(some 5), .mv (.c (.v (.int .i64 9))), none⟩])
  .ret)
  .skip)))))))
  (.seq (.region [⟨(some 28), .mv (.t 0), none⟩, ⟨(some 29), .call (.c (.fn 95 [])) [(.t 28)], none⟩, ⟨(some 0), .mv (.t 29), none⟩])
  (.seq (.region [⟨(some 30), .mv (.t 0), none⟩, ⟨(some 31), .mv (.t 1), none⟩, ⟨(some 32), .iaddr 1 (.t 30) (.t 31), none⟩, ⟨(some 33), .load none (.t 32), none⟩, ⟨(some 34), .mv (.t 1), none⟩, ⟨(some 35), .iaddr 1 (.t 33) (.t 34), none⟩, ⟨(some 36), .load none (.t 35), none⟩, ⟨(some 37), .bin .add (.t 36) (.c (.v (.int .i64 1))), none⟩, ⟨(some 38), .iaddr 1 (.t 33) (.t 34), none⟩, ⟨none, .store 1 (.t 38) (.t 37), none⟩])
  (.seq (.region [⟨(some 39), .mv (.t 0), none⟩, ⟨(some 4), .mv (.t 39), none⟩, ⟨(some 5), .mv (.c (.v (.int .i64 0))), none⟩])
  .ret)))))⟩
theorem a_mTick_ok : cFunc Try.prog 47 = some a_mTick := by kernel_rfl
def a_mKnown : AFunc := ⟨1, 41, [.tmp 2, .tmp 3],
  (.seq (.region [⟨(some 2), .mv (.c (.v .zsl)), none⟩, ⟨(some 3), .mv (.c (.v (.int .i64 0))), none⟩])
  (.seq (.seq (.region [⟨(some 9), .mv (.t 0), none⟩, ⟨(some 10), .call (.c (.fn 50 [])) [(.t 9)], none⟩, ⟨(some 11), .not (.t 10), none⟩])
  (.cond (.t 11) (.seq (.region [⟨(some 2), .mv (.c (.v .zsl)), none⟩, ⟨(some 3), .mv (.c (.v (.int .i64 1))), none⟩])
  .ret)
  .skip))
  (.seq (.region [⟨(some 12), .mv (.t 0), none⟩, ⟨(some 13), .iaddr 1 (.t 12) (.c (.v (.int .i64 0))), none⟩, ⟨(some 14), .load none (.t 13), none⟩, ⟨(some 15), .call (.c (.fn 84 [])) [(.t 14)], none⟩, ⟨(some 4), .mv (.t 15), none⟩])
  (.seq (.seq (.region [⟨(some 16), .mv (.t 0), none⟩, ⟨(some 17), .len (.t 16), none⟩, ⟨(some 18), .mv (.c (.v (.int .i64 0))), none⟩])
  (.block 0 (.loop (.seq (.region [⟨(some 19), .bin .lss (.t 18) (.t 17), none⟩])
  (.seq (.cond (.t 19) .skip
  (.exit 0))
  (.seq (.block 1 (.seq (.region [⟨(some 20), .iaddr 1 (.t 16) (.t 18), none⟩, ⟨(some 21), .load none (.t 20), none⟩, ⟨(some 6), .mv (.t 21), none⟩])
  (.seq (.region [⟨(some 22), .mv (.t 6), none⟩, ⟨(some 23), .len (.t 22), none⟩, ⟨(some 24), .mv (.c (.v (.int .i64 0))), none⟩])
  (.block 2 (.loop (.seq (.region [⟨(some 25), .bin .lss (.t 24) (.t 23), none⟩])
  (.seq (.cond (.t 25) .skip
  (.exit 2))
  (.seq (.block 3 (.seq (.region [⟨(some 26), .mv (.t 24), none⟩, ⟨(some 27), .iaddr 1 (.t 22) (.t 24), none⟩, ⟨(some 28), .load none (.t 27), none⟩, ⟨(some 7), .mv (.t 26), none⟩, ⟨(some 8), .mv (.t 28), none⟩])
  (.region [⟨(some 29), .mv (.t 4), none⟩, ⟨(some 30), .mv (.t 7), none⟩, ⟨(some 31), .mv (.t 4), none⟩, ⟨(some 32), .mv (.t 7), none⟩, ⟨(some 33), .iaddr 1 (.t 31) (.t 32), none⟩, ⟨(some 34), .load none (.t 33), none⟩, ⟨(some 35), .mv (.t 8), none⟩, ⟨(some 36), .mm false (.t 34) (.t 35), none⟩, ⟨(some 37), .iaddr 1 (.t 29) (.t 30), none⟩, ⟨none, .store 1 (.t 37) (.t 36), none⟩])))
  (.region [⟨(some 38), .bin .add (.t 24) (.c (.v (.int .i64 1))), none⟩, ⟨(some 24), .mv (.t 38), none⟩])))))))))
  (.region [⟨(some 39), .bin .add (.t 18) (.c (.v (.int .i64 1))), none⟩, ⟨(some 18), .mv (.t 39), none⟩])))))))
  (.seq (.region [⟨(some 40), .mv (.t 4), none⟩, ⟨(some 2), .mv (.t 40), none⟩, ⟨(some 3), .mv (.c (.v (.int .i64 0))), none⟩])
  .ret)))))⟩
theorem a_mKnown_ok : cFunc Try.prog 48 = some a_mKnown := by kernel_rfl
def r_mKnown0 : List (Nat × Nat) := [(6, 8), (18, 39)]
def r_mKnown1 : List (Nat × Nat) := [(7, 8), (24, 38)]
def a_mReceive : AFunc := ⟨4, 82, [.tmp 8, .tmp 9],
  (.seq (.region [⟨(some 8), .mv (.c (.v .zsl)), none⟩, ⟨(some 9), .mv (.c (.v (.int .i64 0))), none⟩])
  (.seq (.region [⟨(some 12), .mv (.t 0), none⟩, ⟨(some 13), .len (.t 12), none⟩, ⟨(some 10), .mv (.t 13), none⟩])
  (.seq (.block 0 (.seq (.region [⟨(some 15), .mv (.t 0), none⟩, ⟨(some 16), .call (.c (.fn 50 [])) [(.t 15)], none⟩, ⟨(some 17), .not (.t 16), none⟩, ⟨(some 18), .mv (.t 17), none⟩, ⟨(some 19), .mv (.t 2), some (18, false)⟩, ⟨(some 20), .call (.c (.fn 50 [])) [(.t 19)], some (18, false)⟩, ⟨(some 21), .not (.t 20), some (18, false)⟩, ⟨(some 22), .pick (.t 18) (.c (.v (.bool true))) (.t 21), none⟩, ⟨(some 23), .mv (.t 22), none⟩, ⟨(some 24), .mv (.t 2), some (23, false)⟩, ⟨(some 25), .len (.t 24), some (23, false)⟩, ⟨(some 26), .mv (.t 10), some (23, false)⟩, ⟨(some 27), .bin .neq (.t 25) (.t 26), some (23, false)⟩, ⟨(some 28), .pick (.t 23) (.c (.v (.bool true))) (.t 27), none⟩, ⟨(some 14), .mv (.t 28), none⟩])
  (.cond (.t 14) (.seq (.region [⟨(some 8), .mv (.c (.v .zsl)), none⟩, ⟨(some 9), .mv (.c (.v (.int .i64 1))), none⟩])
  .ret)
  (.seq (.region [⟨(some 30), .mv (.t 1), none⟩, ⟨(some 31), .bin .lss (.t 30) (.c (.v (.int .i64 0))), none⟩, ⟨(some 32), .mv (.t 31), none⟩, ⟨(some 33), .mv (.t 1), some (32, false)⟩, ⟨(some 34), .mv (.t 10), some (32, false)⟩, ⟨(some 35), .bin .geq (.t 33) (.t 34), some (32, false)⟩, ⟨(some 36), .pick (.t 32) (.c (.v (.bool true))) (.t 35), none⟩, ⟨(some 37), .mv (.t 36), none⟩, ⟨(some 38), .mv (.t 3), some (37, false)⟩, ⟨(some 39), .bin .lss (.t 38) (.c (.v (.int .i64 0))), some (37, false)⟩, ⟨(some 40), .pick (.t 37) (.c (.v (.bool true))) (.t 39), none⟩, ⟨(some 41), .mv (.t 40), none⟩, ⟨(some 42), .mv (.t 3), some (41, false)⟩, ⟨(some 43), .mv (.t 10), some (41, false)⟩, ⟨(some 44), .bin .geq (.t 42) (.t 43), some (41, false)⟩, ⟨(some 45), .pick (.t 41) (.c (.v (.bool true))) (.t 44), none⟩, ⟨(some 46), .mv (.t 45), none⟩, ⟨(some 47), .mv (.t 1), some (46, false)⟩, ⟨(some 48), .mv (.t 3), some (46, false)⟩, ⟨(some 49), .bin .eql (.t 47) (.t 48), some (46, false)⟩, ⟨(some 50), .pick (.t 46) (.c (.v (.bool true))) (.t 49), none⟩, ⟨(some 29), .mv (.t 50), none⟩])
  (.cond (.t 29) (.seq (.region [⟨(some 8), .mv (.c (.v .zsl)), none⟩, ⟨(some 9), .mv (.c (.v (.int .i64 2))), none⟩])
  .ret)
  .skip)))))
  (.seq (.region [⟨(some 51), .mv (.t 0), none⟩, ⟨(some 52), .call (.c (.fn 95 [])) [(.t 51)], none⟩, ⟨(some 0), .mv (.t 52), none⟩])
  (.seq (.seq (.region [⟨(some 53), .mv (.t 0), none⟩, ⟨(some 54), .len (.t 53), none⟩, ⟨(some 55), .mv (.c (.v (.int .i64 0))), none⟩])
  (.block 1 (.loop (.seq (.region [⟨(some 56), .bin .lss (.t 55) (.t 54), none⟩])
  (.seq (.cond (.t 56) .skip
  (.exit 1))
  (.seq (.block 2 (.seq (.region [⟨(some 57), .mv (.t 55), none⟩, ⟨(some 11), .mv (.t 57), none⟩])
  (.draw [⟨0, ⟨(some 58), .mv (.t 0), none⟩, []⟩, ⟨1, ⟨(some 59), .mv (.t 11), none⟩, []⟩, ⟨2, ⟨(some 60), .iaddr 1 (.t 58) (.t 59), none⟩, []⟩, ⟨3, ⟨(some 61), .load none (.t 60), none⟩, []⟩, ⟨4, ⟨(some 62), .mv (.t 2), none⟩, []⟩, ⟨5, ⟨(some 63), .mv (.t 11), none⟩, []⟩, ⟨6, ⟨(some 64), .iaddr 1 (.t 62) (.t 63), none⟩, []⟩, ⟨7, ⟨(some 65), .load none (.t 64), none⟩, []⟩, ⟨8, ⟨(some 66), .call (.c (.fn 99 [])) [(.t 61), (.t 65)], none⟩, []⟩])))
  (.region [⟨(some 67), .bin .add (.t 55) (.c (.v (.int .i64 1))), none⟩, ⟨(some 55), .mv (.t 67), none⟩])))))))
  (.seq (.draw [⟨0, ⟨(some 68), .mv (.t 0), none⟩, []⟩, ⟨1, ⟨(some 69), .mv (.t 1), none⟩, []⟩, ⟨2, ⟨(some 70), .iaddr 1 (.t 68) (.t 69), none⟩, []⟩, ⟨3, ⟨(some 71), .load none (.t 70), none⟩, []⟩, ⟨4, ⟨(some 72), .mv (.t 2), none⟩, []⟩, ⟨5, ⟨(some 73), .mv (.t 3), none⟩, []⟩, ⟨6, ⟨(some 74), .iaddr 1 (.t 72) (.t 73), none⟩, []⟩, ⟨7, ⟨(some 75), .load none (.t 74), none⟩, []⟩, ⟨8, ⟨(some 76), .call (.c (.fn 99 [])) [(.t 71), (.t 75)], none⟩, []⟩])
  (.seq (.region [⟨(some 77), .mv (.t 0), none⟩, ⟨(some 78), .mv (.t 1), none⟩, ⟨(some 79), .call (.c (.fn 47 [])) [(.t 77), (.t 78)], none⟩, ⟨(some 80), .extract 0 (.t 79), none⟩, ⟨(some 81), .extract 1 (.t 79), none⟩, ⟨(some 8), .mv (.t 80), none⟩, ⟨(some 9), .mv (.t 81), none⟩])
  .ret)))))))⟩
theorem a_mReceive_ok : cFunc Try.prog 53 = some a_mReceive := by kernel_rfl
def r_mReceive0 : List (Nat × Nat) := [(11, 11), (55, 67)]

def eRw (r : List Int) : List IV := [.isl 1 (r.map eI)]
def rowAt (m : List (List Int)) (i : Nat) : List Int := m.getD i []
def badRow (n : Nat) (r : List Int) : Bool := (r.length != n) || (List.range r.length).any (vBadAt r)
def badRowAt (m : List (List Int)) (i : Nat) : Bool := badRow m.length (rowAt m i)
def isM (m : List (List Int)) : Bool := decide (1 ≤ m.length) && (decide (m.length ≤ 8) && !(List.range m.length).any (badRowAt m))
theorem rowAt_at {m : List (List Int)} {i : Nat} (h : i < m.length) : rowAt m i = m[i] := getD_at h
theorem isM_open {m : List (List Int)} (h : isM m = true) : 1 ≤ m.length ∧ m.length ≤ 8 ∧ (∀ i, i < m.length → (rowAt m i).length = m.length) ∧ ∀ i j, i < m.length → j < m.length → 0 ≤ (rowAt m i).getD j 0 ∧ (rowAt m i).getD j 0 ≤ 1125899906842624 := by
  simp only [isM, Bool.and_eq_true, decide_eq_true_eq, Bool.not_eq_true', List.any_eq_false, List.mem_range, badRowAt, badRow, Bool.or_eq_true, not_or, bne_iff_ne, ne_eq, Decidable.not_not, vBadAt, vBad, List.any_eq_true, not_exists, not_and] at h
  refine ⟨h.1, h.2.1, fun i hi => (h.2.2 i hi).1, fun i j hi hj => ?_⟩
  obtain ⟨h1, h2⟩ := h.2.2 i hi
  have := h2 j (by omega)
  omega

theorem indexM_spec (v : List (List Int)) (k : Nat) (caps : List AV) (p : Nat → Bool) (hn : v.length ≤ 1000000) (b l : List Row)
    (hp : ∀ (i : Nat) (h : i < v.length), ACalls Try.prog k (.v (.isl 1 (v[i].map eI)) :: caps) (b ++ l) [] (fun r b' l' => r = .v (.bool (p i)) ∧ b' = b ++ l ∧ l' = [])) :
    ACalls Try.prog 104 [.v (.isl 1 (v.map eRw)), .fn k caps] b l (fun r b' l' => r = .v (.int .i64 (firstP p v.length)) ∧ b' = b ∧ l' = l) := by
  refine calls_kept a_IndM_ok rfl (by decide) ?_
  intro B g hB hR hE hA
  simp only [KArgs] at hA
  simp (disch := decide) only [a_IndM, hA, List.length_map, go_sem]
  refine loop_kept (ι := Nat) r_IndM0 (fun i => [(8, .v (.int .i64 i))]) 0 (fun _ => [])
    (fun i => i ≤ v.length ∧ ∀ j, j < i → p j = false) (fun i => v.length - i) 0 ⟨Nat.zero_le _, fun j hj => by omega⟩ (by (repeat (first | exact hE.mono (by omega) | refine KLt.up ?_ (by simp (disch := omega) only [AVlt_v, AVlt_any, AVlt_sl, AVlt_ptr, AVlt_mp, AVlt_agg, AVlt_tup, AVlt_fn, RowsLt_nil, RowsLt_live, RowsLt_dead, List.mem_cons, List.not_mem_nil, List.forall_mem_cons, List.forall_mem_nil, or_false, false_or, forall_eq_or_imp, forall_eq, vs_lt, Nat.add_lt_add_iff_left, Nat.reduceLT, true_and, and_true, and_self, List.length_cons, List.length_nil, Nat.reduceAdd, Nat.zero_add, implies_true, false_imp_iff, lt_T, List.mem_map])))) (by ((try simp (disch := decide) only [hA, go_sem]) <;> (repeat' (first | exact trivial | refine And.intro ?_ ?_)) <;> (first | rfl | (congr 2; omega)))) (fun e => Weak.refl _ _ _) ?_
  rintro g1 hE1 hEE1 hg1 i ⟨hi, h0⟩
  by_cases hlt : i < v.length
  · simp (disch := (first | decide | omega)) only [hA, hg1, eRw, go_sem]
    refine ACalls_mono _ _ _ _ _ _ (hB ▸ hp i hlt) ?_
    rintro r b' l' ⟨rfl, rfl, rfl⟩
    cases hpi : p i
    · simp (disch := (first | decide | omega)) only [hA, hg1, hpi, go_sem]
      refine ⟨i + 1, ⟨hlt, fun j hj => ?_⟩, by simp only; omega, ?_⟩
      · rcases Nat.lt_or_ge j i with hji | hji
        · exact h0 j hji
        · have : j = i := by omega
          rw [this]; exact hpi
      exact Weak.kround (p := r_IndM0) (k := 0) (by ((repeat refine (kAny_up rfl).trans ?_); exact hEE1)) (by ((try simp (disch := decide) only [hA, go_sem]) <;> (repeat' (first | exact trivial | refine And.intro ?_ ?_)) <;> (first | rfl | (congr 2; omega)))) rfl hE1 (by simp) (by simp (disch := omega) only [KOvLt, AVlt_v, AVlt_any, AVlt_sl, AVlt_ptr, AVlt_mp, AVlt_agg, AVlt_tup, AVlt_fn, RowsLt_nil, RowsLt_live, RowsLt_dead, List.mem_cons, List.not_mem_nil, List.forall_mem_cons, List.forall_mem_nil, or_false, false_or, forall_eq_or_imp, forall_eq, vs_lt, Nat.add_lt_add_iff_left, Nat.reduceLT, true_and, and_true, and_self, List.length_cons, List.length_nil, Nat.reduceAdd, Nat.zero_add, implies_true, false_imp_iff, lt_T, List.mem_map]) hR (by simp (disch := omega) only [AVlt_v, AVlt_any, AVlt_sl, AVlt_ptr, AVlt_mp, AVlt_agg, AVlt_tup, AVlt_fn, RowsLt_nil, RowsLt_live, RowsLt_dead, List.mem_cons, List.not_mem_nil, List.forall_mem_cons, List.forall_mem_nil, or_false, false_or, forall_eq_or_imp, forall_eq, vs_lt, Nat.add_lt_add_iff_left, Nat.reduceLT, true_and, and_true, and_self, List.length_cons, List.length_nil, Nat.reduceAdd, Nat.zero_add, implies_true, false_imp_iff, lt_T, List.mem_map])
    · simp (disch := (first | decide | omega)) only [hA, hg1, hpi, go_sem]
      exact leave_pure (xs := [.v (.int .i64 i)]) (.inr rfl) (by simp (disch := (first | decide | omega)) only [resVs, resV, go_sem, hA, hg1]) (by simp only [one, AVlt_v, AVlt_any, AVlt_sl, AVlt_ptr, AVlt_mp, AVlt_agg, AVlt_tup, AVlt_fn, RowsLt_nil, RowsLt_live, RowsLt_dead, List.mem_cons, List.not_mem_nil, List.forall_mem_cons, List.forall_mem_nil, or_false, false_or, forall_eq_or_imp, forall_eq, vs_lt, Nat.add_lt_add_iff_left, Nat.reduceLT, true_and, and_true, and_self, List.length_cons, List.length_nil, Nat.reduceAdd, Nat.zero_add, implies_true, false_imp_iff, lt_T, List.mem_map]) hR hB ⟨by rw [firstP_at hlt h0 hpi]; rfl, rfl, rfl⟩
  · simp (disch := (first | decide | omega)) only [hA, hg1, go_sem]
    obtain rfl : i = v.length := by omega
    exact leave_pure (xs := [.v (.int .i64 (-1))]) (.inr rfl) (by simp (disch := (first | decide | omega)) only [resVs, resV, go_sem, hA, hg1]) (by simp only [one, AVlt_v, AVlt_any, AVlt_sl, AVlt_ptr, AVlt_mp, AVlt_agg, AVlt_tup, AVlt_fn, RowsLt_nil, RowsLt_live, RowsLt_dead, List.mem_cons, List.not_mem_nil, List.forall_mem_cons, List.forall_mem_nil, or_false, false_or, forall_eq_or_imp, forall_eq, vs_lt, Nat.add_lt_add_iff_left, Nat.reduceLT, true_and, and_true, and_self, List.length_cons, List.length_nil, Nat.reduceAdd, Nat.zero_add, implies_true, false_imp_iff, lt_T, List.mem_map]) hR hB ⟨by rw [firstP_none h0]; rfl, rfl, rfl⟩
theorem containsM_spec (v : List (List Int)) (k : Nat) (caps : List AV) (p : Nat → Bool) (hn : v.length ≤ 1000000) (b l : List Row)
    (hp : ∀ (i : Nat) (h : i < v.length), ACalls Try.prog k (.v (.isl 1 (v[i].map eI)) :: caps) (b ++ l) [] (fun r b' l' => r = .v (.bool (p i)) ∧ b' = b ++ l ∧ l' = [])) :
    ACalls Try.prog 60 [.v (.isl 1 (v.map eRw)), .fn k caps] b l (fun r b' l' => r = .v (.bool ((List.range v.length).any p)) ∧ b' = b ∧ l' = l) := by
  refine calls_kept a_ConM_ok rfl (by decide) ?_
  intro B g hB hR hE hA
  simp only [KArgs] at hA
  simp (disch := decide) only [a_ConM, hA, go_sem]
  refine ACalls.nxt (indexM_spec v k caps p hn B [] (by rw [List.append_nil, hB]; exact hp)) ?_
  simp (disch := decide) only [hA, go_sem]
  exact leave_pure (xs := [.v (.bool (decide (0 ≤ firstP p v.length)))]) (.inr rfl) (by simp (disch := (first | decide | omega)) only [resVs, resV, go_sem, hA]) (by simp only [one, AVlt_v, AVlt_any, AVlt_sl, AVlt_ptr, AVlt_mp, AVlt_agg, AVlt_tup, AVlt_fn, RowsLt_nil, RowsLt_live, RowsLt_dead, List.mem_cons, List.not_mem_nil, List.forall_mem_cons, List.forall_mem_nil, or_false, false_or, forall_eq_or_imp, forall_eq, vs_lt, Nat.add_lt_add_iff_left, Nat.reduceLT, true_and, and_true, and_self, List.length_cons, List.length_nil, Nat.reduceAdd, Nat.zero_add, implies_true, false_imp_iff, lt_T, List.mem_map]) hR hB ⟨by rw [firstP_ge]; rfl, rfl, rfl⟩
theorem vc11_spec (n : Int) (b l : List Row) : ACalls Try.prog 97 [.v (.int .i64 n)] b l (fun r b' l' => r = .v (.bool (vBad n)) ∧ b' = b ∧ l' = l) := by
  refine calls_kept a_vc11_ok rfl (by decide) ?_
  intro B g hB hR hE hA
  simp only [KArgs] at hA
  by_cases h : n < 0
  · have hd := decide_eq_true h
    simp (disch := (first | decide | omega)) only [a_vc11, hA, hd, go_sem]
    exact leave_pure (xs := [.v (.bool true)]) (.inr rfl) (by simp (disch := (first | decide | omega)) only [resVs, resV, go_sem, hA, hd]) (by simp only [one, AVlt_v, AVlt_any, AVlt_sl, AVlt_ptr, AVlt_mp, AVlt_agg, AVlt_tup, AVlt_fn, RowsLt_nil, RowsLt_live, RowsLt_dead, List.mem_cons, List.not_mem_nil, List.forall_mem_cons, List.forall_mem_nil, or_false, false_or, forall_eq_or_imp, forall_eq, vs_lt, Nat.add_lt_add_iff_left, Nat.reduceLT, true_and, and_true, and_self, List.length_cons, List.length_nil, Nat.reduceAdd, Nat.zero_add, implies_true, false_imp_iff, lt_T, List.mem_map]) hR hB ⟨by simp [vBad, h, one], rfl, rfl⟩
  · have hd := decide_eq_false h
    simp (disch := (first | decide | omega)) only [a_vc11, hA, hd, go_sem]
    exact leave_pure (xs := [.v (.bool (decide ((n : Int) > 1125899906842624)))]) (.inr rfl) (by simp (disch := (first | decide | omega)) only [resVs, resV, go_sem, hA, hd]) (by simp only [one, AVlt_v, AVlt_any, AVlt_sl, AVlt_ptr, AVlt_mp, AVlt_agg, AVlt_tup, AVlt_fn, RowsLt_nil, RowsLt_live, RowsLt_dead, List.mem_cons, List.not_mem_nil, List.forall_mem_cons, List.forall_mem_nil, or_false, false_or, forall_eq_or_imp, forall_eq, vs_lt, Nat.add_lt_add_iff_left, Nat.reduceLT, true_and, and_true, and_self, List.length_cons, List.length_nil, Nat.reduceAdd, Nat.zero_add, implies_true, false_imp_iff, lt_T, List.mem_map]) hR hB ⟨by simp [vBad, h, one], rfl, rfl⟩
theorem vc1_spec (m : List (List Int)) (x : List Int) (hx : x.length ≤ 1000000) (id : Nat) (b : List Row) (hid : b[id]? = some (.live 0 1 [[.v (.isl 1 (m.map eRw))]])) : ACalls Try.prog 96 [.v (.isl 1 (x.map eI)), .ptr id 0 0 0] b [] (fun r b' l' => r = .v (.bool (badRow m.length x)) ∧ b' = b ∧ l' = []) := by
  refine calls_kept a_vc1_ok rfl (by decide) ?_
  intro B g hB hR hE hA
  simp only [KArgs] at hA
  have hBb : B = b := by rw [hB, List.append_nil]
  have hlt : id < B.length := by rw [hBb]; exact (List.getElem?_eq_some_iff.1 hid).1
  have hbase : ∀ l, hget B l id = some (.live 0 1 [[.v (.isl 1 (m.map eRw))]]) := fun l => by unfold hget; rw [if_pos hlt, hBb, hid]
  cases h1 : ((x.length : Int) != (m.length : Int))
  · simp (disch := (first | decide | omega)) only [a_vc1, hA, hbase, h1, List.length_map, go_sem]
    refine ACalls.nxt (contains1_spec x _ [] (vBadAt x) (by omega) _ _ (fun i hi => by unfold vBadAt; rw [getD_at hi]; exact vc11_spec _ _ _)) ?_
    have hq : badRow m.length x = (List.range x.length).any (vBadAt x) := by
      unfold badRow
      have : (x.length != m.length) = false := by simp at h1 ⊢; omega
      rw [this, Bool.false_or]
    simp (disch := (first | decide | omega)) only [hA, go_sem]
    exact leave_pure (xs := [.v (.bool ((List.range x.length).any (vBadAt x)))]) (.inr rfl) (by simp (disch := (first | decide | omega)) only [resVs, resV, go_sem, hA]) (by simp only [one, AVlt_v, AVlt_any, AVlt_sl, AVlt_ptr, AVlt_mp, AVlt_agg, AVlt_tup, AVlt_fn, RowsLt_nil, RowsLt_live, RowsLt_dead, List.mem_cons, List.not_mem_nil, List.forall_mem_cons, List.forall_mem_nil, or_false, false_or, forall_eq_or_imp, forall_eq, vs_lt, Nat.add_lt_add_iff_left, Nat.reduceLT, true_and, and_true, and_self, List.length_cons, List.length_nil, Nat.reduceAdd, Nat.zero_add, implies_true, false_imp_iff, lt_T, List.mem_map]) hR hB ⟨by rw [hq]; rfl, rfl, rfl⟩
  · have hq : badRow m.length x = true := by
      unfold badRow
      have : (x.length != m.length) = true := by simp at h1 ⊢; omega
      rw [this, Bool.true_or]
    simp (disch := (first | decide | omega)) only [a_vc1, hA, hbase, h1, List.length_map, go_sem]
    exact leave_pure (xs := [.v (.bool true)]) (.inr rfl) (by simp (disch := (first | decide | omega)) only [resVs, resV, go_sem, hA]) (by simp only [one, AVlt_v, AVlt_any, AVlt_sl, AVlt_ptr, AVlt_mp, AVlt_agg, AVlt_tup, AVlt_fn, RowsLt_nil, RowsLt_live, RowsLt_dead, List.mem_cons, List.not_mem_nil, List.forall_mem_cons, List.forall_mem_nil, or_false, false_or, forall_eq_or_imp, forall_eq, vs_lt, Nat.add_lt_add_iff_left, Nat.reduceLT, true_and, and_true, and_self, List.length_cons, List.length_nil, Nat.reduceAdd, Nat.zero_add, implies_true, false_imp_iff, lt_T, List.mem_map]) hR hB ⟨by rw [hq]; rfl, rfl, rfl⟩
/-- The rows are not so long. -/
def Fit (m : List (List Int)) : Prop := m.length ≤ 1000000 ∧ ∀ r ∈ m, r.length ≤ 1000000
theorem mValid_spec (m : List (List Int)) (hF : Fit m) (b l : List Row) : ACalls Try.prog 50 [.v (.isl 1 (m.map eRw))] b l (fun r b' l' => r = .v (.bool (isM m)) ∧ b' = b ∧ l' = l) := by
  refine calls_kept a_mValid_ok rfl (by decide) ?_
  intro B g hB hR hE hA
  simp only [KArgs] at hA
  by_cases h1 : 1 ≤ m.length
  · by_cases h2 : m.length ≤ 8
    · have hd1 : decide ((m.length : Int) < 1) = false := decide_eq_false (by omega)
      have hd2 : decide ((8 : Int) < m.length) = false := decide_eq_false (by omega)
      simp (disch := (first | decide | omega)) only [a_mValid, hA, List.length_map, hd1, hd2, go_sem]
      refine ACalls.nxt (containsM_spec m _ [.ptr B.length 0 0 0] (badRowAt m) hF.1 _ _ (fun i hi => by
        unfold badRowAt; rw [rowAt_at hi]
        exact vc1_spec m m[i] (hF.2 _ (List.getElem_mem hi)) B.length _ (by rw [List.getElem?_append_right (Nat.le_refl _)]; simp))) ?_
      simp (disch := (first | decide | omega)) only [hA, go_sem]
      exact leave_pure (xs := [.v (.bool (!(List.range m.length).any (badRowAt m)))]) (.inr rfl) (by simp (disch := (first | decide | omega)) only [resVs, resV, go_sem, hA]) (by simp only [one, AVlt_v, AVlt_any, AVlt_sl, AVlt_ptr, AVlt_mp, AVlt_agg, AVlt_tup, AVlt_fn, RowsLt_nil, RowsLt_live, RowsLt_dead, List.mem_cons, List.not_mem_nil, List.forall_mem_cons, List.forall_mem_nil, or_false, false_or, forall_eq_or_imp, forall_eq, vs_lt, Nat.add_lt_add_iff_left, Nat.reduceLT, true_and, and_true, and_self, List.length_cons, List.length_nil, Nat.reduceAdd, Nat.zero_add, implies_true, false_imp_iff, lt_T, List.mem_map]) hR hB ⟨by simp [isM, h1, h2, one], rfl, rfl⟩
    · have hd1 : decide ((m.length : Int) < 1) = false := decide_eq_false (by omega)
      have hd2 : decide ((8 : Int) < m.length) = true := decide_eq_true (by omega)
      simp (disch := (first | decide | omega)) only [a_mValid, hA, List.length_map, hd1, hd2, go_sem]
      exact leave_pure (xs := [.v (.bool false)]) (.inr rfl) (by simp (disch := (first | decide | omega)) only [resVs, resV, go_sem, hA]) (by simp only [one, AVlt_v, AVlt_any, AVlt_sl, AVlt_ptr, AVlt_mp, AVlt_agg, AVlt_tup, AVlt_fn, RowsLt_nil, RowsLt_live, RowsLt_dead, List.mem_cons, List.not_mem_nil, List.forall_mem_cons, List.forall_mem_nil, or_false, false_or, forall_eq_or_imp, forall_eq, vs_lt, Nat.add_lt_add_iff_left, Nat.reduceLT, true_and, and_true, and_self, List.length_cons, List.length_nil, Nat.reduceAdd, Nat.zero_add, implies_true, false_imp_iff, lt_T, List.mem_map]) hR hB ⟨by simp [isM, h1, h2, one], rfl, rfl⟩
  · have hd1 : decide ((m.length : Int) < 1) = true := decide_eq_true (by omega)
    simp (disch := (first | decide | omega)) only [a_mValid, hA, List.length_map, hd1, go_sem]
    exact leave_pure (xs := [.v (.bool false)]) (.inr rfl) (by simp (disch := (first | decide | omega)) only [resVs, resV, go_sem, hA]) (by simp only [one, AVlt_v, AVlt_any, AVlt_sl, AVlt_ptr, AVlt_mp, AVlt_agg, AVlt_tup, AVlt_fn, RowsLt_nil, RowsLt_live, RowsLt_dead, List.mem_cons, List.not_mem_nil, List.forall_mem_cons, List.forall_mem_nil, or_false, false_or, forall_eq_or_imp, forall_eq, vs_lt, Nat.add_lt_add_iff_left, Nat.reduceLT, true_and, and_true, and_self, List.length_cons, List.length_nil, Nat.reduceAdd, Nat.zero_add, implies_true, false_imp_iff, lt_T, List.mem_map]) hR hB ⟨by simp [isM, h1, one], rfl, rfl⟩
/-! Matrices in the making. -/
/-- Cells of which the first i point to rows of their own. -/
def cTo (base i : Nat) (ver len : Nat → Nat) (j : Nat) : List AV := if j < i then [.sl (base + (j + 1)) (ver j) 0 (len j)] else [.v .zsl]
theorem cTo_next {n base i ver len : Nat} {v0 l0 : Nat → Nat} (hv : v0 i = ver) (hl : l0 i = len) : (fl n (cTo base i v0 l0)).set i [.sl (base + (i + 1)) ver 0 len] = fl n (cTo base (i + 1) v0 l0) := by
  rw [fl_set]
  refine fl_congr (fun j hj => ?_)
  unfold fUp cTo
  by_cases h : j = i
  · subst h; rw [if_pos rfl, if_pos (by omega), hv, hl]
  · rw [if_neg h]
    by_cases h2 : j < i
    · rw [if_pos h2, if_pos (by omega)]
    · rw [if_neg h2, if_neg (by omega)]
theorem cTo_self {base i : Nat} {ver len : Nat → Nat} : cTo base i ver len i = [.v .zsl] := by unfold cTo; rw [if_neg (by omega)]
theorem fl_next {α : Type} {n : Nat} {f : Nat → α} {x : α} (h : f n = x) : fl n f ++ [x] = fl (n + 1) f := by
  rw [fl_snoc]
  refine fl_congr (fun j hj => ?_)
  unfold fUp
  by_cases hj2 : j = n
  · rw [if_pos hj2, hj2, h]
  · rw [if_neg hj2]
theorem cTo_zero {n base : Nat} {ver len : Nat → Nat} : List.replicate n [AV.v .zsl] = fl n (cTo base 0 ver len) := by
  apply List.ext_getElem?
  intro j
  by_cases hj : j < n
  · rw [fl_get hj, List.getElem?_replicate, if_pos hj]; unfold cTo; rw [if_neg (by omega)]
  · rw [fl_none (by omega), List.getElem?_replicate, if_neg hj]
theorem mR_start {n v0 base sz : Nat} {ver : Nat → Nat} {R : Nat → List (List IV)} : mR n v0 base sz 0 ver R = .live v0 1 (fl n (cTo base n ver (fun j => (R j).length))) :: fl n (fun j => .live (ver j) sz (vs (R j))) := by
  unfold mR
  congr 1
  · congr 1
    refine fl_congr (fun j hj => ?_)
    unfold mC cTo; rw [if_neg (by omega), if_pos hj]
theorem mR_lt {n v0 base sz m : Nat} {ver : Nat → Nat} {R : Nat → List (List IV)} (h : base + (n + 1) ≤ m) : RowsLt m (mR n v0 base sz 0 ver R) := by
  intro id ver' sz' els hr row hrow c hc
  unfold mR at hr
  cases id with
  | zero =>
    rw [List.getElem?_cons_zero] at hr
    cases hr
    obtain ⟨j, hj, rfl⟩ := List.mem_map.1 hrow
    simp only [List.mem_singleton] at hc
    subst hc
    have := List.mem_range.1 hj
    unfold mC
    rw [if_neg (by omega)]
    exact .sl _ _ _ _ (by omega)
  | succ id =>
    rw [List.getElem?_cons_succ] at hr
    by_cases hid : id < n
    · rw [fl_get hid] at hr
      unfold mD at hr
      rw [if_neg (by omega)] at hr
      cases hr
      obtain ⟨r0, _, rfl⟩ := List.mem_map.1 hrow
      obtain ⟨x0, _, rfl⟩ := List.mem_map.1 hc
      exact .v _
    · rw [fl_none (by omega)] at hr; cases hr
/-- A matrix of which i rows are made. -/
def pM (n v0 base sz i : Nat) (ver : Nat → Nat) (R : Nat → List (List IV)) : List Row := .live v0 1 (fl n (cTo base i ver (fun j => (R j).length))) :: fl i (fun j => .live (ver j) sz (vs (R j)))
theorem pM_lt {n v0 base sz i m : Nat} {ver : Nat → Nat} {R : Nat → List (List IV)} (h : base + (i + 1) ≤ m) : RowsLt m (pM n v0 base sz i ver R) := by
  intro id ver' sz' els hr row hrow c hc
  unfold pM at hr
  cases id with
  | zero =>
    rw [List.getElem?_cons_zero] at hr
    cases hr
    obtain ⟨j, hj, rfl⟩ := List.mem_map.1 hrow
    unfold cTo at hc
    split at hc
    · simp only [List.mem_singleton] at hc
      subst hc
      exact .sl _ _ _ _ (by omega)
    · simp only [List.mem_singleton] at hc
      subst hc
      exact .v _
  | succ id =>
    rw [List.getElem?_cons_succ] at hr
    by_cases hid : id < i
    · rw [fl_get hid] at hr
      cases hr
      obtain ⟨r0, _, rfl⟩ := List.mem_map.1 hrow
      obtain ⟨x0, _, rfl⟩ := List.mem_map.1 hc
      exact .v _
    · rw [fl_none (by omega)] at hr; cases hr
theorem pM_len {n v0 base sz i : Nat} {ver : Nat → Nat} {R : Nat → List (List IV)} : (pM n v0 base sz i ver R).length = i + 1 := by simp [pM, fl_len]
theorem pM_all {n v0 base sz : Nat} {ver : Nat → Nat} {R : Nat → List (List IV)} : pM n v0 base sz n ver R = mR n v0 base sz 0 ver R := mR_start.symm
theorem mR_len {n v0 base sz i : Nat} {ver : Nat → Nat} {R : Nat → List (List IV)} : (mR n v0 base sz i ver R).length = n + 1 := by simp [mR, fl_len]
def zRows (m : Nat) (_ : Nat) : List (List IV) := (List.replicate m (0 : Int)).map eI
theorem zRows_len (m i : Nat) : (zRows m i).length = m := by simp [zRows]
def zeroM (n : Nat) : List (List Int) := fl n fun _ => List.replicate n 0
def zeroMR (n : Int) : AV := if 1 ≤ n ∧ n ≤ 8 then .tup [.v (.isl 1 ((zeroM n.toNat).map eRw)), .v (.int .i64 0)] else .tup [.v .zsl, .v (.int .i64 2)]
theorem mZero_spec (n : Int) (b l : List Row) : ACalls Try.prog 44 [.v (.int .i64 n)] b l (fun r b' l' => r = zeroMR n ∧ b' = b ∧ l' = l) := by
  refine calls_kept a_mZero_ok rfl (by decide) ?_
  intro B g hB hR hE hA
  simp only [KArgs] at hA
  by_cases h1 : n < 1
  · have hd := decide_eq_true h1
    simp (disch := (first | decide | omega)) only [a_mZero, hA, hd, go_sem]
    exact leave_pure (xs := [.v .zsl, .v (.int .i64 2)]) (.inr rfl) (by simp (disch := (first | decide | omega)) only [resVs, resV, go_sem, hA]) (by simp only [one, AVlt_v, AVlt_any, AVlt_sl, AVlt_ptr, AVlt_mp, AVlt_agg, AVlt_tup, AVlt_fn, RowsLt_nil, RowsLt_live, RowsLt_dead, List.mem_cons, List.not_mem_nil, List.forall_mem_cons, List.forall_mem_nil, or_false, false_or, forall_eq_or_imp, forall_eq, vs_lt, Nat.add_lt_add_iff_left, Nat.reduceLT, true_and, and_true, and_self, List.length_cons, List.length_nil, Nat.reduceAdd, Nat.zero_add, implies_true, false_imp_iff, lt_T, List.mem_map]) hR hB ⟨by rw [zeroMR, if_neg (by omega)]; rfl, rfl, rfl⟩
  have hd := decide_eq_false h1
  by_cases h2 : n > 8
  · have hd2 := decide_eq_true h2
    simp (disch := (first | decide | omega)) only [a_mZero, hA, hd, hd2, go_sem]
    exact leave_pure (xs := [.v .zsl, .v (.int .i64 2)]) (.inr rfl) (by simp (disch := (first | decide | omega)) only [resVs, resV, go_sem, hA]) (by simp only [one, AVlt_v, AVlt_any, AVlt_sl, AVlt_ptr, AVlt_mp, AVlt_agg, AVlt_tup, AVlt_fn, RowsLt_nil, RowsLt_live, RowsLt_dead, List.mem_cons, List.not_mem_nil, List.forall_mem_cons, List.forall_mem_nil, or_false, false_or, forall_eq_or_imp, forall_eq, vs_lt, Nat.add_lt_add_iff_left, Nat.reduceLT, true_and, and_true, and_self, List.length_cons, List.length_nil, Nat.reduceAdd, Nat.zero_add, implies_true, false_imp_iff, lt_T, List.mem_map]) hR hB ⟨by rw [zeroMR, if_neg (by omega)]; rfl, rfl, rfl⟩
  have hd2 := decide_eq_false h2
  obtain ⟨m, rfl⟩ : ∃ m : Nat, n = m := ⟨n.toNat, by omega⟩
  have hz : List.replicate m [AV.v .zsl] = fl m (cTo B.length 0 (fun _ => 0) (fun j => (zRows m j).length)) := cTo_zero
  simp (disch := (first | decide | omega)) only [a_mZero, hA, hd, hd2, hz, go_sem]
  refine loop_kept (ι := Nat) r_mZero0 (fun i => [(16, .v (.int .i64 i))]) 1 (fun i => pM m 0 B.length 1 i (fun _ => 0) (zRows m))
    (fun i => i ≤ m) (fun i => m - i) 0 (Nat.zero_le _) (by (repeat (first | exact hE.mono (by omega) | refine KLt.up ?_ (by simp (disch := omega) only [AVlt_v, AVlt_any, AVlt_sl, AVlt_ptr, AVlt_mp, AVlt_agg, AVlt_tup, AVlt_fn, RowsLt_nil, RowsLt_live, RowsLt_dead, List.mem_cons, List.not_mem_nil, List.forall_mem_cons, List.forall_mem_nil, or_false, false_or, forall_eq_or_imp, forall_eq, vs_lt, Nat.add_lt_add_iff_left, Nat.reduceLT, true_and, and_true, and_self, List.length_cons, List.length_nil, Nat.reduceAdd, Nat.zero_add, implies_true, false_imp_iff, lt_T, List.mem_map])))) (by ((try simp (disch := decide) only [hA, go_sem]) <;> (repeat' (first | exact trivial | refine And.intro ?_ ?_)) <;> (first | rfl | (congr 2; omega)))) (fun e => by simp only [pM, fl_zero]; exact Weak.refl _ _ _) ?_
  intro g1 hE1 hEE1 hg1 i hi
  by_cases hlt : i < m
  · have hrep : List.replicate m [AV.v (.int .i64 0)] = vs (zRows m i) := by simp [vs, zRows, eI]
    have cs := cTo_next (n := m) (base := B.length) (i := i) (v0 := fun _ => 0) (l0 := fun j => (zRows m j).length) (ver := 0) (len := m) rfl (zRows_len m i)
    have ds := fl_next (n := i) (f := fun j => Row.live 0 1 (vs (zRows m j))) rfl
    simp (disch := (first | decide | omega)) only [hA, hg1, pM, fl_len, fl_get, setFrom, cellsOf, hrep, cTo_self, cs, ds, go_sem]
    refine ⟨i + 1, hlt, by simp only; omega, ?_⟩
    exact Weak.kround (l1 := pM m 0 B.length 1 (i + 1) (fun _ => 0) (zRows m)) (p := r_mZero0) (k := 1) (by ((repeat refine (kAny_up rfl).trans ?_); exact hEE1)) (by ((try simp (disch := decide) only [hA, go_sem]) <;> (repeat' (first | exact trivial | refine And.intro ?_ ?_)) <;> (first | rfl | (congr 2; omega)))) (junk := []) (by simp only [pM, List.append_nil]) hE1 (by rw [pM_len]; omega) (by simp (disch := omega) only [KOvLt, AVlt_v, AVlt_any, AVlt_sl, AVlt_ptr, AVlt_mp, AVlt_agg, AVlt_tup, AVlt_fn, RowsLt_nil, RowsLt_live, RowsLt_dead, List.mem_cons, List.not_mem_nil, List.forall_mem_cons, List.forall_mem_nil, or_false, false_or, forall_eq_or_imp, forall_eq, vs_lt, Nat.add_lt_add_iff_left, Nat.reduceLT, true_and, and_true, and_self, List.length_cons, List.length_nil, Nat.reduceAdd, Nat.zero_add, implies_true, false_imp_iff, lt_T, List.mem_map]) hR (pM_lt (by rw [pM_len]; omega))
  · simp (disch := (first | decide | omega)) only [hA, hg1, go_sem]
    obtain rfl : i = m := by omega
    refine leave_mat2 (n := i) (v0 := 0) (sz := 1) (ver := fun _ => 0) (R := zRows i) (z := .int .i64 0) (junk := []) (.inr rfl) (by simp (disch := (first | decide | omega)) only [resVs, resV, hA, hg1, go_sem]) (by rw [← pM_all, List.append_nil]) hR hB ⟨?_, rfl, rfl⟩
    rw [zeroMR, if_pos (by omega), Int.toNat_natCast, zeroM, fl_map]
    rfl
/-- The end of a function that hands out rows of its own as they are. -/
theorem leave_keep {rs : List ARes} {Q : AV → List Row → List Row → Prop} {B e l : _} {ex : AExit} (hex : ex = .normal ∨ ex = .ret) {y : AV} {keep junk : List Row} (hx : resVs e B l rs = some [y]) (hl : l = keep ++ junk)
    (hR : RowsLt B.length B) (hy : AVlt (B.length + keep.length) y) (hk : RowsLt (B.length + keep.length) keep) {b0 l0 : List Row} (hB : B = b0 ++ l0) (hq : Q y b0 (l0 ++ keep)) : Leaves rs Q b0.length ex e B l :=
  leave hex hx (y := y) (Weak.trim (l1 := keep) hl (by intro x hx; simp only [one, List.mem_singleton] at hx; subst hx; exact hy) (hR.mono (by omega)) hk) hB hq
/-- The rows of a matrix. -/
def rowsM (m : List (List Int)) (j : Nat) : List (List IV) := (rowAt m j).map eI
theorem copied_spec (m : List (List Int)) (hm : isM m = true) (b l : List Row) : ACalls Try.prog 95 [.v (.isl 1 (m.map eRw))] b l (fun r b' l' => r = .sl (b.length + l.length) 0 0 m.length ∧ b' = b ∧ l' = l ++ mR m.length 0 (b.length + l.length) 1 0 (fun _ => 1) (rowsM m)) := by
  refine calls_kept a_copied_ok rfl (by decide) ?_
  intro B g hB hR hE hA
  simp only [KArgs] at hA
  obtain ⟨l1, l2, l3, _⟩ := isM_open hm
  have hz : List.replicate m.length [AV.v .zsl] = fl m.length (cTo B.length 0 (fun _ => 1) (fun j => (rowsM m j).length)) := cTo_zero
  simp (disch := (first | decide | omega)) only [a_copied, hA, List.length_map, hz, go_sem]
  refine loop_kept (ι := Nat) r_copied0 (fun i => [(11, .v (.int .i64 i))]) 1 (fun i => pM m.length 0 B.length 1 i (fun _ => 1) (rowsM m))
    (fun i => i ≤ m.length) (fun i => m.length - i) 0 (Nat.zero_le _) (by (repeat (first | exact hE.mono (by omega) | refine KLt.up ?_ (by simp (disch := omega) only [AVlt_v, AVlt_any, AVlt_sl, AVlt_ptr, AVlt_mp, AVlt_agg, AVlt_tup, AVlt_fn, RowsLt_nil, RowsLt_live, RowsLt_dead, List.mem_cons, List.not_mem_nil, List.forall_mem_cons, List.forall_mem_nil, or_false, false_or, forall_eq_or_imp, forall_eq, vs_lt, Nat.add_lt_add_iff_left, Nat.reduceLT, true_and, and_true, and_self, List.length_cons, List.length_nil, Nat.reduceAdd, Nat.zero_add, implies_true, false_imp_iff, lt_T, List.mem_map])))) (by ((try simp (disch := decide) only [hA, go_sem]) <;> (repeat' (first | exact trivial | refine And.intro ?_ ?_)) <;> (first | rfl | (congr 2; omega)))) (fun e => by simp only [pM, fl_zero]; exact Weak.refl _ _ _) ?_
  intro g1 hE1 hEE1 hg1 i hi
  by_cases hlt : i < m.length
  · have hri := rowAt_at hlt
    have hrl : (rowsM m i).length = m.length := by unfold rowsM; rw [List.length_map, l3 i hlt]
    have hil : m[i].length = m.length := by rw [← hri]; exact l3 i hlt
    have cs := cTo_next (n := m.length) (base := B.length) (i := i) (v0 := fun _ => 1) (l0 := fun j => (rowsM m j).length) (ver := 1) (len := m.length) rfl hrl
    have ds := fl_next (n := i) (f := fun j => Row.live 1 1 (vs (rowsM m j))) (x := Row.live 1 1 (vs (m[i].map eI))) (by unfold rowsM; rw [hri])
    simp (disch := (first | decide | omega)) only [hA, hg1, pM, eRw, go_sem]
    refine ACalls.nxt (clo1_spec m[i] (by omega) (by omega) _ _) ?_
    rw [hil]
    simp (disch := (first | decide | omega)) only [hA, hg1, fl_len, fl_get, setFrom, cellsOf, cTo_self, cs, ds, go_sem]
    refine ⟨i + 1, hlt, by simp only; omega, ?_⟩
    exact Weak.kround (l1 := pM m.length 0 B.length 1 (i + 1) (fun _ => 1) (rowsM m)) (p := r_copied0) (k := 1) (by ((repeat refine (kAny_up rfl).trans ?_); exact hEE1)) (by ((try simp (disch := decide) only [hA, go_sem]) <;> (repeat' (first | exact trivial | refine And.intro ?_ ?_)) <;> (first | rfl | (congr 2; omega)))) (junk := []) (by simp only [pM, List.append_nil]) hE1 (by rw [pM_len]; omega) (by simp (disch := omega) only [KOvLt, AVlt_v, AVlt_any, AVlt_sl, AVlt_ptr, AVlt_mp, AVlt_agg, AVlt_tup, AVlt_fn, RowsLt_nil, RowsLt_live, RowsLt_dead, List.mem_cons, List.not_mem_nil, List.forall_mem_cons, List.forall_mem_nil, or_false, false_or, forall_eq_or_imp, forall_eq, vs_lt, Nat.add_lt_add_iff_left, Nat.reduceLT, true_and, and_true, and_self, List.length_cons, List.length_nil, Nat.reduceAdd, Nat.zero_add, implies_true, false_imp_iff, lt_T, List.mem_map]) hR (pM_lt (by rw [pM_len]; omega))
  · simp (disch := (first | decide | omega)) only [hA, hg1, go_sem]
    obtain rfl : i = m.length := by omega
    have hBl : B.length = b.length + l.length := by rw [hB, List.length_append]
    exact leave_keep (y := .sl B.length 0 0 m.length) (keep := mR m.length 0 B.length 1 0 (fun _ => 1) (rowsM m)) (junk := []) (.inr rfl) (by simp (disch := (first | decide | omega)) only [resVs, resV, hA, hg1, go_sem]) (by rw [← pM_all, List.append_nil]) hR (by rw [mR_len]; exact .sl _ _ _ _ (by omega)) (mR_lt (by rw [mR_len]; omega)) hB ⟨by rw [hBl], rfl, by rw [hBl]⟩
theorem mC_0 {base sz j : Nat} {ver : Nat → Nat} {R : Nat → List (List IV)} : mC base sz 0 ver R j = .sl (base + (j + 1)) (ver j) 0 (R j).length := by unfold mC; rw [if_neg (by omega)]
theorem mD_0 {sz j : Nat} {ver : Nat → Nat} {R : Nat → List (List IV)} : mD sz 0 ver R j = .live (ver j) sz (vs (R j)) := by unfold mD; rw [if_neg (by omega)]
theorem mD_set {n sz p v : Nat} {ver : Nat → Nat} {R : Nat → List (List IV)} {x : List (List IV)} (hv : ver p = v) : (fl n (mD sz 0 ver R)).set p (.live v sz (vs x)) = fl n (mD sz 0 ver (fUp R p x)) := by
  rw [fl_set]
  refine fl_congr (fun j hj => ?_)
  unfold fUp mD
  by_cases h : j = p
  · subst h; simp [hv]
  · simp [h]
theorem mC_set {n base sz p : Nat} {ver : Nat → Nat} {R : Nat → List (List IV)} {x : List (List IV)} (hx : x.length = (R p).length) : (fl n fun j => [mC base sz 0 ver R j]) = fl n fun j => [mC base sz 0 ver (fUp R p x) j] := by
  refine fl_congr (fun j hj => ?_)
  rw [mC_0, mC_0]
  unfold fUp
  by_cases h : j = p
  · subst h; rw [if_pos rfl, hx]
  · rw [if_neg h]
def ent (m : List (List Int)) (i j : Nat) : Int := (rowAt m i).getD j 0
def tickM (m : List (List Int)) (p : Nat) : List (List Int) := fl m.length fun i => if i = p then (rowAt m p).set p (ent m p p + 1) else rowAt m i
def tickME (m : List (List Int)) (p : Int) : Int := if isM m = false then 1 else if p < 0 ∨ p ≥ m.length then 2 else if ent m p.toNat p.toNat ≥ 1125899906842624 then 9 else 0
def tickMR (m : List (List Int)) (p : Int) : AV := if tickME m p = 0 then .tup [.v (.isl 1 ((tickM m p.toNat).map eRw)), .v (.int .i64 0)] else .tup [.v .zsl, .v (.int .i64 (tickME m p))]
theorem mV_rows {n : Nat} {f : Nat → List Int} : mV n 1 (fun j => (f j).map eI) = (fl n f).map eRw := by
  unfold mV; rw [fl_map]; rfl
theorem mTick_spec (m : List (List Int)) (hF : Fit m) (p : Int) (b l : List Row) : ACalls Try.prog 47 [.v (.isl 1 (m.map eRw)), .v (.int .i64 p)] b l (fun r b' l' => r = tickMR m p ∧ b' = b ∧ l' = l) := by
  refine calls_kept a_mTick_ok rfl (by decide) ?_
  intro B g hB hR hE hA
  simp only [KArgs] at hA
  simp (disch := decide) only [a_mTick, hA, go_sem]
  refine ACalls.nxt (mValid_spec m hF _ _) ?_
  cases h1 : isM m
  · simp (disch := decide) only [hA, go_sem]
    have e : tickME m p = 1 := by simp [tickME, h1]
    exact leave_pure (xs := [.v .zsl, .v (.int .i64 1)]) (.inr rfl) (by simp (disch := (first | decide | omega)) only [resVs, resV, go_sem, hA]) (by simp only [one, AVlt_v, AVlt_any, AVlt_sl, AVlt_ptr, AVlt_mp, AVlt_agg, AVlt_tup, AVlt_fn, RowsLt_nil, RowsLt_live, RowsLt_dead, List.mem_cons, List.not_mem_nil, List.forall_mem_cons, List.forall_mem_nil, or_false, false_or, forall_eq_or_imp, forall_eq, vs_lt, Nat.add_lt_add_iff_left, Nat.reduceLT, true_and, and_true, and_self, List.length_cons, List.length_nil, Nat.reduceAdd, Nat.zero_add, implies_true, false_imp_iff, lt_T, List.mem_map]) hR hB ⟨by simp [tickMR, e, one], rfl, rfl⟩
  obtain ⟨l1, l2, l3, l4⟩ := isM_open h1
  by_cases h2 : p < 0
  · have hd := decide_eq_true h2
    have e : tickME m p = 2 := by simp [tickME, h1, h2]
    simp (disch := (first | decide | omega)) only [hA, hd, go_sem]
    exact leave_pure (xs := [.v .zsl, .v (.int .i64 2)]) (.inr rfl) (by simp (disch := (first | decide | omega)) only [resVs, resV, go_sem, hA, hd]) (by simp only [one, AVlt_v, AVlt_any, AVlt_sl, AVlt_ptr, AVlt_mp, AVlt_agg, AVlt_tup, AVlt_fn, RowsLt_nil, RowsLt_live, RowsLt_dead, List.mem_cons, List.not_mem_nil, List.forall_mem_cons, List.forall_mem_nil, or_false, false_or, forall_eq_or_imp, forall_eq, vs_lt, Nat.add_lt_add_iff_left, Nat.reduceLT, true_and, and_true, and_self, List.length_cons, List.length_nil, Nat.reduceAdd, Nat.zero_add, implies_true, false_imp_iff, lt_T, List.mem_map]) hR hB ⟨by simp [tickMR, e, one], rfl, rfl⟩
  have hd := decide_eq_false h2
  by_cases h3 : p ≥ m.length
  · have hd2 : decide ((m.length : Int) ≤ p) = true := decide_eq_true h3
    have e : tickME m p = 2 := by simp [tickME, h1, h3]
    simp (disch := (first | decide | omega)) only [hA, List.length_map, hd, hd2, go_sem]
    exact leave_pure (xs := [.v .zsl, .v (.int .i64 2)]) (.inr rfl) (by simp (disch := (first | decide | omega)) only [resVs, resV, go_sem, hA, hd]) (by simp only [one, AVlt_v, AVlt_any, AVlt_sl, AVlt_ptr, AVlt_mp, AVlt_agg, AVlt_tup, AVlt_fn, RowsLt_nil, RowsLt_live, RowsLt_dead, List.mem_cons, List.not_mem_nil, List.forall_mem_cons, List.forall_mem_nil, or_false, false_or, forall_eq_or_imp, forall_eq, vs_lt, Nat.add_lt_add_iff_left, Nat.reduceLT, true_and, and_true, and_self, List.length_cons, List.length_nil, Nat.reduceAdd, Nat.zero_add, implies_true, false_imp_iff, lt_T, List.mem_map]) hR hB ⟨by simp [tickMR, e, one], rfl, rfl⟩
  have hd2 : decide ((m.length : Int) ≤ p) = false := decide_eq_false h3
  obtain ⟨n, rfl⟩ : ∃ n : Nat, p = n := ⟨p.toNat, by omega⟩
  have hn : n < m.length := by omega
  have hri := rowAt_at hn
  have hnl : n < m[n].length := by rw [← hri, l3 n hn]; exact hn
  have hg := getD_at (d := 0) hnl
  have he : ent m n n = m[n][n] := by unfold ent; rw [hri, hg]
  have hr := l4 n n hn hn
  rw [hri, hg] at hr
  by_cases h4 : m[n][n] ≥ 1125899906842624
  · have hd3 : decide ((1125899906842624 : Int) ≤ m[n][n]) = true := decide_eq_true h4
    have e : tickME m n = 9 := by
      unfold tickME
      rw [if_neg (by simp [h1]), if_neg (by omega), if_pos (by rw [Int.toNat_natCast, he]; exact h4)]
    simp (disch := (first | decide | omega)) only [hA, List.length_map, hd, hd2, eRw, eI, hd3, go_sem]
    exact leave_pure (xs := [.v .zsl, .v (.int .i64 9)]) (.inr rfl) (by simp (disch := (first | decide | omega)) only [resVs, resV, go_sem, hA, hd]) (by simp only [one, AVlt_v, AVlt_any, AVlt_sl, AVlt_ptr, AVlt_mp, AVlt_agg, AVlt_tup, AVlt_fn, RowsLt_nil, RowsLt_live, RowsLt_dead, List.mem_cons, List.not_mem_nil, List.forall_mem_cons, List.forall_mem_nil, or_false, false_or, forall_eq_or_imp, forall_eq, vs_lt, Nat.add_lt_add_iff_left, Nat.reduceLT, true_and, and_true, and_self, List.length_cons, List.length_nil, Nat.reduceAdd, Nat.zero_add, implies_true, false_imp_iff, lt_T, List.mem_map]) hR hB ⟨by simp [tickMR, e, one], rfl, rfl⟩
  have hd3 : decide ((1125899906842624 : Int) ≤ m[n][n]) = false := decide_eq_false h4
  have e : tickME m n = 0 := by
    unfold tickME
    rw [if_neg (by simp [h1]), if_neg (by omega), if_neg (by rw [Int.toNat_natCast, he]; exact h4)]
  simp (disch := (first | decide | omega)) only [hA, List.length_map, hd, hd2, eRw, eI, hd3, go_sem]
  refine ACalls.nxt (copied_spec m h1 _ _) ?_
  have hRn : rowsM m n = m[n].map eI := by unfold rowsM; rw [hri]
  have hRl : (rowsM m n).length = m.length := by rw [hRn, List.length_map, ← hri, l3 n hn]
  have hst : (m[n].map eI).set n [.int .i64 (m[n][n] + 1)] = (m[n].set n (m[n][n] + 1)).map eI := by rw [List.map_set]; rfl
  have ds := mD_set (n := m.length) (sz := 1) (p := n) (v := 1) (ver := fun _ => 1) (R := rowsM m) (x := (m[n].set n (m[n][n] + 1)).map eI) rfl
  have cs := mC_set (n := m.length) (base := B.length) (sz := 1) (p := n) (ver := fun _ => 1) (R := rowsM m) (x := (m[n].set n (m[n][n] + 1)).map eI) (by rw [hRl, List.length_map, List.length_set, ← hri, l3 n hn])
  simp (disch := (first | decide | omega)) only [hA, List.length_map, mR, fl_len, fl_get, mC_0, mD_0, hRn, hRl, eI, setFrom, cellsOf, hst, ds, go_sem]
  have hfin : mV m.length 1 (fUp (rowsM m) n ((m[n].set n (m[n][n] + 1)).map eI)) = (tickM m n).map eRw := by
    unfold tickM
    rw [← mV_rows]
    congr 1
    funext j
    unfold fUp rowsM
    by_cases hj : j = n
    · rw [if_pos hj, if_pos hj, he, hri]
    · rw [if_neg hj, if_neg hj]
  refine leave_mat2 (n := m.length) (v0 := 0) (sz := 1) (ver := fun _ => 1) (R := fUp (rowsM m) n ((m[n].set n (m[n][n] + 1)).map eI)) (z := .int .i64 0) (junk := []) (.inr rfl) (by simp (disch := (first | decide | omega)) only [resVs, resV, hA, go_sem]) (by unfold mR; rw [← cs]; simp only [mC_0, List.append_nil]) hR hB ⟨?_, rfl, rfl⟩
  rw [tickMR, if_pos e, Int.toNat_natCast, hfin]
/-! What is known to all. -/
def kn (m : List (List Int)) : Nat → Nat → Int
  | 0, j => ent m 0 j
  | i + 1, j => min (kn m i j) (ent m i j)
def kTo (m : List (List Int)) (i k j : Nat) : Int := if j < k then kn m (i + 1) j else kn m i j
def knR (m : List (List Int)) (i k : Nat) : List Int := fl m.length (kTo m i k)
def knownM (m : List (List Int)) : List Int := fl m.length (kn m m.length)
theorem knR_len {m : List (List Int)} {i k : Nat} : (knR m i k).length = m.length := fl_len
theorem knR_at {m : List (List Int)} {i k : Nat} (h : k < (knR m i k).length) : (knR m i k)[k] = kn m i k := by
  exact (fl_getE (f := kTo m i k) h).trans (by unfold kTo; rw [if_neg (by omega)])
theorem knR_set {m : List (List Int)} {i k : Nat} : ((knR m i k).map eI).set k [.int .i64 (kn m (i + 1) k)] = (knR m i (k + 1)).map eI := by
  rw [show [IV.int .i64 (kn m (i + 1) k)] = eI (kn m (i + 1) k) from rfl, ← List.map_set]
  congr 1
  unfold knR
  rw [fl_set]
  refine fl_congr (fun j hj => ?_)
  unfold fUp kTo
  by_cases h : j = k
  · subst h; rw [if_pos rfl, if_pos (by omega)]
  · rw [if_neg h]
    by_cases h2 : j < k
    · rw [if_pos h2, if_pos (by omega)]
    · rw [if_neg h2, if_neg (by omega)]
theorem knR_next {m : List (List Int)} {i : Nat} : knR m i m.length = knR m (i + 1) 0 := by
  unfold knR
  refine fl_congr (fun j hj => ?_)
  unfold kTo; rw [if_pos hj, if_neg (by omega)]
theorem knR_end {m : List (List Int)} : knR m m.length 0 = knownM m := by
  unfold knR knownM
  refine fl_congr (fun j hj => ?_)
  unfold kTo; rw [if_neg (by omega)]
theorem knR_start {m : List (List Int)} (h : 0 < m.length) (hl : (rowAt m 0).length = m.length) : knR m 0 0 = m[0] := by
  rw [← rowAt_at h, ← fl_list (l := rowAt m 0) (d := 0), hl]
  unfold knR
  refine fl_congr (fun j hj => ?_)
  unfold kTo; rw [if_neg (by omega)]; rfl
def knownR (m : List (List Int)) : AV := if isM m = true then .tup [.v (.isl 1 ((knownM m).map eI)), .v (.int .i64 0)] else .tup [.v .zsl, .v (.int .i64 1)]
theorem mKnown_spec (m : List (List Int)) (hF : Fit m) (b l : List Row) : ACalls Try.prog 48 [.v (.isl 1 (m.map eRw))] b l (fun r b' l' => r = knownR m ∧ b' = b ∧ l' = l) := by
  refine calls_kept a_mKnown_ok rfl (by decide) ?_
  intro B g hB hR hE hA
  simp only [KArgs] at hA
  simp (disch := decide) only [a_mKnown, hA, go_sem]
  refine ACalls.nxt (mValid_spec m hF _ _) ?_
  cases h1 : isM m
  · simp (disch := decide) only [hA, go_sem]
    exact leave_pure (xs := [.v .zsl, .v (.int .i64 1)]) (.inr rfl) (by simp (disch := (first | decide | omega)) only [resVs, resV, go_sem, hA]) (by simp only [one, AVlt_v, AVlt_any, AVlt_sl, AVlt_ptr, AVlt_mp, AVlt_agg, AVlt_tup, AVlt_fn, RowsLt_nil, RowsLt_live, RowsLt_dead, List.mem_cons, List.not_mem_nil, List.forall_mem_cons, List.forall_mem_nil, or_false, false_or, forall_eq_or_imp, forall_eq, vs_lt, Nat.add_lt_add_iff_left, Nat.reduceLT, true_and, and_true, and_self, List.length_cons, List.length_nil, Nat.reduceAdd, Nat.zero_add, implies_true, false_imp_iff, lt_T, List.mem_map]) hR hB ⟨by simp [knownR, h1, one], rfl, rfl⟩
  obtain ⟨l1, l2, l3, l4⟩ := isM_open h1
  have h0 : 0 < m.length := by omega
  have hr0 := rowAt_at h0
  have hl0 : m[0].length = m.length := by rw [← hr0]; exact l3 0 h0
  have ks := knR_start h0 (l3 0 h0)
  simp (disch := (first | decide | omega)) only [hA, eRw, Int.reduceToNat, go_sem]
  refine ACalls.nxt (clo1_spec m[0] (by omega) (by omega) _ _) ?_
  rw [hl0, ← ks]
  simp (disch := (first | decide | omega)) only [hA, List.length_map, go_sem]
  refine loop_kept (ι := Nat) r_mKnown0 (fun i => [(18, .v (.int .i64 i))]) 1 (fun i => [.live 1 1 (vs ((knR m i 0).map eI))])
    (fun i => i ≤ m.length) (fun i => m.length - i) 0 (Nat.zero_le _) (by (repeat (first | exact hE.mono (by omega) | refine KLt.up ?_ (by simp (disch := omega) only [AVlt_v, AVlt_any, AVlt_sl, AVlt_ptr, AVlt_mp, AVlt_agg, AVlt_tup, AVlt_fn, RowsLt_nil, RowsLt_live, RowsLt_dead, List.mem_cons, List.not_mem_nil, List.forall_mem_cons, List.forall_mem_nil, or_false, false_or, forall_eq_or_imp, forall_eq, vs_lt, Nat.add_lt_add_iff_left, Nat.reduceLT, true_and, and_true, and_self, List.length_cons, List.length_nil, Nat.reduceAdd, Nat.zero_add, implies_true, false_imp_iff, lt_T, List.mem_map])))) (by ((try simp (disch := decide) only [hA, go_sem]) <;> (repeat' (first | exact trivial | refine And.intro ?_ ?_)) <;> (first | rfl | (congr 2; omega)))) (fun e => Weak.refl _ _ _) ?_
  intro g1 hE1 hEE1 hg1 i hi
  by_cases hlt : i < m.length
  · have hri := rowAt_at hlt
    have hil : m[i].length = m.length := by rw [← hri]; exact l3 i hlt
    simp (disch := (first | decide | omega)) only [hA, hg1, eRw, go_sem]
    refine loop_kept (ι := Nat) r_mKnown1 (fun k => [(24, .v (.int .i64 k))]) 1 (fun k => [.live 1 1 (vs ((knR m i k).map eI))])
      (fun k => k ≤ m.length) (fun k => m.length - k) 0 (Nat.zero_le _) (by (repeat (first | exact hE1.mono (by omega) | refine KLt.up ?_ (by simp (disch := omega) only [AVlt_v, AVlt_any, AVlt_sl, AVlt_ptr, AVlt_mp, AVlt_agg, AVlt_tup, AVlt_fn, RowsLt_nil, RowsLt_live, RowsLt_dead, List.mem_cons, List.not_mem_nil, List.forall_mem_cons, List.forall_mem_nil, or_false, false_or, forall_eq_or_imp, forall_eq, vs_lt, Nat.add_lt_add_iff_left, Nat.reduceLT, true_and, and_true, and_self, List.length_cons, List.length_nil, Nat.reduceAdd, Nat.zero_add, implies_true, false_imp_iff, lt_T, List.mem_map])))) (by ((try simp (disch := decide) only [hA, hg1, go_sem]) <;> (repeat' (first | exact trivial | refine And.intro ?_ ?_)) <;> (first | rfl | (congr 2; omega)))) (fun e => Weak.refl _ _ _) ?_
    intro g2 hE2 hEE2 hg2 k hk
    by_cases hkl : k < m.length
    · have hki : k < m[i].length := by omega
      have kl := knR_len (m := m) (i := i) (k := k)
      have ka := knR_at (m := m) (i := i) (k := k) (by omega)
      have he : ent m i k = m[i][k] := by unfold ent; rw [hri, getD_at hki]
      have hm : (if m[i][k] < kn m i k then m[i][k] else kn m i k) = kn m (i + 1) k := by
        show _ = min (kn m i k) (ent m i k)
        rw [he]; split <;> omega
      have kset := knR_set (m := m) (i := i) (k := k)
      simp (disch := (first | decide | omega)) only [hA, hg1, hg2, eI, ka, kl, hm, kset, hil, List.length_map, go_sem]
      refine ⟨k + 1, hkl, by simp only; omega, ?_⟩
      exact Weak.kround (p := r_mKnown1) (k := 1) (by ((repeat refine (kAny_up rfl).trans ?_); exact hEE2)) (by ((try simp (disch := decide) only [hA, go_sem]) <;> (repeat' (first | exact trivial | refine And.intro ?_ ?_)) <;> (first | rfl | (congr 2; omega)))) rfl hE2 (by simp) (by simp (disch := omega) only [KOvLt, AVlt_v, AVlt_any, AVlt_sl, AVlt_ptr, AVlt_mp, AVlt_agg, AVlt_tup, AVlt_fn, RowsLt_nil, RowsLt_live, RowsLt_dead, List.mem_cons, List.not_mem_nil, List.forall_mem_cons, List.forall_mem_nil, or_false, false_or, forall_eq_or_imp, forall_eq, vs_lt, Nat.add_lt_add_iff_left, Nat.reduceLT, true_and, and_true, and_self, List.length_cons, List.length_nil, Nat.reduceAdd, Nat.zero_add, implies_true, false_imp_iff, lt_T, List.mem_map]) hR (by simp (disch := omega) only [AVlt_v, AVlt_any, AVlt_sl, AVlt_ptr, AVlt_mp, AVlt_agg, AVlt_tup, AVlt_fn, RowsLt_nil, RowsLt_live, RowsLt_dead, List.mem_cons, List.not_mem_nil, List.forall_mem_cons, List.forall_mem_nil, or_false, false_or, forall_eq_or_imp, forall_eq, vs_lt, Nat.add_lt_add_iff_left, Nat.reduceLT, true_and, and_true, and_self, List.length_cons, List.length_nil, Nat.reduceAdd, Nat.zero_add, implies_true, false_imp_iff, lt_T, List.mem_map])
    · simp (disch := (first | decide | omega)) only [hA, hg1, hg2, hil, List.length_map, go_sem]
      obtain rfl : k = m.length := by omega
      rw [knR_next]
      refine ⟨i + 1, hlt, by simp only; omega, ?_⟩
      exact Weak.kround (p := r_mKnown0) (k := 1) (by ((repeat refine (kAny_up rfl).trans ?_); refine (kAny_sub hg2 (kIn_sub rfl)).trans ?_; (repeat refine (kAny_up rfl).trans ?_); exact hEE1)) (by ((try simp (disch := decide) only [hA, hg1, go_sem]) <;> (repeat' (first | exact trivial | refine And.intro ?_ ?_)) <;> (first | rfl | (congr 2; omega)))) rfl hE1 (by simp) (by simp (disch := omega) only [KOvLt, AVlt_v, AVlt_any, AVlt_sl, AVlt_ptr, AVlt_mp, AVlt_agg, AVlt_tup, AVlt_fn, RowsLt_nil, RowsLt_live, RowsLt_dead, List.mem_cons, List.not_mem_nil, List.forall_mem_cons, List.forall_mem_nil, or_false, false_or, forall_eq_or_imp, forall_eq, vs_lt, Nat.add_lt_add_iff_left, Nat.reduceLT, true_and, and_true, and_self, List.length_cons, List.length_nil, Nat.reduceAdd, Nat.zero_add, implies_true, false_imp_iff, lt_T, List.mem_map]) hR (by simp (disch := omega) only [AVlt_v, AVlt_any, AVlt_sl, AVlt_ptr, AVlt_mp, AVlt_agg, AVlt_tup, AVlt_fn, RowsLt_nil, RowsLt_live, RowsLt_dead, List.mem_cons, List.not_mem_nil, List.forall_mem_cons, List.forall_mem_nil, or_false, false_or, forall_eq_or_imp, forall_eq, vs_lt, Nat.add_lt_add_iff_left, Nat.reduceLT, true_and, and_true, and_self, List.length_cons, List.length_nil, Nat.reduceAdd, Nat.zero_add, implies_true, false_imp_iff, lt_T, List.mem_map])
  · simp (disch := (first | decide | omega)) only [hA, hg1, go_sem]
    obtain rfl : i = m.length := by omega
    exact leave_frz2 (i := 0) (n := m.length) (rows := (knR m m.length 0).map eI) (z := .int .i64 0) (.inr rfl) (by simp (disch := (first | decide | omega)) only [resVs, resV, hA, hg1, go_sem]) rfl (by simp [knR_len]) hR hB ⟨by rw [knownR, if_pos h1, knR_end], rfl, rfl⟩
/-! Loops that write rows of the caller's. -/
def KRoundB {ι : Type} (N : Nat) (g : Nat → AV) (ov : ι → List (Nat × AV)) (Bs L : ι → List Row) (Cd : ι → Prop) (μ : ι → Nat) (i : ι) : List AV → List Row → List Row → Prop :=
  fun e b l => ∃ i', Cd i' ∧ μ i' < μ i ∧ Weak e b l (kOf N (kOv (ov i') g)) (Bs i') (L i')
theorem loop_keptB {P : Program} {c : ACode} {Q : AExit → List AV → List Row → List Row → Prop} {N : Nat} {f : Nat → AV} {b l : List Row} {ι : Type} (p : List (Nat × Nat)) (ov : ι → List (Nat × AV)) (k : Nat) (Bs L : ι → List Row) (Cd : ι → Prop) (μ : ι → Nat) (i0 : ι) (h0 : Cd i0)
    (hlt : KLt (b.length + k) f) (hov : KHas f (ov i0)) (hb : Bs i0 = b) (hw : ∀ e, Weak e b l e b (L i0))
    (step : ∀ g, KLt (b.length + k) g → kAny p g = g → (∀ n, kIn p n = false → g n = f n) → ∀ i, Cd i → run (ACalls P) Weak c (kOf N (kOv (ov i) g)) (Bs i) (L i) (seqQ (KRoundB N g ov Bs L Cd μ i) Q)) : run (ACalls P) Weak (.loop c) (kOf N f) b l Q :=
  loop_rule (fun i => kOf N (kOv (ov i) (kAny p f))) Bs L Cd μ i0 h0 (by rw [hb]; exact (Weak.named p _ hov).trans (hw _))
    (step (kAny p f) hlt.any kAny_idem (fun _ h => kAny_out h))
theorem RowsLt.setVs {m id v sz : Nat} {B : List Row} {rows : List (List IV)} (h : RowsLt m B) : RowsLt m (B.set id (.live v sz (vs rows))) := by
  intro i v' sz' els hr row hrow c hc
  by_cases hi : id = i
  · subst hi
    rw [List.getElem?_set] at hr
    simp only [if_true] at hr
    split at hr
    · cases hr
      obtain ⟨r0, _, rfl⟩ := List.mem_map.1 hrow
      obtain ⟨x0, _, rfl⟩ := List.mem_map.1 hc
      exact .v _
    · cases hr
  · rw [List.getElem?_set_ne hi] at hr
    exact h i v' sz' els hr row hrow c hc
theorem joinM1_spec (v w : List Int) (hv : v.length ≤ 1000000) (h : v.length = w.length) (i : Nat) (b l : List Row) (hi : l[i]? = some (.live 1 1 (vs (v.map eI)))) :
    ACalls Try.prog 99 [.sl (b.length + i) 1 0 v.length, .v (.isl 1 (w.map eI))] b l (fun r b' l' => r = .tup [] ∧ b' = b ∧ l' = l.set i (.live 1 1 (vs ((joinV v w).map eI)))) := by
  refine calls_kept a_join_ok rfl (by decide) ?_
  intro B g hB hR hE hA
  simp only [KArgs] at hA
  have hil : i < l.length := (List.getElem?_eq_some_iff.1 hi).1
  have hBi : B[b.length + i]? = some (.live 1 1 (vs (v.map eI))) := by rw [hB, List.getElem?_append_right (by omega), Nat.add_sub_cancel_left]; exact hi
  have hidB : b.length + i < B.length := (List.getElem?_eq_some_iff.1 hBi).1
  simp (disch := (first | decide | omega)) only [a_join, hA, List.length_map, go_sem]
  refine loop_keptB (ι := Nat) r_join0 (fun k => [(7, .v (.int .i64 k))]) 0 (fun k => B.set (b.length + i) (.live 1 1 (vs ((joTo v w k).map eI)))) (fun _ => [])
    (fun k => k ≤ v.length) (fun k => v.length - k) 0 (Nat.zero_le _) (by (repeat (first | exact hE.mono (by omega) | refine KLt.up ?_ (by simp (disch := omega) only [AVlt_v, AVlt_any, AVlt_sl, AVlt_ptr, AVlt_mp, AVlt_agg, AVlt_tup, AVlt_fn, RowsLt_nil, RowsLt_live, RowsLt_dead, List.mem_cons, List.not_mem_nil, List.forall_mem_cons, List.forall_mem_nil, or_false, false_or, forall_eq_or_imp, forall_eq, vs_lt, Nat.add_lt_add_iff_left, Nat.reduceLT, true_and, and_true, and_self, List.length_cons, List.length_nil, Nat.reduceAdd, Nat.zero_add, implies_true, false_imp_iff, lt_T, List.mem_map])))) (by ((try simp (disch := decide) only [hA, go_sem]) <;> (repeat' (first | exact trivial | refine And.intro ?_ ?_)) <;> (first | rfl | (congr 2; omega)))) (by
      rw [joTo_zero]
      apply List.ext_getElem?
      intro j
      by_cases hj : b.length + i = j
      · subst hj; rw [List.getElem?_set_self hidB, hBi]
      · rw [List.getElem?_set_ne hj]) (fun e => Weak.refl _ _ _) ?_
  intro g1 hE1 hEE1 hg1 k hk
  have hBk : ∀ q, (B.set (b.length + i) q).length = B.length := fun q => List.length_set
  have hgk : ∀ q l', hget (B.set (b.length + i) q) l' (b.length + i) = some q := fun q l' => by
    unfold hget; rw [if_pos (by rw [hBk]; exact hidB), List.getElem?_set_self hidB]
  by_cases hlt : k < v.length
  · have hlw : k < w.length := by omega
    have jl := joTo_len h k hk
    have jg := joTo_get h hlt (by omega)
    have js := joTo_set h hlt hlw
    have hm : (if v[k] < w[k] then w[k] else v[k]) = max v[k] w[k] := by split <;> omega
    have hsB : ∀ q q', hsetB (B.set (b.length + i) q) (b.length + i) q' = B.set (b.length + i) q' := fun q q' => by
      unfold hsetB; rw [if_pos (by rw [hBk]; exact hidB), List.set_set]
    have hsL : ∀ q q' l', hsetL (B.set (b.length + i) q) l' (b.length + i) q' = l' := fun q q' l' => by
      unfold hsetL; rw [if_pos (by rw [hBk]; exact hidB)]
    simp (disch := (first | decide | omega)) only [hA, hg1, hgk, hsB, hsL, eI, jg, hm, js, jl, setFrom, cellsOf, go_sem]
    refine ⟨k + 1, hlt, by simp only; omega, ?_⟩
    exact Weak.kround (p := r_join0) (k := 0) (l1 := []) (b := B.set (b.length + i) (.live 1 1 (vs ((joTo v w (k + 1)).map eI)))) (by ((repeat refine (kAny_up rfl).trans ?_); exact hEE1)) (by ((try simp (disch := decide) only [hA, go_sem]) <;> (repeat' (first | exact trivial | refine And.intro ?_ ?_)) <;> (first | rfl | (congr 2; omega)))) rfl (by rw [hBk]; exact hE1) (by simp) (by simp (disch := omega) only [KOvLt, AVlt_v, AVlt_any, AVlt_sl, AVlt_ptr, AVlt_mp, AVlt_agg, AVlt_tup, AVlt_fn, RowsLt_nil, RowsLt_live, RowsLt_dead, List.mem_cons, List.not_mem_nil, List.forall_mem_cons, List.forall_mem_nil, or_false, false_or, forall_eq_or_imp, forall_eq, vs_lt, Nat.add_lt_add_iff_left, Nat.reduceLT, true_and, and_true, and_self, List.length_cons, List.length_nil, Nat.reduceAdd, Nat.zero_add, implies_true, false_imp_iff, lt_T, List.mem_map]) (by rw [hBk]; exact RowsLt.setVs hR) (by simp (disch := omega) only [AVlt_v, AVlt_any, AVlt_sl, AVlt_ptr, AVlt_mp, AVlt_agg, AVlt_tup, AVlt_fn, RowsLt_nil, RowsLt_live, RowsLt_dead, List.mem_cons, List.not_mem_nil, List.forall_mem_cons, List.forall_mem_nil, or_false, false_or, forall_eq_or_imp, forall_eq, vs_lt, Nat.add_lt_add_iff_left, Nat.reduceLT, true_and, and_true, and_self, List.length_cons, List.length_nil, Nat.reduceAdd, Nat.zero_add, implies_true, false_imp_iff, lt_T, List.mem_map])
  · simp (disch := (first | decide | omega)) only [hA, hg1, go_sem]
    obtain rfl : k = v.length := by omega
    rw [joTo_all h]
    have hBb : B.set (b.length + i) (.live 1 1 (vs ((joinV v w).map eI))) = b ++ l.set i (.live 1 1 (vs ((joinV v w).map eI))) := by
      rw [hB, List.set_append_right _ _ (by omega), Nat.add_sub_cancel_left]
    rw [hBb]
    exact leave_pure (xs := []) (.inl rfl) (by simp only [resVs]) (by simp only [one]; exact .tup _ (by simp)) (by rw [← hBb, hBk]; exact RowsLt.setVs hR) rfl ⟨rfl, rfl, rfl⟩
theorem mR_put {n v0 base sz p v : Nat} {ver : Nat → Nat} {R : Nat → List (List IV)} {x : List (List IV)} (hv : ver p = v) (hx : x.length = (R p).length) : (mR n v0 base sz 0 ver R).set (p + 1) (.live v sz (vs x)) = mR n v0 base sz 0 ver (fUp R p x) := by
  unfold mR
  rw [List.set_cons_succ, mD_set hv, mC_set (base := base) (sz := sz) (ver := ver) hx]
theorem mR_congr {n v0 base sz : Nat} {ver : Nat → Nat} {R R' : Nat → List (List IV)} (h : ∀ j, j < n → R j = R' j) : mR n v0 base sz 0 ver R = mR n v0 base sz 0 ver R' := by
  unfold mR
  congr 1
  · congr 1
    refine fl_congr (fun j hj => ?_)
    rw [mC_0, mC_0, h j hj]
  · refine fl_congr (fun j hj => ?_)
    rw [mD_0, mD_0, h j hj]
theorem mR_first {n v0 sz : Nat} {B : List Row} {ver : Nat → Nat} {R : Nat → List (List IV)} : hget B (mR n v0 B.length sz 0 ver R) B.length = some (.live v0 1 (fl n fun j => [mC B.length sz 0 ver R j])) := by
  unfold hget; rw [if_neg (by omega), Nat.sub_self]; rfl
theorem mR_at0 {n v0 base sz i : Nat} {ver : Nat → Nat} {R : Nat → List (List IV)} (h : i < n) : (mR n v0 base sz 0 ver R)[i + 1]? = some (.live (ver i) sz (vs (R i))) := by
  unfold mR
  rw [List.getElem?_cons_succ, fl_get h, mD_0]
/-- Rows of which the first i are joined. -/
def rT (m got : List (List Int)) (i j : Nat) : List Int := if j < i then joinV (rowAt m j) (rowAt got j) else rowAt m j
def rTR (m got : List (List Int)) (i j : Nat) : List (List IV) := (rT m got i j).map eI
def recvF (m got : List (List Int)) (p q j : Nat) : List Int := if j = p then joinV (joinV (rowAt m p) (rowAt got p)) (rowAt got q) else joinV (rowAt m j) (rowAt got j)
def recvM (m : List (List Int)) (p : Nat) (got : List (List Int)) (q : Nat) : List (List Int) := fl m.length (recvF m got p q)
def recvE (m : List (List Int)) (p : Int) (got : List (List Int)) (q : Int) : Int :=
  if isM m = false ∨ isM got = false ∨ got.length ≠ m.length then 1 else if p < 0 ∨ p ≥ m.length ∨ q < 0 ∨ q ≥ m.length ∨ p = q then 2 else tickME (recvM m p.toNat got q.toNat) p
def recvR (m : List (List Int)) (p : Int) (got : List (List Int)) (q : Int) : AV := if recvE m p got q = 0 then .tup [.v (.isl 1 ((tickM (recvM m p.toNat got q.toNat) p.toNat).map eRw)), .v (.int .i64 0)] else .tup [.v .zsl, .v (.int .i64 (recvE m p got q))]
theorem recvM_row {m : List (List Int)} {p q j : Nat} {got : List (List Int)} (hj : j < m.length) : rowAt (recvM m p got q) j = recvF m got p q j := fl_getD hj
theorem recv_fit {m got : List (List Int)} {p q : Nat} (h1 : isM m = true) (h2 : isM got = true) (h3 : got.length = m.length) (hp : p < m.length) (hq : q < m.length) : Fit (recvM m p got q) ∧ ∀ j, j < m.length → (recvF m got p q j).length = m.length := by
  obtain ⟨l1, l2, l3, _⟩ := isM_open h1
  obtain ⟨k1, k2, k3, _⟩ := isM_open h2
  have jl : ∀ j, j < m.length → (joinV (rowAt m j) (rowAt got j)).length = m.length := fun j hj => by
    rw [joinV_len (by rw [l3 j hj, k3 j (by omega)]; omega), l3 j hj]
  have key : ∀ j, j < m.length → (recvF m got p q j).length = m.length := by
    intro j hj
    unfold recvF
    split
    · rw [joinV_len (by rw [jl p hp, k3 q (by omega)]; omega), jl p hp]
    · exact jl j hj
  refine ⟨⟨by unfold recvM; rw [fl_len]; omega, fun r hr => ?_⟩, key⟩
  obtain ⟨j, hj, rfl⟩ := List.mem_map.1 hr
  rw [key j (List.mem_range.1 hj)]; omega
set_option maxRecDepth 20000 in
theorem mReceive_spec (m got : List (List Int)) (hF : Fit m) (hG : Fit got) (p q : Int) (b l : List Row) : ACalls Try.prog 53 [.v (.isl 1 (m.map eRw)), .v (.int .i64 p), .v (.isl 1 (got.map eRw)), .v (.int .i64 q)] b l (fun r b' l' => r = recvR m p got q ∧ b' = b ∧ l' = l) := by
  refine calls_kept a_mReceive_ok rfl (by decide) ?_
  intro B g hB hR hE hA
  simp only [KArgs] at hA
  simp (disch := decide) only [a_mReceive, hA, List.length_map, go_sem]
  refine ACalls.nxt (mValid_spec m hF _ _) ?_
  cases h1 : isM m
  · have e : recvE m p got q = 1 := by unfold recvE; rw [if_pos (.inl h1)]
    simp (disch := decide) only [hA, go_sem]
    exact leave_pure (xs := [.v .zsl, .v (.int .i64 1)]) (.inr rfl) (by simp (disch := (first | decide | omega)) only [resVs, resV, go_sem, hA]) (by simp only [one, AVlt_v, AVlt_any, AVlt_sl, AVlt_ptr, AVlt_mp, AVlt_agg, AVlt_tup, AVlt_fn, RowsLt_nil, RowsLt_live, RowsLt_dead, List.mem_cons, List.not_mem_nil, List.forall_mem_cons, List.forall_mem_nil, or_false, false_or, forall_eq_or_imp, forall_eq, vs_lt, Nat.add_lt_add_iff_left, Nat.reduceLT, true_and, and_true, and_self, List.length_cons, List.length_nil, Nat.reduceAdd, Nat.zero_add, implies_true, false_imp_iff, lt_T, List.mem_map]) hR hB ⟨by rw [recvR, e, if_neg (by decide)]; rfl, rfl, rfl⟩
  simp (disch := decide) only [hA, go_sem]
  refine ACalls.nxt (mValid_spec got hG _ _) ?_
  cases h2 : isM got
  · have e : recvE m p got q = 1 := by unfold recvE; rw [if_pos (.inr (.inl h2))]
    simp (disch := decide) only [hA, go_sem]
    exact leave_pure (xs := [.v .zsl, .v (.int .i64 1)]) (.inr rfl) (by simp (disch := (first | decide | omega)) only [resVs, resV, go_sem, hA]) (by simp only [one, AVlt_v, AVlt_any, AVlt_sl, AVlt_ptr, AVlt_mp, AVlt_agg, AVlt_tup, AVlt_fn, RowsLt_nil, RowsLt_live, RowsLt_dead, List.mem_cons, List.not_mem_nil, List.forall_mem_cons, List.forall_mem_nil, or_false, false_or, forall_eq_or_imp, forall_eq, vs_lt, Nat.add_lt_add_iff_left, Nat.reduceLT, true_and, and_true, and_self, List.length_cons, List.length_nil, Nat.reduceAdd, Nat.zero_add, implies_true, false_imp_iff, lt_T, List.mem_map]) hR hB ⟨by rw [recvR, e, if_neg (by decide)]; rfl, rfl, rfl⟩
  by_cases h3 : got.length = m.length
  case neg =>
    have hd : ((got.length : Int) != (m.length : Int)) = true := by simp; omega
    have e : recvE m p got q = 1 := by unfold recvE; rw [if_pos (.inr (.inr h3))]
    simp (disch := decide) only [hA, List.length_map, hd, go_sem]
    exact leave_pure (xs := [.v .zsl, .v (.int .i64 1)]) (.inr rfl) (by simp (disch := (first | decide | omega)) only [resVs, resV, go_sem, hA]) (by simp only [one, AVlt_v, AVlt_any, AVlt_sl, AVlt_ptr, AVlt_mp, AVlt_agg, AVlt_tup, AVlt_fn, RowsLt_nil, RowsLt_live, RowsLt_dead, List.mem_cons, List.not_mem_nil, List.forall_mem_cons, List.forall_mem_nil, or_false, false_or, forall_eq_or_imp, forall_eq, vs_lt, Nat.add_lt_add_iff_left, Nat.reduceLT, true_and, and_true, and_self, List.length_cons, List.length_nil, Nat.reduceAdd, Nat.zero_add, implies_true, false_imp_iff, lt_T, List.mem_map]) hR hB ⟨by rw [recvR, e, if_neg (by decide)]; rfl, rfl, rfl⟩
  have hd : ((got.length : Int) != (m.length : Int)) = false := by simp [h3]
  have e1 : ¬ (isM m = false ∨ isM got = false ∨ got.length ≠ m.length) := by rw [h1, h2]; simp [h3]
  have e2 : (p < 0 ∨ p ≥ m.length ∨ q < 0 ∨ q ≥ m.length ∨ p = q) → recvE m p got q = 2 := fun h => by unfold recvE; rw [if_neg e1, if_pos h]
  by_cases c1 : p < 0
  · have d1 := decide_eq_true c1
    simp (disch := decide) only [hA, List.length_map, hd, d1, go_sem]
    exact leave_pure (xs := [.v .zsl, .v (.int .i64 2)]) (.inr rfl) (by simp (disch := (first | decide | omega)) only [resVs, resV, go_sem, hA]) (by simp only [one, AVlt_v, AVlt_any, AVlt_sl, AVlt_ptr, AVlt_mp, AVlt_agg, AVlt_tup, AVlt_fn, RowsLt_nil, RowsLt_live, RowsLt_dead, List.mem_cons, List.not_mem_nil, List.forall_mem_cons, List.forall_mem_nil, or_false, false_or, forall_eq_or_imp, forall_eq, vs_lt, Nat.add_lt_add_iff_left, Nat.reduceLT, true_and, and_true, and_self, List.length_cons, List.length_nil, Nat.reduceAdd, Nat.zero_add, implies_true, false_imp_iff, lt_T, List.mem_map]) hR hB ⟨by rw [recvR, e2 (.inl c1), if_neg (by decide)]; rfl, rfl, rfl⟩
  have d1 := decide_eq_false c1
  by_cases c2 : p ≥ m.length
  · have d2 : decide (p ≥ (m.length : Int)) = true := decide_eq_true c2
    simp (disch := decide) only [hA, List.length_map, hd, d1, d2, go_sem]
    exact leave_pure (xs := [.v .zsl, .v (.int .i64 2)]) (.inr rfl) (by simp (disch := (first | decide | omega)) only [resVs, resV, go_sem, hA]) (by simp only [one, AVlt_v, AVlt_any, AVlt_sl, AVlt_ptr, AVlt_mp, AVlt_agg, AVlt_tup, AVlt_fn, RowsLt_nil, RowsLt_live, RowsLt_dead, List.mem_cons, List.not_mem_nil, List.forall_mem_cons, List.forall_mem_nil, or_false, false_or, forall_eq_or_imp, forall_eq, vs_lt, Nat.add_lt_add_iff_left, Nat.reduceLT, true_and, and_true, and_self, List.length_cons, List.length_nil, Nat.reduceAdd, Nat.zero_add, implies_true, false_imp_iff, lt_T, List.mem_map]) hR hB ⟨by rw [recvR, e2 (.inr (.inl c2)), if_neg (by decide)]; rfl, rfl, rfl⟩
  have d2 : decide (p ≥ (m.length : Int)) = false := decide_eq_false c2
  by_cases c3 : q < 0
  · have d3 := decide_eq_true c3
    simp (disch := decide) only [hA, List.length_map, hd, d1, d2, d3, go_sem]
    exact leave_pure (xs := [.v .zsl, .v (.int .i64 2)]) (.inr rfl) (by simp (disch := (first | decide | omega)) only [resVs, resV, go_sem, hA]) (by simp only [one, AVlt_v, AVlt_any, AVlt_sl, AVlt_ptr, AVlt_mp, AVlt_agg, AVlt_tup, AVlt_fn, RowsLt_nil, RowsLt_live, RowsLt_dead, List.mem_cons, List.not_mem_nil, List.forall_mem_cons, List.forall_mem_nil, or_false, false_or, forall_eq_or_imp, forall_eq, vs_lt, Nat.add_lt_add_iff_left, Nat.reduceLT, true_and, and_true, and_self, List.length_cons, List.length_nil, Nat.reduceAdd, Nat.zero_add, implies_true, false_imp_iff, lt_T, List.mem_map]) hR hB ⟨by rw [recvR, e2 (.inr (.inr (.inl c3))), if_neg (by decide)]; rfl, rfl, rfl⟩
  have d3 := decide_eq_false c3
  by_cases c4 : q ≥ m.length
  · have d4 : decide (q ≥ (m.length : Int)) = true := decide_eq_true c4
    simp (disch := decide) only [hA, List.length_map, hd, d1, d2, d3, d4, go_sem]
    exact leave_pure (xs := [.v .zsl, .v (.int .i64 2)]) (.inr rfl) (by simp (disch := (first | decide | omega)) only [resVs, resV, go_sem, hA]) (by simp only [one, AVlt_v, AVlt_any, AVlt_sl, AVlt_ptr, AVlt_mp, AVlt_agg, AVlt_tup, AVlt_fn, RowsLt_nil, RowsLt_live, RowsLt_dead, List.mem_cons, List.not_mem_nil, List.forall_mem_cons, List.forall_mem_nil, or_false, false_or, forall_eq_or_imp, forall_eq, vs_lt, Nat.add_lt_add_iff_left, Nat.reduceLT, true_and, and_true, and_self, List.length_cons, List.length_nil, Nat.reduceAdd, Nat.zero_add, implies_true, false_imp_iff, lt_T, List.mem_map]) hR hB ⟨by rw [recvR, e2 (.inr (.inr (.inr (.inl c4)))), if_neg (by decide)]; rfl, rfl, rfl⟩
  have d4 : decide (q ≥ (m.length : Int)) = false := decide_eq_false c4
  by_cases c5 : p = q
  · have d5 : (p == q) = true := by simp [c5]
    simp (disch := decide) only [hA, List.length_map, hd, d1, d2, d3, d4, d5, go_sem]
    exact leave_pure (xs := [.v .zsl, .v (.int .i64 2)]) (.inr rfl) (by simp (disch := (first | decide | omega)) only [resVs, resV, go_sem, hA]) (by simp only [one, AVlt_v, AVlt_any, AVlt_sl, AVlt_ptr, AVlt_mp, AVlt_agg, AVlt_tup, AVlt_fn, RowsLt_nil, RowsLt_live, RowsLt_dead, List.mem_cons, List.not_mem_nil, List.forall_mem_cons, List.forall_mem_nil, or_false, false_or, forall_eq_or_imp, forall_eq, vs_lt, Nat.add_lt_add_iff_left, Nat.reduceLT, true_and, and_true, and_self, List.length_cons, List.length_nil, Nat.reduceAdd, Nat.zero_add, implies_true, false_imp_iff, lt_T, List.mem_map]) hR hB ⟨by rw [recvR, e2 (.inr (.inr (.inr (.inr c5)))), if_neg (by decide)]; rfl, rfl, rfl⟩
  have d5 : (p == q) = false := by simp [c5]
  have e3 : recvE m p got q = tickME (recvM m p.toNat got q.toNat) p := by unfold recvE; rw [if_neg e1, if_neg (by omega)]
  obtain ⟨np, rfl⟩ : ∃ n : Nat, p = n := ⟨p.toNat, by omega⟩
  obtain ⟨nq, rfl⟩ : ∃ n : Nat, q = n := ⟨q.toNat, by omega⟩
  rw [Int.toNat_natCast, Int.toNat_natCast] at e3
  obtain ⟨l1, l2, l3, _⟩ := isM_open h1
  obtain ⟨k1, k2, k3, _⟩ := isM_open h2
  have hp : np < m.length := by omega
  have hq : nq < m.length := by omega
  obtain ⟨hfit, hfl⟩ := recv_fit h1 h2 h3 hp hq
  simp (disch := decide) only [hA, List.length_map, hd, d1, d2, d3, d4, d5, go_sem]
  refine ACalls.nxt (copied_spec m h1 _ _) ?_
  have r0 : mR m.length 0 (B.length + 0) 1 0 (fun _ => 1) (rowsM m) = mR m.length 0 B.length 1 0 (fun _ => 1) (rTR m got 0) := mR_congr (fun j hj => by unfold rowsM rTR rT; rw [if_neg (by omega)])
  rw [List.length_nil, r0]
  simp (disch := (first | decide | omega)) only [hA, go_sem]
  refine loop_kept (ι := Nat) r_mReceive0 (fun i => [(55, .v (.int .i64 i))]) 1 (fun i => mR m.length 0 B.length 1 0 (fun _ => 1) (rTR m got i))
    (fun i => i ≤ m.length) (fun i => m.length - i) 0 (Nat.zero_le _) (by (repeat (first | exact hE.mono (by omega) | refine KLt.up ?_ (by simp (disch := omega) only [AVlt_v, AVlt_any, AVlt_sl, AVlt_ptr, AVlt_mp, AVlt_agg, AVlt_tup, AVlt_fn, RowsLt_nil, RowsLt_live, RowsLt_dead, List.mem_cons, List.not_mem_nil, List.forall_mem_cons, List.forall_mem_nil, or_false, false_or, forall_eq_or_imp, forall_eq, vs_lt, Nat.add_lt_add_iff_left, Nat.reduceLT, true_and, and_true, and_self, List.length_cons, List.length_nil, Nat.reduceAdd, Nat.zero_add, implies_true, false_imp_iff, lt_T, List.mem_map])))) (by ((try simp (disch := decide) only [hA, go_sem]) <;> (repeat' (first | exact trivial | refine And.intro ?_ ?_)) <;> (first | rfl | (congr 2; omega)))) (fun e => Weak.refl _ _ _) ?_
  intro g1 hE1 hEE1 hg1 i hi
  have hgO := mR_first (n := m.length) (v0 := 0) (sz := 1) (B := B) (ver := fun _ => 1) (R := rTR m got i)
  by_cases hlt : i < m.length
  · have hlg : i < got.length := by omega
    have hri := rowAt_at hlt
    have hgi := rowAt_at hlg
    have hl := l3 i hlt
    have hlw := k3 i hlg
    have hrt : rTR m got i i = (rowAt m i).map eI := by unfold rTR rT; rw [if_neg (by omega)]
    have hj := joinM1_spec (rowAt m i) (rowAt got i) (by omega) (by omega) (i + 1) B (mR m.length 0 B.length 1 0 (fun _ => 1) (rTR m got i)) (by rw [mR_at0 hlt, hrt])
    have hset : (mR m.length 0 B.length 1 0 (fun _ => 1) (rTR m got i)).set (i + 1) (.live 1 1 (vs ((joinV (rowAt m i) (rowAt got i)).map eI))) = mR m.length 0 B.length 1 0 (fun _ => 1) (rTR m got (i + 1)) := by
      rw [mR_put rfl (by rw [hrt, List.length_map, List.length_map, joinV_len (by omega)])]
      refine mR_congr (fun j hj => ?_)
      unfold fUp
      by_cases hji : j = i
      · subst hji; rw [if_pos rfl]; unfold rTR rT; rw [if_pos (by omega)]
      · rw [if_neg hji]; unfold rTR rT
        by_cases h9 : j < i
        · rw [if_pos h9, if_pos (by omega)]
        · rw [if_neg h9, if_neg (by omega)]
    rw [hset, hl, hgi] at hj
    have hrl : (rTR m got i i).length = m.length := by rw [hrt, List.length_map, hl]
    simp (disch := (first | decide | omega)) only [hA, hg1, hgO, eRw, fl_len, fl_get, mC_0, hrl, go_sem]
    refine ACalls.nxt hj ?_
    simp (disch := (first | decide | omega)) only [hA, hg1, go_sem]
    refine ⟨i + 1, hlt, by simp only; omega, ?_⟩
    exact Weak.kround (l1 := mR m.length 0 B.length 1 0 (fun _ => 1) (rTR m got (i + 1))) (p := r_mReceive0) (k := 1) (by ((repeat refine (kAny_up rfl).trans ?_); exact hEE1)) (by ((try simp (disch := decide) only [hA, go_sem]) <;> (repeat' (first | exact trivial | refine And.intro ?_ ?_)) <;> (first | rfl | (congr 2; omega)))) (junk := []) (by rw [List.append_nil]) hE1 (by rw [mR_len]; omega) (by simp (disch := omega) only [KOvLt, AVlt_v, AVlt_any, AVlt_sl, AVlt_ptr, AVlt_mp, AVlt_agg, AVlt_tup, AVlt_fn, RowsLt_nil, RowsLt_live, RowsLt_dead, List.mem_cons, List.not_mem_nil, List.forall_mem_cons, List.forall_mem_nil, or_false, false_or, forall_eq_or_imp, forall_eq, vs_lt, Nat.add_lt_add_iff_left, Nat.reduceLT, true_and, and_true, and_self, List.length_cons, List.length_nil, Nat.reduceAdd, Nat.zero_add, implies_true, false_imp_iff, lt_T, List.mem_map]) hR (mR_lt (by rw [mR_len]; omega))
  · obtain rfl : i = m.length := by omega
    have hlq : nq < got.length := by omega
    have hgq := rowAt_at hlq
    have hrt : rTR m got m.length np = (joinV (rowAt m np) (rowAt got np)).map eI := by unfold rTR rT; rw [if_pos hp]
    have hjl : (joinV (rowAt m np) (rowAt got np)).length = m.length := by rw [joinV_len (by rw [l3 np hp, k3 np (by omega)]; omega), l3 np hp]
    have hj := joinM1_spec (joinV (rowAt m np) (rowAt got np)) (rowAt got nq) (by omega) (by rw [hjl, k3 nq hlq]; omega) (np + 1) B (mR m.length 0 B.length 1 0 (fun _ => 1) (rTR m got m.length)) (by rw [mR_at0 hp, hrt])
    have hset : (mR m.length 0 B.length 1 0 (fun _ => 1) (rTR m got m.length)).set (np + 1) (.live 1 1 (vs ((joinV (joinV (rowAt m np) (rowAt got np)) (rowAt got nq)).map eI))) = mR m.length 0 B.length 1 0 (fun _ => 1) (fun j => (recvF m got np nq j).map eI) := by
      rw [mR_put rfl (by rw [hrt, List.length_map, List.length_map, joinV_len (by rw [hjl, k3 nq hlq]; omega)])]
      refine mR_congr (fun j hj => ?_)
      unfold fUp
      by_cases hji : j = np
      · subst hji; rw [if_pos rfl]; unfold recvF; rw [if_pos rfl]
      · rw [if_neg hji]; unfold rTR rT recvF; rw [if_pos hj, if_neg hji]
    rw [hset, hjl, hgq] at hj
    have hrl : (rTR m got m.length np).length = m.length := by rw [hrt, List.length_map, hjl]
    simp (disch := (first | decide | omega)) only [hA, hg1, hgO, eRw, fl_len, fl_get, mC_0, hrl, go_sem]
    refine ACalls.nxt hj ?_
    simp (disch := (first | decide | omega)) only [hA, hg1, go_sem]
    have hmv : mV m.length 1 (fun j => (recvF m got np nq j).map eI) = (recvM m np got nq).map eRw := mV_rows
    refine ACalls.mat (args' := [.v (.isl 1 (mV m.length 1 (fun j => (recvF m got np nq j).map eI))), .v (.int .i64 np)]) (fun i hi => ?_) (by
      have hv : (mV m.length 1 (fun j => (recvF m got np nq j).map eI)).length = m.length := by simp [mV, fl_len]
      simp only [List.map_cons, List.map_nil, deep, frz0, hv]
      rw [if_pos (by simp), List.drop_zero, List.take_of_length_le (by rw [hv]; exact Nat.le_refl _)]) (fun l9 => ?_)
    · simp only [List.map_cons, List.map_nil, deep, frz0]; rw [if_neg (by omega)]
    rw [hmv]
    refine ACalls.nxt (mTick_spec (recvM m np got nq) hfit np _ _) ?_
    by_cases ht : tickME (recvM m np got nq) np = 0
    · rw [tickMR, if_pos ht, Int.toNat_natCast]
      simp (disch := (first | decide | omega)) only [hA, hg1, go_sem]
      exact leave_pure (xs := [.v (.isl 1 ((tickM (recvM m np got nq) np).map eRw)), .v (.int .i64 0)]) (.inr rfl) (by simp (disch := (first | decide | omega)) only [resVs, resV, go_sem, hA, hg1]) (by simp only [one, AVlt_v, AVlt_any, AVlt_sl, AVlt_ptr, AVlt_mp, AVlt_agg, AVlt_tup, AVlt_fn, RowsLt_nil, RowsLt_live, RowsLt_dead, List.mem_cons, List.not_mem_nil, List.forall_mem_cons, List.forall_mem_nil, or_false, false_or, forall_eq_or_imp, forall_eq, vs_lt, Nat.add_lt_add_iff_left, Nat.reduceLT, true_and, and_true, and_self, List.length_cons, List.length_nil, Nat.reduceAdd, Nat.zero_add, implies_true, false_imp_iff, lt_T, List.mem_map]) hR hB ⟨by rw [recvR, e3, if_pos ht]; rfl, rfl, rfl⟩
    · rw [tickMR, if_neg ht]
      simp (disch := (first | decide | omega)) only [hA, hg1, go_sem]
      exact leave_pure (xs := [.v .zsl, .v (.int .i64 (tickME (recvM m np got nq) np))]) (.inr rfl) (by simp (disch := (first | decide | omega)) only [resVs, resV, go_sem, hA, hg1]) (by simp only [one, AVlt_v, AVlt_any, AVlt_sl, AVlt_ptr, AVlt_mp, AVlt_agg, AVlt_tup, AVlt_fn, RowsLt_nil, RowsLt_live, RowsLt_dead, List.mem_cons, List.not_mem_nil, List.forall_mem_cons, List.forall_mem_nil, or_false, false_or, forall_eq_or_imp, forall_eq, vs_lt, Nat.add_lt_add_iff_left, Nat.reduceLT, true_and, and_true, and_self, List.length_cons, List.length_nil, Nat.reduceAdd, Nat.zero_add, implies_true, false_imp_iff, lt_T, List.mem_map]) hR hB ⟨by rw [recvR, e3, if_neg ht]; rfl, rfl, rfl⟩
end Go.Proofs.Ytiiflkcebikecaa

/- Functions of the reference of chapter 16 (matrices) as runs. No condition but on lengths. -/
namespace Go.Proofs.Ytiiflkcebikecaa
set_option linter.unusedVariables false
set_option linter.unusedSimpArgs false
attribute [local go_sem ↓] run_skip run_region run_draw run_seq run_block run_exit run_ret run_cond atN_app seqC_normal seqC_exit seqC_ret seqQ_normal seqQ_exit seqQ_ret blkQ_normal blkQ_exit blkQ_ret runOps_nil runOps_cons runD_nil runD_cons grdO_true grdO_false grdD_true grdD_false ifC_true ifC_false opS_val opS_call opS_two opK_app dS_val dS_call dS_two dK_app kUp_same kUp_ne
attribute [local go_sem] rechks_nil rechks_cons rechk gcase_true gcase_false ex_val ex_val0 gd_none gd_some ev_t ev_c evs_nil evs_cons evo_some evo_none hget_at hget_first hsetB_at hsetB_first hsetL_at hsetL_first ofOpt_some aop aload astore aslice aappend aiaddr aiaddrA afaddr alen alenS acopy amm acall alookup amupdate alenM comma keyEq apick binV binVB binVS isSh intOp strOp boolOp shOp eqC eqF and2 cellsOf setFrom fillA fillS rd rdI elems mk bounds AV.cell List.all_cons List.all_nil Bool.and_true Bool.true_and Bool.and_self List.length_cons List.length_nil List.length_append Nat.reduceAdd Nat.reduceSub Nat.reduceMul Nat.zero_add Nat.add_zero List.cons_append List.nil_append List.append_assoc List.append_nil List.getElem?_cons_zero List.getElem?_cons_succ List.getElem?_nil List.set_cons_zero List.set_cons_succ List.drop_zero List.drop_succ_cons List.take_zero List.take_succ_cons List.take_nil List.drop_nil List.map_cons List.map_nil Option.map_some if_true if_false Bool.false_eq_true and_self true_and and_true Nat.reduceLeDiff Nat.reduceLT Nat.le_refl Nat.reduceEqDiff ite_true ite_false beq_self_eq_true beq_true beq_false Bool.not_true Bool.not_false Bool.true_beq Bool.false_beq map_vs vs_len vs_get vs_take vs_drop vs_snoc1 vs_snoc2 vs_snoc3 vs_snoc5 vs_set1 vs_set2 vs_rep wrap_id le_T lt_T le_F lt_F leI_T ltI_T leI_F ltI_F geI gtI get_T decide_true decide_false room List.getElem?_map List.length_map List.length_take Int.toNat_natCast Nat.min_def Nat.min_self nth_kOf put_kOf put_kNo kOv_cons kOv_nil KHas KArgs List.getElem_cons_zero List.getElem_cons_succ
def a_rmZero : AFunc := ⟨1, 16, [.tmp 2],
  (.seq (.region [⟨(some 2), .mv (.c (.v .zsl)), none⟩])
  (.seq (.region [⟨(some 3), .mv (.c (.v .zsl)), none⟩])
  (.seq (.seq (.region [⟨(some 4), .mv (.c (.v (.int .i64 0))), none⟩])
  (.block 0 (.loop (.seq (.seq (.region [⟨(some 5), .mv (.t 4), none⟩, ⟨(some 6), .mv (.t 0), none⟩, ⟨(some 7), .bin .lss (.t 5) (.t 6), none⟩])
  (.cond (.t 7) .skip
  (.exit 0)))
  (.seq (.block 1 (.region [⟨(some 10), .mv (.t 3), none⟩, ⟨(some 11), .mv (.t 0), none⟩, ⟨(some 12), .mkslice 1 [(.v (.int .i64 0))] 8 (.t 11) (.t 11), none⟩, ⟨(some 13), .bslice 1 [(.v .zsl)] 1 [(0, (.t 12))], none⟩, ⟨(some 14), .append 1 24 (.t 10) (.t 13), none⟩, ⟨(some 3), .mv (.t 14), none⟩]))
  (.region [⟨(some 8), .mv (.t 4), none⟩, ⟨(some 9), .bin .add (.t 8) (.c (.v (.int .i64 1))), none⟩, ⟨(some 4), .mv (.t 9), none⟩]))))))
  (.seq (.region [⟨(some 15), .mv (.t 3), none⟩, ⟨(some 2), .mv (.t 15), none⟩])
  .ret))))⟩
theorem a_rmZero_ok : cFunc Try.prog 46 = some a_rmZero := by kernel_rfl
def r_rmZero0 : List (Nat × Nat) := [(3, 14)]
def a_rmValid : AFunc := ⟨1, 51, [.tmp 2],
  (.seq (.region [⟨(some 2), .mv (.c (.v (.bool false))), none⟩])
  (.seq (.seq (.region [⟨(some 5), .mv (.t 0), none⟩, ⟨(some 6), .len (.t 5), none⟩, ⟨(some 7), .bin .lss (.t 6) (.c (.v (.int .i64 1))), none⟩, ⟨(some 8), .mv (.t 7), none⟩, ⟨(some 9), .mv (.t 0), some (8, false)⟩, ⟨(some 10), .len (.t 9), some (8, false)⟩, ⟨(some 11), .bin .gtr (.t 10) (.c (.v (.int .i64 8))), some (8, false)⟩, ⟨(some 12), .pick (.t 8) (.c (.v (.bool true))) (.t 11), none⟩])
  (.cond (.t 12) (.seq (.region [⟨(some 2), .mv (.c (.v (.bool false))), none⟩])
  .ret)
  .skip))
  (.seq (.seq (.region [⟨(some 3), .mv (.c (.v (.int .i64 0))), none⟩])
  (.block 0 (.loop (.seq (.seq (.region [⟨(some 13), .mv (.t 3), none⟩, ⟨(some 14), .mv (.t 0), none⟩, ⟨(some 15), .len (.t 14), none⟩, ⟨(some 16), .bin .lss (.t 13) (.t 15), none⟩])
  (.cond (.t 16) .skip
  (.exit 0)))
  (.seq (.block 1 (.seq (.seq (.region [⟨(some 19), .mv (.t 0), none⟩, ⟨(some 20), .mv (.t 3), none⟩, ⟨(some 21), .iaddr 1 (.t 19) (.t 20), none⟩, ⟨(some 22), .load none (.t 21), none⟩, ⟨(some 23), .len (.t 22), none⟩, ⟨(some 24), .mv (.t 0), none⟩, ⟨(some 25), .len (.t 24), none⟩, ⟨(some 26), .bin .neq (.t 23) (.t 25), none⟩])
  (.cond (.t 26) (.seq (.region [⟨(some 2), .mv (.c (.v (.bool false))), none⟩])
  .ret)
  .skip))
  (.seq (.region [⟨(some 4), .mv (.c (.v (.int .i64 0))), none⟩])
  (.block 2 (.loop (.seq (.seq (.region [⟨(some 27), .mv (.t 4), none⟩, ⟨(some 28), .mv (.t 0), none⟩, ⟨(some 29), .len (.t 28), none⟩, ⟨(some 30), .bin .lss (.t 27) (.t 29), none⟩])
  (.cond (.t 30) .skip
  (.exit 2)))
  (.seq (.block 3 (.seq (.region [⟨(some 33), .mv (.t 0), none⟩, ⟨(some 34), .mv (.t 3), none⟩, ⟨(some 35), .iaddr 1 (.t 33) (.t 34), none⟩, ⟨(some 36), .load none (.t 35), none⟩, ⟨(some 37), .mv (.t 4), none⟩, ⟨(some 38), .iaddr 1 (.t 36) (.t 37), none⟩, ⟨(some 39), .load none (.t 38), none⟩, ⟨(some 40), .bin .lss (.t 39) (.c (.v (.int .i64 0))), none⟩, ⟨(some 41), .mv (.t 40), none⟩, ⟨(some 42), .mv (.t 0), some (41, false)⟩, ⟨(some 43), .mv (.t 3), some (41, false)⟩, ⟨(some 44), .iaddr 1 (.t 42) (.t 43), some (41, false)⟩, ⟨(some 45), .load none (.t 44), some (41, false)⟩, ⟨(some 46), .mv (.t 4), some (41, false)⟩, ⟨(some 47), .iaddr 1 (.t 45) (.t 46), some (41, false)⟩, ⟨(some 48), .load none (.t 47), some (41, false)⟩, ⟨(some 49), .bin .gtr (.t 48) (.c (.v (.int .i64 1125899906842624))), some (41, false)⟩, ⟨(some 50), .pick (.t 41) (.c (.v (.bool true))) (.t 49), none⟩])
  (.cond (.t 50) (.seq (.region [⟨(some 2), .mv (.c (.v (.bool false))), none⟩])
  .ret)
  .skip)))
  (.region [⟨(some 31), .mv (.t 4), none⟩, ⟨(some 32), .bin .add (.t 31) (.c (.v (.int .i64 1))), none⟩, ⟨(some 4), .mv (.t 32), none⟩]))))))))
  (.region [⟨(some 17), .mv (.t 3), none⟩, ⟨(some 18), .bin .add (.t 17) (.c (.v (.int .i64 1))), none⟩, ⟨(some 3), .mv (.t 18), none⟩]))))))
  (.seq (.region [⟨(some 2), .mv (.c (.v (.bool true))), none⟩])
  .ret))))⟩
theorem a_rmValid_ok : cFunc Try.prog 49 = some a_rmValid := by kernel_rfl
def r_rmValid0 : List (Nat × Nat) := [(2, 4), (13, 50)]
def r_rmValid1 : List (Nat × Nat) := [(2, 2), (4, 4), (27, 50)]
def a_rmCopy : AFunc := ⟨1, 35, [.tmp 2],
  (.seq (.region [⟨(some 2), .mv (.c (.v .zsl)), none⟩])
  (.seq (.region [⟨(some 6), .mv (.t 0), none⟩, ⟨(some 7), .len (.t 6), none⟩, ⟨(some 8), .call (.c (.fn 46 [])) [(.t 7)], none⟩, ⟨(some 3), .mv (.t 8), none⟩])
  (.seq (.seq (.region [⟨(some 4), .mv (.c (.v (.int .i64 0))), none⟩])
  (.block 0 (.loop (.seq (.seq (.region [⟨(some 9), .mv (.t 4), none⟩, ⟨(some 10), .mv (.t 0), none⟩, ⟨(some 11), .len (.t 10), none⟩, ⟨(some 12), .bin .lss (.t 9) (.t 11), none⟩])
  (.cond (.t 12) .skip
  (.exit 0)))
  (.seq (.block 1 (.seq (.region [⟨(some 5), .mv (.c (.v (.int .i64 0))), none⟩])
  (.block 2 (.loop (.seq (.seq (.region [⟨(some 15), .mv (.t 5), none⟩, ⟨(some 16), .mv (.t 0), none⟩, ⟨(some 17), .len (.t 16), none⟩, ⟨(some 18), .bin .lss (.t 15) (.t 17), none⟩])
  (.cond (.t 18) .skip
  (.exit 2)))
  (.seq (.block 3 (.draw [⟨0, ⟨(some 21), .mv (.t 3), none⟩, []⟩, ⟨1, ⟨(some 22), .mv (.t 4), none⟩, []⟩, ⟨2, ⟨(some 23), .iaddr 1 (.t 21) (.t 22), none⟩, []⟩, ⟨3, ⟨(some 24), .load none (.t 23), none⟩, []⟩, ⟨4, ⟨(some 25), .mv (.t 5), none⟩, []⟩, ⟨5, ⟨(some 26), .mv (.t 0), none⟩, []⟩, ⟨6, ⟨(some 27), .mv (.t 4), none⟩, []⟩, ⟨7, ⟨(some 28), .iaddr 1 (.t 26) (.t 27), none⟩, []⟩, ⟨8, ⟨(some 29), .load none (.t 28), none⟩, []⟩, ⟨9, ⟨(some 30), .mv (.t 5), none⟩, []⟩, ⟨10, ⟨(some 31), .iaddr 1 (.t 29) (.t 30), none⟩, []⟩, ⟨11, ⟨(some 32), .load none (.t 31), none⟩, []⟩, ⟨12, ⟨(some 33), .iaddr 1 (.t 24) (.t 25), none⟩, []⟩, ⟨13, ⟨none, .store 1 (.t 33) (.t 32), none⟩, []⟩]))
  (.region [⟨(some 19), .mv (.t 5), none⟩, ⟨(some 20), .bin .add (.t 19) (.c (.v (.int .i64 1))), none⟩, ⟨(some 5), .mv (.t 20), none⟩])))))))
  (.region [⟨(some 13), .mv (.t 4), none⟩, ⟨(some 14), .bin .add (.t 13) (.c (.v (.int .i64 1))), none⟩, ⟨(some 4), .mv (.t 14), none⟩]))))))
  (.seq (.region [⟨(some 34), .mv (.t 3), none⟩, ⟨(some 2), .mv (.t 34), none⟩])
  .ret))))⟩
theorem a_rmCopy_ok : cFunc Try.prog 98 = some a_rmCopy := by kernel_rfl
def r_rmCopy0 : List (Nat × Nat) := [(4, 5), (9, 33)]
def r_rmCopy1 : List (Nat × Nat) := [(5, 5), (15, 33)]
def a_rmTick : AFunc := ⟨2, 27, [.tmp 4, .tmp 5],
  (.seq (.region [⟨(some 4), .mv (.c (.v .zsl)), none⟩, ⟨(some 5), .mv (.c (.v (.bool false))), none⟩])
  (.seq (.region [⟨(some 7), .mv (.t 0), none⟩, ⟨(some 8), .call (.c (.fn 98 [])) [(.t 7)], none⟩, ⟨(some 6), .mv (.t 8), none⟩])
  (.seq (.region [⟨(some 9), .mv (.t 6), none⟩, ⟨(some 10), .mv (.t 1), none⟩, ⟨(some 11), .iaddr 1 (.t 9) (.t 10), none⟩, ⟨(some 12), .load none (.t 11), none⟩, ⟨(some 13), .mv (.t 1), none⟩, ⟨(some 14), .iaddr 1 (.t 12) (.t 13), none⟩, ⟨(some 15), .load none (.t 14), none⟩, ⟨(some 16), .bin .add (.t 15) (.c (.v (.int .i64 1))), none⟩, ⟨(some 17), .iaddr 1 (.t 12) (.t 13), none⟩, ⟨none, .store 1 (.t 17) (.t 16), none⟩])
  (.seq (.draw [⟨0, ⟨(some 18), .mv (.t 6), none⟩, []⟩, ⟨1, ⟨(some 19), .mv (.t 6), none⟩, []⟩, ⟨2, ⟨(some 20), .mv (.t 1), none⟩, []⟩, ⟨3, ⟨(some 21), .iaddr 1 (.t 19) (.t 20), none⟩, []⟩, ⟨4, ⟨(some 22), .load none (.t 21), none⟩, []⟩, ⟨5, ⟨(some 23), .mv (.t 1), none⟩, []⟩, ⟨6, ⟨(some 24), .iaddr 1 (.t 22) (.t 23), none⟩, []⟩, ⟨7, ⟨(some 25), .load none (.t 24), none⟩, []⟩, ⟨8, ⟨(some 26), .bin .leq (.t 25) (.c (.v (.int .i64 1125899906842624))), none⟩, []⟩, ⟨9, ⟨(some 4), .mv (.t 18), none⟩, []⟩, ⟨10, ⟨(some 5), .mv (.t 26), none⟩, []⟩])
  .ret))))⟩
theorem a_rmTick_ok : cFunc Try.prog 52 = some a_rmTick := by kernel_rfl
def a_rmReceive : AFunc := ⟨4, 81, [.tmp 8, .tmp 9],
  (.seq (.region [⟨(some 8), .mv (.c (.v .zsl)), none⟩, ⟨(some 9), .mv (.c (.v (.bool false))), none⟩])
  (.seq (.region [⟨(some 14), .mv (.t 0), none⟩, ⟨(some 15), .call (.c (.fn 98 [])) [(.t 14)], none⟩, ⟨(some 10), .mv (.t 15), none⟩])
  (.seq (.seq (.region [⟨(some 11), .mv (.c (.v (.int .i64 0))), none⟩])
  (.block 0 (.loop (.seq (.seq (.region [⟨(some 16), .mv (.t 11), none⟩, ⟨(some 17), .mv (.t 0), none⟩, ⟨(some 18), .len (.t 17), none⟩, ⟨(some 19), .bin .lss (.t 16) (.t 18), none⟩])
  (.cond (.t 19) .skip
  (.exit 0)))
  (.seq (.block 1 (.seq (.region [⟨(some 12), .mv (.c (.v (.int .i64 0))), none⟩])
  (.block 2 (.loop (.seq (.seq (.region [⟨(some 22), .mv (.t 12), none⟩, ⟨(some 23), .mv (.t 0), none⟩, ⟨(some 24), .len (.t 23), none⟩, ⟨(some 25), .bin .lss (.t 22) (.t 24), none⟩])
  (.cond (.t 25) .skip
  (.exit 2)))
  (.seq (.block 3 (.draw [⟨0, ⟨(some 28), .mv (.t 10), none⟩, []⟩, ⟨1, ⟨(some 29), .mv (.t 11), none⟩, []⟩, ⟨2, ⟨(some 30), .iaddr 1 (.t 28) (.t 29), none⟩, []⟩, ⟨3, ⟨(some 31), .load none (.t 30), none⟩, []⟩, ⟨4, ⟨(some 32), .mv (.t 12), none⟩, []⟩, ⟨5, ⟨(some 33), .mv (.t 10), none⟩, []⟩, ⟨6, ⟨(some 34), .mv (.t 11), none⟩, []⟩, ⟨7, ⟨(some 35), .iaddr 1 (.t 33) (.t 34), none⟩, []⟩, ⟨8, ⟨(some 36), .load none (.t 35), none⟩, []⟩, ⟨9, ⟨(some 37), .mv (.t 12), none⟩, []⟩, ⟨10, ⟨(some 38), .iaddr 1 (.t 36) (.t 37), none⟩, []⟩, ⟨11, ⟨(some 39), .load none (.t 38), none⟩, []⟩, ⟨12, ⟨(some 40), .mv (.t 2), none⟩, []⟩, ⟨13, ⟨(some 41), .mv (.t 11), none⟩, []⟩, ⟨14, ⟨(some 42), .iaddr 1 (.t 40) (.t 41), none⟩, []⟩, ⟨15, ⟨(some 43), .load none (.t 42), none⟩, []⟩, ⟨16, ⟨(some 44), .mv (.t 12), none⟩, []⟩, ⟨17, ⟨(some 45), .iaddr 1 (.t 43) (.t 44), none⟩, []⟩, ⟨18, ⟨(some 46), .load none (.t 45), none⟩, []⟩, ⟨19, ⟨(some 47), .mm true (.t 39) (.t 46), none⟩, []⟩, ⟨20, ⟨(some 48), .iaddr 1 (.t 31) (.t 32), none⟩, []⟩, ⟨21, ⟨none, .store 1 (.t 48) (.t 47), none⟩, []⟩]))
  (.region [⟨(some 26), .mv (.t 12), none⟩, ⟨(some 27), .bin .add (.t 26) (.c (.v (.int .i64 1))), none⟩, ⟨(some 12), .mv (.t 27), none⟩])))))))
  (.region [⟨(some 20), .mv (.t 11), none⟩, ⟨(some 21), .bin .add (.t 20) (.c (.v (.int .i64 1))), none⟩, ⟨(some 11), .mv (.t 21), none⟩]))))))
  (.seq (.seq (.region [⟨(some 13), .mv (.c (.v (.int .i64 0))), none⟩])
  (.block 4 (.loop (.seq (.seq (.region [⟨(some 49), .mv (.t 13), none⟩, ⟨(some 50), .mv (.t 0), none⟩, ⟨(some 51), .len (.t 50), none⟩, ⟨(some 52), .bin .lss (.t 49) (.t 51), none⟩])
  (.cond (.t 52) .skip
  (.exit 4)))
  (.seq (.block 5 (.draw [⟨0, ⟨(some 55), .mv (.t 10), none⟩, []⟩, ⟨1, ⟨(some 56), .mv (.t 1), none⟩, []⟩, ⟨2, ⟨(some 57), .iaddr 1 (.t 55) (.t 56), none⟩, []⟩, ⟨3, ⟨(some 58), .load none (.t 57), none⟩, []⟩, ⟨4, ⟨(some 59), .mv (.t 13), none⟩, []⟩, ⟨5, ⟨(some 60), .mv (.t 10), none⟩, []⟩, ⟨6, ⟨(some 61), .mv (.t 1), none⟩, []⟩, ⟨7, ⟨(some 62), .iaddr 1 (.t 60) (.t 61), none⟩, []⟩, ⟨8, ⟨(some 63), .load none (.t 62), none⟩, []⟩, ⟨9, ⟨(some 64), .mv (.t 13), none⟩, []⟩, ⟨10, ⟨(some 65), .iaddr 1 (.t 63) (.t 64), none⟩, []⟩, ⟨11, ⟨(some 66), .load none (.t 65), none⟩, []⟩, ⟨12, ⟨(some 67), .mv (.t 2), none⟩, []⟩, ⟨13, ⟨(some 68), .mv (.t 3), none⟩, []⟩, ⟨14, ⟨(some 69), .iaddr 1 (.t 67) (.t 68), none⟩, []⟩, ⟨15, ⟨(some 70), .load none (.t 69), none⟩, []⟩, ⟨16, ⟨(some 71), .mv (.t 13), none⟩, []⟩, ⟨17, ⟨(some 72), .iaddr 1 (.t 70) (.t 71), none⟩, []⟩, ⟨18, ⟨(some 73), .load none (.t 72), none⟩, []⟩, ⟨19, ⟨(some 74), .mm true (.t 66) (.t 73), none⟩, []⟩, ⟨20, ⟨(some 75), .iaddr 1 (.t 58) (.t 59), none⟩, []⟩, ⟨21, ⟨none, .store 1 (.t 75) (.t 74), none⟩, []⟩]))
  (.region [⟨(some 53), .mv (.t 13), none⟩, ⟨(some 54), .bin .add (.t 53) (.c (.v (.int .i64 1))), none⟩, ⟨(some 13), .mv (.t 54), none⟩]))))))
  (.seq (.region [⟨(some 76), .mv (.t 10), none⟩, ⟨(some 77), .mv (.t 1), none⟩, ⟨(some 78), .call (.c (.fn 52 [])) [(.t 76), (.t 77)], none⟩, ⟨(some 79), .extract 0 (.t 78), none⟩, ⟨(some 80), .extract 1 (.t 78), none⟩, ⟨(some 8), .mv (.t 79), none⟩, ⟨(some 9), .mv (.t 80), none⟩])
  .ret)))))⟩
theorem a_rmReceive_ok : cFunc Try.prog 55 = some a_rmReceive := by kernel_rfl
def r_rmReceive0 : List (Nat × Nat) := [(11, 12), (16, 48)]
def r_rmReceive1 : List (Nat × Nat) := [(12, 12), (22, 48)]
def r_rmReceive2 : List (Nat × Nat) := [(13, 13), (49, 75)]
def a_rmKnown : AFunc := ⟨1, 39, [.tmp 2],
  (.seq (.region [⟨(some 2), .mv (.c (.v .zsl)), none⟩])
  (.seq (.region [⟨(some 3), .mv (.c (.v .zsl)), none⟩])
  (.seq (.seq (.region [⟨(some 4), .mv (.c (.v (.int .i64 0))), none⟩])
  (.block 0 (.loop (.seq (.seq (.region [⟨(some 7), .mv (.t 4), none⟩, ⟨(some 8), .mv (.t 0), none⟩, ⟨(some 9), .len (.t 8), none⟩, ⟨(some 10), .bin .lss (.t 7) (.t 9), none⟩])
  (.cond (.t 10) .skip
  (.exit 0)))
  (.seq (.block 1 (.seq (.region [⟨(some 13), .mv (.t 0), none⟩, ⟨(some 14), .iaddr 1 (.t 13) (.c (.v (.int .i64 0))), none⟩, ⟨(some 15), .load none (.t 14), none⟩, ⟨(some 16), .mv (.t 4), none⟩, ⟨(some 17), .iaddr 1 (.t 15) (.t 16), none⟩, ⟨(some 18), .load none (.t 17), none⟩, ⟨(some 5), .mv (.t 18), none⟩])
  (.seq (.seq (.region [⟨(some 6), .mv (.c (.v (.int .i64 0))), none⟩])
  (.block 2 (.loop (.seq (.seq (.region [⟨(some 19), .mv (.t 6), none⟩, ⟨(some 20), .mv (.t 0), none⟩, ⟨(some 21), .len (.t 20), none⟩, ⟨(some 22), .bin .lss (.t 19) (.t 21), none⟩])
  (.cond (.t 22) .skip
  (.exit 2)))
  (.seq (.block 3 (.region [⟨(some 25), .mv (.t 5), none⟩, ⟨(some 26), .mv (.t 0), none⟩, ⟨(some 27), .mv (.t 6), none⟩, ⟨(some 28), .iaddr 1 (.t 26) (.t 27), none⟩, ⟨(some 29), .load none (.t 28), none⟩, ⟨(some 30), .mv (.t 4), none⟩, ⟨(some 31), .iaddr 1 (.t 29) (.t 30), none⟩, ⟨(some 32), .load none (.t 31), none⟩, ⟨(some 33), .mm false (.t 25) (.t 32), none⟩, ⟨(some 5), .mv (.t 33), none⟩]))
  (.region [⟨(some 23), .mv (.t 6), none⟩, ⟨(some 24), .bin .add (.t 23) (.c (.v (.int .i64 1))), none⟩, ⟨(some 6), .mv (.t 24), none⟩]))))))
  (.region [⟨(some 34), .mv (.t 3), none⟩, ⟨(some 35), .mv (.t 5), none⟩, ⟨(some 36), .bslice 1 [(.v (.int .i64 0))] 1 [(0, (.t 35))], none⟩, ⟨(some 37), .append 1 8 (.t 34) (.t 36), none⟩, ⟨(some 3), .mv (.t 37), none⟩]))))
  (.region [⟨(some 11), .mv (.t 4), none⟩, ⟨(some 12), .bin .add (.t 11) (.c (.v (.int .i64 1))), none⟩, ⟨(some 4), .mv (.t 12), none⟩]))))))
  (.seq (.region [⟨(some 38), .mv (.t 3), none⟩, ⟨(some 2), .mv (.t 38), none⟩])
  .ret))))⟩
theorem a_rmKnown_ok : cFunc Try.prog 51 = some a_rmKnown := by kernel_rfl
def r_rmKnown0 : List (Nat × Nat) := [(3, 37)]
def r_rmKnown1 : List (Nat × Nat) := [(5, 6), (19, 33)]
def a_rmSame : AFunc := ⟨2, 53, [.tmp 4],
  (.seq (.region [⟨(some 4), .mv (.c (.v (.bool false))), none⟩])
  (.seq (.seq (.region [⟨(some 7), .mv (.t 0), none⟩, ⟨(some 8), .len (.t 7), none⟩, ⟨(some 9), .mv (.t 1), none⟩, ⟨(some 10), .len (.t 9), none⟩, ⟨(some 11), .bin .neq (.t 8) (.t 10), none⟩])
  (.cond (.t 11) (.seq (.region [⟨(some 4), .mv (.c (.v (.bool false))), none⟩])
  .ret)
  .skip))
  (.seq (.seq (.region [⟨(some 5), .mv (.c (.v (.int .i64 0))), none⟩])
  (.block 0 (.loop (.seq (.seq (.region [⟨(some 12), .mv (.t 5), none⟩, ⟨(some 13), .mv (.t 0), none⟩, ⟨(some 14), .len (.t 13), none⟩, ⟨(some 15), .bin .lss (.t 12) (.t 14), none⟩])
  (.cond (.t 15) .skip
  (.exit 0)))
  (.seq (.block 1 (.seq (.seq (.draw [⟨0, ⟨(some 18), .mv (.t 0), none⟩, []⟩, ⟨1, ⟨(some 19), .mv (.t 5), none⟩, []⟩, ⟨2, ⟨(some 20), .iaddr 1 (.t 18) (.t 19), none⟩, []⟩, ⟨3, ⟨(some 21), .load none (.t 20), none⟩, []⟩, ⟨4, ⟨(some 22), .len (.t 21), none⟩, []⟩, ⟨5, ⟨(some 23), .mv (.t 1), none⟩, []⟩, ⟨6, ⟨(some 24), .mv (.t 5), none⟩, []⟩, ⟨7, ⟨(some 25), .iaddr 1 (.t 23) (.t 24), none⟩, []⟩, ⟨8, ⟨(some 26), .load none (.t 25), none⟩, []⟩, ⟨9, ⟨(some 27), .len (.t 26), none⟩, []⟩, ⟨10, ⟨(some 28), .bin .neq (.t 22) (.t 27), none⟩, []⟩])
  (.cond (.t 28) (.seq (.region [⟨(some 4), .mv (.c (.v (.bool false))), none⟩])
  .ret)
  .skip))
  (.seq (.region [⟨(some 6), .mv (.c (.v (.int .i64 0))), none⟩])
  (.block 2 (.loop (.seq (.seq (.region [⟨(some 29), .mv (.t 6), none⟩, ⟨(some 30), .mv (.t 0), none⟩, ⟨(some 31), .mv (.t 5), none⟩, ⟨(some 32), .iaddr 1 (.t 30) (.t 31), none⟩, ⟨(some 33), .load none (.t 32), none⟩, ⟨(some 34), .len (.t 33), none⟩, ⟨(some 35), .bin .lss (.t 29) (.t 34), none⟩])
  (.cond (.t 35) .skip
  (.exit 2)))
  (.seq (.block 3 (.seq (.draw [⟨0, ⟨(some 38), .mv (.t 0), none⟩, []⟩, ⟨1, ⟨(some 39), .mv (.t 5), none⟩, []⟩, ⟨2, ⟨(some 40), .iaddr 1 (.t 38) (.t 39), none⟩, []⟩, ⟨3, ⟨(some 41), .load none (.t 40), none⟩, []⟩, ⟨4, ⟨(some 42), .mv (.t 6), none⟩, []⟩, ⟨5, ⟨(some 43), .iaddr 1 (.t 41) (.t 42), none⟩, []⟩, ⟨6, ⟨(some 44), .load none (.t 43), none⟩, []⟩, ⟨7, ⟨(some 45), .mv (.t 1), none⟩, []⟩, ⟨8, ⟨(some 46), .mv (.t 5), none⟩, []⟩, ⟨9, ⟨(some 47), .iaddr 1 (.t 45) (.t 46), none⟩, []⟩, ⟨10, ⟨(some 48), .load none (.t 47), none⟩, []⟩, ⟨11, ⟨(some 49), .mv (.t 6), none⟩, []⟩, ⟨12, ⟨(some 50), .iaddr 1 (.t 48) (.t 49), none⟩, []⟩, ⟨13, ⟨(some 51), .load none (.t 50), none⟩, []⟩, ⟨14, ⟨(some 52), .bin .neq (.t 44) (.t 51), none⟩, []⟩])
  (.cond (.t 52) (.seq (.region [⟨(some 4), .mv (.c (.v (.bool false))), none⟩])
  .ret)
  .skip)))
  (.region [⟨(some 36), .mv (.t 6), none⟩, ⟨(some 37), .bin .add (.t 36) (.c (.v (.int .i64 1))), none⟩, ⟨(some 6), .mv (.t 37), none⟩]))))))))
  (.region [⟨(some 16), .mv (.t 5), none⟩, ⟨(some 17), .bin .add (.t 16) (.c (.v (.int .i64 1))), none⟩, ⟨(some 5), .mv (.t 17), none⟩]))))))
  (.seq (.region [⟨(some 4), .mv (.c (.v (.bool true))), none⟩])
  .ret))))⟩
theorem a_rmSame_ok : cFunc Try.prog 45 = some a_rmSame := by kernel_rfl
def r_rmSame0 : List (Nat × Nat) := [(4, 6), (12, 52)]
def r_rmSame1 : List (Nat × Nat) := [(4, 4), (6, 6), (29, 52)]

theorem fl_app1 {α : Type} {n : Nat} {f : Nat → α} {x : α} {r : List α} : (fl n f ++ x :: r)[n]? = some x := by
  rw [List.getElem?_append_right (by rw [fl_len]; exact Nat.le_refl _), fl_len, Nat.sub_self]; rfl
theorem fl_app2 {α : Type} {n : Nat} {f : Nat → α} {x y : α} {r : List α} : (fl n f ++ x :: y :: r)[n + 1]? = some y := by
  rw [List.getElem?_append_right (by rw [fl_len]; omega), fl_len, Nat.add_sub_cancel_left]; rfl
theorem mR_snoc {n v0 base sz v len : Nat} {ver : Nat → Nat} {R : Nat → List (List IV)} {x : List (List IV)} (hv : ver n = v) (hx : R n = x) (hl : x.length = len) :
    Row.live v0 1 ((fl n fun j => [AV.sl (base + (j + 1)) (ver j) 0 (R j).length]) ++ [[.sl (base + (n + 1)) v 0 len]]) :: (fl n (mD sz 0 ver R) ++ [.live v sz (vs x)]) = mR (n + 1) v0 base sz 0 ver R := by
  unfold mR
  congr 1
  · congr 1
    rw [fl_next (f := fun j => [AV.sl (base + (j + 1)) (ver j) 0 (R j).length]) (by rw [hv, hx, hl])]
    refine fl_congr (fun j hj => ?_)
    rw [mC_0]
  · rw [fl_next (f := mD sz 0 ver R) (by rw [mD_0, hv, hx])]
theorem rmZero_spec (n : Nat) (hn : n ≤ 1000000) (b l : List Row) : ACalls Try.prog 46 [.v (.int .i64 n)] b l (fun r b' l' => r = .sl (b.length + l.length) n 0 n ∧ b' = b ∧ l' = l ++ mR n n (b.length + l.length) 1 0 (fun _ => 0) (zRows n)) := by
  refine calls_kept a_rmZero_ok rfl (by decide) ?_
  intro B g hB hR hE hA
  simp only [KArgs] at hA
  simp (disch := decide) only [a_rmZero, hA, go_sem]
  refine loop_kept_nil (ι := Nat) 3 1 r_rmZero0 (fun i => [(3, .sl B.length i 0 i), (4, .v (.int .i64 i))]) 1 (fun i => mR i i B.length 1 0 (fun _ => 0) (zRows n))
    (fun i => i ≤ n) (fun i => n - i) 0 (Nat.zero_le _) (by simp (disch := decide) only [hA, go_sem]) (by decide) rfl (by (repeat (first | exact hE.mono (by omega) | refine KLt.up ?_ (by simp (disch := omega) only [AVlt_v, AVlt_any, AVlt_sl, AVlt_ptr, AVlt_mp, AVlt_agg, AVlt_tup, AVlt_fn, RowsLt_nil, RowsLt_live, RowsLt_dead, List.mem_cons, List.not_mem_nil, List.forall_mem_cons, List.forall_mem_nil, or_false, false_or, forall_eq_or_imp, forall_eq, vs_lt, Nat.add_lt_add_iff_left, Nat.reduceLT, true_and, and_true, and_self, List.length_cons, List.length_nil, Nat.reduceAdd, Nat.zero_add, implies_true, false_imp_iff, lt_T, List.mem_map])))) (by ((try simp (disch := decide) only [hA, go_sem]) <;> (repeat' (first | exact trivial | refine And.intro ?_ ?_)) <;> (first | rfl | (congr 2; omega)))) (fun e => Weak.refl _ _ _) ?_
  intro g1 hE1 hEE1 hg1 i hi
  by_cases hlt : i < n
  · have hrep : List.replicate n [AV.v (.int .i64 0)] = vs (zRows n i) := by simp [vs, zRows, eI]
    have sn := mR_snoc (n := i) (v0 := i + 1) (base := B.length) (sz := 1) (ver := fun _ => 0) (R := zRows n) rfl rfl (zRows_len n i)
    have tk : ∀ f : Nat → List AV, (fl i f).take i = fl i f := fun f => fl_take (Nat.le_refl _)
    simp (disch := (first | decide | omega)) only [hA, hg1, mR, mC_0, mD_0, fl_len, hrep, setFrom, cellsOf, List.replicate_succ, List.replicate_zero, tk, fl_app1, fl_app2, go_sem]
    refine ⟨i + 1, hlt, by simp only; omega, ?_⟩
    exact Weak.kround (l1 := mR (i + 1) (i + 1) B.length 1 0 (fun _ => 0) (zRows n)) (junk := [.live 0 1 [[.sl (B.length + (i + 1)) 0 0 n]]]) (p := r_rmZero0) (k := 1) (by ((repeat refine (kAny_up rfl).trans ?_); exact hEE1)) (by ((try simp (disch := decide) only [hA, go_sem]) <;> (repeat' (first | exact trivial | refine And.intro ?_ ?_)) <;> (first | rfl | (congr 2; omega)))) (by
      rw [← sn]; simp only [List.cons_append, List.append_assoc, List.nil_append]) hE1 (by rw [mR_len]; omega) (by rw [mR_len]; simp (disch := omega) only [KOvLt, AVlt_v, AVlt_any, AVlt_sl, AVlt_ptr, AVlt_mp, AVlt_agg, AVlt_tup, AVlt_fn, RowsLt_nil, RowsLt_live, RowsLt_dead, List.mem_cons, List.not_mem_nil, List.forall_mem_cons, List.forall_mem_nil, or_false, false_or, forall_eq_or_imp, forall_eq, vs_lt, Nat.add_lt_add_iff_left, Nat.reduceLT, true_and, and_true, and_self, List.length_cons, List.length_nil, Nat.reduceAdd, Nat.zero_add, implies_true, false_imp_iff, lt_T, List.mem_map]) hR (mR_lt (by rw [mR_len]; omega))
  · simp (disch := (first | decide | omega)) only [hA, hg1, go_sem]
    obtain rfl : i = n := by omega
    have hBl : B.length = b.length + l.length := by rw [hB, List.length_append]
    exact leave_keep (y := .sl B.length i 0 i) (keep := mR i i B.length 1 0 (fun _ => 0) (zRows i)) (junk := []) (.inr rfl) (by simp (disch := (first | decide | omega)) only [resVs, resV, hA, hg1, go_sem]) (by rw [List.append_nil]) hR (by rw [mR_len]; exact .sl _ _ _ _ (by omega)) (mR_lt (by rw [mR_len]; omega)) hB ⟨by rw [hBl], rfl, by rw [hBl]⟩
theorem rmValid_spec (m : List (List Int)) (hF : Fit m) (b l : List Row) : ACalls Try.prog 49 [.v (.isl 1 (m.map eRw))] b l (fun r b' l' => r = .v (.bool (isM m)) ∧ b' = b ∧ l' = l) := by
  refine calls_kept a_rmValid_ok rfl (by decide) ?_
  intro B g hB hR hE hA
  simp only [KArgs] at hA
  by_cases h1 : 1 ≤ m.length
  case neg =>
    have hd1 : decide ((m.length : Int) < 1) = true := decide_eq_true (by omega)
    simp (disch := (first | decide | omega)) only [a_rmValid, hA, List.length_map, hd1, go_sem]
    exact leave_pure (xs := [.v (.bool false)]) (.inr rfl) (by simp (disch := (first | decide | omega)) only [resVs, resV, go_sem, hA]) (by simp only [one, AVlt_v, AVlt_any, AVlt_sl, AVlt_ptr, AVlt_mp, AVlt_agg, AVlt_tup, AVlt_fn, RowsLt_nil, RowsLt_live, RowsLt_dead, List.mem_cons, List.not_mem_nil, List.forall_mem_cons, List.forall_mem_nil, or_false, false_or, forall_eq_or_imp, forall_eq, vs_lt, Nat.add_lt_add_iff_left, Nat.reduceLT, true_and, and_true, and_self, List.length_cons, List.length_nil, Nat.reduceAdd, Nat.zero_add, implies_true, false_imp_iff, lt_T, List.mem_map]) hR hB ⟨by simp [isM, h1, one], rfl, rfl⟩
  by_cases h2 : m.length ≤ 8
  case neg =>
    have hd1 : decide ((m.length : Int) < 1) = false := decide_eq_false (by omega)
    have hd2 : decide ((8 : Int) < m.length) = true := decide_eq_true (by omega)
    simp (disch := (first | decide | omega)) only [a_rmValid, hA, List.length_map, hd1, hd2, go_sem]
    exact leave_pure (xs := [.v (.bool false)]) (.inr rfl) (by simp (disch := (first | decide | omega)) only [resVs, resV, go_sem, hA]) (by simp only [one, AVlt_v, AVlt_any, AVlt_sl, AVlt_ptr, AVlt_mp, AVlt_agg, AVlt_tup, AVlt_fn, RowsLt_nil, RowsLt_live, RowsLt_dead, List.mem_cons, List.not_mem_nil, List.forall_mem_cons, List.forall_mem_nil, or_false, false_or, forall_eq_or_imp, forall_eq, vs_lt, Nat.add_lt_add_iff_left, Nat.reduceLT, true_and, and_true, and_self, List.length_cons, List.length_nil, Nat.reduceAdd, Nat.zero_add, implies_true, false_imp_iff, lt_T, List.mem_map]) hR hB ⟨by simp [isM, h1, h2, one], rfl, rfl⟩
  have hd1 : decide ((m.length : Int) < 1) = false := decide_eq_false (by omega)
  have hd2 : decide ((8 : Int) < m.length) = false := decide_eq_false (by omega)
  have no : ∀ i, i < m.length → badRowAt m i = true → isM m = false := by
    intro i hi hb
    have : (List.range m.length).any (badRowAt m) = true := List.any_eq_true.2 ⟨i, List.mem_range.2 hi, hb⟩
    simp [isM, this]
  simp (disch := (first | decide | omega)) only [a_rmValid, hA, List.length_map, hd1, hd2, go_sem]
  refine loop_kept (ι := Nat) r_rmValid0 (fun i => [(3, .v (.int .i64 i))]) 0 (fun i => [])
    (fun i => i ≤ m.length ∧ ∀ j, j < i → badRowAt m j = false) (fun i => m.length - i) 0 ⟨Nat.zero_le _, fun j hj => by omega⟩ (by (repeat (first | exact hE.mono (by omega) | refine KLt.up ?_ (by simp (disch := omega) only [AVlt_v, AVlt_any, AVlt_sl, AVlt_ptr, AVlt_mp, AVlt_agg, AVlt_tup, AVlt_fn, RowsLt_nil, RowsLt_live, RowsLt_dead, List.mem_cons, List.not_mem_nil, List.forall_mem_cons, List.forall_mem_nil, or_false, false_or, forall_eq_or_imp, forall_eq, vs_lt, Nat.add_lt_add_iff_left, Nat.reduceLT, true_and, and_true, and_self, List.length_cons, List.length_nil, Nat.reduceAdd, Nat.zero_add, implies_true, false_imp_iff, lt_T, List.mem_map])))) (by ((try simp (disch := decide) only [hA, go_sem]) <;> (repeat' (first | exact trivial | refine And.intro ?_ ?_)) <;> (first | rfl | (congr 2; omega)))) (fun e => Weak.refl _ _ _) ?_
  rintro g1 hE1 hEE1 hg1 i ⟨hi, h0⟩
  by_cases hlt : i < m.length
  · have hri := rowAt_at hlt
    by_cases hl : m[i].length = m.length
    case neg =>
      have hd : ((m[i].length : Int) != (m.length : Int)) = true := by simp; omega
      have hb : badRowAt m i = true := by unfold badRowAt badRow; rw [hri]; simp [hl]
      simp (disch := (first | decide | omega)) only [hA, hg1, eRw, hd, List.length_map, go_sem]
      exact leave_pure (xs := [.v (.bool false)]) (.inr rfl) (by simp (disch := (first | decide | omega)) only [resVs, resV, go_sem, hA, hg1]) (by simp only [one, AVlt_v, AVlt_any, AVlt_sl, AVlt_ptr, AVlt_mp, AVlt_agg, AVlt_tup, AVlt_fn, RowsLt_nil, RowsLt_live, RowsLt_dead, List.mem_cons, List.not_mem_nil, List.forall_mem_cons, List.forall_mem_nil, or_false, false_or, forall_eq_or_imp, forall_eq, vs_lt, Nat.add_lt_add_iff_left, Nat.reduceLT, true_and, and_true, and_self, List.length_cons, List.length_nil, Nat.reduceAdd, Nat.zero_add, implies_true, false_imp_iff, lt_T, List.mem_map]) hR hB ⟨by rw [no i hlt hb]; rfl, rfl, rfl⟩
    have hd : ((m[i].length : Int) != (m.length : Int)) = false := by simp [hl]
    have hbq : badRowAt m i = (List.range m.length).any (vBadAt m[i]) := by unfold badRowAt badRow; rw [hri, hl]; simp
    simp (disch := (first | decide | omega)) only [hA, hg1, eRw, hd, List.length_map, go_sem]
    refine loop_kept (ι := Nat) r_rmValid1 (fun k => [(4, .v (.int .i64 k))]) 0 (fun k => [])
      (fun k => k ≤ m.length ∧ ∀ j, j < k → vBadAt m[i] j = false) (fun k => m.length - k) 0 ⟨Nat.zero_le _, fun j hj => by omega⟩ (by (repeat (first | exact hE1.mono (by omega) | refine KLt.up ?_ (by simp (disch := omega) only [AVlt_v, AVlt_any, AVlt_sl, AVlt_ptr, AVlt_mp, AVlt_agg, AVlt_tup, AVlt_fn, RowsLt_nil, RowsLt_live, RowsLt_dead, List.mem_cons, List.not_mem_nil, List.forall_mem_cons, List.forall_mem_nil, or_false, false_or, forall_eq_or_imp, forall_eq, vs_lt, Nat.add_lt_add_iff_left, Nat.reduceLT, true_and, and_true, and_self, List.length_cons, List.length_nil, Nat.reduceAdd, Nat.zero_add, implies_true, false_imp_iff, lt_T, List.mem_map])))) (by ((try simp (disch := decide) only [hA, hg1, go_sem]) <;> (repeat' (first | exact trivial | refine And.intro ?_ ?_)) <;> (first | rfl | (congr 2; omega)))) (fun e => Weak.refl _ _ _) ?_
    rintro g2 hE2 hEE2 hg2 k ⟨hk, hk0⟩
    by_cases hkl : k < m.length
    · have hki : k < m[i].length := by omega
      have hvb : vBadAt m[i] k = vBad m[i][k] := by unfold vBadAt; rw [getD_at hki]
      have bad : vBad m[i][k] = true → isM m = false := fun h => no i hlt (by rw [hbq]; exact List.any_eq_true.2 ⟨k, List.mem_range.2 hkl, hvb.trans h⟩)
      cases q1 : decide (m[i][k] < 0)
      · cases q2 : decide ((1125899906842624 : Int) < m[i][k])
        · have q2' : decide (m[i][k] > 1125899906842624) = false := q2
          have hv : vBad m[i][k] = false := by simp only [vBad, q1, q2', Bool.false_or]
          simp (disch := (first | decide | omega)) only [hA, hg1, hg2, eRw, eI, q1, q2, List.length_map, go_sem]
          refine ⟨k + 1, ⟨hkl, fun j hj => ?_⟩, by simp only; omega, ?_⟩
          · rcases Nat.lt_or_ge j k with hjk | hjk
            · exact hk0 j hjk
            · have : j = k := by omega
              subst this; exact hvb.trans hv
          exact Weak.kround (p := r_rmValid1) (k := 0) (by ((repeat refine (kAny_up rfl).trans ?_); exact hEE2)) (by ((try simp (disch := decide) only [hA, go_sem]) <;> (repeat' (first | exact trivial | refine And.intro ?_ ?_)) <;> (first | rfl | (congr 2; omega)))) rfl hE2 (by simp) (by simp (disch := omega) only [KOvLt, AVlt_v, AVlt_any, AVlt_sl, AVlt_ptr, AVlt_mp, AVlt_agg, AVlt_tup, AVlt_fn, RowsLt_nil, RowsLt_live, RowsLt_dead, List.mem_cons, List.not_mem_nil, List.forall_mem_cons, List.forall_mem_nil, or_false, false_or, forall_eq_or_imp, forall_eq, vs_lt, Nat.add_lt_add_iff_left, Nat.reduceLT, true_and, and_true, and_self, List.length_cons, List.length_nil, Nat.reduceAdd, Nat.zero_add, implies_true, false_imp_iff, lt_T, List.mem_map]) hR (by simp (disch := omega) only [AVlt_v, AVlt_any, AVlt_sl, AVlt_ptr, AVlt_mp, AVlt_agg, AVlt_tup, AVlt_fn, RowsLt_nil, RowsLt_live, RowsLt_dead, List.mem_cons, List.not_mem_nil, List.forall_mem_cons, List.forall_mem_nil, or_false, false_or, forall_eq_or_imp, forall_eq, vs_lt, Nat.add_lt_add_iff_left, Nat.reduceLT, true_and, and_true, and_self, List.length_cons, List.length_nil, Nat.reduceAdd, Nat.zero_add, implies_true, false_imp_iff, lt_T, List.mem_map])
        · have q2' : decide (m[i][k] > 1125899906842624) = true := q2
          have hv : vBad m[i][k] = true := by simp only [vBad, q1, q2', Bool.false_or]
          simp (disch := (first | decide | omega)) only [hA, hg1, hg2, eRw, eI, q1, q2, List.length_map, go_sem]
          exact leave_pure (xs := [.v (.bool false)]) (.inr rfl) (by simp (disch := (first | decide | omega)) only [resVs, resV, go_sem, hA, hg1, hg2]) (by simp only [one, AVlt_v, AVlt_any, AVlt_sl, AVlt_ptr, AVlt_mp, AVlt_agg, AVlt_tup, AVlt_fn, RowsLt_nil, RowsLt_live, RowsLt_dead, List.mem_cons, List.not_mem_nil, List.forall_mem_cons, List.forall_mem_nil, or_false, false_or, forall_eq_or_imp, forall_eq, vs_lt, Nat.add_lt_add_iff_left, Nat.reduceLT, true_and, and_true, and_self, List.length_cons, List.length_nil, Nat.reduceAdd, Nat.zero_add, implies_true, false_imp_iff, lt_T, List.mem_map]) hR hB ⟨by rw [bad hv]; rfl, rfl, rfl⟩
      · have hv : vBad m[i][k] = true := by simp only [vBad, q1, Bool.true_or]
        simp (disch := (first | decide | omega)) only [hA, hg1, hg2, eRw, eI, q1, List.length_map, go_sem]
        exact leave_pure (xs := [.v (.bool false)]) (.inr rfl) (by simp (disch := (first | decide | omega)) only [resVs, resV, go_sem, hA, hg1, hg2]) (by simp only [one, AVlt_v, AVlt_any, AVlt_sl, AVlt_ptr, AVlt_mp, AVlt_agg, AVlt_tup, AVlt_fn, RowsLt_nil, RowsLt_live, RowsLt_dead, List.mem_cons, List.not_mem_nil, List.forall_mem_cons, List.forall_mem_nil, or_false, false_or, forall_eq_or_imp, forall_eq, vs_lt, Nat.add_lt_add_iff_left, Nat.reduceLT, true_and, and_true, and_self, List.length_cons, List.length_nil, Nat.reduceAdd, Nat.zero_add, implies_true, false_imp_iff, lt_T, List.mem_map]) hR hB ⟨by rw [bad hv]; rfl, rfl, rfl⟩
    · simp (disch := (first | decide | omega)) only [hA, hg1, hg2, List.length_map, go_sem]
      obtain rfl : k = m.length := by omega
      refine ⟨i + 1, ⟨hlt, fun j hj => ?_⟩, by simp only; omega, ?_⟩
      · rcases Nat.lt_or_ge j i with hji | hji
        · exact h0 j hji
        · have : j = i := by omega
          subst this
          rw [hbq, List.any_eq_false]
          intro c hc
          rw [hk0 c (List.mem_range.1 hc)]; decide
      exact Weak.kround (p := r_rmValid0) (k := 0) (by ((repeat refine (kAny_up rfl).trans ?_); refine (kAny_sub hg2 (kIn_sub rfl)).trans ?_; (repeat refine (kAny_up rfl).trans ?_); exact hEE1)) (by ((try simp (disch := decide) only [hA, hg1, go_sem]) <;> (repeat' (first | exact trivial | refine And.intro ?_ ?_)) <;> (first | rfl | (congr 2; omega)))) rfl hE1 (by simp) (by simp (disch := omega) only [KOvLt, AVlt_v, AVlt_any, AVlt_sl, AVlt_ptr, AVlt_mp, AVlt_agg, AVlt_tup, AVlt_fn, RowsLt_nil, RowsLt_live, RowsLt_dead, List.mem_cons, List.not_mem_nil, List.forall_mem_cons, List.forall_mem_nil, or_false, false_or, forall_eq_or_imp, forall_eq, vs_lt, Nat.add_lt_add_iff_left, Nat.reduceLT, true_and, and_true, and_self, List.length_cons, List.length_nil, Nat.reduceAdd, Nat.zero_add, implies_true, false_imp_iff, lt_T, List.mem_map]) hR (by simp (disch := omega) only [AVlt_v, AVlt_any, AVlt_sl, AVlt_ptr, AVlt_mp, AVlt_agg, AVlt_tup, AVlt_fn, RowsLt_nil, RowsLt_live, RowsLt_dead, List.mem_cons, List.not_mem_nil, List.forall_mem_cons, List.forall_mem_nil, or_false, false_or, forall_eq_or_imp, forall_eq, vs_lt, Nat.add_lt_add_iff_left, Nat.reduceLT, true_and, and_true, and_self, List.length_cons, List.length_nil, Nat.reduceAdd, Nat.zero_add, implies_true, false_imp_iff, lt_T, List.mem_map])
  · simp (disch := (first | decide | omega)) only [hA, hg1, List.length_map, go_sem]
    obtain rfl : i = m.length := by omega
    have hq : isM m = true := by
      have : (List.range m.length).any (badRowAt m) = false := by
        rw [List.any_eq_false]; intro c hc; rw [h0 c (List.mem_range.1 hc)]; decide
      simp [isM, h1, h2, this]
    exact leave_pure (xs := [.v (.bool true)]) (.inr rfl) (by simp (disch := (first | decide | omega)) only [resVs, resV, go_sem, hA, hg1]) (by simp only [one, AVlt_v, AVlt_any, AVlt_sl, AVlt_ptr, AVlt_mp, AVlt_agg, AVlt_tup, AVlt_fn, RowsLt_nil, RowsLt_live, RowsLt_dead, List.mem_cons, List.not_mem_nil, List.forall_mem_cons, List.forall_mem_nil, or_false, false_or, forall_eq_or_imp, forall_eq, vs_lt, Nat.add_lt_add_iff_left, Nat.reduceLT, true_and, and_true, and_self, List.length_cons, List.length_nil, Nat.reduceAdd, Nat.zero_add, implies_true, false_imp_iff, lt_T, List.mem_map]) hR hB ⟨by rw [hq]; rfl, rfl, rfl⟩
theorem rmKnown_spec (m : List (List Int)) (hm : isM m = true) (b l : List Row) : ACalls Try.prog 51 [.v (.isl 1 (m.map eRw))] b l (fun r b' l' => r = .v (.isl 1 ((knownM m).map eI)) ∧ b' = b ∧ l' = l) := by
  refine calls_kept a_rmKnown_ok rfl (by decide) ?_
  intro B g hB hR hE hA
  simp only [KArgs] at hA
  obtain ⟨l1, l2, l3, _⟩ := isM_open hm
  have h0 : 0 < m.length := by omega
  have hr0 := rowAt_at h0
  have hl0 : m[0].length = m.length := by rw [← hr0]; exact l3 0 h0
  simp (disch := (first | decide | omega)) only [a_rmKnown, hA, List.length_map, go_sem]
  refine loop_kept_nil (ι := Nat) 3 1 r_rmKnown0 (fun j => [(3, .sl B.length j 0 j), (4, .v (.int .i64 j))]) 1 (fun j => [.live j 1 (vs ((fl j (kn m m.length)).map eI))])
    (fun j => j ≤ m.length) (fun j => m.length - j) 0 (Nat.zero_le _) (by simp (disch := decide) only [hA, go_sem]) (by decide) rfl (by (repeat (first | exact hE.mono (by omega) | refine KLt.up ?_ (by simp (disch := omega) only [AVlt_v, AVlt_any, AVlt_sl, AVlt_ptr, AVlt_mp, AVlt_agg, AVlt_tup, AVlt_fn, RowsLt_nil, RowsLt_live, RowsLt_dead, List.mem_cons, List.not_mem_nil, List.forall_mem_cons, List.forall_mem_nil, or_false, false_or, forall_eq_or_imp, forall_eq, vs_lt, Nat.add_lt_add_iff_left, Nat.reduceLT, true_and, and_true, and_self, List.length_cons, List.length_nil, Nat.reduceAdd, Nat.zero_add, implies_true, false_imp_iff, lt_T, List.mem_map])))) (by ((try simp (disch := decide) only [hA, go_sem]) <;> (repeat' (first | exact trivial | refine And.intro ?_ ?_)) <;> (first | rfl | (congr 2; omega)))) (fun e => Weak.refl _ _ _) ?_
  intro g1 hE1 hEE1 hg1 j hj
  by_cases hlt : j < m.length
  · have hj0 : j < m[0].length := by omega
    have e0 : m[0][j] = kn m 0 j := by show _ = ent m 0 j; unfold ent; rw [hr0, getD_at hj0]
    simp (disch := (first | decide | omega)) only [hA, hg1, eRw, eI, Int.reduceToNat, List.length_map, e0, go_sem]
    refine loop_kept (ι := Nat) r_rmKnown1 (fun i => [(5, .v (.int .i64 (kn m i j))), (6, .v (.int .i64 i))]) 1 (fun i => [.live j 1 (vs ((fl j (kn m m.length)).map eI))])
      (fun i => i ≤ m.length) (fun i => m.length - i) 0 (Nat.zero_le _) (by (repeat (first | exact hE1.mono (by omega) | refine KLt.up ?_ (by simp (disch := omega) only [AVlt_v, AVlt_any, AVlt_sl, AVlt_ptr, AVlt_mp, AVlt_agg, AVlt_tup, AVlt_fn, RowsLt_nil, RowsLt_live, RowsLt_dead, List.mem_cons, List.not_mem_nil, List.forall_mem_cons, List.forall_mem_nil, or_false, false_or, forall_eq_or_imp, forall_eq, vs_lt, Nat.add_lt_add_iff_left, Nat.reduceLT, true_and, and_true, and_self, List.length_cons, List.length_nil, Nat.reduceAdd, Nat.zero_add, implies_true, false_imp_iff, lt_T, List.mem_map])))) (by ((try simp (disch := decide) only [hA, hg1, go_sem]) <;> (repeat' (first | exact trivial | refine And.intro ?_ ?_)) <;> (first | rfl | (congr 2; omega)))) (fun e => Weak.refl _ _ _) ?_
    intro g2 hE2 hEE2 hg2 i hi
    by_cases hil : i < m.length
    · have hri := rowAt_at hil
      have hji : j < m[i].length := by rw [← hri, l3 i hil]; exact hlt
      have he : ent m i j = m[i][j] := by unfold ent; rw [hri, getD_at hji]
      have hm : (if m[i][j] < kn m i j then m[i][j] else kn m i j) = kn m (i + 1) j := by
        show _ = min (kn m i j) (ent m i j)
        rw [he]; split <;> omega
      simp (disch := (first | decide | omega)) only [hA, hg1, hg2, eRw, eI, hm, List.length_map, go_sem]
      refine ⟨i + 1, hil, by simp only; omega, ?_⟩
      exact Weak.kround (p := r_rmKnown1) (k := 1) (by ((repeat refine (kAny_up rfl).trans ?_); exact hEE2)) (by ((try simp (disch := decide) only [hA, go_sem]) <;> (repeat' (first | exact trivial | refine And.intro ?_ ?_)) <;> (first | rfl | (congr 2; omega)))) rfl hE2 (by simp) (by simp (disch := omega) only [KOvLt, AVlt_v, AVlt_any, AVlt_sl, AVlt_ptr, AVlt_mp, AVlt_agg, AVlt_tup, AVlt_fn, RowsLt_nil, RowsLt_live, RowsLt_dead, List.mem_cons, List.not_mem_nil, List.forall_mem_cons, List.forall_mem_nil, or_false, false_or, forall_eq_or_imp, forall_eq, vs_lt, Nat.add_lt_add_iff_left, Nat.reduceLT, true_and, and_true, and_self, List.length_cons, List.length_nil, Nat.reduceAdd, Nat.zero_add, implies_true, false_imp_iff, lt_T, List.mem_map]) hR (by simp (disch := omega) only [AVlt_v, AVlt_any, AVlt_sl, AVlt_ptr, AVlt_mp, AVlt_agg, AVlt_tup, AVlt_fn, RowsLt_nil, RowsLt_live, RowsLt_dead, List.mem_cons, List.not_mem_nil, List.forall_mem_cons, List.forall_mem_nil, or_false, false_or, forall_eq_or_imp, forall_eq, vs_lt, Nat.add_lt_add_iff_left, Nat.reduceLT, true_and, and_true, and_self, List.length_cons, List.length_nil, Nat.reduceAdd, Nat.zero_add, implies_true, false_imp_iff, lt_T, List.mem_map])
    · obtain rfl : i = m.length := by omega
      have tk : ((fl j (kn m m.length)).map eI).take j = (fl j (kn m m.length)).map eI := List.take_of_length_le (by simp [fl_len])
      have ts : (fl j (kn m m.length)).map eI ++ [[.int .i64 (kn m m.length j)]] = (fl (j + 1) (kn m m.length)).map eI := by
        rw [← fl_next (f := kn m m.length) rfl, List.map_append]; rfl
      simp (disch := (first | decide | omega)) only [hA, hg1, hg2, eI, List.length_map, fl_len, List.replicate_succ, List.replicate_zero, tk, ts, go_sem]
      refine ⟨j + 1, hlt, by simp only; omega, ?_⟩
      exact Weak.kround (p := r_rmKnown0) (k := 1) (by ((repeat refine (kAny_up rfl).trans ?_); refine (kAny_sub hg2 (kIn_sub rfl)).trans ?_; (repeat refine (kAny_up rfl).trans ?_); exact hEE1)) (by ((try simp (disch := decide) only [hA, hg1, go_sem]) <;> (repeat' (first | exact trivial | refine And.intro ?_ ?_)) <;> (first | rfl | (congr 2; omega)))) rfl hE1 (by simp) (by simp (disch := omega) only [KOvLt, AVlt_v, AVlt_any, AVlt_sl, AVlt_ptr, AVlt_mp, AVlt_agg, AVlt_tup, AVlt_fn, RowsLt_nil, RowsLt_live, RowsLt_dead, List.mem_cons, List.not_mem_nil, List.forall_mem_cons, List.forall_mem_nil, or_false, false_or, forall_eq_or_imp, forall_eq, vs_lt, Nat.add_lt_add_iff_left, Nat.reduceLT, true_and, and_true, and_self, List.length_cons, List.length_nil, Nat.reduceAdd, Nat.zero_add, implies_true, false_imp_iff, lt_T, List.mem_map]) hR (by simp (disch := omega) only [AVlt_v, AVlt_any, AVlt_sl, AVlt_ptr, AVlt_mp, AVlt_agg, AVlt_tup, AVlt_fn, RowsLt_nil, RowsLt_live, RowsLt_dead, List.mem_cons, List.not_mem_nil, List.forall_mem_cons, List.forall_mem_nil, or_false, false_or, forall_eq_or_imp, forall_eq, vs_lt, Nat.add_lt_add_iff_left, Nat.reduceLT, true_and, and_true, and_self, List.length_cons, List.length_nil, Nat.reduceAdd, Nat.zero_add, implies_true, false_imp_iff, lt_T, List.mem_map])
  · simp (disch := (first | decide | omega)) only [hA, hg1, List.length_map, go_sem]
    obtain rfl : j = m.length := by omega
    exact leave_frz (i := 0) (n := m.length) (rows := (knownM m).map eI) (.inr rfl) (by simp (disch := (first | decide | omega)) only [resVs, resV, hA, hg1, go_sem]) rfl (by simp [knownM, fl_len]) hR hB ⟨rfl, rfl, rfl⟩
/-! A matrix that is written entry by entry. -/
def rowsF (f : Nat → List Int) (j : Nat) : List (List IV) := (f j).map eI
def phF (n : Nat) (a z : Nat → Nat → Int) (i k j : Nat) : List Int := fl n fun c => if j < i ∨ (j = i ∧ c < k) then a j c else z j c
section
variable {n v0 base i k v : Nat} {a z : Nat → Nat → Int}
theorem ph_len {j : Nat} : (phF n a z i k j).length = n := fl_len
theorem rowsF_len {f : Nat → List Int} {j : Nat} : (rowsF f j).length = (f j).length := by simp [rowsF]
theorem ph_at (h : k < (phF n a z i k i).length) : (phF n a z i k i)[k] = z i k :=
  (fl_getE (f := fun c => if i < i ∨ (i = i ∧ c < k) then a i c else z i c) h).trans (if_neg (by omega))
theorem ph_put : (mR n v0 base 1 0 (fun _ => v) (rowsF (phF n a z i k))).set (i + 1) (.live v 1 (vs (((phF n a z i k i).map eI).set k [.int .i64 (a i k)]))) = mR n v0 base 1 0 (fun _ => v) (rowsF (phF n a z i (k + 1))) := by
  rw [mR_put rfl (by rw [List.length_set, List.length_map, rowsF_len])]
  refine mR_congr (fun j hj => ?_)
  unfold fUp rowsF
  by_cases hji : j = i
  · subst hji
    rw [if_pos rfl, show [IV.int .i64 (a j k)] = eI (a j k) from rfl, ← List.map_set]
    congr 1
    unfold phF
    rw [fl_set]
    refine fl_congr (fun c hc => ?_)
    unfold fUp
    by_cases hck : c = k
    · subst hck; rw [if_pos rfl, if_pos (by omega)]
    · rw [if_neg hck]
      show (if j < j ∨ j = j ∧ c < k then a j c else z j c) = (if j < j ∨ j = j ∧ c < k + 1 then a j c else z j c)
      by_cases h2 : c < k
      · rw [if_pos (by omega), if_pos (by omega)]
      · rw [if_neg (by omega), if_neg (by omega)]
  · rw [if_neg hji]
    congr 1
    unfold phF
    refine fl_congr (fun c hc => ?_)
    by_cases h2 : j < i
    · rw [if_pos (by omega), if_pos (by omega)]
    · rw [if_neg (by omega), if_neg (by omega)]
theorem ph_next : mR n v0 base 1 0 (fun _ => v) (rowsF (phF n a z i n)) = mR n v0 base 1 0 (fun _ => v) (rowsF (phF n a z (i + 1) 0)) := by
  refine mR_congr (fun j hj => ?_)
  unfold rowsF phF
  congr 1
  refine fl_congr (fun c hc => ?_)
  by_cases h2 : j ≤ i
  · rw [if_pos (by omega), if_pos (by omega)]
  · rw [if_neg (by omega), if_neg (by omega)]
theorem ph_start : phF n a z 0 0 = fun j => fl n (z j) := by
  funext j
  unfold phF
  refine fl_congr (fun c hc => ?_)
  rw [if_neg (by omega)]
theorem ph_end {j : Nat} (hj : j < n) : phF n a z n 0 j = fl n (a j) := by
  unfold phF
  refine fl_congr (fun c hc => ?_)
  rw [if_pos (by omega)]
end
theorem row_fl {m : List (List Int)} {j n : Nat} (h : (rowAt m j).length = n) : fl n (ent m j) = rowAt m j := by
  rw [← fl_list (l := rowAt m j) (d := 0), h]; rfl
theorem rmCopy_spec (m : List (List Int)) (hm : isM m = true) (b l : List Row) : ACalls Try.prog 98 [.v (.isl 1 (m.map eRw))] b l (fun r b' l' => r = .sl (b.length + l.length) m.length 0 m.length ∧ b' = b ∧ l' = l ++ mR m.length m.length (b.length + l.length) 1 0 (fun _ => 0) (rowsM m)) := by
  refine calls_kept a_rmCopy_ok rfl (by decide) ?_
  intro B g hB hR hE hA
  simp only [KArgs] at hA
  obtain ⟨l1, l2, l3, _⟩ := isM_open hm
  simp (disch := decide) only [a_rmCopy, hA, List.length_map, go_sem]
  refine ACalls.nxt (rmZero_spec m.length (by omega) _ _) ?_
  have r0 : mR m.length m.length (B.length + 0) 1 0 (fun _ => 0) (zRows m.length) = mR m.length m.length B.length 1 0 (fun _ => 0) (rowsF (phF m.length (ent m) (fun _ _ => 0) 0 0)) := mR_congr (fun j hj => by
    unfold zRows rowsF; rw [ph_start]
    congr 1
    apply List.ext_getElem?
    intro c
    by_cases hc : c < m.length
    · rw [fl_get hc, List.getElem?_replicate, if_pos hc]
    · rw [fl_none (by omega), List.getElem?_replicate, if_neg hc])
  rw [List.length_nil, r0]
  simp (disch := (first | decide | omega)) only [hA, go_sem]
  refine loop_kept (ι := Nat) r_rmCopy0 (fun i => [(4, .v (.int .i64 i))]) 1 (fun i => mR m.length m.length B.length 1 0 (fun _ => 0) (rowsF (phF m.length (ent m) (fun _ _ => 0) i 0)))
    (fun i => i ≤ m.length) (fun i => m.length - i) 0 (Nat.zero_le _) (by (repeat (first | exact hE.mono (by omega) | refine KLt.up ?_ (by simp (disch := omega) only [AVlt_v, AVlt_any, AVlt_sl, AVlt_ptr, AVlt_mp, AVlt_agg, AVlt_tup, AVlt_fn, RowsLt_nil, RowsLt_live, RowsLt_dead, List.mem_cons, List.not_mem_nil, List.forall_mem_cons, List.forall_mem_nil, or_false, false_or, forall_eq_or_imp, forall_eq, vs_lt, Nat.add_lt_add_iff_left, Nat.reduceLT, true_and, and_true, and_self, List.length_cons, List.length_nil, Nat.reduceAdd, Nat.zero_add, implies_true, false_imp_iff, lt_T, List.mem_map])))) (by ((try simp (disch := decide) only [hA, go_sem]) <;> (repeat' (first | exact trivial | refine And.intro ?_ ?_)) <;> (first | rfl | (congr 2; omega)))) (fun e => Weak.refl _ _ _) ?_
  intro g1 hE1 hEE1 hg1 i hi
  by_cases hlt : i < m.length
  · have hri := rowAt_at hlt
    have hil : m[i].length = m.length := by rw [← hri, l3 i hlt]
    simp (disch := (first | decide | omega)) only [hA, hg1, List.length_map, go_sem]
    refine loop_kept (ι := Nat) r_rmCopy1 (fun k => [(5, .v (.int .i64 k))]) 1 (fun k => mR m.length m.length B.length 1 0 (fun _ => 0) (rowsF (phF m.length (ent m) (fun _ _ => 0) i k)))
      (fun k => k ≤ m.length) (fun k => m.length - k) 0 (Nat.zero_le _) (by (repeat (first | exact hE1.mono (by omega) | refine KLt.up ?_ (by simp (disch := omega) only [AVlt_v, AVlt_any, AVlt_sl, AVlt_ptr, AVlt_mp, AVlt_agg, AVlt_tup, AVlt_fn, RowsLt_nil, RowsLt_live, RowsLt_dead, List.mem_cons, List.not_mem_nil, List.forall_mem_cons, List.forall_mem_nil, or_false, false_or, forall_eq_or_imp, forall_eq, vs_lt, Nat.add_lt_add_iff_left, Nat.reduceLT, true_and, and_true, and_self, List.length_cons, List.length_nil, Nat.reduceAdd, Nat.zero_add, implies_true, false_imp_iff, lt_T, List.mem_map])))) (by ((try simp (disch := decide) only [hA, hg1, go_sem]) <;> (repeat' (first | exact trivial | refine And.intro ?_ ?_)) <;> (first | rfl | (congr 2; omega)))) (fun e => Weak.refl _ _ _) ?_
    intro g2 hE2 hEE2 hg2 k hk
    by_cases hkl : k < m.length
    · have hki : k < m[i].length := by omega
      have he : m[i][k] = ent m i k := by unfold ent; rw [hri, getD_at hki]
      have hgO := mR_first (n := m.length) (v0 := m.length) (sz := 1) (B := B) (ver := fun _ => 0) (R := rowsF (phF m.length (ent m) (fun _ _ => 0) i k))
      have hgI := mR_at0 (v0 := m.length) (base := B.length) (sz := 1) (ver := fun _ => 0) (R := rowsF (phF m.length (ent m) (fun _ _ => 0) i k)) hlt
      have hfi : rowsF (phF m.length (ent m) (fun _ _ => 0) i k) i = (phF m.length (ent m) (fun _ _ => 0) i k i).map eI := rfl
      have hpl := ph_len (n := m.length) (a := ent m) (z := fun _ _ => 0) (i := i) (k := k) (j := i)
      have hpp := ph_put (n := m.length) (v0 := m.length) (base := B.length) (v := 0) (a := ent m) (z := fun _ _ => 0) (i := i) (k := k)
      simp (disch := (first | decide | omega)) only [hA, hg1, hg2, hgO, hgI, hfi, hpl, fl_len, fl_get, mC_0, eRw, eI, he, List.length_map, setFrom, cellsOf, hpp, go_sem]
      refine ⟨k + 1, hkl, by simp only; omega, ?_⟩
      exact Weak.kround (l1 := mR m.length m.length B.length 1 0 (fun _ => 0) (rowsF (phF m.length (ent m) (fun _ _ => 0) i (k + 1)))) (p := r_rmCopy1) (k := 1) (by ((repeat refine (kAny_up rfl).trans ?_); exact hEE2)) (by ((try simp (disch := decide) only [hA, go_sem]) <;> (repeat' (first | exact trivial | refine And.intro ?_ ?_)) <;> (first | rfl | (congr 2; omega)))) (junk := []) (by rw [List.append_nil]) hE2 (by rw [mR_len]; omega) (by simp (disch := omega) only [KOvLt, AVlt_v, AVlt_any, AVlt_sl, AVlt_ptr, AVlt_mp, AVlt_agg, AVlt_tup, AVlt_fn, RowsLt_nil, RowsLt_live, RowsLt_dead, List.mem_cons, List.not_mem_nil, List.forall_mem_cons, List.forall_mem_nil, or_false, false_or, forall_eq_or_imp, forall_eq, vs_lt, Nat.add_lt_add_iff_left, Nat.reduceLT, true_and, and_true, and_self, List.length_cons, List.length_nil, Nat.reduceAdd, Nat.zero_add, implies_true, false_imp_iff, lt_T, List.mem_map]) hR (mR_lt (by rw [mR_len]; omega))
    · simp (disch := (first | decide | omega)) only [hA, hg1, hg2, List.length_map, go_sem]
      obtain rfl : k = m.length := by omega
      rw [ph_next]
      refine ⟨i + 1, hlt, by simp only; omega, ?_⟩
      exact Weak.kround (l1 := mR m.length m.length B.length 1 0 (fun _ => 0) (rowsF (phF m.length (ent m) (fun _ _ => 0) (i + 1) 0))) (p := r_rmCopy0) (k := 1) (by ((repeat refine (kAny_up rfl).trans ?_); refine (kAny_sub hg2 (kIn_sub rfl)).trans ?_; (repeat refine (kAny_up rfl).trans ?_); exact hEE1)) (by ((try simp (disch := decide) only [hA, hg1, go_sem]) <;> (repeat' (first | exact trivial | refine And.intro ?_ ?_)) <;> (first | rfl | (congr 2; omega)))) (junk := []) (by rw [List.append_nil]) hE1 (by rw [mR_len]; omega) (by simp (disch := omega) only [KOvLt, AVlt_v, AVlt_any, AVlt_sl, AVlt_ptr, AVlt_mp, AVlt_agg, AVlt_tup, AVlt_fn, RowsLt_nil, RowsLt_live, RowsLt_dead, List.mem_cons, List.not_mem_nil, List.forall_mem_cons, List.forall_mem_nil, or_false, false_or, forall_eq_or_imp, forall_eq, vs_lt, Nat.add_lt_add_iff_left, Nat.reduceLT, true_and, and_true, and_self, List.length_cons, List.length_nil, Nat.reduceAdd, Nat.zero_add, implies_true, false_imp_iff, lt_T, List.mem_map]) hR (mR_lt (by rw [mR_len]; omega))
  · simp (disch := (first | decide | omega)) only [hA, hg1, List.length_map, go_sem]
    obtain rfl : i = m.length := by omega
    have hBl : B.length = b.length + l.length := by rw [hB, List.length_append]
    have hend : mR m.length m.length B.length 1 0 (fun _ => 0) (rowsF (phF m.length (ent m) (fun _ _ => 0) m.length 0)) = mR m.length m.length B.length 1 0 (fun _ => 0) (rowsM m) := mR_congr (fun j hj => by
      unfold rowsF rowsM; rw [ph_end hj, row_fl (l3 j hj)])
    rw [hend]
    exact leave_keep (y := .sl B.length m.length 0 m.length) (keep := mR m.length m.length B.length 1 0 (fun _ => 0) (rowsM m)) (junk := []) (.inr rfl) (by simp (disch := (first | decide | omega)) only [resVs, resV, hA, hg1, go_sem]) (by rw [List.append_nil]) hR (by rw [mR_len]; exact .sl _ _ _ _ (by omega)) (mR_lt (by rw [mR_len]; omega)) hB ⟨by rw [hBl], rfl, by rw [hBl]⟩
theorem isM_mk {m : List (List Int)} (h1 : 1 ≤ m.length) (h2 : m.length ≤ 8) (h3 : ∀ i, i < m.length → (rowAt m i).length = m.length) (h4 : ∀ i j, i < m.length → j < m.length → 0 ≤ ent m i j ∧ ent m i j ≤ 1125899906842624) : isM m = true := by
  have : (List.range m.length).any (badRowAt m) = false := by
    rw [List.any_eq_false]
    intro i hi
    have hi := List.mem_range.1 hi
    unfold badRowAt badRow
    rw [h3 i hi]
    have h5 : (List.range m.length).any (vBadAt (rowAt m i)) = false := by
      rw [List.any_eq_false]
      intro j hj
      have := h4 i j hi (List.mem_range.1 hj)
      unfold ent at this
      simp only [vBadAt, vBad, Bool.or_eq_true, decide_eq_true_eq]
      omega
    rw [h5]; simp
  simp [isM, h1, h2, this]
theorem recv_isM {m got : List (List Int)} {p q : Nat} (h1 : isM m = true) (h2 : isM got = true) (h3 : got.length = m.length) (hp : p < m.length) (hq : q < m.length) : isM (recvM m p got q) = true := by
  obtain ⟨l1, l2, l3, l4⟩ := isM_open h1
  obtain ⟨k1, k2, k3, k4⟩ := isM_open h2
  obtain ⟨_, hl⟩ := recv_fit h1 h2 h3 hp hq
  have rl : (recvM m p got q).length = m.length := fl_len
  refine isM_mk (by omega) (by omega) (fun i hi => ?_) (fun i j hi hj => ?_)
  · rw [rl] at hi ⊢
    rw [recvM_row hi, hl i hi]
  · rw [rl] at hi hj
    unfold ent
    rw [recvM_row hi]
    have a1 := l4 i j hi hj
    have a2 := k4 i j (by omega) (by omega)
    have a3 := l4 p j hp hj
    have a4 := k4 p j (by omega) (by omega)
    have a5 := k4 q j (by omega) (by omega)
    have jg : ∀ i, i < m.length → (joinV (rowAt m i) (rowAt got i)).getD j 0 = max ((rowAt m i).getD j 0) ((rowAt got i).getD j 0) := fun i hi => joinV_get (by rw [l3 i hi, k3 i (by omega)]; omega) (by rw [l3 i hi]; exact hj)
    unfold recvF
    split
    · have jl : (joinV (rowAt m p) (rowAt got p)).length = m.length := by rw [joinV_len (by rw [l3 p hp, k3 p (by omega)]; omega), l3 p hp]
      rw [joinV_get (by rw [jl, k3 q (by omega)]; omega) (by rw [jl]; exact hj), jg p hp]
      omega
    · rw [jg i hi]
      omega
def rTickR (m : List (List Int)) (p : Nat) : AV := .tup [.v (.isl 1 ((tickM m p).map eRw)), .v (.bool (decide (ent m p p + 1 ≤ 1125899906842624)))]
theorem rmTick_spec (m : List (List Int)) (hm : isM m = true) (n : Nat) (hn : n < m.length) (b l : List Row) : ACalls Try.prog 52 [.v (.isl 1 (m.map eRw)), .v (.int .i64 n)] b l (fun r b' l' => r = rTickR m n ∧ b' = b ∧ l' = l) := by
  refine calls_kept a_rmTick_ok rfl (by decide) ?_
  intro B g hB hR hE hA
  simp only [KArgs] at hA
  obtain ⟨l1, l2, l3, l4⟩ := isM_open hm
  have hri := rowAt_at hn
  have hil : m[n].length = m.length := by rw [← hri, l3 n hn]
  have hnl : n < m[n].length := by omega
  have hg := getD_at (d := 0) hnl
  have he : ent m n n = m[n][n] := by unfold ent; rw [hri, hg]
  have hr := l4 n n hn hn
  rw [hri, hg] at hr
  simp (disch := decide) only [a_rmTick, hA, List.length_map, go_sem]
  refine ACalls.nxt (rmCopy_spec m hm _ _) ?_
  rw [List.length_nil, Nat.add_zero, List.nil_append]
  have hgO := mR_first (n := m.length) (v0 := m.length) (sz := 1) (B := B) (ver := fun _ => 0) (R := rowsM m)
  have hgI := mR_at0 (v0 := m.length) (base := B.length) (sz := 1) (ver := fun _ => 0) (R := rowsM m) hn
  have hRn : rowsM m n = m[n].map eI := by unfold rowsM; rw [hri]
  have hst : (m[n].map eI).set n [.int .i64 (m[n][n] + 1)] = (m[n].set n (m[n][n] + 1)).map eI := by rw [List.map_set]; rfl
  have hsl : (m[n].set n (m[n][n] + 1)).length = m.length := by rw [List.length_set, hil]
  have hmp := mR_put (n := m.length) (v0 := m.length) (base := B.length) (sz := 1) (p := n) (v := 0) (ver := fun _ => 0) (R := rowsM m) (x := (m[n].set n (m[n][n] + 1)).map eI) rfl (by rw [hRn, List.length_map, List.length_map, hsl, hil])
  have hgO2 := mR_first (n := m.length) (v0 := m.length) (sz := 1) (B := B) (ver := fun _ => 0) (R := fUp (rowsM m) n ((m[n].set n (m[n][n] + 1)).map eI))
  have hgI2 := mR_at0 (v0 := m.length) (base := B.length) (sz := 1) (ver := fun _ => 0) (R := fUp (rowsM m) n ((m[n].set n (m[n][n] + 1)).map eI)) hn
  have hsg : ∀ h : n < (m[n].set n (m[n][n] + 1)).length, (m[n].set n (m[n][n] + 1))[n] = m[n][n] + 1 := fun h => by simp
  have hfin : mV m.length 1 (fUp (rowsM m) n ((m[n].set n (m[n][n] + 1)).map eI)) = (tickM m n).map eRw := by
    unfold tickM
    rw [← mV_rows]
    congr 1
    funext j
    unfold fUp rowsM
    by_cases hj : j = n
    · rw [if_pos hj, if_pos hj, he, hri]
    · rw [if_neg hj, if_neg hj]
  simp (disch := (first | decide | omega)) only [hA, hgO, hgI, hRn, hil, fl_len, fl_get, mC_0, eI, List.length_map, setFrom, cellsOf, hst, hmp, hgO2, hgI2, fUp_same, hsl, hsg, go_sem]
  refine leave_mat2 (n := m.length) (v0 := m.length) (sz := 1) (ver := fun _ => 0) (R := fUp (rowsM m) n ((m[n].set n (m[n][n] + 1)).map eI)) (z := .bool (decide (m[n][n] + 1 ≤ 1125899906842624))) (junk := []) (.inr rfl) (by simp (disch := (first | decide | omega)) only [resVs, resV, hA, go_sem]) (by rw [List.append_nil]) hR hB ⟨?_, rfl, rfl⟩
  rw [rTickR, hfin, he]
/-! Receive of the reference. -/
def jaF (m got : List (List Int)) (i c : Nat) : Int := max (ent m i c) (ent got i c)
def jqF (m got : List (List Int)) (p q j c : Nat) : Int := if j = p then max (jaF m got p c) (ent got q c) else jaF m got j c
/-- The row p, of which the first k entries are joined once more. -/
def qF (n : Nat) (m got : List (List Int)) (p q k j : Nat) : List Int := fl n fun c => if j = p ∧ c < k then jqF m got p q p c else jaF m got j c
section
variable {n v0 base k v p q : Nat} {m got : List (List Int)}
theorem q_len {j : Nat} : (qF n m got p q k j).length = n := fl_len
theorem q_at (h : k < (qF n m got p q k p).length) : (qF n m got p q k p)[k] = jaF m got p k :=
  (fl_getE (f := fun c => if p = p ∧ c < k then jqF m got p q p c else jaF m got p c) h).trans (if_neg (by omega))
theorem q_put : (mR n v0 base 1 0 (fun _ => v) (rowsF (qF n m got p q k))).set (p + 1) (.live v 1 (vs (((qF n m got p q k p).map eI).set k [.int .i64 (jqF m got p q p k)]))) = mR n v0 base 1 0 (fun _ => v) (rowsF (qF n m got p q (k + 1))) := by
  rw [mR_put rfl (by rw [List.length_set, List.length_map, rowsF_len])]
  refine mR_congr (fun j hj => ?_)
  unfold fUp rowsF
  by_cases hji : j = p
  · subst hji
    rw [if_pos rfl, show [IV.int .i64 (jqF m got j q j k)] = eI (jqF m got j q j k) from rfl, ← List.map_set]
    congr 1
    unfold qF
    rw [fl_set]
    refine fl_congr (fun c hc => ?_)
    unfold fUp
    by_cases hck : c = k
    · subst hck; rw [if_pos rfl, if_pos (by omega)]
    · rw [if_neg hck]
      show (if j = j ∧ c < k then jqF m got j q j c else jaF m got j c) = (if j = j ∧ c < k + 1 then jqF m got j q j c else jaF m got j c)
      by_cases h2 : c < k
      · rw [if_pos (by omega), if_pos (by omega)]
      · rw [if_neg (by omega), if_neg (by omega)]
  · rw [if_neg hji]
    congr 1
    unfold qF
    refine fl_congr (fun c hc => ?_)
    rw [if_neg (by omega), if_neg (by omega)]
end
theorem joinV_fl {v w : List Int} {n : Nat} (h1 : v.length = n) (h2 : w.length = n) : joinV v w = fl n fun c => max (v.getD c 0) (w.getD c 0) := by
  refine ext_getD (by rw [joinV_len (by omega), fl_len, h1]) (fun i hi => ?_)
  rw [joinV_len (by omega)] at hi
  rw [joinV_get (by omega) hi, fl_getD (by omega)]
def rRecvR (m : List (List Int)) (p : Nat) (got : List (List Int)) (q : Nat) : AV := rTickR (recvM m p got q) p
set_option maxRecDepth 20000 in
theorem rmReceive_spec (m got : List (List Int)) (hm : isM m = true) (hg : isM got = true) (hl : got.length = m.length) (p q : Nat) (hp : p < m.length) (hq : q < m.length) (b l : List Row) : ACalls Try.prog 55 [.v (.isl 1 (m.map eRw)), .v (.int .i64 p), .v (.isl 1 (got.map eRw)), .v (.int .i64 q)] b l (fun r b' l' => r = rRecvR m p got q ∧ b' = b ∧ l' = l) := by
  refine calls_kept a_rmReceive_ok rfl (by decide) ?_
  intro B g hB hR hE hA
  simp only [KArgs] at hA
  obtain ⟨l1, l2, l3, _⟩ := isM_open hm
  obtain ⟨k1, k2, k3, _⟩ := isM_open hg
  simp (disch := decide) only [a_rmReceive, hA, List.length_map, go_sem]
  refine ACalls.nxt (rmCopy_spec m hm _ _) ?_
  have r0 : mR m.length m.length (B.length + 0) 1 0 (fun _ => 0) (rowsM m) = mR m.length m.length B.length 1 0 (fun _ => 0) (rowsF (phF m.length (jaF m got) (ent m) 0 0)) := mR_congr (fun j hj => by
    unfold rowsM rowsF; rw [ph_start]; show _ = List.map eI (fl m.length (ent m j)); rw [row_fl (l3 j hj)])
  rw [List.length_nil, r0]
  simp (disch := (first | decide | omega)) only [hA, go_sem]
  refine loop_kept (ι := Nat) r_rmReceive0 (fun i => [(11, .v (.int .i64 i))]) 1 (fun i => mR m.length m.length B.length 1 0 (fun _ => 0) (rowsF (phF m.length (jaF m got) (ent m) i 0)))
    (fun i => i ≤ m.length) (fun i => m.length - i) 0 (Nat.zero_le _) (by (repeat (first | exact hE.mono (by omega) | refine KLt.up ?_ (by simp (disch := omega) only [AVlt_v, AVlt_any, AVlt_sl, AVlt_ptr, AVlt_mp, AVlt_agg, AVlt_tup, AVlt_fn, RowsLt_nil, RowsLt_live, RowsLt_dead, List.mem_cons, List.not_mem_nil, List.forall_mem_cons, List.forall_mem_nil, or_false, false_or, forall_eq_or_imp, forall_eq, vs_lt, Nat.add_lt_add_iff_left, Nat.reduceLT, true_and, and_true, and_self, List.length_cons, List.length_nil, Nat.reduceAdd, Nat.zero_add, implies_true, false_imp_iff, lt_T, List.mem_map])))) (by ((try simp (disch := decide) only [hA, go_sem]) <;> (repeat' (first | exact trivial | refine And.intro ?_ ?_)) <;> (first | rfl | (congr 2; omega)))) (fun e => Weak.refl _ _ _) ?_
  intro g1 hE1 hEE1 hg1 i hi
  by_cases hlt : i < m.length
  · have hlg : i < got.length := by omega
    have hri := rowAt_at hlt
    have hgi := rowAt_at hlg
    have hgl : got[i].length = m.length := by rw [← hgi, k3 i hlg, hl]
    simp (disch := (first | decide | omega)) only [hA, hg1, List.length_map, go_sem]
    refine loop_kept (ι := Nat) r_rmReceive1 (fun k => [(12, .v (.int .i64 k))]) 1 (fun k => mR m.length m.length B.length 1 0 (fun _ => 0) (rowsF (phF m.length (jaF m got) (ent m) i k)))
      (fun k => k ≤ m.length) (fun k => m.length - k) 0 (Nat.zero_le _) (by (repeat (first | exact hE1.mono (by omega) | refine KLt.up ?_ (by simp (disch := omega) only [AVlt_v, AVlt_any, AVlt_sl, AVlt_ptr, AVlt_mp, AVlt_agg, AVlt_tup, AVlt_fn, RowsLt_nil, RowsLt_live, RowsLt_dead, List.mem_cons, List.not_mem_nil, List.forall_mem_cons, List.forall_mem_nil, or_false, false_or, forall_eq_or_imp, forall_eq, vs_lt, Nat.add_lt_add_iff_left, Nat.reduceLT, true_and, and_true, and_self, List.length_cons, List.length_nil, Nat.reduceAdd, Nat.zero_add, implies_true, false_imp_iff, lt_T, List.mem_map])))) (by ((try simp (disch := decide) only [hA, hg1, go_sem]) <;> (repeat' (first | exact trivial | refine And.intro ?_ ?_)) <;> (first | rfl | (congr 2; omega)))) (fun e => Weak.refl _ _ _) ?_
    intro g2 hE2 hEE2 hg2 k hk
    by_cases hkl : k < m.length
    · have hkg : k < got[i].length := by omega
      have he : got[i][k] = ent got i k := by unfold ent; rw [hgi, getD_at hkg]
      have hgO := mR_first (n := m.length) (v0 := m.length) (sz := 1) (B := B) (ver := fun _ => 0) (R := rowsF (phF m.length (jaF m got) (ent m) i k))
      have hgI := mR_at0 (v0 := m.length) (base := B.length) (sz := 1) (ver := fun _ => 0) (R := rowsF (phF m.length (jaF m got) (ent m) i k)) hlt
      have hfi : rowsF (phF m.length (jaF m got) (ent m) i k) i = (phF m.length (jaF m got) (ent m) i k i).map eI := rfl
      have hpl := ph_len (n := m.length) (a := jaF m got) (z := ent m) (i := i) (k := k) (j := i)
      have hpa := ph_at (n := m.length) (a := jaF m got) (z := ent m) (i := i) (k := k) (by rw [hpl]; exact hkl)
      have hpp := ph_put (n := m.length) (v0 := m.length) (base := B.length) (v := 0) (a := jaF m got) (z := ent m) (i := i) (k := k)
      have hmx : (if ent m i k < ent got i k then ent got i k else ent m i k) = jaF m got i k := by unfold jaF; split <;> omega
      simp (disch := (first | decide | omega)) only [hA, hg1, hg2, hgO, hgI, hfi, hpl, hpa, fl_len, fl_get, mC_0, eRw, eI, he, hmx, List.length_map, setFrom, cellsOf, hpp, go_sem]
      refine ⟨k + 1, hkl, by simp only; omega, ?_⟩
      exact Weak.kround (l1 := mR m.length m.length B.length 1 0 (fun _ => 0) (rowsF (phF m.length (jaF m got) (ent m) i (k + 1)))) (p := r_rmReceive1) (k := 1) (by ((repeat refine (kAny_up rfl).trans ?_); exact hEE2)) (by ((try simp (disch := decide) only [hA, go_sem]) <;> (repeat' (first | exact trivial | refine And.intro ?_ ?_)) <;> (first | rfl | (congr 2; omega)))) (junk := []) (by rw [List.append_nil]) hE2 (by rw [mR_len]; omega) (by simp (disch := omega) only [KOvLt, AVlt_v, AVlt_any, AVlt_sl, AVlt_ptr, AVlt_mp, AVlt_agg, AVlt_tup, AVlt_fn, RowsLt_nil, RowsLt_live, RowsLt_dead, List.mem_cons, List.not_mem_nil, List.forall_mem_cons, List.forall_mem_nil, or_false, false_or, forall_eq_or_imp, forall_eq, vs_lt, Nat.add_lt_add_iff_left, Nat.reduceLT, true_and, and_true, and_self, List.length_cons, List.length_nil, Nat.reduceAdd, Nat.zero_add, implies_true, false_imp_iff, lt_T, List.mem_map]) hR (mR_lt (by rw [mR_len]; omega))
    · simp (disch := (first | decide | omega)) only [hA, hg1, hg2, List.length_map, go_sem]
      obtain rfl : k = m.length := by omega
      rw [ph_next]
      refine ⟨i + 1, hlt, by simp only; omega, ?_⟩
      exact Weak.kround (l1 := mR m.length m.length B.length 1 0 (fun _ => 0) (rowsF (phF m.length (jaF m got) (ent m) (i + 1) 0))) (p := r_rmReceive0) (k := 1) (by ((repeat refine (kAny_up rfl).trans ?_); refine (kAny_sub hg2 (kIn_sub rfl)).trans ?_; (repeat refine (kAny_up rfl).trans ?_); exact hEE1)) (by ((try simp (disch := decide) only [hA, hg1, go_sem]) <;> (repeat' (first | exact trivial | refine And.intro ?_ ?_)) <;> (first | rfl | (congr 2; omega)))) (junk := []) (by rw [List.append_nil]) hE1 (by rw [mR_len]; omega) (by simp (disch := omega) only [KOvLt, AVlt_v, AVlt_any, AVlt_sl, AVlt_ptr, AVlt_mp, AVlt_agg, AVlt_tup, AVlt_fn, RowsLt_nil, RowsLt_live, RowsLt_dead, List.mem_cons, List.not_mem_nil, List.forall_mem_cons, List.forall_mem_nil, or_false, false_or, forall_eq_or_imp, forall_eq, vs_lt, Nat.add_lt_add_iff_left, Nat.reduceLT, true_and, and_true, and_self, List.length_cons, List.length_nil, Nat.reduceAdd, Nat.zero_add, implies_true, false_imp_iff, lt_T, List.mem_map]) hR (mR_lt (by rw [mR_len]; omega))
  · simp (disch := (first | decide | omega)) only [hA, hg1, List.length_map, go_sem]
    obtain rfl : i = m.length := by omega
    have r1 : mR m.length m.length B.length 1 0 (fun _ => 0) (rowsF (phF m.length (jaF m got) (ent m) m.length 0)) = mR m.length m.length B.length 1 0 (fun _ => 0) (rowsF (qF m.length m got p q 0)) := mR_congr (fun j hj => by
      unfold rowsF; rw [ph_end hj]
      congr 1
      unfold qF
      refine fl_congr (fun c hc => ?_)
      rw [if_neg (by omega)])
    rw [r1]
    have hlq : q < got.length := by omega
    have hgq := rowAt_at hlq
    have hgl : got[q].length = m.length := by rw [← hgq, k3 q hlq, hl]
    refine loop_kept (ι := Nat) r_rmReceive2 (fun k => [(13, .v (.int .i64 k))]) 1 (fun k => mR m.length m.length B.length 1 0 (fun _ => 0) (rowsF (qF m.length m got p q k)))
      (fun k => k ≤ m.length) (fun k => m.length - k) 0 (Nat.zero_le _) (by (repeat (first | exact hE1.mono (by omega) | refine KLt.up ?_ (by simp (disch := omega) only [AVlt_v, AVlt_any, AVlt_sl, AVlt_ptr, AVlt_mp, AVlt_agg, AVlt_tup, AVlt_fn, RowsLt_nil, RowsLt_live, RowsLt_dead, List.mem_cons, List.not_mem_nil, List.forall_mem_cons, List.forall_mem_nil, or_false, false_or, forall_eq_or_imp, forall_eq, vs_lt, Nat.add_lt_add_iff_left, Nat.reduceLT, true_and, and_true, and_self, List.length_cons, List.length_nil, Nat.reduceAdd, Nat.zero_add, implies_true, false_imp_iff, lt_T, List.mem_map])))) (by ((try simp (disch := decide) only [hA, hg1, go_sem]) <;> (repeat' (first | exact trivial | refine And.intro ?_ ?_)) <;> (first | rfl | (congr 2; omega)))) (fun e => Weak.refl _ _ _) ?_
    intro g2 hE2 hEE2 hg2 k hk
    by_cases hkl : k < m.length
    · have hkg : k < got[q].length := by omega
      have he : got[q][k] = ent got q k := by unfold ent; rw [hgq, getD_at hkg]
      have hgO := mR_first (n := m.length) (v0 := m.length) (sz := 1) (B := B) (ver := fun _ => 0) (R := rowsF (qF m.length m got p q k))
      have hgI := mR_at0 (v0 := m.length) (base := B.length) (sz := 1) (ver := fun _ => 0) (R := rowsF (qF m.length m got p q k)) hp
      have hfi : rowsF (qF m.length m got p q k) p = (qF m.length m got p q k p).map eI := rfl
      have hpl := q_len (n := m.length) (m := m) (got := got) (p := p) (q := q) (k := k) (j := p)
      have hpa := q_at (n := m.length) (m := m) (got := got) (p := p) (q := q) (k := k) (by rw [hpl]; exact hkl)
      have hpp := q_put (n := m.length) (v0 := m.length) (base := B.length) (v := 0) (m := m) (got := got) (p := p) (q := q) (k := k)
      have hmx : (if jaF m got p k < ent got q k then ent got q k else jaF m got p k) = jqF m got p q p k := by unfold jqF; rw [if_pos rfl]; split <;> omega
      simp (disch := (first | decide | omega)) only [hA, hg1, hg2, hgO, hgI, hfi, hpl, hpa, fl_len, fl_get, mC_0, eRw, eI, he, hmx, List.length_map, setFrom, cellsOf, hpp, go_sem]
      refine ⟨k + 1, hkl, by simp only; omega, ?_⟩
      exact Weak.kround (l1 := mR m.length m.length B.length 1 0 (fun _ => 0) (rowsF (qF m.length m got p q (k + 1)))) (p := r_rmReceive2) (k := 1) (by ((repeat refine (kAny_up rfl).trans ?_); exact hEE2)) (by ((try simp (disch := decide) only [hA, go_sem]) <;> (repeat' (first | exact trivial | refine And.intro ?_ ?_)) <;> (first | rfl | (congr 2; omega)))) (junk := []) (by rw [List.append_nil]) hE2 (by rw [mR_len]; omega) (by simp (disch := omega) only [KOvLt, AVlt_v, AVlt_any, AVlt_sl, AVlt_ptr, AVlt_mp, AVlt_agg, AVlt_tup, AVlt_fn, RowsLt_nil, RowsLt_live, RowsLt_dead, List.mem_cons, List.not_mem_nil, List.forall_mem_cons, List.forall_mem_nil, or_false, false_or, forall_eq_or_imp, forall_eq, vs_lt, Nat.add_lt_add_iff_left, Nat.reduceLT, true_and, and_true, and_self, List.length_cons, List.length_nil, Nat.reduceAdd, Nat.zero_add, implies_true, false_imp_iff, lt_T, List.mem_map]) hR (mR_lt (by rw [mR_len]; omega))
    · simp (disch := (first | decide | omega)) only [hA, hg1, hg2, List.length_map, go_sem]
      obtain rfl : k = m.length := by omega
      have hrows : ∀ j, j < m.length → qF m.length m got p q m.length j = recvF m got p q j := by
        intro j hj
        have jf : ∀ i, i < m.length → joinV (rowAt m i) (rowAt got i) = fl m.length fun c => jaF m got i c := fun i hi => joinV_fl (l3 i hi) (by rw [k3 i (by omega), hl])
        unfold qF recvF
        by_cases hjp : j = p
        · subst hjp
          rw [if_pos rfl, jf j hj, joinV_fl fl_len (by rw [k3 q hlq, hl])]
          refine fl_congr (fun c hc => ?_)
          rw [if_pos ⟨rfl, hc⟩, fl_getD hc]
          unfold jqF; rw [if_pos rfl]; rfl
        · rw [if_neg hjp, jf j hj]
          refine fl_congr (fun c hc => ?_)
          rw [if_neg (by omega)]
      have r2 : mR m.length m.length B.length 1 0 (fun _ => 0) (rowsF (qF m.length m got p q m.length)) = mR m.length m.length B.length 1 0 (fun _ => 0) (fun j => (recvF m got p q j).map eI) := mR_congr (fun j hj => by
        unfold rowsF; rw [hrows j hj])
      rw [r2]
      have hmv : mV m.length 1 (fun j => (recvF m got p q j).map eI) = (recvM m p got q).map eRw := mV_rows
      refine ACalls.mat (args' := [.v (.isl 1 (mV m.length 1 (fun j => (recvF m got p q j).map eI))), .v (.int .i64 p)]) (fun i hi => ?_) (by
        have hv : (mV m.length 1 (fun j => (recvF m got p q j).map eI)).length = m.length := by simp [mV, fl_len]
        simp only [List.map_cons, List.map_nil, deep, frz0, hv]
        rw [if_pos (by simp), List.drop_zero, List.take_of_length_le (by rw [hv]; exact Nat.le_refl _)]) (fun l9 => ?_)
      · simp only [List.map_cons, List.map_nil, deep, frz0]; rw [if_neg (by omega)]
      rw [hmv]
      refine ACalls.nxt (rmTick_spec (recvM m p got q) (recv_isM hm hg hl hp hq) p (by unfold recvM; rw [fl_len]; exact hp) _ _) ?_
      rw [rTickR]
      simp (disch := (first | decide | omega)) only [hA, hg1, hg2, go_sem]
      exact leave_pure (xs := [.v (.isl 1 ((tickM (recvM m p got q) p).map eRw)), .v (.bool (decide (ent (recvM m p got q) p p + 1 ≤ 1125899906842624)))]) (.inr rfl) (by simp (disch := (first | decide | omega)) only [resVs, resV, go_sem, hA, hg1, hg2]) (by simp only [one, AVlt_v, AVlt_any, AVlt_sl, AVlt_ptr, AVlt_mp, AVlt_agg, AVlt_tup, AVlt_fn, RowsLt_nil, RowsLt_live, RowsLt_dead, List.mem_cons, List.not_mem_nil, List.forall_mem_cons, List.forall_mem_nil, or_false, false_or, forall_eq_or_imp, forall_eq, vs_lt, Nat.add_lt_add_iff_left, Nat.reduceLT, true_and, and_true, and_self, List.length_cons, List.length_nil, Nat.reduceAdd, Nat.zero_add, implies_true, false_imp_iff, lt_T, List.mem_map]) hR hB ⟨by rw [rRecvR, rTickR]; rfl, rfl, rfl⟩
theorem rmSame_spec (v w : List (List Int)) (hv : Fit v) (hw : Fit w) (b l : List Row) : ACalls Try.prog 45 [.v (.isl 1 (v.map eRw)), .v (.isl 1 (w.map eRw))] b l (fun r b' l' => r = .v (.bool (decide (v = w))) ∧ b' = b ∧ l' = l) := by
  refine calls_kept a_rmSame_ok rfl (by decide) ?_
  intro B g hB hR hE hA
  simp only [KArgs] at hA
  have hv1 := hv.1
  have hw1 := hw.1
  by_cases hl : v.length = w.length
  case neg =>
    have hd : ((v.length : Int) != (w.length : Int)) = true := by simp; omega
    have hne : decide (v = w) = false := by
      rw [decide_eq_false_iff_not]; intro h; subst h; exact hl rfl
    simp (disch := (first | decide | omega)) only [a_rmSame, hA, List.length_map, hd, go_sem]
    exact leave_pure (xs := [.v (.bool false)]) (.inr rfl) (by simp (disch := (first | decide | omega)) only [resVs, resV, go_sem, hA]) (by simp only [one, AVlt_v, AVlt_any, AVlt_sl, AVlt_ptr, AVlt_mp, AVlt_agg, AVlt_tup, AVlt_fn, RowsLt_nil, RowsLt_live, RowsLt_dead, List.mem_cons, List.not_mem_nil, List.forall_mem_cons, List.forall_mem_nil, or_false, false_or, forall_eq_or_imp, forall_eq, vs_lt, Nat.add_lt_add_iff_left, Nat.reduceLT, true_and, and_true, and_self, List.length_cons, List.length_nil, Nat.reduceAdd, Nat.zero_add, implies_true, false_imp_iff, lt_T, List.mem_map]) hR hB ⟨by rw [hne]; rfl, rfl, rfl⟩
  have hd : ((v.length : Int) != (w.length : Int)) = false := by simp [hl]
  simp (disch := (first | decide | omega)) only [a_rmSame, hA, List.length_map, hd, go_sem]
  refine loop_kept (ι := Nat) r_rmSame0 (fun i => [(5, .v (.int .i64 i))]) 0 (fun _ => [])
    (fun i => i ≤ v.length ∧ ∀ j, j < i → v.getD j [] = w.getD j []) (fun i => v.length - i) 0 ⟨Nat.zero_le _, fun j hj => by omega⟩ (by (repeat (first | exact hE.mono (by omega) | refine KLt.up ?_ (by simp (disch := omega) only [AVlt_v, AVlt_any, AVlt_sl, AVlt_ptr, AVlt_mp, AVlt_agg, AVlt_tup, AVlt_fn, RowsLt_nil, RowsLt_live, RowsLt_dead, List.mem_cons, List.not_mem_nil, List.forall_mem_cons, List.forall_mem_nil, or_false, false_or, forall_eq_or_imp, forall_eq, vs_lt, Nat.add_lt_add_iff_left, Nat.reduceLT, true_and, and_true, and_self, List.length_cons, List.length_nil, Nat.reduceAdd, Nat.zero_add, implies_true, false_imp_iff, lt_T, List.mem_map])))) (by ((try simp (disch := decide) only [hA, go_sem]) <;> (repeat' (first | exact trivial | refine And.intro ?_ ?_)) <;> (first | rfl | (congr 2; omega)))) (fun e => Weak.refl _ _ _) ?_
  rintro g1 hE1 hEE1 hg1 i ⟨hi, h0⟩
  by_cases hlt : i < v.length
  · have hlw : i < w.length := by omega
    have hvi := hv.2 _ (List.getElem_mem hlt)
    have hwi := hw.2 _ (List.getElem_mem hlw)
    have hne : v[i] ≠ w[i] → decide (v = w) = false := by
      intro he; rw [decide_eq_false_iff_not]; intro h; subst h; exact he rfl
    by_cases hil : v[i].length = w[i].length
    case neg =>
      have hd2 : ((v[i].length : Int) != (w[i].length : Int)) = true := by simp; omega
      simp (disch := (first | decide | omega)) only [hA, hg1, eRw, List.length_map, hd2, go_sem]
      exact leave_pure (xs := [.v (.bool false)]) (.inr rfl) (by simp (disch := (first | decide | omega)) only [resVs, resV, go_sem, hA, hg1]) (by simp only [one, AVlt_v, AVlt_any, AVlt_sl, AVlt_ptr, AVlt_mp, AVlt_agg, AVlt_tup, AVlt_fn, RowsLt_nil, RowsLt_live, RowsLt_dead, List.mem_cons, List.not_mem_nil, List.forall_mem_cons, List.forall_mem_nil, or_false, false_or, forall_eq_or_imp, forall_eq, vs_lt, Nat.add_lt_add_iff_left, Nat.reduceLT, true_and, and_true, and_self, List.length_cons, List.length_nil, Nat.reduceAdd, Nat.zero_add, implies_true, false_imp_iff, lt_T, List.mem_map]) hR hB ⟨by rw [hne (fun h => hil (by rw [h]))]; rfl, rfl, rfl⟩
    have hd2 : ((v[i].length : Int) != (w[i].length : Int)) = false := by simp [hil]
    simp (disch := (first | decide | omega)) only [hA, hg1, eRw, List.length_map, hd2, go_sem]
    refine loop_kept (ι := Nat) r_rmSame1 (fun k => [(6, .v (.int .i64 k))]) 0 (fun _ => [])
      (fun k => k ≤ v[i].length ∧ ∀ j, j < k → v[i].getD j 0 = w[i].getD j 0) (fun k => v[i].length - k) 0 ⟨Nat.zero_le _, fun j hj => by omega⟩ (by (repeat (first | exact hE1.mono (by omega) | refine KLt.up ?_ (by simp (disch := omega) only [AVlt_v, AVlt_any, AVlt_sl, AVlt_ptr, AVlt_mp, AVlt_agg, AVlt_tup, AVlt_fn, RowsLt_nil, RowsLt_live, RowsLt_dead, List.mem_cons, List.not_mem_nil, List.forall_mem_cons, List.forall_mem_nil, or_false, false_or, forall_eq_or_imp, forall_eq, vs_lt, Nat.add_lt_add_iff_left, Nat.reduceLT, true_and, and_true, and_self, List.length_cons, List.length_nil, Nat.reduceAdd, Nat.zero_add, implies_true, false_imp_iff, lt_T, List.mem_map])))) (by ((try simp (disch := decide) only [hA, hg1, go_sem]) <;> (repeat' (first | exact trivial | refine And.intro ?_ ?_)) <;> (first | rfl | (congr 2; omega)))) (fun e => Weak.refl _ _ _) ?_
    rintro g2 hE2 hEE2 hg2 k ⟨hk, hk0⟩
    by_cases hkl : k < v[i].length
    · have hkw : k < w[i].length := by omega
      by_cases he : v[i][k] = w[i][k]
      · have hd3 : (v[i][k] != w[i][k]) = false := by simp [he]
        simp (disch := (first | decide | omega)) only [hA, hg1, hg2, eRw, eI, List.length_map, hd3, go_sem]
        refine ⟨k + 1, ⟨hkl, fun j hj => ?_⟩, by simp only; omega, ?_⟩
        · rcases Nat.lt_or_ge j k with hji | hji
          · exact hk0 j hji
          · have : j = k := by omega
            subst this
            rw [getD_at hkl, getD_at hkw, he]
        exact Weak.kround (p := r_rmSame1) (k := 0) (by ((repeat refine (kAny_up rfl).trans ?_); exact hEE2)) (by ((try simp (disch := decide) only [hA, go_sem]) <;> (repeat' (first | exact trivial | refine And.intro ?_ ?_)) <;> (first | rfl | (congr 2; omega)))) rfl hE2 (by simp) (by simp (disch := omega) only [KOvLt, AVlt_v, AVlt_any, AVlt_sl, AVlt_ptr, AVlt_mp, AVlt_agg, AVlt_tup, AVlt_fn, RowsLt_nil, RowsLt_live, RowsLt_dead, List.mem_cons, List.not_mem_nil, List.forall_mem_cons, List.forall_mem_nil, or_false, false_or, forall_eq_or_imp, forall_eq, vs_lt, Nat.add_lt_add_iff_left, Nat.reduceLT, true_and, and_true, and_self, List.length_cons, List.length_nil, Nat.reduceAdd, Nat.zero_add, implies_true, false_imp_iff, lt_T, List.mem_map]) hR (by simp (disch := omega) only [AVlt_v, AVlt_any, AVlt_sl, AVlt_ptr, AVlt_mp, AVlt_agg, AVlt_tup, AVlt_fn, RowsLt_nil, RowsLt_live, RowsLt_dead, List.mem_cons, List.not_mem_nil, List.forall_mem_cons, List.forall_mem_nil, or_false, false_or, forall_eq_or_imp, forall_eq, vs_lt, Nat.add_lt_add_iff_left, Nat.reduceLT, true_and, and_true, and_self, List.length_cons, List.length_nil, Nat.reduceAdd, Nat.zero_add, implies_true, false_imp_iff, lt_T, List.mem_map])
      · have hd3 : (v[i][k] != w[i][k]) = true := by simp [he]
        have hn2 : v[i] ≠ w[i] := fun h => he (by rw [← getD_at (d := 0) hkl, ← getD_at (d := 0) hkw, h])
        simp (disch := (first | decide | omega)) only [hA, hg1, hg2, eRw, eI, List.length_map, hd3, go_sem]
        exact leave_pure (xs := [.v (.bool false)]) (.inr rfl) (by simp (disch := (first | decide | omega)) only [resVs, resV, go_sem, hA, hg1, hg2]) (by simp only [one, AVlt_v, AVlt_any, AVlt_sl, AVlt_ptr, AVlt_mp, AVlt_agg, AVlt_tup, AVlt_fn, RowsLt_nil, RowsLt_live, RowsLt_dead, List.mem_cons, List.not_mem_nil, List.forall_mem_cons, List.forall_mem_nil, or_false, false_or, forall_eq_or_imp, forall_eq, vs_lt, Nat.add_lt_add_iff_left, Nat.reduceLT, true_and, and_true, and_self, List.length_cons, List.length_nil, Nat.reduceAdd, Nat.zero_add, implies_true, false_imp_iff, lt_T, List.mem_map]) hR hB ⟨by rw [hne hn2]; rfl, rfl, rfl⟩
    · simp (disch := (first | decide | omega)) only [hA, hg1, hg2, eRw, List.length_map, go_sem]
      obtain rfl : k = v[i].length := by omega
      refine ⟨i + 1, ⟨hlt, fun j hj => ?_⟩, by simp only; omega, ?_⟩
      · rcases Nat.lt_or_ge j i with hji | hji
        · exact h0 j hji
        · have : j = i := by omega
          subst this
          rw [getD_at hlt, getD_at hlw]
          exact ext_getD hil hk0
      exact Weak.kround (p := r_rmSame0) (k := 0) (by ((repeat refine (kAny_up rfl).trans ?_); refine (kAny_sub hg2 (kIn_sub rfl)).trans ?_; (repeat refine (kAny_up rfl).trans ?_); exact hEE1)) (by ((try simp (disch := decide) only [hA, hg1, go_sem]) <;> (repeat' (first | exact trivial | refine And.intro ?_ ?_)) <;> (first | rfl | (congr 2; omega)))) rfl hE1 (by simp) (by simp (disch := omega) only [KOvLt, AVlt_v, AVlt_any, AVlt_sl, AVlt_ptr, AVlt_mp, AVlt_agg, AVlt_tup, AVlt_fn, RowsLt_nil, RowsLt_live, RowsLt_dead, List.mem_cons, List.not_mem_nil, List.forall_mem_cons, List.forall_mem_nil, or_false, false_or, forall_eq_or_imp, forall_eq, vs_lt, Nat.add_lt_add_iff_left, Nat.reduceLT, true_and, and_true, and_self, List.length_cons, List.length_nil, Nat.reduceAdd, Nat.zero_add, implies_true, false_imp_iff, lt_T, List.mem_map]) hR (by simp (disch := omega) only [AVlt_v, AVlt_any, AVlt_sl, AVlt_ptr, AVlt_mp, AVlt_agg, AVlt_tup, AVlt_fn, RowsLt_nil, RowsLt_live, RowsLt_dead, List.mem_cons, List.not_mem_nil, List.forall_mem_cons, List.forall_mem_nil, or_false, false_or, forall_eq_or_imp, forall_eq, vs_lt, Nat.add_lt_add_iff_left, Nat.reduceLT, true_and, and_true, and_self, List.length_cons, List.length_nil, Nat.reduceAdd, Nat.zero_add, implies_true, false_imp_iff, lt_T, List.mem_map])
  · simp (disch := (first | decide | omega)) only [hA, hg1, List.length_map, go_sem]
    obtain rfl : i = v.length := by omega
    have he : decide (v = w) = true := decide_eq_true (List.ext_getElem hl (fun j h1 h2 => by have := h0 j h1; rwa [getD_at h1, getD_at h2] at this))
    exact leave_pure (xs := [.v (.bool true)]) (.inr rfl) (by simp (disch := (first | decide | omega)) only [resVs, resV, go_sem, hA, hg1]) (by simp only [one, AVlt_v, AVlt_any, AVlt_sl, AVlt_ptr, AVlt_mp, AVlt_agg, AVlt_tup, AVlt_fn, RowsLt_nil, RowsLt_live, RowsLt_dead, List.mem_cons, List.not_mem_nil, List.forall_mem_cons, List.forall_mem_nil, or_false, false_or, forall_eq_or_imp, forall_eq, vs_lt, Nat.add_lt_add_iff_left, Nat.reduceLT, true_and, and_true, and_self, List.length_cons, List.length_nil, Nat.reduceAdd, Nat.zero_add, implies_true, false_imp_iff, lt_T, List.mem_map]) hR hB ⟨by rw [he]; rfl, rfl, rfl⟩
end Go.Proofs.Ytiiflkcebikecaa
