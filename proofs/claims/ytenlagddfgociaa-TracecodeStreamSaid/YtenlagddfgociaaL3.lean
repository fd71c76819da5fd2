/- TracecodeStream returns true for every input, and its arguments read as before. No condition. -/
import Derived.Test.YtenlagddfgociaaRows
import Derived.Test.YtenlagddfgociaaCA
import Derived.Test.YtenlagddfgociaaD
import Derived.Test.YtenlagddfgociaaS
import Derived.WalkKit
import Derived.ProofKit
import Derived.OpenShut
import Derived.ShutString
import Derived.ChangeOld
import Derived.Below
namespace Go.Proofs.Ytenlagddfgociaa.tracecodeStream
open Go.ChangeShapes Go.WideShapes Go.ChangeAt Go.RowKit
open Go.ChangeMaps (open_string shut_string)
set_option linter.unusedVariables false

theorem own : ownKnob Try.prog.godebug = none := by kernel_rfl
theorem laidOut : laidOutB Try.prog = true := by kernel_rfl
theorem elI : ElI Try.prog 43 3 (.int .i64 0) 8 := ⟨Try.underlying43, info_parts (P := Try.prog) (by kernel_rfl), rfl⟩

/-- A cell that holds a slice of bytes. -/
def RBs (w : World) (b o : Nat) (xs : List UInt8) : Prop := ∃ v, w.cell? ⟨b, o, none⟩ = some v ∧ Sl byt w v xs
theorem RBs.keeps : Keeps RBs := fun _ _ _ _ _ he ⟨v, hc, hs⟩ => ⟨v, he.cellAt hc, hs.ext he⟩

def R1 (L : List (List UInt8)) (w0 : World) (v5 v6 i : Value) (wr : World) : Prop :=
  ∃ k : Nat, k ≤ L.length ∧ i = .int .i64 k ∧ Own byt 5 wr w0.heap.size v5 (allL (L.take k)) ∧ Own i64v 3 wr w0.heap.size v6 (endsL L k) ∧ Ext w0 wr ∧ ∀ j (hj : j < L.length), j < k → L[j].length ≤ 1000
theorem own_ne {α β : Type} {enc : α → Value} {enc' : β → Value} {e e' : TypeId} {w : World} {B B' : Nat} {v v' : Value} {xs : List α} {ys : List β} (h : Own enc e w B v xs) (h' : Own enc' e' w B' v' ys) (hne : e ≠ e') : v.ownBlock = none ∨ v.ownBlock ≠ v'.ownBlock := by
  rcases h.2 with ⟨rfl, _⟩ | ⟨g, cap, cur, rfl, _, hg, _⟩
  · exact .inl rfl
  · refine .inr fun he => ?_
    rcases h'.2 with ⟨rfl, _⟩ | ⟨g', cap', cur', rfl, _, hg', _⟩
    · cases he
    · have : g = g' := by simpa [Value.ownBlock] using he
      subst this
      rw [hg] at hg'
      injection hg' with hg'
      injection hg' with _ hh
      exact hne hh
theorem all_le {L : List (List UInt8)} (hL : L.length ≤ 20) (k : Nat) (hk : k ≤ L.length) (h : ∀ j (hj : j < L.length), j < k → L[j].length ≤ 1000) : (allL (L.take k)).length ≤ 20120 := by
  have h1 := endL_le (L.take k) (fun j hj => by simp at hj; rw [List.getElem_take]; exact h j (by omega) (by omega)) (L.take k).length (Nat.le_refl _)
  rw [endL_all] at h1
  have : (L.take k).length ≤ 20 := by simp; omega
  omega

theorem R1.step {L : List (List UInt8)} {w0 w3 w4 : World} {k : Nat} {v5 v6 v6' : Value} {ob : Obj} (hk : k < L.length) (hb : L[k].length ≤ 1000) (hall : ∀ j (hj : j < L.length), j < k → L[j].length ≤ 1000)
    (hext : Ext w0 w3) (h5 : Own byt 5 w3 w0.heap.size v5 (allL (L.take k) ++ frameL L[k])) (h6 : Own i64v 3 w3 w0.heap.size v6 (endsL L k))
    (h6' : Own i64v 3 w4 w0.heap.size v6' (endsL L k ++ [(((allL (L.take k) ++ frameL L[k]).length : Nat) : Int)])) (hgr : Grw (w3.alloc ob) v6 w4 v6') (hbel : Below w0.heap.size (w3.alloc ob) w4) :
    R1 L w0 v5 v6' (.int .i64 ((k : Int) + 1)) w4 := by
  refine ⟨k + 1, hk, by simp, ?_, ?_, (hext.alloc ob).more hbel, fun j hj hlt => ?_⟩
  · rw [allL_take_succ L k hk]
    exact (h5.alloc ob).kept hgr.1 (own_ne (h5.alloc ob) (h6.alloc ob) (by decide))
  · have e : endL L (k + 1) = (allL (L.take k) ++ frameL L[k]).length := by unfold endL; rw [allL_take_succ L k hk]
    rw [endsL_succ, e]
    exact h6'
  · rcases Nat.lt_or_ge j k with h | h
    · exact hall j hj h
    · obtain rfl : j = k := by omega
      exact hb

def R2 (L : List (List UInt8)) (n : Nat) (w0 : World) (v12 i : Value) (wr : World) : Prop :=
  ∃ k : Nat, k ≤ L.length ∧ i = .int .i64 k ∧ endL L k ≤ n ∧ Sl byt wr v12 (restL L n k) ∧ Ext w0 wr
theorem ends_cell {L : List (List UInt8)} {w : World} {A : Option Addr} {m c : Nat} (h : Sl i64v w (.slice A m c) (endsL L L.length)) :
    ∃ b o, A = some ⟨b, o, none⟩ ∧ b < w.heap.size ∧ ∀ i, i ≤ L.length → w.cell? ⟨b, o + i, none⟩ = some (.int .i64 (endL L i : Int)) := by
  obtain ⟨A', c', hv, _, _, hc⟩ := h.form
  injection hv with hA _ _
  subst hA
  obtain ⟨b, o, hA, hb, hall⟩ := hc (by rw [endsL_length]; omega)
  refine ⟨b, o, hA, hb, fun i hi => ?_⟩
  have hlt : i < (endsL L L.length).length := by rw [endsL_length]; omega
  rw [hall i hlt, endsL_at L L.length i hlt]
  rfl

set_option maxRecDepth 100000 in
set_option maxHeartbeats 4000000 in
theorem walk_ok (v : Value) (L : List (List UInt8)) (cut : Int) (w : World) (hL : L.length ≤ 20) (hc0 : 0 ≤ cut) (hc1 : cut ≤ 65535) (hs : SlR 1 RBs w v L) :
    Calls Try.prog 5 #[v, .int .u16 cut] w fun e w' => e = .returned (.bool true) ∧ Ext w w' := by
  obtain ⟨A, c, hv, hlc, hcm, hc⟩ := hs
  subst hv
  have hd : decide ((20 : Int) < (L.length : Int)) = false := by simp; omega
  go_enter Try.func5, Try.ntmps5
  go_wp2_with fail
  refine (awake_any _).mono ?_
  rintro e w1 ⟨rfl, he1⟩
  go_wp2_with fail
  go_loopw [5, 6, 29] (R1 L w1) (fun _ _ i _ => L.length - (intOf i).toNat)
  case atStart => exact ⟨0, Nat.zero_le _, rfl, Own.nil _ _ _ _, Own.made (xs := endsL L 0) w1 _ (Nat.le_refl _) (by simp [maxLen, endsL]) rfl, (Ext.refl _).alloc _, fun j hj h => absurd h (by omega)⟩
  case round =>
    obtain ⟨k, hk, rfl, hown5, hown6, hext, hall⟩ := hrel
    have hal := all_le hL k hk hall
    by_cases hlt : k < L.length
    · obtain ⟨b, off, rfl, hel⟩ := hc (by omega)
      obtain ⟨v8, hcell, hs8⟩ := RBs.keeps _ _ _ _ _ (he1.trans hext) (hel k L[k] (List.getElem?_eq_getElem hlt))
      rw [Nat.mul_one] at hcell
      obtain ⟨A8, c8, rfl⟩ := hs8.len
      have HA := hide hall
      clear hel hc hall
      by_cases hbig : 1000 < L[k].length
      · have hd2 : decide ((1000 : Int) < (L[k].length : Int)) = true := by simp; omega
        clear hbig
        go_wp2_with fail
        go_ret
        exact ⟨rfl, he1.trans hext⟩
      · have hd2 : decide ((1000 : Int) < (L[k].length : Int)) = false := by simp; omega
        have hfl : (((frameL L[k]).length : Int) != (L[k].length : Int) + 6) = false := by rw [bne_eq_false_iff_eq, frameL_length]; push_cast; rfl
        have hflb : (frameL L[k]).length ≤ 1006 := by rw [frameL_length]; omega
        have hb2 : (L[k].length : Int) ≤ 1000 := by omega
        have F := hide (Frame_ok _ L[k] wr (by omega) hs8)
        go_wp2_with fail
        refine F.out.mono ?_
        rintro e w2 ⟨v9, rfl, hown9, he2⟩
        obtain ⟨A9, c9, rfl, _, _⟩ := hown9.form
        have h5 := hown5.ext he2
        have h6 := hown6.ext he2
        have hB2 := (hext.trans he2).size
        have hcl : L[k].length ≤ 1000 := by omega
        have hel6 := endsL_length L k
        have HL6 := hide hel6
        have hflb' : (endsL L k).length ≤ 30 := by omega
        clear hel6
        go_wp2_with (first
          | (at_builtin; refine wpl_appb (.tmp 51) (.tmp 52) elB byt_one rfl rfl rfl rfl h5 hown9.sl (by omega) (by omega) hB2 ?_; intro v5' w3 hown5' hgr3 hb3; obtain ⟨A5, c5, rfl, _, _⟩ := hown5'.form)
          | (at_builtin; refine wpl_appb (.tmp 54) (.tmp 57) elI i64v_one rfl rfl rfl rfl ((h6.kept hgr3.1 (own_ne h6 h5 (by decide))).alloc _) (Sl.made _ _ [(((allL (L.take k) ++ frameL L[k]).length : Nat) : Int)] rfl (by simp [maxLen]) (by simp only [List.map_cons, List.map_nil, i64v, List.length_append]; push_cast; rfl)) (by simp only [List.length_cons, List.length_nil]; omega) (by omega) (by have := hb3.size; simp; omega) ?_; intro v6' w4 hown6' hgr4 hb4))
        have R := R1.step hlt hcl HA.out ((hext.trans he2).more hb3) hown5' (h6.kept hgr3.1 (own_ne h6 h5 (by decide))) hown6' hgr4 hb4
        simp only [List.length_append] at R
        clear hown6' hgr4 hb4 hown5' hgr3 hb3 h5 h6 hown9
        go_wp2_with fail
        go_roundw
        case rel => exact R
        case measure => simp [intOf]; omega
    · obtain rfl : k = L.length := by omega
      rw [List.take_length] at hown5
      obtain ⟨A5, c5, rfl, hl5, _⟩ := hown5.form
      obtain ⟨A6, c6, hv6, _, _⟩ := hown6.form
      rw [endsL_length] at hv6
      subst hv6
      have hal' : (allL L).length ≤ 20120 := by rw [List.take_length] at hal; exact hal
      clear hal
      have HA := hide hall
      clear hall
      have hn : ∃ n : Nat, n ≤ (allL L).length ∧ ((decide ((0 : Int) < cut) = true ∧ cut % (((allL L).length : Int) + 1) = n) ∨ (decide ((0 : Int) < cut) = false ∧ ((allL L).length : Int) = n)) := by
        by_cases h : 0 < cut
        · have h1 := Int.emod_lt_of_pos cut (show (0 : Int) < ((allL L).length : Int) + 1 by omega)
          have h2 := Int.emod_nonneg cut (show (((allL L).length : Int) + 1) ≠ 0 by omega)
          exact ⟨(cut % (((allL L).length : Int) + 1)).toNat, by omega, .inl ⟨by simpa using h, by omega⟩⟩
        · exact ⟨(allL L).length, Nat.le_refl _, .inr ⟨by simpa using h, rfl⟩⟩
      obtain ⟨n, hn, hcase⟩ := hn
      have C := hide (clone_any (.slice A5 n c5) ((allL L).take n) wr (by rw [List.length_take]; omega) (hown5.sl.take n hn))
      have hnc : (n : Int) ≤ (c5 : Int) := by omega
      have hn20 : (n : Int) ≤ 20120 := by omega
      have hs6 := hown6.sl
      have hE1 : Ext w wr := he1.trans hext
      have HEL := hide hc
      clear hc
      rcases hcase with ⟨hc1, hc2⟩ | ⟨hc1, hc2⟩
      all_goals
        go_wp2_with fail
        refine C.out.mono ?_
        rintro e w3 ⟨v12, rfl, hown12, he3⟩
        try simp only [hc2]
        have HN := hide hc2
        clear hc2
        have hE3 := hE1.trans he3
        have hs6 := hs6.ext he3
        have hs12 := hown12.sl
        clear hown5 hown6 hext he1 C hE1 hown12
        go_wp2_with fail
        go_loopw [12, 76] (R2 L n w3) (fun _ i _ => L.length - (intOf i).toNat)
        case atStart => exact ⟨0, Nat.zero_le _, rfl, Nat.zero_le _, by rw [restL, endL_zero, List.drop_zero]; exact hs12, Ext.refl _⟩
        case round =>
          obtain ⟨k, hk, rfl, hek, hsr, hext2⟩ := hrel
          obtain ⟨A12, c12, rfl⟩ := hsr.len
          have hrl := restL_length L n k hn
          have hrl2 : (restL L n k).length ≤ 1000000 := by omega
          have U := Unframe_any _ (restL L n k) wr hrl2 hsr
          by_cases hlt : k < L.length
          · obtain ⟨b, off, rfl, hel⟩ := HEL.out (by omega)
            obtain ⟨v14, hcell, hs14⟩ := RBs.keeps _ _ _ _ _ (hE3.trans hext2) (hel k L[k] (List.getElem?_eq_getElem hlt))
            rw [Nat.mul_one] at hcell
            obtain ⟨b6, o6, rfl, _, h6⟩ := ends_cell (hs6.ext hext2)
            have h6 := h6 (k + 1) (by omega)
            have hbk : L[k].length ≤ 1000 := HA.out k hlt hlt
            have hkI : (k : Int) + 1 < ((L.length + 1 : Nat) : Int) := by push_cast; omega
            clear hel
            by_cases hend : n < endL L (k + 1)
            · rw [restL_cut L n k hlt hbk hek hend] at U
              have U := hide U
              have hd3 : decide ((n : Int) < (endL L (k + 1) : Int)) = true := by simp; omega
              have hd4 : decide (n < endL L (k + 1)) = true := by simp; omega
              clear hend hrl hrl2
              go_wp2_with fail
              refine U.out.mono ?_
              rintro e w5 ⟨u5, v5, rfl, su5, sv5, he5⟩
              obtain ⟨Au, cu, rfl⟩ := su5.len
              obtain ⟨Av, cv, rfl⟩ := sv5.len
              have h6 := he5.cellAt h6
              go_wp2_with fail
              go_ret
              exact ⟨rfl, hE3.trans (hext2.trans he5)⟩
            · have hf := restL_full L n k hlt hbk (by omega) hn
              rw [hf] at U
              have U := hide U
              have hd3 : decide ((n : Int) < (endL L (k + 1) : Int)) = false := by simp; omega
              have hd4 : decide (n < endL L (k + 1)) = false := by simp; omega
              have hlr : (((restL L n (k + 1)).length : Nat) : Int) = (n : Int) - (endL L (k + 1) : Int) := by rw [restL_length L n (k + 1) hn]; omega
              have hlr1 : ((((restL L n (k + 1)).length : Nat) : Int) != (n : Int) - (endL L (k + 1) : Int)) = false := by rw [bne_eq_false_iff_eq]; exact hlr
              have hlr2 : (0 : Int) ≤ (n : Int) - (endL L (k + 1) : Int) := by omega
              clear hlr
              have hen : endL L (k + 1) ≤ n := by omega
              clear hend hrl hrl2 hf
              go_wp2_with fail
              refine U.out.mono ?_
              rintro e w5 ⟨u5, v5, rfl, su5, sv5, he5⟩
              obtain ⟨Av, cv, rfl⟩ := sv5.len
              have h6 := he5.cellAt h6
              go_wp2_with fail
              refine (equal_any _ _ L[k] L[k] _ su5 (hs14.ext he5)).mono ?_
              rintro e w7 ⟨rfl, rfl⟩
              rw [beq_self_eq_true]
              go_wp2_with fail
              go_roundw
              case rel => exact ⟨k + 1, by omega, by go_num, hen, sv5, hext2.trans he5⟩
              case measure => simp [intOf]; omega
          · have hkL : k = L.length := by omega
            have hnil : restL L n k = [] := by
              apply List.eq_nil_of_length_eq_zero
              rw [hrl, hkL, endL_all]; omega
            rw [hnil] at U ⊢
            rw [unframe_nil] at U
            have U := hide U
            have hkd : decide ((k : Int) < (L.length : Int)) = false := by simp; omega
            have hkd2 : decide (k < L.length) = false := by simp; omega
            clear hkL hrl hrl2 hsr hnil hlt
            simp only [List.length_nil] at U ⊢
            go_wp2_with fail
            refine U.out.mono ?_
            rintro e w5 ⟨u5, v5, rfl, su5, sv5, he5⟩
            go_wp2_with fail
            go_ret
            exact ⟨rfl, hE3.trans (hext2.trans he5)⟩

set_option maxRecDepth 100000 in
theorem walk_big (A : Option Addr) (len c : Nat) (cut : Int) (w : World) (hL : 21 ≤ len) :
    Calls Try.prog 5 #[.slice A len c, .int .u16 cut] w fun e w' => e = .returned (.bool true) ∧ Ext w w' := by
  have hd : decide ((20 : Int) < (len : Int)) = true := by simp; omega
  clear hL
  go_enter Try.func5, Try.ntmps5
  go_wp2_with (go_at_call 9; refine (awake_any _).mono ?_; rintro e w1 ⟨rfl, he1⟩)
  go_ret
  exact ⟨rfl, he1⟩

theorem tr0 : TRV Try.prog 41 (SlR 1 RBs) :=
  trv_slice (TRV.cell (trv_bytes Try.underlying22 Try.underlying5 (by kernel_rfl))) Try.underlying41 (by kernel_rfl) (by omega)
theorem tr1 : TRV Try.prog 42 (fun _ v (y : Int) => v = .int .u16 y ∧ (Lit.int .u16 y).wf = true) := trv_int Try.underlying42
theorem walk (v0 v1 : Value) (w : World) (x0 : List (List UInt8)) (x1 : Int) (h0 : SlR 1 RBs w v0 x0) (h1 : v1 = .int .u16 x1 ∧ (Lit.int .u16 x1).wf = true) :
    Calls Try.prog 5 #[v0, v1] w fun e w' => e = .returned (.bool true) ∧ Below w.heap.size w w' := by
  obtain ⟨rfl, hw⟩ := h1
  have hb : 0 ≤ x1 ∧ x1 ≤ 65535 := by simpa [Lit.wf, IntKind.min, IntKind.max, IntKind.signed, IntKind.bits] using hw
  by_cases hl : 21 ≤ x0.length
  · obtain ⟨A, c, rfl, _⟩ := h0
    exact walk_big A _ c x1 w hl
  · exact walk_ok v0 x0 x1 w (by omega) hb.1 hb.2 h0

/-! The row: off the walk. -/
set_option maxRecDepth 100000 in
theorem lifted (os : Os) (started : os.Started) (H : Type) (enc : TypeId × Value → H) :
    ReturnsInHanded {} Try.checked os 5 .any (Rows.tracecodeStreamSpec.pre6 enc Try.prog Try.f5 Rows.tracecodeStreamRow.domain false) (Rows.tracecodeStreamSpec.post enc Try.prog Try.f5 false true false false) := by
  refine returnsInHanded_of_change (C := Try.checked) own started (by kernel_rfl) Try.func5
    (ChangeSpec.witness6 (enc := enc) (C := Try.checked) false ⟨#[], #[.slice none 0 0, .int .u16 0], []⟩ 8 (by kernel_rfl) (by kernel_rfl) (by kernel_rfl) (by kernel_rfl)) ?_
  intro W base args ds gs before hval0 hW hcnd _
  have hval : ∀ (j : Nat) t v, Try.f5.params[j]? = some t → args[j]? = some v → Value.okWide Try.prog W .any base t v := hval0
  have hW' := hW
  obtain ⟨p, q, hA0, hV, rfl, hfz, hnd⟩ := hW
  have hA : DataW.TrodAll enc Try.prog W 0 (fun _ => true) true Try.f5.params.toList args.toList ds p := hA0
  rw [Try.params5] at hA hval
  obtain ⟨v0, vs0, d0, ds0, p0, q0, hargs, rfl, rfl, k0, r0⟩ := trodAll_cons hA
  obtain ⟨v1, vs1, d1, ds1, p1, q1, rfl, rfl, rfl, k1, r1⟩ := trodAll_cons r0
  obtain ⟨rfl, rfl, rfl⟩ := trodAll_nil r1
  obtain rfl : args = #[v0, v1] := by cases args; simp_all
  obtain ⟨rfl, rfl⟩ := trodVars_none hV
  have lt0 : ∀ x ∈ p0, x.block < W.heap.size := by obtain ⟨m, hm⟩ := k0; exact DataW.trod_lt m _ _ _ hm
  have c0 : v0.cells = #[v0] := by obtain ⟨_, _, _, rfl⟩ := okWide_slice Try.underlying41 (hval 0 41 v0 rfl rfl); rfl
  obtain ⟨x0, h0⟩ := TRV.param tr0 c0 k0
  have lt1 : ∀ x ∈ p1, x.block < W.heap.size := by obtain ⟨m, hm⟩ := k1; exact DataW.trod_lt m _ _ _ hm
  have c1 : v1.cells = #[v1] := by obtain ⟨_, rfl, _⟩ := open_int Try.underlying42 (hval 1 42 v1 rfl rfl) k1; rfl
  obtain ⟨x1, h1⟩ := TRV.param tr1 c1 k1
  clear hA0 hval0
  refine (walk v0 v1 W x0 x1 h0 h1).mono fun e W' ⟨he, bel⟩ => ?_
  subst he
  exact ⟨_, rfl, _, _, _, [], _, [], hW', trodAll_mk1 (shut_bool Try.underlying4 _), (trodAll_cons_mk (Below.trod laidOut (by kernel_rfl) (of_decide_eq_true (by kernel_rfl)) k0 bel lt0) (trodAll_cons_mk (Below.trod laidOut (by kernel_rfl) (of_decide_eq_true (by kernel_rfl)) k1 bel lt1) trodAll_mk0)), rfl, bel.frame _, fun h => by cases h⟩

theorem over : Rows.tracecodeStreamRow.holds Try.pinned (OpenSpec.ofChange Rows.tracecodeStreamSpec) :=
  OpenClaim.holds_of_wide 5 Try.f5 rfl rfl rfl rfl rfl rfl rfl ⟨rfl, rfl, rfl, rfl, rfl⟩ rfl rfl rfl rfl rfl (by kernel_rfl) Try.func5 (by kernel_rfl)
    (of_decide_eq_true (by kernel_rfl)) (by unfold Func.isWrapper; first | (rw [if_pos (by decide +kernel)]; kernel_rfl) | (rw [if_neg (by decide +kernel)]; exact ⟨rfl, rfl⟩))
    (fun os started H enc _ => lifted os started H enc)

/-- The statement. -/
theorem proved : Rows.TracecodeStreamSaid := over
#print axioms proved
end Go.Proofs.Ytenlagddfgociaa.tracecodeStream
