/- Texts of one proof, laid together: OA, RQ. No condition. -/
import Derived.Test.YtilcmenglgdljaaOR3
import Derived.Test.YtilcmenglgdljaaOR4
namespace Go.Proofs.Ytilcmenglgdljaa
open Go.RowKit
set_option linter.unusedVariables false

section
variable {size : Nat} {e : TypeId} {w w' : World} {B : Nat} {v v' : Value} {n : Nat} {cs : List Value}
theorem OwnC.apart {size' n' : Nat} {e' : TypeId} {B' : Nat} {v' : Value} {cs' : List Value} (h : OwnC size e w B v n cs) (h' : OwnC size' e' w B' v' n' cs') (hne : e ≠ e') : v.ownBlock = none ∨ v.ownBlock ≠ v'.ownBlock := by
 rcases h'.2 with ⟨rfl, _⟩ | ⟨g, off, cap, cur, rfl, _, hbox, _⟩
 ·cases hv : v.ownBlock
  ·exact .inl rfl
  ·right; simp [Value.ownBlock]
 ·exact .inr (h.not_box hbox hne.symm)
theorem OwnC.cutL {P : Program} {t : TypeId} {z : Value} {bytes : Nat} (ht : P.underlying t = some (.slice e)) (hs : ∃ i : TypeInfo, P.info? e = some i ∧ i.zero = some z ∧ i.size = size ∧ i.bytes = bytes) {A : Option Addr} {c : Nat} (h : OwnC size e w B (.slice A n c) n cs) (k : Nat) {kI : Int} (hkI : kI = k) (hk : k ≤ n) :
  ∃ A', (∀ W, (Instr.sliceAt t (.slice A n c) (some (.int .i64 kI)) none none).run P W = .ok (.slice A' (n - k) (c - k)) W) ∧ OwnC size e w B (.slice A' (n - k) (c - k)) (n - k) (cs.drop (k * size)) := by
 obtain ⟨i, hi, _, hsz, _⟩ := hs
 obtain ⟨_, _, hv, hnc, _⟩ := h.form
 injection hv with _ _ hc
 subst hc; subst hkI
 refine ⟨if c = k then A else A.map (·.add (k * size)), fun W => ?_, h.drop k hk (fun b off hA => ?_) (fun hA => ?_)⟩
 ·have b2 : ∀ (code : BoundsCode) (W : World), (Instr.sliceBound (.int .i64 (k : Int)) n code).run P W = .ok k W := fun code W => by
   rw [run_sliceBound W .i64 (k : Int) n code oM oM]; simp
  simp [Instr.sliceAt, Instr.slice, Instr.sliceBounds, run_underlying ht, sizeOf, typeInfo, hi, hsz, b2]
 ·by_cases hck : c = k
  ·rw [if_pos hck]; exact .inr ⟨hck, rfl⟩
  ·rw [if_neg hck, hA]; exact .inl (by simp [addr_lit])
 ·rw [hA]; split <;> rfl
end
end Go.Proofs.Ytilcmenglgdljaa
namespace Go.Proofs.Ytilcmenglgdljaa
open Go.RowKit
set_option linter.unusedVariables false

theorem elRB : ElS Try.prog 44 43 (.slice none 0 0) 1 24 where
 ht := Try.underlying44
 inf := by
  have h : (Try.prog.info? 43).map (fun i => (i.zero, i.size, i.bytes)) = some (some (.slice none 0 0), 1, 24) := by kernel_rfl
  obtain ⟨i, hi, he⟩ := Option.map_eq_some_iff.1 h
  injection he with h1 h2
  injection h2 with h2 h3
  exact ⟨i, hi, h1, h2, h3⟩
 zs := by rfl
 pos := by decide
 few := by decide
theorem infoBool : ∃ i : TypeInfo, Try.prog.info? 4 = some i ∧ i.zero = some (.bool false) ∧ i.size = 1 ∧ i.bytes = 1 := by
 have h : (Try.prog.info? 4).map (fun i => (i.zero, i.size, i.bytes)) = some (some (.bool false), 1, 1) := by kernel_rfl
 obtain ⟨i, hi, he⟩ := Option.map_eq_some_iff.1 h
 injection he with h1 h2
 injection h2 with h2 h3
 exact ⟨i, hi, h1, h2, h3⟩
theorem run_makeBools (p n : Nat) (hn : n ≤ 1000000) (w : World) : (Instr.makeSlice 43 (.int .i64 ((n : Int) + 1)) (.int .i64 ((n : Int) + 1))).run Try.prog w = .ok (.slice (some ⟨w.heap.size, 0, none⟩) (n + 1) (n + 1)) (w.alloc (.cells (rowM [] p (n + 1)) 4)) := by
 obtain ⟨i, hi, hz, hs, hb⟩ := infoBool
 rw [← rowM_zero]
 have := run_makeN (P := Try.prog) Try.underlying43 hi hz hs rfl (n + 1) (by rw [hb]; omega) oM w
 rw [show ((n + 1 : Nat) : Int) = (n : Int) + 1 from by push_cast; rfl] at this
 exact this
theorem slc_one {w : World} {g : Nat} (e : TypeId) (v : Value) (hg : g = w.heap.size) : SlC 1 (w.alloc (.cells #[v] e)) (.slice (some ⟨g, 0, none⟩) 1 1) 1 [v] := by
 have := (OwnC.madeAt (B := 0) (e := e) (n := 1) (size := 1) hg #[v] (Nat.zero_le _) (by simp [maxLen]) rfl).slc
 simpa using this
abbrev Grid (W : World) (B : Nat) (v : Value) (gs S : List (Nat × Nat)) : Prop := GridM 43 4 W B v gs S
def GLen (t : Tr) (gs : List (Nat × Nat)) (k : Nat) : Prop := gs.length = k ∧ ∀ p (hp : p < gs.length) (ht : p < t.length), gs[p].2 = t[p].evs.length + 1
def PastPost (t : Tr) (x : Nat × Nat) (w : World) (e : Ending) (w' : World) : Prop := ∃ v gs S, e = .returned v ∧ Grid w' w.heap.size v gs S ∧ GLen t gs t.length ∧ (∀ y ∈ ids t, y ∈ S ↔ Hb t y x) ∧ Ext w w'
theorem Grid.grow {W W' : World} {B n g0 : Nat} {v v' : Value} {gs : List (Nat × Nat)} (h : Grid W B v gs []) (hr : BoxN W g0 4 (rowM [] gs.length n)) (hB : B ≤ g0) (hnew : ∀ p (hp : p < gs.length), gs[p].1 ≠ g0)
  (hv : OwnC 1 43 W' B v' (gs.length + 1) (gs.map rowV ++ [rowV (g0, n)])) (hg : Grw W v W' v') : Grid W' B v' (gs ++ [(g0, n)]) [] := by
 have hne : ∀ (b : Nat) (cs : Array Value), BoxN W b 4 cs → some b ≠ v.ownBlock := fun b cs hb e => h.out.not_box hb (by decide) e.symm
 refine ⟨?_, ?_, ?_⟩
 ·rw [List.length_append, List.map_append]; exact hv
 ·intro p hp
  rw [List.length_append, List.length_singleton] at hp
  by_cases hlt : p < gs.length
  ·rw [List.getElem_append_left hlt]
   exact ⟨(h.row p hlt).1.kept hg.1 (hne _ _ (h.row p hlt).1), (h.row p hlt).2⟩
  ·obtain rfl : p = gs.length := by omega
   rw [List.getElem_append_right (Nat.le_refl _)]
   simp only [Nat.sub_self, List.getElem_singleton]
   exact ⟨hr.kept hg.1 (hne _ _ hr), hB⟩
 ·intro p q hp hq he
  rw [List.length_append, List.length_singleton] at hp hq
  by_cases h1 : p < gs.length
  ·by_cases h2 : q < gs.length
   ·rw [List.getElem_append_left h1, List.getElem_append_left h2] at he
    exact h.nod p q h1 h2 he
   ·obtain rfl : q = gs.length := by omega
    rw [List.getElem_append_left h1, List.getElem_append_right (Nat.le_refl _)] at he
    simp only [Nat.sub_self, List.getElem_singleton] at he
    exact absurd he (hnew p h1)
  ·obtain rfl : p = gs.length := by omega
   by_cases h2 : q < gs.length
   ·rw [List.getElem_append_left h2, List.getElem_append_right (Nat.le_refl _)] at he
    simp only [Nat.sub_self, List.getElem_singleton] at he
    exact absurd he.symm (hnew q h2)
   ·omega
theorem Grid.marks {t : Tr} {W : World} {B : Nat} {v : Value} {gs S : List (Nat × Nat)} (h : Grid W B v gs S) (hl : GLen t gs t.length) (hn : S.Nodup) (hs : ∀ y ∈ S, y ∈ ids t) : marks t gs W = S.length :=
 marks_eq h (fun y hy => by
  obtain ⟨hp, _, h2⟩ := mem_ids.1 hy
  have h3 : y.1 < gs.length := by rw [hl.1]; exact hp
  exact ⟨h3, by rw [hl.2 y.1 h3 hp]; omega⟩) hn hs
set_option maxRecDepth 100000 in
set_option maxHeartbeats 8000000 in
theorem Past_any (u : Value) (t : Tr) (p i : Nat) (w : World) (hx : (p, i) ∈ ids t) (hP : Paired t) (hN : (ids t).length ≤ 1000000) (hS : Small t) (hs : SlR 3 RPr w u t) :
  Calls Try.prog 21 #[.agg #[u], idVal (p, i)] w fun e w' => PastPost t (p, i) w e w' := by
 have HDI := hide (fun (y : Nat × Nat) (hy : y ∈ ids t) w' (he : Ext w w') => Directly_any u t y.1 y.2 w' hy hS (hs.ext RPr.keeps he))
 have HMK := hide (fun q n (hn : n ≤ 1000000) => run_makeBools q n hn)
 obtain ⟨A, c, rfl, _, hcm, hc⟩ := hs.at_
 have HC := hide hc
 have hnp := hS.np
 clear hs hc
 unfold idVal at *
 go_enter Try.func21, Try.ntmps21
 go_wp2_with fail
 have bt0 : BoxN ((w.alloc (.cells #[.slice A t.length c] 24)).alloc (.cells #[.int .i64 p, .int .i64 i] 38)) w.heap.size 24 #[.slice A t.length c] := (BoxN.new w _ _).alloc _
 have bx0 : BoxN ((w.alloc (.cells #[.slice A t.length c] 24)).alloc (.cells #[.int .i64 p, .int .i64 i] 38)) (w.heap.size + 1) 38 #[.int .i64 p, .int .i64 i] := BoxN.newAt _ _ (by simp)
 have hx0 : Ext w ((w.alloc (.cells #[.slice A t.length c] 24)).alloc (.cells #[.int .i64 p, .int .i64 i] 38)) := ((Ext.refl w).alloc _).alloc _
 generalize (w.alloc (.cells #[.slice A t.length c] 24)).alloc (.cells #[.int .i64 p, .int .i64 i] 38) = W1 at *
 go_loopw [6, 5] (fun j v wr => ∃ (k : Nat) (gs : List (Nat × Nat)), k ≤ t.length ∧ j = .int .i64 k ∧ GLen t gs k ∧ Grid wr W1.heap.size v gs [] ∧ Ext W1 wr) (fun j _ _ => t.length - (intOf j).toNat)
 case atStart => exact ⟨0, [], Nat.zero_le _, rfl, ⟨rfl, fun p hp => absurd hp (by simp)⟩, ⟨OwnC.nil _ _ _ _, fun p hp => absurd hp (by simp), fun p q hp => absurd hp (by simp)⟩, Ext.refl _⟩
 case round =>
  obtain ⟨k, gs, hk, rfl, hgl, hgr, hxr⟩ := hrel
  have HGL := hide hgl
  have HGR := hide hgr
  have bt := bt0.ext hxr
  have bx := bx0.ext hxr
  have hx1 := hx0.trans hxr
  have t0 : wr.cell? ⟨w.heap.size, 0, none⟩ = some (.slice A t.length c) := bt.cell rfl
  have lt1 := bt.lt
  have lt2 := bx.lt
  by_cases hlt : k < t.length
  ·obtain ⟨b0, off, rfl, hel⟩ := HC.out oM
   obtain ⟨_, _, v2, c2, hs2⟩ := hel k hlt
   obtain ⟨A2, k2, rfl, _, _, hc2⟩ := hs2.at_
   have hne := hS.ne _ (List.getElem_mem hlt)
   have c2' := hx1.cellAt c2
   have hmk := HMK.out k t[k].evs.length hne
   have hgl1 := hgl.1
   have HV := hide hgr.out.form
   clear hel hs2 hc2 c2 hgl hgr
   go_wp2_with (at_builtin; go_must (refine wpl_appC (v := u5) (n := gs.length) (.tmp 18) (.tmp 28) elRB rfl rfl rfl rfl (OwnC.alloc (OwnC.alloc HGR.out.out _) _) (slc_one _ _ (by simp)) (by simp [Value.oneCell']) oM (by have := hxr.size; simp; omega) ?_; intro v1 w2 hown1 hgr1 hbl1))
   go_roundw
   case rel =>
    have hW1 := hxr.size
    refine ⟨k + 1, gs ++ [(wr.heap.size, t[k].evs.length + 1)], hlt, by go_num, ⟨by simp [hgl1], ?_⟩, Grid.grow (W := (wr.alloc (.cells (rowM [] k (t[k].evs.length + 1)) 4)).alloc (.cells #[.slice (some ⟨wr.heap.size, 0, none⟩) (t[k].evs.length + 1) (t[k].evs.length + 1)] 43)) ((HGR.out.alloc _).alloc _) (by rw [hgl1]; exact (BoxN.new _ _ _).alloc _) hW1 (fun q hq e => ?_) hown1 hgr1, Ext.more ((hxr.alloc _).alloc _) hbl1⟩
    ·intro q hq ht
     rw [List.length_append, List.length_singleton] at hq
     by_cases hlq : q < gs.length
     ·rw [List.getElem_append_left hlq]; exact HGL.out.2 q hlq ht
     ·obtain rfl : q = gs.length := by omega
      rw [List.getElem_append_right (Nat.le_refl _)]
      simp only [Nat.sub_self, List.getElem_singleton, hgl1]
    ·have := (HGR.out.row q hq).1.lt
     omega
   case measure => simp [intOf]; omega
  ·obtain rfl : k = t.length := by omega
   have x0 : wr.cell? ⟨w.heap.size + 1, 0, none⟩ = some (.int .i64 p) := bx.cell rfl
   have x1 : wr.cell? ⟨w.heap.size + 1, 1, none⟩ = some (.int .i64 i) := bx.cell rfl
   have hW1 := hxr.size
   clear hgl hgr
   go_wp2_with fail
   refine (HDI.out (p, i) hx _ hx1).mono ?_
   rintro e w2 ⟨v7, rfl, ho7, he2⟩
   have HST := hide (show ∃ S R, PaI t (p, i) S R ∧ Grid w2 W1.heap.size u5 gs S ∧ OwnIds w2 W1.heap.size v7 R ∧ BoxN w2 w.heap.size 24 #[.slice A t.length c] ∧ Ext W1 w2 ∧ R.length + 3 * ((ids t).length - S.length) ≤ 3 * (ids t).length + 2 from
    ⟨[], _, PaI.start hP hx, HGR.out.ext he2, OwnC.mono ho7 hW1, bt.ext he2, hxr.trans he2, by have := backL_len t (p, i); simp; omega⟩)
   clear t0 x0 x1 bt bx hx1 he2 ho7
   go_wp2_with fail
   go_loopw [7] (fun v wr => ∃ S R, PaI t (p, i) S R ∧ Grid wr W1.heap.size u5 gs S ∧ OwnIds wr W1.heap.size v R ∧ BoxN wr w.heap.size 24 #[.slice A t.length c] ∧ Ext W1 wr ∧ R.length + 3 * ((ids t).length - S.length) ≤ 3 * (ids t).length + 2) (fun v wr => 3 * ((ids t).length - marks t gs wr) + lenV v)
   case atStart => exact HST.out
   case round =>
    obtain ⟨S, R, hPa, hgr, ho, btr, hxr2, hbd⟩ := hrel
    have HPA := hide hPa
    have HGR2 := hide hgr
    have HO := hide ho
    have hx2 := hx0.trans hxr2
    have hmk := hide (Grid.marks hgr HGL.out hPa.nod (fun y hy => (hPa.s y hy).1))
    cases R with
    | nil =>
      obtain ⟨A7, c7, rfl, _, _⟩ := ho.form
      clear hPa hgr ho
      go_wp2_with fail
      go_ret
      exact ⟨_, gs, S, rfl, ⟨OwnC.mono HGR2.out.out hx0.size, fun q hq => ⟨(HGR2.out.row q hq).1, Nat.le_trans hx0.size (HGR2.out.row q hq).2⟩, HGR2.out.nod⟩, HGL.out, HPA.out.all, hx2⟩
    | cons y R' =>
      obtain ⟨yp, yi⟩ := y
      obtain ⟨g7, off7, c7, rfl, h71, h72, h73, h74, h75⟩ := ho.at_ (by simp)
      obtain ⟨y0, y1⟩ := h75 0 (yp, yi) rfl
      simp only [List.length_cons, Nat.zero_mul, Nat.add_zero] at h71 y0 y1
      obtain ⟨hyin, hyhb⟩ := hPa.r (yp, yi) (by simp)
      have HYHB := hide hyhb
      have HYIN := hide hyin
      have HBD := hide hbd
      obtain ⟨A8, hcut, ho8⟩ := OwnC.cutL elId.ht elId.inf (A := some ⟨g7, off7, none⟩) (c := c7) ho 1 (kI := 1) rfl (by simp)
      have hdrop : (idsC ((yp, yi) :: R')).drop (1 * 2) = idsC R' := rfl
      rw [hdrop] at ho8
      simp only [List.length_cons, Nat.add_sub_cancel] at hcut ho8
      have HO8 := hide (show OwnIds wr W1.heap.size (.slice A8 R'.length (c7 - 1)) R' from ho8)
      obtain ⟨hyp', hy1, hy2⟩ := mem_ids.1 hyin
      have hyp : yp < t.length := hyp'
      have hyg : yp < gs.length := by rw [HGL.out.1]; exact hyp
      have hgl2 : gs[yp].2 = t[yp].evs.length + 1 := HGL.out.2 yp hyg hyp
      have hyg2 : yi < gs[yp].2 := by rw [hgl2]; simp at hy2; omega
      have hgn : gs[yp].2 ≤ 1000001 := by rw [hgl2]; have := hS.ne _ (List.getElem_mem hyp); omega
      obtain ⟨gO, offO, capO, curO, rfl, hBO, hbO, hO1, hO2, hO3, hcO⟩ := HGR2.out.out.open_ oM
      have o0 : wr.cell? ⟨gO, offO + yp, none⟩ = some (.slice (some ⟨gs[yp].1, 0, none⟩) gs[yp].2 gs[yp].2) := hbO.cell (hcO yp _ (by rw [List.getElem?_map, List.getElem?_eq_getElem hyg]; rfl))
      have r0 : wr.cell? ⟨gs[yp].1, yi, none⟩ = some (.bool (decide ((yp, yi) ∈ S))) := (HGR2.out.row yp hyg).1.cell (rowM_get hyg2)
      have HROW := hide (HGR2.out.row yp hyg)
      have hlO := hbO.lt
      have hlR := (HGR2.out.row yp hyg).1.lt
      have HGLN : Hx (gs.length = t.length) := hide HGL.out.1
      have hi1 : (yp : Int) < (gs.length : Int) := by omega
      have hi2 : (0 : Int) ≤ (yp : Int) := by omega
      have hi3 : (yi : Int) < (gs[yp].2 : Int) := by omega
      have hi4 : (0 : Int) ≤ (yi : Int) := by omega
      have hw1 := hxr2.size
      clear hPa hgr ho h75 ho8 hdrop hgl2 hyin hyhb hbd hbO hcO hO3
      unfold maxLen at h72 hO2
      generalize hgb : gs[yp].1 = gb at *
      generalize hgn2 : gs[yp].2 = gn at *
      have HGB := hide hgb
      have HGN := hide hgn2
      clear hgb hgn2
      go_wp2_with fail
      have by3 := hide (BoxN.new wr 38 #[.int .i64 yp, .int .i64 yi])
      have bt3 := hide (btr.alloc (.cells #[.int .i64 yp, .int .i64 yi] 38))
      have HG3 := hide (HGR2.out.alloc (.cells #[.int .i64 yp, .int .i64 yi] 38))
      have HO3 := hide (OwnC.alloc HO8.out (.cells #[.int .i64 yp, .int .i64 yi] 38))
      have HROW3 := hide (HROW.out.1.alloc (.cells #[.int .i64 yp, .int .i64 yi] 38))
      have hx3 := hide (hxr2.alloc (.cells #[.int .i64 yp, .int .i64 yi] 38))
      have o3 : (wr.alloc (.cells #[.int .i64 yp, .int .i64 yi] 38)).cell? ⟨gO, offO + yp, none⟩ = some (.slice (some ⟨gb, 0, none⟩) gn gn) := ((Ext.refl wr).alloc _).cellAt o0
      have y2 : (wr.alloc (.cells #[.int .i64 yp, .int .i64 yi] 38)).cell? ⟨wr.heap.size, 0, none⟩ = some (.int .i64 yp) := by3.out.cell rfl
      have y3 : (wr.alloc (.cells #[.int .i64 yp, .int .i64 yi] 38)).cell? ⟨wr.heap.size, 1, none⟩ = some (.int .i64 yi) := by3.out.cell rfl
      have r3 : (wr.alloc (.cells #[.int .i64 yp, .int .i64 yi] 38)).cell? ⟨gb, yi, none⟩ = some (.bool (decide ((yp, yi) ∈ S))) := HROW3.out.cell (rowM_get hyg2)
      have hsz : (wr.alloc (.cells #[.int .i64 yp, .int .i64 yi] 38)).heap.size = wr.heap.size + 1 := by simp
      have hy3 : wr.heap.size < (wr.alloc (.cells #[.int .i64 yp, .int .i64 yi] 38)).heap.size := by omega
      have hO3l : gO < (wr.alloc (.cells #[.int .i64 yp, .int .i64 yi] 38)).heap.size := by omega
      have hR3l : gb < (wr.alloc (.cells #[.int .i64 yp, .int .i64 yi] 38)).heap.size := by omega
      clear y0 y1 btr hxr2 hx2 o0 r0 hsz hcut
      generalize (wr.alloc (.cells #[.int .i64 yp, .int .i64 yi] 38)) = W3 at *
      generalize wr.heap.size = gy at *
      cases hms : decide ((yp, yi) ∈ S)
      ·have HMS : Hx ((yp, yi) ∉ S) := hide (of_decide_eq_false hms)
       rw [hms] at r3
       clear hms
       go_quiet (fail)
       revert nq; intro n1
       go_wp2_with fail
       replace by3 := hide (by3.out.drewN n1)
       replace bt3 := hide (bt3.out.drewN n1)
       replace HG3 := hide (HG3.out.drewN n1)
       replace HO3 := hide (OwnC.drewN HO3.out n1)
       replace HROW3 := hide (HROW3.out.drewN n1)
       replace hx3 := hide (hx3.out.drewN n1)
       have o4 : (W3.drewN n1).cell? ⟨gO, offO + yp, none⟩ = some (.slice (some ⟨gb, 0, none⟩) gn gn) := o3
       have y4 : (W3.drewN n1).cell? ⟨gy, 0, none⟩ = some (.int .i64 yp) := y2
       have y5 : (W3.drewN n1).cell? ⟨gy, 1, none⟩ = some (.int .i64 yi) := y3
       have r4 : (W3.drewN n1).cell? ⟨gb, yi, none⟩ = some (.bool false) := r3
       have hz1 : gy < (W3.drewN n1).heap.size := hy3
       have hz2 : gO < (W3.drewN n1).heap.size := hO3l
       have hz3 : gb < (W3.drewN n1).heap.size := hR3l
       clear o3 y2 y3 r3 hy3 hO3l hR3l
       generalize W3.drewN n1 = W4 at *
       have fr := HROW3.out.frozen yi
       go_region
       have HG5 := hide (show Grid (W4.setCell ⟨gb, yi, none⟩ (.bool true)).drew W1.heap.size (.slice (some ⟨gO, offO, none⟩) gs.length capO) gs (S ++ [(yp, yi)]) from by
        have := GridM.mark HG3.out (by decide) (i := yi) hyg
        rw [HGB.out] at this; exact this.ext ((Ext.refl _).drew))
       have hwb := bt0.lt
       have hgbB := HROW.out.2
       have HO5 := hide (show OwnIds (W4.setCell ⟨gb, yi, none⟩ (.bool true)).drew W1.heap.size _ R' from OwnC.drew (OwnC.other HO3.out (HO3.out.not_box HROW3.out (by decide)) _))
       have by5 := hide (BoxN.drew (by3.out.other (B' := gb) (j := yi) oM (.bool true)))
       have bt5 := hide (BoxN.drew (bt3.out.other (B' := gb) (j := yi) oM (.bool true)))
       have hx5 := hide (Ext.drew (Ext.set (j := yi) hx3.out hgbB (.bool true)))
       have hwx5 := hide (hx0.trans hx5.out)
       have y6 : ((W4.setCell ⟨gb, yi, none⟩ (.bool true)).drew).cell? ⟨gy, 0, none⟩ = some (.int .i64 yp) := by5.out.cell rfl
       have y7 : ((W4.setCell ⟨gb, yi, none⟩ (.bool true)).drew).cell? ⟨gy, 1, none⟩ = some (.int .i64 yi) := by5.out.cell rfl
       have t5 : ((W4.setCell ⟨gb, yi, none⟩ (.bool true)).drew).cell? ⟨w.heap.size, 0, none⟩ = some (.slice A t.length c) := bt5.out.cell rfl
       have HMJ := hide (PaI.mark HPA.out HMS.out)
       clear o4 y4 y5 r4 hz1 hz2 hz3 fr HG3 HO3 by3 bt3 hx3 HROW3
       generalize (W4.setCell ⟨gb, yi, none⟩ (.bool true)).drew = W5 at *
       go_wp2_with fail
       refine (HDI.out (yp, yi) HYIN.out _ hwx5.out).mono ?_
       rintro e w6 ⟨v8, rfl, ho8, he6⟩
       obtain ⟨A9, c9, rfl, h91, h92⟩ := OwnC.form ho8
       have hap : ∀ k, (Value.slice A8 R'.length (c7 - 1)).ownBlock = some k → (Value.slice A9 (backL t (yp, yi)).length c9).ownBlock ≠ some k := by
        intro k h1 h2
        have := (OwnC.blk HO5.out k h1).2
        have := (OwnC.blk ho8 k h2).1
        omega
       have HST2 := hide (show ∃ k R2, k ≤ (backL t (yp, yi)).length ∧ (Value.int .i64 0) = .int .i64 (k : Nat) ∧ PaJ t (p, i) (yp, yi) (S ++ [(yp, yi)]) R2 k ∧ Grid w6 W1.heap.size (.slice (some ⟨gO, offO, none⟩) gs.length capO) gs (S ++ [(yp, yi)]) ∧ OwnIds w6 W1.heap.size (.slice A8 R'.length (c7 - 1)) R2 ∧ OwnIds w6 0 (.slice A9 (backL t (yp, yi)).length c9) (backL t (yp, yi)) ∧ (∀ k, (Value.slice A8 R'.length (c7 - 1)).ownBlock = some k → (Value.slice A9 (backL t (yp, yi)).length c9).ownBlock ≠ some k) ∧ BoxN w6 w.heap.size 24 #[.slice A t.length c] ∧ Ext W1 w6 ∧ R2.length ≤ R'.length + k from
        ⟨0, R', Nat.zero_le _, rfl, HMJ.out, HG5.out.ext he6, OwnC.ext HO5.out he6, OwnC.mono ho8 (Nat.zero_le _), hap, bt5.out.ext he6, hx5.out.trans he6, Nat.le_refl _⟩)
       have hbl := hide (backL_len t (yp, yi))
       clear ho8 hap y6 y7 t5 he6
       unfold maxLen at h92
       go_wp2_with fail
       go_loopw [10, 7] (fun j v wr => ∃ k R2, k ≤ (backL t (yp, yi)).length ∧ j = .int .i64 (k : Nat) ∧ PaJ t (p, i) (yp, yi) (S ++ [(yp, yi)]) R2 k ∧ Grid wr W1.heap.size (.slice (some ⟨gO, offO, none⟩) gs.length capO) gs (S ++ [(yp, yi)]) ∧ OwnIds wr W1.heap.size v R2 ∧ OwnIds wr 0 (.slice A9 (backL t (yp, yi)).length c9) (backL t (yp, yi)) ∧ (∀ k, v.ownBlock = some k → (Value.slice A9 (backL t (yp, yi)).length c9).ownBlock ≠ some k) ∧ BoxN wr w.heap.size 24 #[.slice A t.length c] ∧ Ext W1 wr ∧ R2.length ≤ R'.length + k) (fun j _ _ => (backL t (yp, yi)).length - (intOf j).toNat)
       case atStart => exact HST2.out
       case round =>
        obtain ⟨k, R2, hk, rfl, hJ, hgr, ho, hd2, hne, hb4, hx4, hlen⟩ := hrel
        have HJ := hide hJ
        have HG6 := hide hgr
        have HO6 := hide ho
        have HD6 := hide hd2
        have HNE := hide hne
        have HB6 := hide hb4
        have HX6 := hide hx4
        have HLEN := hide hlen
        obtain ⟨A10, c10, rfl, h101, h102⟩ := OwnC.form ho
        by_cases hlt : k < (backL t (yp, yi)).length
        ·obtain ⟨⟨za, zb⟩, hz⟩ : ∃ z, (backL t (yp, yi))[k]? = some z := ⟨_, List.getElem?_eq_getElem hlt⟩
         obtain ⟨g2, off2, cap2, hv, hc2, _, _, hg2l, hcells⟩ := hd2.at_ oM
         injection hv with hA2 _ hc22
         subst hA2; subst hc22
         obtain ⟨e0, e1⟩ := hcells k _ hz
         have HZ := hide hz
         clear hcells hz hJ hgr ho hd2 hne hb4 hx4 hlen
         unfold maxLen at h102
         go_wp2_with (at_builtin; go_must (refine wpl_appC (v := .slice A10 R2.length c10) (n := R2.length) (.tmp 67) (.tmp 72) elId rfl rfl rfl rfl (OwnC.alloc HO6.out _) (SlC.lit (x := (za, zb)) _ (by simp) rfl rfl) (idsC_one _) (by have h1 := HLEN.out; have h2 := HBD.out; have h3 := hbl.out; rw [List.length_cons] at h2; omega) (by have := HX6.out.size; simp; omega) ?_; intro v1 w7 hown1 hgr1 hbl1))
         go_roundw
         case rel =>
          have ho7 := hide (OwnIds.snoc hown1 rfl)
          have hne7 : (Value.slice A10 R2.length c10).ownBlock ≠ some gO := fun e => by
           rcases OwnC.apart HG6.out.out HO6.out (by decide) with h | h
           ·cases h
           ·exact h (by rw [e]; rfl)
          have hrow7 : ∀ q (hq : q < gs.length), some gs[q].1 ≠ (Value.slice A10 R2.length c10).ownBlock := fun q hq e => HO6.out.not_box (HG6.out.row q hq).1 (by decide) e.symm
          have hbw : some w.heap.size ≠ (Value.slice A10 R2.length c10).ownBlock := fun e => by
           have h1 := (HO6.out.blk _ e.symm).1
           omega
          have hmw : ∀ k, (Value.slice (some ⟨g2, off2, none⟩) (backL t (yp, yi)).length c9).ownBlock = some k → k < wr.heap.size := fun k hk => (OwnC.blk HD6.out k hk).2
          refine ⟨k + 1, R2 ++ [(za, zb)], hlt, by go_num, HJ.out.push hP HZ.out, GridM.kept (HG6.out.alloc _) hgr1.1 (.inl fun e => hne7 (by rw [← e]; rfl)) hrow7, ho7.out, OwnC.kept (OwnC.alloc HD6.out _) hgr1.1 (.inr fun e => ?_), fun k hk => ?_, (HB6.out.alloc _).kept hgr1.1 hbw, Ext.more (HX6.out.alloc _) hbl1, by have := HLEN.out; simp; omega⟩
          ·exact HNE.out _ e.symm rfl
          ·rcases hgr1.2 k hk with h | h
           ·exact HNE.out k h
           ·intro e
            have := hmw k e
            simp at h; omega
         case measure => simp [intOf]; omega
        ·obtain rfl : k = (backL t (yp, yi)).length := by omega
         clear hJ hgr ho hd2 hne hb4 hx4 hlen
         unfold maxLen at h102
         go_wp2_with fail
         have hPI := hide (HJ.out.fin hP (Nat.le_refl _))
         go_roundw
         case rel =>
          refine ⟨_, R2, hPI.out, HG6.out, HO6.out, HB6.out, HX6.out, ?_⟩
          have h1 := HLEN.out
          have h2 := HBD.out
          have h3 := hbl.out
          have h4 := hPI.out.few
          rw [List.length_append] at h4 ⊢
          rw [List.length_cons] at h2
          rw [List.length_singleton] at h4 ⊢
          omega
         case measure =>
          rw [hmk.out, Grid.marks HG6.out HGL.out hPI.out.nod (fun y hy => (hPI.out.s y hy).1)]
          have h1 := HLEN.out
          have h3 := hbl.out
          have h4 := hPI.out.few
          rw [List.length_append] at h4 ⊢
          rw [List.length_singleton] at h4 ⊢
          simp only [lenV, List.length_cons]
          omega
      ·have HMS : Hx ((yp, yi) ∈ S) := hide (of_decide_eq_true hms)
       rw [hms] at r3
       clear hms
       go_quiet (fail)
       revert nq; intro n1
       go_wp2_with fail
       go_roundw
       case rel =>
        exact ⟨S, R', PaI.skip HPA.out HMS.out, HG3.out.drewN n1, OwnC.drewN HO3.out n1, bt3.out.drewN n1, hx3.out.drewN n1, by have := HBD.out; simp at this; omega⟩
       case measure =>
        rw [hmk.out, Grid.marks (HG3.out.drewN n1) HGL.out HPA.out.nod (fun y hy => (HPA.out.s y hy).1)]
        simp [lenV]
end Go.Proofs.Ytilcmenglgdljaa
