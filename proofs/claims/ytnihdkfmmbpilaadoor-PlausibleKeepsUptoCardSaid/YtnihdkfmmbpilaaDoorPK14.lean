/- Texts of one proof, laid together: I9, IB, IC, IE, IK, VC. No condition. -/
import Derived.Test.YtnihdkfmmbpilaaDoorPK13
import Derived.Test.YtnihdkfmmbpilaaDoorPK9
import Derived.Test.YtnihdkfmmbpilaaDoorPK11
import Derived.Test.YtnihdkfmmbpilaaDoorPK2
import Derived.Test.YtnihdkfmmbpilaaDoorPK12
import Derived.Test.YtnihdkfmmbpilaaDoorPK3
namespace Go.Proofs.YtnihdkfmmbpilaaDoor
set_option linter.unusedVariables false
theorem send_self {t : Tr} (hv : Vok t) {x : Nat × Nat} (hx : x ∈ ids t) (hk : (evAt t x).kind = 2) : findL t 2 (evAt t x).msg = some x := by
 have h := hv.pair x hx
 unfold pairF at h
 rw [hk] at h
 simp only [show ((2 : Int) == 2) = true from rfl, if_true] at h
 by_cases h1 : (findL t 2 (evAt t x).msg == some x) = true
 ·simpa using h1
 ·rw [if_neg h1] at h; cases h
theorem Hb.front {t : Tr} {x y : Nat × Nat} (h : Hb t x y) : ∃ z, Dir t x z ∧ (z = y ∨ Hb t z y) := by
 induction h with
 | one d => exact ⟨_, d, .inl rfl⟩
 | more _ d ih =>
   obtain ⟨z, dz, hz⟩ := ih
   refine ⟨z, dz, .inr ?_⟩
   rcases hz with rfl | hz
   ·exact .one d
   ·exact .more hz d
end Go.Proofs.YtnihdkfmmbpilaaDoor
namespace Go.Proofs.YtnihdkfmmbpilaaDoor
set_option linter.unusedVariables false
set_option linter.unusedSimpArgs false
def lt2 (a b : Nat × Nat) : Prop := a.1 < b.1 ∨ (a.1 = b.1 ∧ a.2 < b.2)
def rcvO (t : Tr) (x : Nat × Nat) : Option (Nat × Nat) := if (evAt t x).kind = 2 then findL t 3 (evAt t x).msg else none
def rowN (t : Tr) (x : Nat × Nat) : List (Nat × Nat) := if x.2 < (evsOf t x.1).length then [(x.1, x.2 + 1)] else []
def nextL (t : Tr) (x : Nat × Nat) : List (Nat × Nat) := match rcvO t x with
 | none => rowN t x
 | some z => if z.1 < x.1 then z :: rowN t x else rowN t x ++ [z]
theorem mem_rowN {t : Tr} {x z : Nat × Nat} : z ∈ rowN t x ↔ z = (x.1, x.2 + 1) ∧ x.2 < (evsOf t x.1).length := by
 unfold rowN
 by_cases h : x.2 < (evsOf t x.1).length
 ·rw [if_pos h]; simp [h]
 ·rw [if_neg h]; simp [h]
theorem mem_nextL {t : Tr} {x z : Nat × Nat} : z ∈ nextL t x ↔ Dir t x z := by
 have e : z ∈ nextL t x ↔ z ∈ rowN t x ∨ rcvO t x = some z := by
  unfold nextL
  cases hr : rcvO t x with
  | none => simp
  | some w =>
    simp only
    by_cases hw : w.1 < x.1
    ·rw [if_pos hw, List.mem_cons]
     constructor
     ·rintro (h | h)
      ·exact .inr (by rw [h])
      ·exact .inl h
     ·rintro (h | h)
      ·exact .inr h
      ·exact .inl (Option.some.inj h).symm
    ·rw [if_neg hw, List.mem_append, List.mem_singleton]
     constructor
     ·rintro (h | h)
      ·exact .inl h
      ·exact .inr (by rw [h])
     ·rintro (h | h)
      ·exact .inl h
      ·exact .inr (Option.some.inj h).symm
 rw [e, mem_rowN]
 unfold Dir rcvO
 by_cases hk : (evAt t x).kind = 2
 ·rw [if_pos hk]; simp [hk]
 ·rw [if_neg hk]; simp [hk]
theorem rcv_ne {t : Tr} (hv : Vok t) {x z : Nat × Nat} (hx : x ∈ ids t) (h : rcvO t x = some z) : z ∈ ids t ∧ z.1 ≠ x.1 ∧ sndr t z = x ∧ (evAt t z).kind = 3 := by
 unfold rcvO at h
 split at h
 ·rename_i hk
  have hz : z ∈ ids t := (firstOf_find h).2.2
  obtain ⟨k3, km⟩ := find_key h
  obtain ⟨_, hne, k2, m2⟩ := sndr_peer hv hz k3
  have s1 := send_self hv hx hk
  have s2 := send_self hv (sndr_in hv hz k3).1 k2
  rw [m2, km, s1] at s2
  have := Option.some.inj s2
  exact ⟨hz, by rw [this]; exact hne.symm, this.symm, k3⟩
 ·cases h
theorem le_cnt {t : Tr} {x y : Nat × Nat} (hx : x ∈ ids t) : Le t x y ↔ x.2 ≤ vc t y x.1 := by
 obtain ⟨p, i⟩ := x
 obtain ⟨i, rfl⟩ : ∃ k, i = k + 1 := ⟨i - 1, by have := mem_pos hx; simp only at this; omega⟩
 exact vc_iff (mem_ids2.1 hx).2
noncomputable def leadB (t : Tr) (y z : Nat × Nat) : Bool := decide (z.2 ≤ vc t y z.1)
theorem leadB_iff {t : Tr} (hv : Vok t) {y z : Nat × Nat} (hz : z ∈ ids t) : leadB t y z = true ↔ Le t z y := by
 unfold leadB
 rw [decide_eq_true_eq]
 exact (le_cnt hz).symm
noncomputable def stepO (t : Tr) (y x : Nat × Nat) : Option (Nat × Nat) := (nextL t x).find? (leadB t y)
theorem stepO_some {t : Tr} (hv : Vok t) {x y : Nat × Nat} (hx : x ∈ ids t) (hy : y ∈ ids t) (hl : Le t x y) (hne : x ≠ y) : ∃ z, stepO t y x = some z ∧ z ∈ ids t ∧ Dir t x z ∧ Le t z y := by
 rcases hl with rfl | h
 ·exact absurd rfl hne
 obtain ⟨z, dz, hz⟩ := h.front
 have hzm := dz.mem hx
 have hlz : Le t z y := hz
 cases hs : stepO t y x with
 | none =>
   unfold stepO at hs
   rw [List.find?_eq_none] at hs
   exact absurd ((leadB_iff hv hzm).2 hlz) (hs z (mem_nextL.2 dz))
 | some w =>
   unfold stepO at hs
   have h1 := List.mem_of_find?_eq_some hs
   have h2 := List.find?_some hs
   have dw := mem_nextL.1 h1
   have hw := dw.mem hx
   exact ⟨w, rfl, hw, dw, (leadB_iff hv hw).1 h2⟩
noncomputable def pathF (t : Tr) (y : Nat × Nat) : Nat → Nat × Nat → List (Nat × Nat)
 | 0, x => [x]
 | n + 1, x => if x = y then [x] else match stepO t y x with
   | none => [x]
   | some z => x :: pathF t y n z
noncomputable def pathL (t : Tr) (x y : Nat × Nat) : List (Nat × Nat) := pathF t y (ids t).length x
theorem rk_le {t : Tr} (hv : Vok t) {x y : Nat × Nat} (hy : y ∈ ids t) (h : Le t x y) : rk t x ≤ rk t y := by
 rcases h with rfl | h
 ·exact Nat.le_refl _
 ·exact Nat.le_of_lt (rk_lt hv hy h)
structure PathOk (t : Tr) (x0 y x : Nat × Nat) (n : Nat) (done : List (Nat × Nat)) : Prop where
 mem : x ∈ ids t
 le : Le t x y
 fuel : rk t y ≤ rk t x + n
 eq : done ++ pathF t y n x = pathL t x0 y
theorem PathOk.start {t : Tr} (hv : Vok t) {x y : Nat × Nat} (hx : x ∈ ids t) (h : Le t x y) : PathOk t x y x (ids t).length [] :=
 ⟨hx, h, by have := List.countP_le_length (p := fun z => leB t z y) (l := ids t); unfold rk; omega, rfl⟩
theorem PathOk.done {t : Tr} {x0 y : Nat × Nat} {n : Nat} {D : List (Nat × Nat)} (h : PathOk t x0 y y n D) : D ++ [y] = pathL t x0 y := by
 rw [← h.eq]
 cases n with
 | zero => rfl
 | succ n => unfold pathF; rw [if_pos rfl]
theorem PathOk.step {t : Tr} (hv : Vok t) {x0 y x : Nat × Nat} {n : Nat} {D : List (Nat × Nat)} (h : PathOk t x0 y x n D) (hy : y ∈ ids t) (hne : x ≠ y) : ∃ z m, n = m + 1 ∧ stepO t y x = some z ∧ PathOk t x0 y z m (D ++ [x]) ∧ Dir t x z := by
 obtain ⟨z, hs, hz, dz, hl⟩ := stepO_some hv h.mem hy h.le hne
 have hlt := rk_lt hv hz (.one dz)
 have hle := rk_le hv hy hl
 have hf := h.fuel
 cases n with
 | zero => omega
 | succ m =>
   refine ⟨z, m, rfl, hs, ⟨hz, hl, by omega, ?_⟩, dz⟩
   rw [← h.eq, List.append_assoc]
   congr 1
   rw [pathF, if_neg hne, hs]
   rfl
def PathIs (t : Tr) (y : Nat × Nat) (l : List (Nat × Nat)) : Prop := l.getLast? = some y ∧ ∀ a (h : a + 1 < l.length), l[a + 1] ∈ ids t ∧ Dir t l[a] l[a + 1]
theorem PathIs.cons {t : Tr} {y x z : Nat × Nat} {r : List (Nat × Nat)} (hz : z ∈ ids t) (d : Dir t x z) (h : PathIs t y (z :: r)) : PathIs t y (x :: z :: r) := by
 refine ⟨by rw [List.getLast?_cons_cons]; exact h.1, fun a ha => ?_⟩
 cases a with
 | zero => exact ⟨hz, d⟩
 | succ a => exact h.2 a (by simpa using ha)
end Go.Proofs.YtnihdkfmmbpilaaDoor
namespace Go.Proofs.YtnihdkfmmbpilaaDoor
set_option linter.unusedVariables false
set_option linter.unusedSimpArgs false
attribute [local go_sem ↓] run_skip run_region run_draw run_both run_seq run_block run_exit run_ret run_cond atN_app seqC_normal seqC_exit seqC_ret seqQ_normal seqQ_exit seqQ_ret blkQ_normal blkQ_exit blkQ_ret runOps_nil runOps_cons runD_nil runD_cons grdO_true grdO_false grdD_true grdD_false ifC_true ifC_false opS_val opS_call opS_two opK_app dS_val dS_call dS_two dK_app kUp_same kUp_ne
attribute [local go_sem] rechks_nil rechks_cons rechk gcase_true gcase_false ex_val ex_val0 gd_none gd_some ev_t ev_c evs_nil evs_cons evo_some evo_none hget_at hget_first hsetB_at hsetB_first hsetL_at hsetL_first ofOpt_some aop aload astore aslice aappend aiaddr aiaddrA afaddr alen alenS acopy amm acall alookup amupdate alenM atostr aappz comma keyEq apick binV binVB binVS isSh intOp strOp boolOp shOp eqC eqF and2 cellsOf setFrom fillA fillS rd rdI elems mk bounds AV.cell List.all_cons List.all_nil Bool.and_true Bool.true_and Bool.and_self List.length_cons List.length_nil List.length_append Nat.reduceAdd Nat.reduceSub Nat.reduceMul Nat.zero_add Nat.add_zero List.cons_append List.nil_append List.append_assoc List.append_nil List.getElem?_cons_zero List.getElem?_cons_succ List.getElem?_nil List.set_cons_zero List.set_cons_succ List.drop_zero List.drop_succ_cons List.take_zero List.take_succ_cons List.take_nil List.drop_nil List.map_cons List.map_nil Option.map_some if_true if_false Bool.false_eq_true and_self true_and and_true Nat.reduceLeDiff Nat.reduceLT Nat.le_refl Nat.reduceEqDiff ite_true ite_false beq_self_eq_true beq_true beq_false Bool.not_true Bool.not_false Bool.true_beq Bool.false_beq map_vs vs_len vs_get vs_take vs_drop vs_snoc1 vs_snoc2 vs_snoc3 vs_snoc5 vs_set1 vs_set2 vs_rep wrap_id le_T lt_T le_F lt_F leI_T ltI_T leI_F ltI_F geI gtI get_T decide_true decide_false room List.getElem?_map List.length_map List.length_take Int.toNat_natCast Nat.min_def Nat.min_self nth_kOf put_kOf put_kNo kOv_cons kOv_nil KHas KArgs List.getElem_cons_zero List.getElem_cons_succ
def a_ConcC : AFunc := ⟨3,37,[.tmp 6,.tmp 7],(.seq (.region [⟨some 3,.box (.t 0),none⟩,⟨some 4,.box (.t 1),none⟩,⟨some 5,.box (.t 2),none⟩,⟨some 6,.mv (.c (.v (.bool false))),none⟩,⟨some 7,.mv (.c (.v (.int .i64 0))),none⟩]) (.seq (.seq (.region [⟨some 10,.load (some 1) (.t 3),none⟩,⟨some 11,.load (some 2) (.t 4),none⟩,⟨some 12,.load (some 2) (.t 5),none⟩,⟨some 13,.bslice 2 [(.v (.int .i64 0)),(.v (.int .i64 0))] 2 [(0,(.t 11)),(1,(.t 12))],none⟩,⟨some 14,.call (.c (.fn 72 [])) [(.t 10),(.t 13)],none⟩,⟨some 8,.mv (.t 14),none⟩]) (.seq (.region [⟨some 15,.mv (.t 8),none⟩,⟨some 16,.bin .neq (.t 15) (.c (.v (.int .i64 0))),none⟩]) (.cond (.t 16) (.seq (.region [⟨some 17,.mv (.t 8),none⟩,⟨some 6,.mv (.c (.v (.bool false))),none⟩,⟨some 7,.mv (.t 17),none⟩]) .ret) .skip))) (.seq (.region [⟨some 18,.load (some 1) (.t 3),none⟩,⟨some 19,.call (.c (.fn 74 [])) [(.t 18)],none⟩,⟨some 9,.alloc [(.v .zsl),(.v .nilm),(.v .nilm)],none⟩,⟨none,.store 3 (.t 9) (.t 19),none⟩]) (.seq (.region [⟨some 20,.load (some 2) (.t 4),none⟩,⟨some 21,.load (some 2) (.t 5),none⟩,⟨some 22,.eqs true [.i,.i] (.t 20) (.t 21),none⟩,⟨some 23,.mv (.t 22),none⟩,⟨some 24,.load (some 3) (.t 9),some (23,true)⟩,⟨some 25,.load (some 2) (.t 4),some (23,true)⟩,⟨some 26,.load (some 2) (.t 5),some (23,true)⟩,⟨some 27,.call (.c (.fn 73 [])) [(.t 24),(.t 25),(.t 26)],some (23,true)⟩,⟨some 28,.not (.t 27),some (23,true)⟩,⟨some 29,.pick (.t 23) (.t 28) (.c (.v (.bool false))),none⟩,⟨some 30,.mv (.t 29),none⟩,⟨some 31,.load (some 3) (.t 9),some (30,true)⟩,⟨some 32,.load (some 2) (.t 5),some (30,true)⟩,⟨some 33,.load (some 2) (.t 4),some (30,true)⟩,⟨some 34,.call (.c (.fn 73 [])) [(.t 31),(.t 32),(.t 33)],some (30,true)⟩,⟨some 35,.not (.t 34),some (30,true)⟩,⟨some 36,.pick (.t 30) (.t 35) (.c (.v (.bool false))),none⟩,⟨some 6,.mv (.t 36),none⟩,⟨some 7,.mv (.c (.v (.int .i64 0))),none⟩]) .ret))))⟩
theorem a_ConcC_ok : cFunc Tryd.prog 27 = some a_ConcC := by kernel_rfl

noncomputable def concB2 (t : Tr) (x y : Nat × Nat) : Bool := !(decide (x = y)) && (!befB t x y && !befB t y x)
noncomputable def conR (t : Tr) (x y : Int × Int) : AV := .tup [.v (.bool (decide (chkE t [x, y] = 0) && concB2 t (x.1.toNat, x.2.toNat) (y.1.toNat, y.2.toNat))), .v (.int .i64 (chkE t [x, y]))]
theorem ConcC_spec (t : Tr) (hS : Small t) (hN : Nm t) (hC : validL t = true → (ids t).length ≤ 1000000) (x y : Int × Int) (b l : List Row) :
  ACalls Tryd.prog 27 [.agg [.v (eT t)], idP x, idP y] b l (fun r b' l' => r = conR t x y ∧ b' = b ∧ l' = l) := by
 refine calls_kept a_ConcC_ok rfl (by decide) ?_
 intro B g hB hR hE hA
 simp only [KArgs] at hA
 simp (disch := (first | decide | omega)) only [a_ConcC, hA, idP, List.replicate_succ, List.replicate_zero, go_sem]
 refine ACalls.frzB (i := 3) (ver := 0) (sz := 2) (rows := [eIdP x, eIdP y]) (args' := [.agg [.v (eT t)], .v (.isl 2 [eIdP x, eIdP y])]) rfl (by simp [frz, frz0]) ?_
 refine ACalls.nxt (check_spec t hS hN [x, y] (by simp) _ _) ?_
 by_cases h0 : chkE t [x, y] = 0
 ·obtain ⟨hval, hall⟩ := chkE_zero.1 h0
  have hv := vok hval
  obtain ⟨p, i, e1, e2, hx⟩ := existsB_in (hall x (by simp))
  obtain ⟨q, j, e3, e4, hy⟩ := existsB_in (hall y (by simp))
  obtain ⟨x1, x2⟩ := x
  obtain ⟨y1, y2⟩ := y
  simp only at e1 e2 e3 e4
  subst e1; subst e2; subst e3; subst e4
  have hn0 : ((0 : Int) != 0) = false := rfl
  unfold conR
  rw [h0]
  simp (disch := (first | decide | omega)) only [hA, hn0, idP, go_sem]
  refine ACalls.nxt (knows_spec t hv hS _ _) ?_
  have hb := fun b l s r => before_spec t hv hS (hC hval) s r _ _ hx hy b l
  have hb2 := fun b l s r => before_spec t hv hS (hC hval) s r _ _ hy hx b l
  simp only [idA] at hb hb2
  have heq : (((p : Int) == (q : Int)) && (((i + 1 : Nat) : Int) == ((j + 1 : Nat) : Int))) = decide ((p, i + 1) = (q, j + 1)) := by
   rw [Bool.eq_iff_iff]; simp; omega
  by_cases he : (p, i + 1) = (q, j + 1)
  ·rw [decide_eq_true he] at heq
   have hc : concB2 t (p, i + 1) (q, j + 1) = false := by unfold concB2; rw [decide_eq_true he]; rfl
   simp (disch := (first | decide | omega)) only [hA, kA, knoR, heq, go_sem]
   exact leave_pure (xs := [.v (.bool false), .v (.int .i64 0)]) (.inr rfl) (by simp (disch := (first | decide | omega)) only [resVs, resV, go_sem, hA]) kO hR hB ⟨by simp [hc, one], rfl, rfl⟩
  ·rw [decide_eq_false he] at heq
   simp (disch := (first | decide | omega)) only [hA, kA, knoR, heq, go_sem]
   refine ACalls.nxt (hb _ _ _ _ (by rw [List.getElem?_append_right oM, show B.length + 4 + 2 - B.length = 6 by omega]; rfl) (by rw [List.getElem?_append_right oM, show B.length + 4 + 3 - B.length = 7 by omega]; rfl)) ?_
   cases h1 : befB t (p, i + 1) (q, j + 1) with
   | true =>
     have hc : concB2 t (p, i + 1) (q, j + 1) = false := by unfold concB2; rw [h1]; simp
     simp (disch := (first | decide | omega)) only [hA, kA, knoR, heq, go_sem]
     exact leave_pure (xs := [.v (.bool false), .v (.int .i64 0)]) (.inr rfl) (by simp (disch := (first | decide | omega)) only [resVs, resV, go_sem, hA]) kO hR hB ⟨by simp [hc, one], rfl, rfl⟩
   | false =>
     have hc : concB2 t (p, i + 1) (q, j + 1) = !befB t (q, j + 1) (p, i + 1) := by unfold concB2; rw [h1, decide_eq_false he]; simp
     simp (disch := (first | decide | omega)) only [hA, kA, knoR, heq, go_sem]
     refine ACalls.nxt (hb2 _ _ _ _ (by rw [List.getElem?_append_right oM, show B.length + 4 + 2 - B.length = 6 by omega]; rfl) (by rw [List.getElem?_append_right oM, show B.length + 4 + 3 - B.length = 7 by omega]; rfl)) ?_
     simp (disch := (first | decide | omega)) only [hA, go_sem]
     exact leave_pure (xs := [.v (.bool (!befB t (q, j + 1) (p, i + 1))), .v (.int .i64 0)]) (.inr rfl) (by simp (disch := (first | decide | omega)) only [resVs, resV, go_sem, hA]) kO hR hB ⟨by simp [hc, one], rfl, rfl⟩
 ·have hn0 : (chkE t [x, y] != 0) = true := by simpa using h0
  simp (disch := (first | decide | omega)) only [hA, hn0, go_sem]
  exact leave_pure (xs := [.v (.bool false), .v (.int .i64 (chkE t [x, y]))]) (.inr rfl) (by simp (disch := (first | decide | omega)) only [resVs, resV, go_sem, hA]) kO hR hB ⟨by unfold conR; rw [decide_eq_false h0]; rfl, rfl, rfl⟩
end Go.Proofs.YtnihdkfmmbpilaaDoor
namespace Go.Proofs.YtnihdkfmmbpilaaDoor
set_option linter.unusedVariables false
set_option linter.unusedSimpArgs false
structure Cinv (t : Tr) (x : Nat × Nat) (c : Nat → Nat) : Prop where
 le : ∀ q, c q ≤ vc t x q
 src : x.2 ≤ c x.1
 out : ∀ q, t.length ≤ q → c q = 0
theorem Cinv.dn {t : Tr} {x : Nat × Nat} {c : Nat → Nat} (h : Cinv t x c) (q : Nat) : c q ≤ (evsOf t q).length := Nat.le_trans (h.le q) vc_le
theorem Cinv.at {t : Tr} {x : Nat × Nat} {c : Nat → Nat} (h : Cinv t x c) {q j : Nat} (hj : j < c q) : (q, j + 1) ∈ ids t ∧ Le t (q, j + 1) x := by
 have hq : q < t.length := Nat.lt_of_not_le fun hn => by have := h.out q hn; omega
 have h1 := h.dn q
 exact ⟨mem_ids2.2 ⟨hq, by omega⟩, (vc_iff oM).2 (by have := h.le q; omega)⟩
def clo0 (x : Nat × Nat) : Nat → Nat := fUp (fun _ => 0) x.1 x.2
theorem Cinv.start {t : Tr} (hv : Vok t) {x : Nat × Nat} (hx : x ∈ ids t) : Cinv t x (clo0 x) := by
 have hp := (mem_ids.1 hx).1
 refine ⟨fun q => ?_, by unfold clo0; rw [fUp_same]; exact Nat.le_refl _, fun q hq => ?_⟩
 ·unfold clo0
  by_cases hq : q = x.1
  ·subst hq; rw [fUp_same]; exact (le_cnt hx).1 (.refl _)
  ·rw [fUp_ne hq]; exact Nat.zero_le _
 ·unfold clo0
  rw [fUp_ne oM]
def okC (t : Tr) (c : Nat → Nat) (q j : Nat) : Prop := (evAt t (q, j + 1)).kind = 3 → (sndr t (q, j + 1)).2 ≤ c (sndr t (q, j + 1)).1
theorem Cinv.up {t : Tr} (hv : Vok t) {x : Nat × Nat} {c : Nat → Nat} (h : Cinv t x c) {q j : Nat} (hj : j < c q) (hk : (evAt t (q, j + 1)).kind = 3) (hlt : c (sndr t (q, j + 1)).1 < (sndr t (q, j + 1)).2) :
  Cinv t x (fUp c (sndr t (q, j + 1)).1 (sndr t (q, j + 1)).2) := by
 obtain ⟨h1, h2⟩ := h.at hj
 obtain ⟨s1, s2⟩ := sndr_in hv h1 hk
 have hl : Le t (sndr t (q, j + 1)) x := Le.trans (.inr s2) h2
 refine ⟨fun r => ?_, ?_, fun r hr => ?_⟩
 ·by_cases hr : r = (sndr t (q, j + 1)).1
  ·rw [hr, fUp_same]; exact (le_cnt s1).1 hl
  ·rw [fUp_ne hr]; exact h.le r
 ·by_cases hr : x.1 = (sndr t (q, j + 1)).1
  ·rw [hr, fUp_same]; have := h.src; rw [hr] at this; omega
  ·rw [fUp_ne hr]; exact h.src
 ·rw [fUp_ne (by have := (mem_ids.1 s1).1; omega)]; exact h.out r hr
theorem Cinv.done {t : Tr} (hv : Vok t) {x : Nat × Nat} (hx : x ∈ ids t) {c : Nat → Nat} (h : Cinv t x c) (hc : ∀ q, q < t.length → ∀ j, j < c q → okC t c q j) {q : Nat} (hq : q < t.length) : c q = vc t x q := by
 have hP : Pst t x c [] := by
  refine ⟨fun y hy => by simp at hy, fun p i hi => ?_, .inr h.src, fun z hz hzc y hy => .inr ?_⟩
  ·obtain ⟨h1, h2⟩ := h.at hi
   exact ⟨(mem_ids2.1 h1).1, (mem_ids2.1 h1).2, h2⟩
  ·obtain ⟨p, i⟩ := z
   obtain ⟨i, rfl⟩ : ∃ k, i = k + 1 := ⟨i - 1, by have := mem_pos hz; simp only at this; omega⟩
   simp only at hzc
   rcases backL_cases hy with ⟨h1, rfl⟩ | ⟨h1, rfl⟩
   ·simp only; omega
   ·exact hc p (mem_ids2.1 hz).1 i oM h1
 exact hP.done hv hx hq
end Go.Proofs.YtnihdkfmmbpilaaDoor
namespace Go.Proofs.YtnihdkfmmbpilaaDoor
set_option linter.unusedVariables false
set_option linter.unusedSimpArgs false
attribute [local go_sem ↓] run_skip run_region run_draw run_both run_seq run_block run_exit run_ret run_cond atN_app seqC_normal seqC_exit seqC_ret seqQ_normal seqQ_exit seqQ_ret blkQ_normal blkQ_exit blkQ_ret runOps_nil runOps_cons runD_nil runD_cons grdO_true grdO_false grdD_true grdD_false ifC_true ifC_false opS_val opS_call opS_two opK_app dS_val dS_call dS_two dK_app kUp_same kUp_ne
attribute [local go_sem] rechks_nil rechks_cons rechk gcase_true gcase_false ex_val ex_val0 gd_none gd_some ev_t ev_c evs_nil evs_cons evo_some evo_none hget_at hget_first hsetB_at hsetB_first hsetL_at hsetL_first ofOpt_some aop aload astore aslice aappend aiaddr aiaddrA afaddr alen alenS acopy amm acall alookup amupdate alenM atostr aappz comma keyEq apick binV binVB binVS isSh intOp strOp boolOp shOp eqC eqF and2 cellsOf setFrom fillA fillS rd rdI elems mk bounds AV.cell List.all_cons List.all_nil Bool.and_true Bool.true_and Bool.and_self List.length_cons List.length_nil List.length_append Nat.reduceAdd Nat.reduceSub Nat.reduceMul Nat.zero_add Nat.add_zero List.cons_append List.nil_append List.append_assoc List.append_nil List.getElem?_cons_zero List.getElem?_cons_succ List.getElem?_nil List.set_cons_zero List.set_cons_succ List.drop_zero List.drop_succ_cons List.take_zero List.take_succ_cons List.take_nil List.drop_nil List.map_cons List.map_nil Option.map_some if_true if_false Bool.false_eq_true and_self true_and and_true Nat.reduceLeDiff Nat.reduceLT Nat.le_refl Nat.reduceEqDiff ite_true ite_false beq_self_eq_true beq_true beq_false Bool.not_true Bool.not_false Bool.true_beq Bool.false_beq map_vs vs_len vs_get vs_take vs_drop vs_snoc1 vs_snoc2 vs_snoc3 vs_snoc5 vs_set1 vs_set2 vs_rep wrap_id le_T lt_T le_F lt_F leI_T ltI_T leI_F ltI_F geI gtI get_T decide_true decide_false room List.getElem?_map List.length_map List.length_take Int.toNat_natCast Nat.min_def Nat.min_self nth_kOf put_kOf put_kNo kOv_cons kOv_nil KHas KArgs List.getElem_cons_zero List.getElem_cons_succ
theorem Weak.shift {e e' : List AV} {b pre l l' : List Row} (h : Weak e (b ++ pre) l e' (b ++ pre) l') : Weak e b (pre ++ l) e' b (pre ++ l') := by
 intro F L w a s he
 rw [← List.append_assoc] at s
 obtain ⟨F', L', h1, h2, h3, h4⟩ := h F L w a s he
 refine ⟨F', L', by rw [← List.append_assoc]; exact h1, h2, ?_, rfl⟩
 rw [← List.append_assoc, ← List.append_assoc]
 exact h3.weaken (by simp)
theorem mR_lt' {n v0 base sz m : Nat} {ver : Nat → Nat} {R : Nat → List (List IV)} (h : base + (n + 1) ≤ m) : RowsLt m (mR n v0 base sz 0 ver R) := by
 intro id ver' sz' els hr row hrow c hc
 unfold mR at hr
 cases id with
 | zero =>
   rw [List.getElem?_cons_zero] at hr
   cases hr
   obtain ⟨j, hj, rfl⟩ := List.mem_map.1 hrow
   simp only [List.mem_singleton] at hc
   subst hc
   have := List.mem_range.1 hj
   unfold mC
   rw [if_neg oM]
   exact .sl _ _ _ _ oM
 | succ id =>
   rw [List.getElem?_cons_succ] at hr
   by_cases hid : id < n
   ·rw [fl_get hid] at hr
    unfold mD at hr
    rw [if_neg oM] at hr
    cases hr
    obtain ⟨r0, _, rfl⟩ := List.mem_map.1 hrow
    obtain ⟨x0, _, rfl⟩ := List.mem_map.1 hc
    exact .v _
   ·rw [fl_none oM] at hr; cases hr
theorem leave_matP {rs : List ARes} {Q : AV → List Row → List Row → Prop} {B e l : List _} {ex : AExit} (hex : ex = .normal ∨ ex = .ret) {n m v0 sz : Nat} {ver : Nat → Nat} {R : Nat → List (List IV)} {pre junk : List Row} (hx : resVs e B l rs = some [.sl (B.length + m) v0 0 n]) (hm : pre.length = m) (hl : l = pre ++ mR n v0 (B.length + m) sz 0 ver R ++ junk)
  (hp : RowsLt (B.length + m) pre) (hR : RowsLt B.length B) {b0 l0 : List Row} (hB : B = b0 ++ l0) (hq : Q (.v (.isl 1 (mV n sz R))) b0 l0) : Leaves rs Q b0.length ex e B l := by
 subst hm
 have hlm : (mR n v0 (B.length + pre.length) sz 0 ver R).length = n + 1 := by simp [mR, fl_len]
 have hbl : (B ++ pre).length = B.length + pre.length := List.length_append
 refine leave hex hx (y := .v (.isl 1 (mV n sz R))) (l' := []) ?_ hB (by simpa using hq)
 refine (Weak.trim (l1 := pre ++ mR n v0 (B.length + pre.length) sz 0 ver R) hl ?_ (hR.mono oM) ?_).trans ?_
 ·intro x hx
  simp only [one, List.mem_singleton] at hx
  subst hx
  exact .sl _ _ _ _ (by rw [List.length_append]; omega)
 ·intro id ver' sz' els hr row hrow c hc
  by_cases hid : id < pre.length
  ·rw [List.getElem?_append_left hid] at hr
   exact (hp id ver' sz' els hr row hrow c hc).mono (by rw [List.length_append]; omega)
  ·rw [List.getElem?_append_right oM] at hr
   exact mR_lt' (m := B.length + (pre ++ mR n v0 (B.length + pre.length) sz 0 ver R).length) (by rw [List.length_append]; omega) _ ver' sz' els hr row hrow c hc
 have h0 : Weak [one [AV.sl (B.length + pre.length) v0 0 n]] (B ++ pre) (mR n v0 (B ++ pre).length sz 0 ver R) [one [AV.sl (B.length + pre.length) v0 0 n]] (B ++ pre) (mR n v0 (B ++ pre).length sz n ver R) :=
  Weak.mfrz (fun i hi => by
   simp only [one, List.map_cons, List.map_nil, frz, frz0]
   rw [if_neg (by rw [hbl]; omega)]) n (Nat.le_refl _)
 have h1 := Weak.freezeR (e := [one [AV.sl (B.length + pre.length) v0 0 n]]) (b := B ++ pre) (i := 0) (rows := mV n sz R) (mR_all (n := n) (v0 := v0) (base := (B ++ pre).length) (sz := sz) (ver := ver) (R := R))
 have h2 : List.map (frz ((B ++ pre).length + 0) v0 1 (mV n sz R)) [one [AV.sl (B.length + pre.length) v0 0 n]] = [.v (.isl 1 (mV n sz R))] := by
  simp [one, frz, frz0, mV, fl_len, hbl]
  unfold fl
  rw [List.take_of_length_le (by simp)]
 rw [h2] at h1
 have h3 := (h0.trans h1).shift
 rw [hbl] at h3
 refine h3.trans ?_
 exact Weak.trim (l1 := []) rfl (by
  intro x hx
  simp only [List.mem_singleton] at hx
  subst hx
  exact .v _) (by simpa using hR) RowsLt_nil
def bR (n : Nat) (f : Nat → Bool) : List (List IV) := fl n fun k => [.bool (f k)]
def tbW (n : Nat) (R : Nat → Nat → Bool) (j : Nat) : Row := .live 0 1 (vs (bR n (R j)))
end Go.Proofs.YtnihdkfmmbpilaaDoor
namespace Go.Proofs.YtnihdkfmmbpilaaDoor
set_option linter.unusedVariables false
def concB (t : Tr) (rank : Nat × Nat → Nat) : Bool :=
 decide (1 ≤ t.length) && (decide (t.length ≤ 8) && ((List.range t.length).all (fun p => headF t p == 0) && ((ids t).all (fun x => formF t x == 0) && ((ids t).all (fun x => pairF t x == 0) && (ids t).all (fun x => (dirL t x).all fun y => decide (rank x < rank y))))))
theorem conc_fault {t : Tr} {rank : Nat × Nat → Nat} (h : concB t rank = true) : faultL t = ((0, 0), 0) := by
 simp only [concB, Bool.and_eq_true, decide_eq_true_eq, List.all_eq_true, beq_iff_eq] at h
 obtain ⟨h1, h2, h3, h4, h5, h6⟩ := h
 have hb : ∀ {x y : Nat × Nat}, Hb t x y → x ∈ ids t → rank x < rank y := by
  intro x y hxy
  induction hxy with
  | one h => intro hx; exact h6 _ hx _ (mem_dirL.2 h)
  | more h k ih =>
    intro hx
    exact Nat.lt_trans (ih hx) (h6 _ (Hb.mem hx h) _ (mem_dirL.2 k))
 unfold faultL
 rw [if_neg oM]
 have e1 : (List.range t.length).find? (fun p => headF t p != 0) = none := by
  rw [List.find?_eq_none]; intro p hp; simp [h3 p hp]
 have e2 : (ids t).find? (fun x => formF t x != 0) = none := by
  rw [List.find?_eq_none]; intro p hp; simp [h4 p hp]
 have e3 : (ids t).find? (fun x => pairF t x != 0) = none := by
  rw [List.find?_eq_none]; intro p hp; simp [h5 p hp]
 rw [e1]; simp only
 rw [e2]; simp only
 rw [e3]; simp only
 have e4 : (ids t).find? (fun x => @decide (Hb t x x) (Classical.propDecidable _)) = none := by
  rw [List.find?_eq_none]
  intro x hx
  simp only [decide_eq_true_eq]
  intro hh
  have := hb hh hx
  omega
 rw [e4]
theorem conc_valid {t : Tr} {rank : Nat × Nat → Nat} (h : concB t rank = true) : validL t = true := by simp [validL, conc_fault h]
end Go.Proofs.YtnihdkfmmbpilaaDoor
