/- Texts of one proof, laid together: NZ. No condition. -/
import Derived.Test.YtilcmenglgdljaaNO9
import Derived.Test.YtilcmenglgdljaaNO6
namespace Go.Proofs.Ytilcmenglgdljaa
set_option linter.unusedVariables false
set_option linter.unusedSimpArgs false
attribute [local go_sem ↓] run_skip run_region run_draw run_seq run_block run_exit run_ret run_cond atN_app seqC_normal seqC_exit seqC_ret seqQ_normal seqQ_exit seqQ_ret blkQ_normal blkQ_exit blkQ_ret runOps_nil runOps_cons runD_nil runD_cons grdO_true grdO_false grdD_true grdD_false ifC_true ifC_false opS_val opS_call opS_two opK_app dS_val dS_call dS_two dK_app kUp_same kUp_ne
attribute [local go_sem] rechks_nil rechks_cons rechk gcase_true gcase_false ex_val ex_val0 gd_none gd_some ev_t ev_c evs_nil evs_cons evo_some evo_none hget_at hget_first hsetB_at hsetB_first hsetL_at hsetL_first ofOpt_some aop aload astore aslice aappend aiaddr aiaddrA afaddr alen alenS acopy amm acall alookup amupdate alenM comma keyEq apick binV binVB binVS isSh intOp strOp boolOp shOp eqC eqF and2 cellsOf setFrom fillA fillS rd rdI elems mk bounds AV.cell List.all_cons List.all_nil Bool.and_true Bool.true_and Bool.and_self List.length_cons List.length_nil List.length_append Nat.reduceAdd Nat.reduceSub Nat.reduceMul Nat.zero_add Nat.add_zero List.cons_append List.nil_append List.append_assoc List.append_nil List.getElem?_cons_zero List.getElem?_cons_succ List.getElem?_nil List.set_cons_zero List.set_cons_succ List.drop_zero List.drop_succ_cons List.take_zero List.take_succ_cons List.take_nil List.drop_nil List.map_cons List.map_nil Option.map_some if_true if_false Bool.false_eq_true and_self true_and and_true Nat.reduceLeDiff Nat.reduceLT Nat.le_refl Nat.reduceEqDiff ite_true ite_false beq_self_eq_true beq_true beq_false Bool.not_true Bool.not_false Bool.true_beq Bool.false_beq map_vs vs_len vs_get vs_take vs_drop vs_snoc1 vs_snoc2 vs_snoc3 vs_snoc5 vs_set1 vs_set2 vs_rep wrap_id le_T lt_T le_F lt_F leI_T ltI_T leI_F ltI_F geI gtI get_T decide_true decide_false room List.getElem?_map List.length_map List.length_take Int.toNat_natCast Nat.min_def Nat.min_self nth_kOf put_kOf put_kNo kOv_cons kOv_nil KHas KArgs List.getElem_cons_zero List.getElem_cons_succ
structure StO (n : Nw) (m : Ms) (B : Nat) (l : List Row) (ver : Nat) (els : List (List AV)) : Prop where
 g0 : l[0]? = some (nwRow n)
 g1 : l[1]? = some (sdM m)
 g2 : l[2]? = some (nwRow n)
 g3 : l[3]? = some (.live ver 5 els)
 we : ∀ e ∈ els, WE B l e
theorem StO.len {n : Nw} {m : Ms} {B : Nat} {l : List Row} {ver : Nat} {els : List (List AV)} (h : StO n m B l ver els) : 4 ≤ l.length := by
 have := (List.getElem?_eq_some_iff.1 h.g3).1; omega
theorem StO.app {n : Nw} {m : Ms} {B : Nat} {l : List Row} {ver : Nat} {els : List (List AV)} (h : StO n m B l ver els) (r : List Row) : StO n m B (l ++ r) ver els := by
 have gl : ∀ {i : Nat} {x : Row}, l[i]? = some x → (l ++ r)[i]? = some x := fun hx => by
  rw [List.getElem?_append_left (List.getElem?_eq_some_iff.1 hx).1]; exact hx
 exact ⟨gl h.g0, gl h.g1, gl h.g2, gl h.g3, fun e he => (h.we e he).hi ((Hi.refl l).app r)⟩
theorem StO.add {n : Nw} {m : Ms} {B : Nat} {l : List Row} {ver : Nat} {els : List (List AV)} (h : StO n m B l ver els) {e : List AV} (he : WE B l e) (v' : Nat) : StO n m B (l.set 3 (.live v' 5 (els ++ [e]))) v' (els ++ [e]) := by
 have hl := h.len
 have hh : Hi l (l.set 3 (.live v' 5 (els ++ [e]))) := (Hi.refl l).set oM _
 refine ⟨by rw [List.getElem?_set_ne oM]; exact h.g0, by rw [List.getElem?_set_ne oM]; exact h.g1, by rw [List.getElem?_set_ne oM]; exact h.g2, List.getElem?_set_self oM, fun x hx => ?_⟩
 rcases List.mem_append.1 hx with hx | hx
 ·exact (h.we x hx).hi hh
 ·simp only [List.mem_singleton] at hx; subst hx; exact he.hi hh
theorem WE.len {B : Nat} {l : List Row} {e : List AV} (h : WE B l e) : e.length = 5 := by
 obtain ⟨_, _, _, _, _, _, _, _, _, _, _, rfl, _⟩ := h; rfl
theorem woN_s2 {n : Nw} (hS : NwS n) {k : Nat} : NwS (woN n k) := by
 have h1 := hS.l
 have h2 := hS.tm
 unfold woN
 refine ⟨?_, ?_, hS.fates, fun x hx => ?_⟩
 ·simp only [List.length_append, List.length_take, List.length_drop]; omega
 ·simp only [List.length_append, List.length_take, List.length_drop]; omega
 ·simp only [List.mem_append] at hx
  rcases hx with hx | hx
  ·exact hS.body x (List.mem_of_mem_take hx)
  ·exact hS.body x (List.mem_of_mem_drop hx)
theorem sdLv_lens {n : Nw} (hv : NwV n) {m : Ms} {c : Nat} : (sdLv n m c).xs.length = (sdLv n m c).tm.length := by
 have := hv.len
 show (sdX _ _ _ c).length = (sdT _ _ _ c).length
 rw [sdX_len, sdT_len, this]
theorem rcLv_lens {n : Nw} (hv : NwV n) {k : Nat} : (rcLv n k).xs.length = (rcLv n k).tm.length := by
 have h1 : (clone0 n).xs.length = n.l.length := fl_len
 have := hv.len
 unfold rcLv
 simp only [List.length_append, List.length_take, List.length_drop, h1, this]
theorem ACalls.nxtE {P : Program} {f : Nat} {args : List AV} {b l B' L' : List Row} {x : AV} {K : AV → List Row → List Row → Prop} (h : ACalls P f args b l (fun r b' l' => r = x ∧ b' = B' ∧ l' = L')) (k : ∀ l2, l2 = L' → K x B' l2) : ACalls P f args b l K := ACalls.nxt h (k _ rfl)
theorem av_cells (z : Lv) (p : Nat) : ∃ (x0 : Int) (x1 : Bool) (v1 k1 v2 k2 o k3 : Nat), z.av p = .agg [.v (.int .i64 x0), .v (.bool x1), .sl p v1 0 k1, .sl (p + 1) v2 0 k2, .sl (p + 2) 1 o k3] := ⟨_, _, _, _, _, _, _, _, rfl⟩
theorem own_we {z : Lv} (h : z.ok) (hs : NwS z.nw) (hlen : z.xs.length = z.tm.length) {B : Nat} {l junk : List Row} (hl : 4 ≤ l.length) {E : List AV} (hE : z.av (B + l.length) = .agg E) : WE B (l ++ (z.rows (B + l.length) ++ junk)) E := by
 have := Lv.we h hs hlen (B := B) (l := l) (junk := junk) hl
 unfold Lv.av at hE
 cases hE
 exact this
theorem KRound.mk {ι : Type} {N : Nat} {g : Nat → AV} {ov : ι → List (Nat × AV)} {B : List Row} {L : ι → List Row} {Cd : ι → Prop} {μ : ι → Nat} {i : ι} {e : List AV} {l : List Row} (k : List Row → ι) (h1 : Cd (k l)) (h2 : μ (k l) < μ i) (h3 : Weak e B l (kOf N (kOv (ov (k l)) g)) B (L (k l))) : KRound N g ov B L Cd μ i e B l := ⟨k l, h1, h2, h3⟩
theorem msg_at {B : Nat} {l m : List Row} {idL vL kL idA vA kA idF o kF : Nat} (h : Kp l m) (hw : WN B l idL vL kL idA vA kA idF o kF) {els : List (List AV)} (hL : l[idL]? = some (.live vL 4 els)) {i id len : Nat} {r : List AV} (hr : els[i]? = some r) (hm : MsgR B l r id len) :
  ∃ (els' : List (List AV)) (a c d : Int) (w : List Int), m[idL]? = some (.live vL 4 els') ∧ els'[i]? = some [.v (.int .i64 a), .v (.int .i64 c), .v (.int .i64 d), .sl (B + id) 1 0 len] ∧ m[id]? = some (.live 1 1 (vs (w.map eI))) ∧ w.length = len := by
 obtain ⟨els', h1, h2⟩ := h.1.get hL
 have hi := (List.getElem?_eq_some_iff.1 hr).1
 have hr' : els'[i]? = some (els'[i]'(by rw [← h2.1]; exact hi)) := List.getElem?_eq_getElem _
 obtain ⟨a, c, d, w, e1, _, _, e4, e5⟩ := hm.eq h.1 (h2.2 i r _ hr hr')
 exact ⟨els', a, c, d, w, h1, by rw [hr', e1], e4, e5⟩
theorem vs1_eq {w : List Int} {i : Nat} {x : Int} (hi : i < w.length) : ElsEq (vs (w.map eI)) (vs ((w.map eI).set i [.int .i64 x])) := by
 rw [← vs_set1]
 exact ElsEq.set (r := [.v (.int .i64 (w.getD i 0))]) (by rw [vs_get, eI_get hi]; rfl) (LstEq.set (j := 0) (c := x) rfl)
theorem vs2_eq {w : List (Int × Int)} {i : Nat} {x : Int} (hi : i < w.length) : ElsEq (vs (w.map eFt)) (vs ((w.map eFt).set i [.int .i64 w[i].1, .int .i64 x])) := by
 rw [← vs_set2]
 exact ElsEq.set (r := [.v (.int .i64 w[i].1), .v (.int .i64 w[i].2)]) (by rw [vs_get, eFt_get hi]; rfl) (LstEq.set (j := 1) (c := x) rfl)
set_option maxRecDepth 20000 in
set_option maxHeartbeats 16000000 in
theorem lawOwn_run (n : Nw) (m : Ms) (b l : List Row) : ACalls Try.prog 9 [.agg ((eNw n).map .v), .agg ((eMs m).map .v)] b l (fun r b' l' => r = .v (.bool true) ∧ b' = b ∧ l' = l) := by
 refine calls_kept a_lawOwn_ok rfl (by decide) ?_
 intro B g hB hR hE hA
 simp only [KArgs] at hA
 have cV := fun b l => rnValid_spec n b l
 have cG := fun b l => great53_spec n b l
 have cS := fun b l => nSend_own n m b l
 have cR := fun to b l => nRecv_own n to b l
 have cO := fun t b l => nGo_own n t b l
 unfold eNw at cV cG cS cR cO
 simp only [List.map_cons, List.map_nil] at cV cG cS cR cO
 have n0 : ((0 : Int) != 0) = false := rfl
 have e0 : ((0 : Int) == 0) = true := rfl
 simp (disch := (first | decide | omega)) only [a_lawOwn, hA, eNw, eMs, go_sem]
 refine ACalls.nxt (awake53_spec _ _) ?_
 simp (disch := (first | decide | omega)) only [hA, go_sem]
 refine ACalls.nxt (cG _ _) ?_
 cases hg : grB n
 case' true =>
  simp (disch := (first | decide | omega)) only [hA, go_sem]
  exact leave_pure (xs := [.v (.bool true)]) (.inr rfl) (by simp (disch := (first | decide | omega)) only [resVs, resV, go_sem, hA]) kO hR hB ⟨rfl, rfl, rfl⟩
 have hS := grB_s hg
 simp (disch := (first | decide | omega)) only [hA, go_sem]
 refine ACalls.nxt (cV _ _) ?_
 cases h1 : nwB n
 case' false =>
  simp (disch := (first | decide | omega)) only [hA, go_sem]
  exact leave_pure (xs := [.v (.bool true)]) (.inr rfl) (by simp (disch := (first | decide | omega)) only [resVs, resV, go_sem, hA]) kO hR hB ⟨rfl, rfl, rfl⟩
 have hv := nwB_iff.1 h1
 simp (disch := (first | decide | omega)) only [hA, go_sem]
 refine ACalls.nxt (rmsg_spec m _ _) ?_
 cases h2 : msB m
 case' false =>
  simp (disch := (first | decide | omega)) only [hA, go_sem]
  exact leave_pure (xs := [.v (.bool true)]) (.inr rfl) (by simp (disch := (first | decide | omega)) only [resVs, resV, go_sem, hA]) kO hR hB ⟨rfl, rfl, rfl⟩
 have hbl := msB_body h2
 have cC := fun b l => lawOwnC_spec n hS b l
 simp (disch := (first | decide | omega)) only [hA, go_sem]
 refine ACalls.nxt (cC _ _) ?_
 simp (disch := (first | decide | omega)) only [hA, go_sem]
 refine ACalls.nxt (cloI_val m.body oM _ _) ?_
 simp (disch := (first | decide | omega)) only [hA, nwA_open, fillS_nil, setFrom, cellsOf, go_sem]
 have st0 : StO n m B.length [nwRow n, sdM m, nwRow n, .live 0 5 []] 0 [] := ⟨rfl, rfl, rfl, rfl, fun e he => by cases he⟩
 refine ACalls.nxtE (cS _ _) (fun l2 hl2 => ?_)
 have hl2 : l2 = [nwRow n, sdM m, nwRow n, .live 0 5 []] ++ ownR (B.length + 4) (sndZ n m) := hl2
 have st2 : StO n m B.length l2 0 [] := by rw [hl2]; exact st0.app _
 have p0 : ∀ R, (l2 ++ R)[0]? = some (.live 0 5 [[.v (.int .i64 n.now), .v (.bool n.fifo), .v (.isl 4 (n.l.map eMs)), .v (.isl 1 (n.tm.map eI)), .v (.isl 2 (n.fates.map eFt))]]) := fun R => (st2.app R).g0
 have p3 : ∀ R, (l2 ++ R)[3]? = some (.live 0 5 []) := fun R => (st2.app R).g3
 cases he : (sndE n m == 0)
 case' false =>
  have hz : sndZ n m = none := if_neg (by simpa using he)
  rw [hz]
  simp (disch := (first | decide | omega)) only [hA, he, ownA, zNw, p0, p3, app_at0, app_at, app_set0, app_set, setFrom, cellsOf, go_sem]
  have st1 := st2.app [.live 0 5 [[.v (.int .i64 0), .v (.bool false), .v .zsl, .v .zsl, .v .zsl]]]
  generalize hl1 : l2 ++ [Row.live 0 5 [[AV.v (.int .i64 0), .v (.bool false), .v .zsl, .v .zsl, .v .zsl]]] = l1 at st1 ⊢
  have hlen1 : ([] : List (List AV)).length ≤ 1 := by decide
 case' true =>
  have he0 : sndE n m = 0 := by simpa using he
  have hz : sndZ n m = some (sdLv n m (copN n).toNat) := if_pos he0
  obtain ⟨x0, x1, v1, k1, v2, k2, o, k3, hE⟩ := av_cells (sdLv n m (copN n).toNat) (B.length + 4)
  have hW : WE B.length l2 [.v (.int .i64 x0), .v (.bool x1), .sl (B.length + 4) v1 0 k1, .sl (B.length + 4 + 1) v2 0 k2, .sl (B.length + 4 + 2) 1 o k3] := by
   have hnw : (sdLv n m (copN n).toNat).nw = sdR n m := by
    have := sndZ_nw (n := n) (m := m)
    rw [hz] at this
    have h3 : sndN n m = sdR n m := by unfold sndN sdR; unfold sndE at he0 ⊢; rw [if_pos h1, if_pos h2] at he0 ⊢
    rw [← h3]; exact this
   have := own_we (z := sdLv n m (copN n).toNat) sdLv_ok (by rw [hnw]; exact sdR_s hv oM) (sdLv_lens hv) (B := B.length) (l := [nwRow n, sdM m, nwRow n, .live 0 5 []]) (junk := []) (Nat.le_refl 4) hE
   rw [List.append_nil] at this
   rw [hl2, hz]; exact this
  have hE2 : ownA (B.length + 4) (some (sdLv n m (copN n).toNat)) = _ := hE
  rw [hz]
  simp (disch := (first | decide | omega)) only [hA, he, hE2, p0, p3, app_at0, app_at, app_set0, app_set, setFrom, cellsOf, fillS, List.replicate_succ, List.replicate_zero, go_sem]
  have st1 := (st2.app [.live 0 5 [[.v (.int .i64 x0), .v (.bool x1), .sl (B.length + 4) v1 0 k1, .sl (B.length + 4 + 1) v2 0 k2, .sl (B.length + 4 + 2) 1 o k3]], .live 0 5 [[.v (.int .i64 x0), .v (.bool x1), .sl (B.length + 4) v1 0 k1, .sl (B.length + 4 + 1) v2 0 k2, .sl (B.length + 4 + 2) 1 o k3]]]).add (hW.hi ((Hi.refl l2).app _)) 1
  rw [List.nil_append] at st1
  generalize hl1 : (l2 ++ [Row.live 0 5 [[.v (.int .i64 x0), .v (.bool x1), .sl (B.length + 4) v1 0 k1, .sl (B.length + 4 + 1) v2 0 k2, .sl (B.length + 4 + 2) 1 o k3]], Row.live 0 5 [[.v (.int .i64 x0), .v (.bool x1), .sl (B.length + 4) v1 0 k1, .sl (B.length + 4 + 1) v2 0 k2, .sl (B.length + 4 + 2) 1 o k3]]]).set 3 (.live 1 5 [[.v (.int .i64 x0), .v (.bool x1), .sl (B.length + 4) v1 0 k1, .sl (B.length + 4 + 1) v2 0 k2, .sl (B.length + 4 + 2) 1 o k3]]) = l1 at st1 ⊢
  have hlen1 : ([[.v (.int .i64 x0), .v (.bool x1), .sl (B.length + 4) v1 0 k1, .sl (B.length + 4 + 1) v2 0 k2, .sl (B.length + 4 + 2) 1 o k3]] : List (List AV)).length ≤ 1 := Nat.le_refl 1
 all_goals
  clear hl1 hl2 p0 p3 st0 st2
  refine loop_kept0 (ι := Nat × List Row × Nat × List (List AV)) r_lawOwn0 (fun s => [(8, .sl (B.length + 3) s.2.2.1 0 s.2.2.2.length), (55, .v (.int .i64 s.1))]) (fun s => s.2.1)
   (fun s => s.1 ≤ 8 ∧ StO n m B.length s.2.1 s.2.2.1 s.2.2.2 ∧ s.2.2.2.length ≤ s.1 + 1) (fun s => 8 - s.1) (0, l1, _, _) ⟨Nat.zero_le _, st1, hlen1⟩ (by ((try simp (disch := decide) only [hA, go_sem]) <;> exact kH)) (fun e => Weak.refl _ _ _) ?_
  clear st1 hlen1
  rintro g1 hEE1 hg1 ⟨i, l3, ver, els⟩ ⟨hi, st, hlen⟩
  simp only at hi st hlen
  have q0 : l3[0]? = some (.live 0 5 [[.v (.int .i64 n.now), .v (.bool n.fifo), .v (.isl 4 (n.l.map eMs)), .v (.isl 1 (n.tm.map eI)), .v (.isl 2 (n.fates.map eFt))]]) := st.g0
  by_cases hlt : i < 8
  ·have d : decide ((i : Int) < 8) = true := decide_eq_true oM
   simp (disch := (first | decide | omega)) only [hA, hg1, d, q0, go_sem]
   refine ACalls.nxtE (cR i _ _) (fun l4 hl4 => ?_)
   have st4 : StO n m B.length l4 ver els := by rw [hl4]; exact st.app _
   have p0 : ∀ R, (l4 ++ R)[0]? = some (.live 0 5 [[.v (.int .i64 n.now), .v (.bool n.fifo), .v (.isl 4 (n.l.map eMs)), .v (.isl 1 (n.tm.map eI)), .v (.isl 2 (n.fates.map eFt))]]) := fun R => (st4.app R).g0
   have p3 : ∀ R, (l4 ++ R)[3]? = some (.live ver 5 els) := fun R => (st4.app R).g3
   have ht : List.take els.length els = els := List.take_of_length_le (Nat.le_refl _)
   cases hr : (rcE n i == 0)
   case' false =>
    have hz : rcZ n i = none := if_neg (by simpa using hr)
    have hma : rcMA n i (B.length + l3.length) = .agg [.v (.int .i64 0), .v (.int .i64 0), .v (.int .i64 0), .v .zsl] := if_neg (by simpa using hr)
    rw [hz, hma]
    simp (disch := (first | decide | omega)) only [hA, hg1, hr, ownA, zNw, p0, p3, app_at0, app_at, app_set0, app_set, setFrom, cellsOf, go_sem]
    refine KRound.mk (fun l => (i + 1, l, ver, els)) ⟨hlt, st4.app _, by simp only; omega⟩ (by simp only; omega) ?_
    exact Weak.kround0 (p := r_lawOwn0) (by ((repeat refine (kAny_up rfl).trans ?_); exact hEE1)) (by ((try simp (disch := decide) only [hA, hg1, go_sem]) <;> exact kH))
   case' true =>
    have hr0 : rcE n i = 0 := by simpa using hr
    have hz : rcZ n i = some (rcLv n (fiR n i).toNat) := if_pos hr0
    have hma : rcMA n i (B.length + l3.length) = .agg [.v (.int .i64 (rcM n i).fr), .v (.int .i64 (rcM n i).to), .v (.int .i64 (rcM n i).nu), .sl (B.length + l3.length + (3 + n.l.length)) 1 0 (rcM n i).body.length] := if_pos hr0
    obtain ⟨x0, x1, v1, k1, v2, k2, o, k3, hE⟩ := av_cells (rcLv n (fiR n i).toNat) (B.length + l3.length)
    have hW : WE B.length l4 [.v (.int .i64 x0), .v (.bool x1), .sl (B.length + l3.length) v1 0 k1, .sl (B.length + l3.length + 1) v2 0 k2, .sl (B.length + l3.length + 2) 1 o k3] := by
     have := own_we (z := rcLv n (fiR n i).toNat) rcLv_ok (by rw [rcLv_nw]; exact woN_s2 hS) (rcLv_lens hv) (B := B.length) (l := l3) (junk := [bdR (rcM n i).body]) st.len hE
     rw [hl4]
     unfold rcR
     rw [if_pos hr0]
     exact this
    have hE2 : ownA (B.length + l3.length) (some (rcLv n (fiR n i).toNat)) = _ := hE
    rw [hz, hma]
    simp (disch := (first | decide | omega)) only [hA, hg1, hr, hE2, ht, p0, p3, app_at0, app_at, app_set0, app_set, setFrom, cellsOf, fillS, List.replicate_succ, List.replicate_zero, go_sem]
    have hle : (els ++ [[AV.v (.int .i64 x0), .v (.bool x1), .sl (B.length + l3.length) v1 0 k1, .sl (B.length + l3.length + 1) v2 0 k2, .sl (B.length + l3.length + 2) 1 o k3]]).length = els.length + 1 := by simp
    refine KRound.mk (fun l => (i + 1, l, ver + 1, els ++ [[AV.v (.int .i64 x0), .v (.bool x1), .sl (B.length + l3.length) v1 0 k1, .sl (B.length + l3.length + 1) v2 0 k2, .sl (B.length + l3.length + 2) 1 o k3]])) ⟨hlt, (st4.app _).add (hW.hi ((Hi.refl l4).app _)) (ver + 1), by simp only [hle]; omega⟩ (by simp only; omega) ?_
    exact Weak.kround0 (p := r_lawOwn0) (by ((repeat refine (kAny_up rfl).trans ?_); exact hEE1)) (by ((try simp (disch := decide) only [hA, hg1, hle, go_sem]) <;> exact kH))
  ·obtain rfl : i = 8 := by omega
   have d : decide (((8 : Nat) : Int) < 8) = false := by simp
   simp (disch := (first | decide | omega)) only [hA, hg1, d, q0, go_sem]
   refine ACalls.nxtE (cO n.now _ _) (fun l4 hl4 => ?_)
   have st4 : StO n m B.length l4 ver els := by rw [hl4]; exact st.app _
   have p0 : ∀ R, (l4 ++ R)[0]? = some (.live 0 5 [[.v (.int .i64 n.now), .v (.bool n.fifo), .v (.isl 4 (n.l.map eMs)), .v (.isl 1 (n.tm.map eI)), .v (.isl 2 (n.fates.map eFt))]]) := fun R => (st4.app R).g0
   have p3 : ∀ R, (l4 ++ R)[3]? = some (.live ver 5 els) := fun R => (st4.app R).g3
   have ht : List.take els.length els = els := List.take_of_length_le (Nat.le_refl _)
   have hnow := hv.now
   have hge : goE n n.now = 0 := by unfold goE; rw [if_pos h1, if_neg oM, if_neg oM]
   have hz : goZ n n.now = some { clone0 n with now := n.now } := if_pos hge
   obtain ⟨x0, x1, v1, k1, v2, k2, o, k3, hE⟩ := av_cells { clone0 n with now := n.now } (B.length + l3.length)
   have hW : WE B.length l4 [.v (.int .i64 x0), .v (.bool x1), .sl (B.length + l3.length) v1 0 k1, .sl (B.length + l3.length + 1) v2 0 k2, .sl (B.length + l3.length + 2) 1 o k3] := by
    have hnw := goZ_nw (n := n) (t := n.now)
    rw [hz] at hnw
    have hnw : ({ clone0 n with now := n.now } : Lv).nw = goN n n.now := hnw
    have hgn : goN n n.now = n := by unfold goN; rw [if_pos hge]
    have := own_we (z := { clone0 n with now := n.now }) (goZ_ok _ hz) (by rw [hnw, hgn]; exact hS) (by show (clone0 n).xs.length = n.tm.length; rw [← hv.len]; exact fl_len) (B := B.length) (l := l3) (junk := []) st.len hE
    rw [List.append_nil] at this
    rw [hl4, hz]
    exact this
   have hE2 : ownA (B.length + l3.length) (some { clone0 n with now := n.now }) = _ := hE
   obtain ⟨E, hEE⟩ : ∃ E : List AV, E = [.v (.int .i64 x0), .v (.bool x1), .sl (B.length + l3.length) v1 0 k1, .sl (B.length + l3.length + 1) v2 0 k2, .sl (B.length + l3.length + 2) 1 o k3] := ⟨_, rfl⟩
   have st5 := (st4.app [.live 0 5 [E], .live 0 5 [E]]).add (by rw [← hEE] at hW; exact hW.hi ((Hi.refl l4).app _)) (ver + 1)
   have hel : (els ++ [E]).length = els.length + 1 := by simp
   rw [hz, hge]
   simp (disch := (first | decide | omega)) only [hA, hg1, hE2, e0, ht, p0, p3, app_at0, app_at, app_set0, app_set, setFrom, cellsOf, fillS, List.replicate_succ, List.replicate_zero, go_sem]
   rw [← hEE]
   generalize (l4 ++ [Row.live 0 5 [E], Row.live 0 5 [E]]).set 3 (Row.live (ver + 1) 5 (els ++ [E])) = L0 at st5 ⊢
   clear st4 p0 p3 ht hW hE hE2 hl4 st q0
   rw [← hel]
   generalize els ++ [E] = ES at st5 hel ⊢
   have hES : ES.length ≤ 10 := by omega
   refine loop_kept0 (ι := Nat × List Row) r_lawOwn1 (fun s => [(87, .v (.int .i64 s.1))]) (fun s => s.2)
    (fun s => s.1 ≤ ES.length ∧ Kp L0 s.2) (fun s => ES.length - s.1) (0, L0) ⟨Nat.zero_le _, .refl _⟩ (by ((try simp (disch := decide) only [hA, hg1, go_sem]) <;> exact kH)) (fun e => Weak.refl _ _ _) ?_
   rintro g2 hEE2 hg2 ⟨j, l⟩ ⟨hj, hk⟩
   simp only at hj hk
   have r0 := hk.2 0 oM _ st5.g0
   have r1 := hk.2 1 oM _ st5.g1
   have r2 := hk.2 2 oM _ st5.g2
   have r3 := hk.2 3 oM _ st5.g3
   unfold nwRow at r0 r2
   unfold sdM at r1
   by_cases hjl : j < ES.length
   ·obtain ⟨y0, y1, iL, w1, kL, iA, w2, kA, iF, o1, kF, hej, hW⟩ := st5.we ES[j] (List.getElem_mem hjl)
    have hej : ES[j]? = some [.v (.int .i64 y0), .v (.bool y1), .sl (B.length + iL) w1 0 kL, .sl (B.length + iA) w2 0 kA, .sl (B.length + iF) 1 o1 kF] := by rw [List.getElem?_eq_getElem hjl, hej]; rfl
    have hWl := hW.eq hk.1
    have dj : decide ((j : Int) < (ES.length : Int)) = true := decide_eq_true oM
    simp (disch := (first | decide | omega)) only [hA, hg1, hg2, dj, r3, hej, app_at0, app_at, app_set0, app_set, setFrom, cellsOf, go_sem]
    have hq : 4 ≤ l.length := by have := (List.getElem?_eq_some_iff.1 r3).1; omega
    obtain ⟨els0, hL0, hLl, hLm⟩ := hWl.L
    obtain ⟨wA0, hA0, hAl⟩ := hWl.A
    obtain ⟨fs0, hF0, hFl⟩ := hWl.F
    have nL : iL < l.length := (List.getElem?_eq_some_iff.1 hL0).1
    have nA : iA < l.length := (List.getElem?_eq_some_iff.1 hA0).1
    have nF : iF < l.length := (List.getElem?_eq_some_iff.1 hF0).1
    have hLA : iA ≠ iL := fun h => by subst h; rw [hA0] at hL0; cases hL0
    have hbox : (l ++ [Row.live 0 5 [wnE B.length y0 y1 iL w1 kL iA w2 kA iF o1 kF]])[l.length]? = some (.live 0 5 [wnE B.length y0 y1 iL w1 kL iA w2 kA iF o1 kF]) := app_at0
    have hk1 : Kp L0 (l ++ [Row.live 0 5 [wnE B.length y0 y1 iL w1 kL iA w2 kA iF o1 kF]]) := hk.app _
    have hW1 := hW.eq hk1.1
    have hL1 : (l ++ [Row.live 0 5 [wnE B.length y0 y1 iL w1 kL iA w2 kA iF o1 kF]])[iL]? = some (.live w1 4 els0) := by rw [List.getElem?_append_left nL]; exact hL0
    have hLm1 : ∀ k r, els0[k]? = some r → MsgRow B.length (l ++ [Row.live 0 5 [wnE B.length y0 y1 iL w1 kL iA w2 kA iF o1 kF]]) r := fun k r h => (hLm k r h).eq ((RowsEq.refl l).app _) (LstEq.refl r)
    change run _ _ _ _ _ (l ++ [Row.live 0 5 [wnE B.length y0 y1 iL w1 kL iA w2 kA iF o1 kF]]) _
    generalize l ++ [Row.live 0 5 [wnE B.length y0 y1 iL w1 kL iA w2 kA iF o1 kF]] = l1 at hbox hk1 hW1 hL1 hLm1 ⊢
    have hkL := hW1.le
    have hge4 := hW1.ge
    refine loop_kept0 (ι := Nat × List Row) r_lawOwn2 (fun s => [(94, .v (.int .i64 s.1))]) (fun s => s.2)
     (fun s => s.1 ≤ kL ∧ Kp l1 s.2) (fun s => kL - s.1) (0, l1) ⟨Nat.zero_le _, .refl _⟩ (by ((try simp (disch := decide) only [hA, hg1, hg2, go_sem]) <;> exact kH)) (fun e => Weak.refl _ _ _) ?_
    rintro g3 hEE3 hg3 ⟨i, l5⟩ ⟨hi2, hk5⟩
    simp only at hi2 hk5
    obtain ⟨z0, hb5⟩ := hk5.box hbox
    unfold wnE at hb5
    by_cases hil : i < kL
    ·have di : decide ((i : Int) < (kL : Int)) = true := decide_eq_true oM
     obtain ⟨id, len, hmr⟩ := hLm1 i els0[i] (List.getElem?_eq_getElem oM)
     obtain ⟨els5, a5, c5, d5, w5, m1, m2, m3, m4⟩ := msg_at hk5 hW1 hL1 (List.getElem?_eq_getElem oM) hmr
     obtain ⟨wA, hA5, hA5l⟩ := (hW1.eq hk5.1).A
     have hiA : i < wA.length := by omega
     have hgA := eI_get hiA
     have s1 : ∀ X, (l5.set iA X)[l.length]? = some (.live 0 5 [[.v (.int .i64 z0), .v (.bool y1), .sl (B.length + iL) w1 0 kL, .sl (B.length + iA) w2 0 kA, .sl (B.length + iF) 1 o1 kF]]) := fun X => by rw [List.getElem?_set_ne oM]; exact hb5
     have s2 : ∀ X, (l5.set iA X)[iL]? = some (.live w1 4 els5) := fun X => by rw [List.getElem?_set_ne hLA]; exact m1
     have nL5 : iL < l5.length := (List.getElem?_eq_some_iff.1 m1).1
     have s3 : ∀ X Y, ((l5.set iA X).set iL Y)[l.length]? = some (.live 0 5 [[.v (.int .i64 z0), .v (.bool y1), .sl (B.length + iL) w1 0 kL, .sl (B.length + iA) w2 0 kA, .sl (B.length + iF) 1 o1 kF]]) := fun X Y => by rw [List.getElem?_set_ne oM]; exact s1 X
     have s4 : ∀ X Y, ((l5.set iA X).set iL Y)[iL]? = some Y := fun X Y => List.getElem?_set_self (by rw [List.length_set]; exact nL5)
     have hil5 : i < els5.length := (List.getElem?_eq_some_iff.1 m2).1
     have s5 : ∀ r : List AV, (els5.set i r)[i]? = some r := fun r => List.getElem?_set_self hil5
     simp (disch := (first | decide | omega)) only [hA, hg1, hg2, hg3, di, hb5, hA5, hgA, m1, m2, s1, s2, s3, s4, s5, vs_get, setFrom, cellsOf, List.length_map, vs_len, go_sem]
     have hk6 := (hk5.set hA5 (vs1_eq (x := IntKind.i64.wrap (wA.getD i 0 + 1)) hiA) hge4.2.1).set (s2 _) (ElsEq.set m2 (LstEq.set (j := 2) (c := IntKind.i64.wrap (d5 + 1)) rfl)) hge4.1
     change run _ _ _ _ _ ((l5.set iA (Row.live w2 1 (vs ((wA.map eI).set i [.int .i64 (IntKind.i64.wrap (wA.getD i 0 + 1))])))).set iL (Row.live w1 4 (els5.set i ([AV.v (.int .i64 a5), .v (.int .i64 c5), .v (.int .i64 d5), .sl (B.length + id) 1 0 len].set 2 (.v (.int .i64 (IntKind.i64.wrap (d5 + 1)))))))) _
     generalize (l5.set iA (Row.live w2 1 (vs ((wA.map eI).set i [.int .i64 (IntKind.i64.wrap (wA.getD i 0 + 1))])))).set iL (Row.live w1 4 (els5.set i ([AV.v (.int .i64 a5), .v (.int .i64 c5), .v (.int .i64 d5), .sl (B.length + id) 1 0 len].set 2 (.v (.int .i64 (IntKind.i64.wrap (d5 + 1))))))) = l6 at hk6 ⊢
     have hmr' := hmr
     obtain ⟨_, _, _, _, _, hid4, hlen, _⟩ := hmr'
     clear s1 s2 s3 s4 s5 m1 m2 m3 hA5 hgA hb5
     refine loop_kept0 (ι := Nat × List Row) r_lawOwn3 (fun s => [(120, .v (.int .i64 s.1))]) (fun s => s.2)
      (fun s => s.1 ≤ len ∧ Kp l1 s.2) (fun s => len - s.1) (0, l6) ⟨Nat.zero_le _, hk6⟩ (by ((try simp (disch := decide) only [hA, hg1, hg2, hg3, go_sem]) <;> exact kH)) (fun e => Weak.refl _ _ _) ?_
     rintro g4 hEE4 hg4 ⟨k, l7⟩ ⟨hkk, hk7⟩
     simp only at hkk hk7
     by_cases hkl : k < len
     ·have dk : decide ((k : Int) < (len : Int)) = true := decide_eq_true oM
      obtain ⟨z7, hb7⟩ := hk7.box hbox
      unfold wnE at hb7
      obtain ⟨els7, a7, c7, d7, w7, m1, m2, m3, m4⟩ := msg_at hk7 hW1 hL1 (List.getElem?_eq_getElem oM) hmr
      have hk : k < w7.length := by omega
      have hgk := eI_get hk
      simp (disch := (first | decide | omega)) only [hA, hg1, hg2, hg3, hg4, dk, hb7, m1, m2, m3, hgk, vs_get, setFrom, cellsOf, List.length_map, vs_len, go_sem]
      refine KRound.mk (fun l => (k + 1, l)) ⟨by omega, hk7.set m3 (vs1_eq hk) hid4⟩ (by simp only; omega) ?_
      exact Weak.kround0 (p := r_lawOwn3) (by ((repeat refine (kAny_up rfl).trans ?_); exact hEE4)) (by ((try simp (disch := decide) only [hA, hg1, hg2, hg3, hg4, go_sem]) <;> exact kH))
     ·obtain rfl : k = len := by omega
      have dk : decide ((k : Int) < (k : Int)) = false := by simp
      simp (disch := (first | decide | omega)) only [hA, hg1, hg2, hg3, hg4, dk, go_sem]
      refine KRound.mk (fun l => (i + 1, l)) ⟨by omega, hk7⟩ (by simp only; omega) ?_
      exact Weak.kround0 (p := r_lawOwn2) (by ((repeat refine (kAny_up rfl).trans ?_); refine (kAny_sub hg4 (kIn_sub rfl)).trans ?_; (repeat refine (kAny_up rfl).trans ?_); exact hEE3)) (by ((try simp (disch := decide) only [hA, hg1, hg2, hg3, hg4, go_sem]) <;> exact kH))
    ·obtain rfl : i = kL := by omega
     have di : decide ((i : Int) < (i : Int)) = false := by simp
     simp (disch := (first | decide | omega)) only [hA, hg1, hg2, hg3, di, hb5, go_sem]
     refine loop_kept0 (ι := Nat × List Row) r_lawOwn4 (fun s => [(139, .v (.int .i64 s.1))]) (fun s => s.2)
      (fun s => s.1 ≤ kF ∧ Kp l1 s.2) (fun s => kF - s.1) (0, l5) ⟨Nat.zero_le _, hk5⟩ (by ((try simp (disch := decide) only [hA, hg1, hg2, hg3, go_sem]) <;> exact kH)) (fun e => Weak.refl _ _ _) ?_
     rintro g4 hEE4 hg4 ⟨k, l7⟩ ⟨hkk, hk7⟩
     simp only at hkk hk7
     by_cases hkl : k < kF
     ·have dk : decide ((k : Int) < (kF : Int)) = true := decide_eq_true oM
      obtain ⟨z7, hb7⟩ := hk7.box hbox
      unfold wnE at hb7
      obtain ⟨fs, hF7, hFl7⟩ := (hW1.eq hk7.1).F
      have hk : o1 + k < fs.length := by omega
      have hgk := eFt_get hk
      simp (disch := (first | decide | omega)) only [hA, hg1, hg2, hg3, hg4, dk, hb7, hF7, hgk, vs_get, setFrom, cellsOf, List.length_map, vs_len, go_sem]
      refine KRound.mk (fun l => (k + 1, l)) ⟨by omega, hk7.set hF7 (vs2_eq hk) hge4.2.2⟩ (by simp only; omega) ?_
      exact Weak.kround0 (p := r_lawOwn4) (by ((repeat refine (kAny_up rfl).trans ?_); exact hEE4)) (by ((try simp (disch := decide) only [hA, hg1, hg2, hg3, hg4, go_sem]) <;> exact kH))
     ·obtain rfl : k = kF := by omega
      have dk : decide ((k : Int) < (k : Int)) = false := by simp
      simp (disch := (first | decide | omega)) only [hA, hg1, hg2, hg3, hg4, dk, go_sem]
      refine KRound.mk (fun l => (j + 1, l)) ⟨by omega, hk1.trans hk7⟩ (by simp only; omega) ?_
      exact Weak.kround0 (p := r_lawOwn1) (by ((repeat refine (kAny_up rfl).trans ?_); refine (kAny_sub hg4 (kIn_sub rfl)).trans ?_; (repeat refine (kAny_up rfl).trans ?_); refine (kAny_sub hg3 (kIn_sub rfl)).trans ?_; (repeat refine (kAny_up rfl).trans ?_); exact hEE2)) (by ((try simp (disch := decide) only [hA, hg1, hg2, hg3, hg4, go_sem]) <;> exact kH))
   ·obtain rfl : j = ES.length := by omega
    have dj : decide ((ES.length : Int) < (ES.length : Int)) = false := by simp
    have cSa := fun b l => sameN_spec n n hS b l
    have cEq := fun b l => eqI_spec m.body oM b l
    unfold eNw at cSa
    simp only [List.map_cons, List.map_nil] at cSa
    simp (disch := (first | decide | omega)) only [hA, hg1, hg2, dj, r0, r1, r2, go_sem]
    refine ACalls.nxt (cSa _ _) ?_
    rw [eqB_refl]
    simp (disch := (first | decide | omega)) only [hA, hg1, hg2, r0, r1, r2, go_sem]
    refine ACalls.nxt (cEq _ _) ?_
    simp (disch := (first | decide | omega)) only [hA, hg1, hg2, go_sem]
    exact leave_pure (xs := [.v (.bool true)]) (.inr rfl) (by simp (disch := (first | decide | omega)) only [resVs, resV, go_sem, hA, hg1, hg2]) kO hR hB ⟨rfl, rfl, rfl⟩
end Go.Proofs.Ytilcmenglgdljaa
