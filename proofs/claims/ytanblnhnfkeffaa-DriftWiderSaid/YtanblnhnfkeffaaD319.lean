/- Texts of one proof, laid together: YA. No condition. -/
import Derived.Test.YtanblnhnfkeffaaD318
namespace Go.Proofs.Ytanblnhnfkeffaa
set_option linter.unusedVariables false
set_option linter.unusedSimpArgs false
attribute [local go_sem ↓] run_skip run_region run_draw run_both run_seq run_block run_exit run_ret run_cond atN_app seqC_normal seqC_exit seqC_ret seqQ_normal seqQ_exit seqQ_ret blkQ_normal blkQ_exit blkQ_ret runOps_nil runOps_cons runD_nil runD_cons grdO_true grdO_false grdD_true grdD_false ifC_true ifC_false opS_val opS_call opS_two opK_app dS_val dS_call dS_two dK_app kUp_same kUp_ne
attribute [local go_sem] rechks_nil rechks_cons rechk gcase_true gcase_false ex_val ex_val0 gd_none gd_some ev_t ev_c evs_nil evs_cons evo_some evo_none hget_at hget_first hsetB_at hsetB_first hsetL_at hsetL_first ofOpt_some aop aload astore aslice aappend aiaddr aiaddrA afaddr alen alenS acopy amm acall alookup amupdate alenM atostr comma keyEq apick binV binVB binVS isSh intOp strOp boolOp shOp eqC eqF and2 cellsOf setFrom fillA fillS rd rdI elems mk bounds AV.cell List.all_cons List.all_nil Bool.and_true Bool.true_and Bool.and_self List.length_cons List.length_nil List.length_append Nat.reduceAdd Nat.reduceSub Nat.reduceMul Nat.zero_add Nat.add_zero List.cons_append List.nil_append List.append_assoc List.append_nil List.getElem?_cons_zero List.getElem?_cons_succ List.getElem?_nil List.set_cons_zero List.set_cons_succ List.drop_zero List.drop_succ_cons List.take_zero List.take_succ_cons List.take_nil List.drop_nil List.map_cons List.map_nil Option.map_some if_true if_false Bool.false_eq_true and_self true_and and_true Nat.reduceLeDiff Nat.reduceLT Nat.le_refl Nat.reduceEqDiff ite_true ite_false beq_self_eq_true beq_true beq_false Bool.not_true Bool.not_false Bool.true_beq Bool.false_beq map_vs vs_len vs_get vs_take vs_drop vs_snoc1 vs_snoc2 vs_snoc3 vs_snoc5 vs_set1 vs_set2 vs_rep wrap_id le_T lt_T le_F lt_F leI_T ltI_T leI_F ltI_F geI gtI get_T decide_true decide_false room List.getElem?_map List.length_map List.length_take Int.toNat_natCast Nat.min_def Nat.min_self nth_kOf put_kOf put_kNo kOv_cons kOv_nil KHas KArgs List.getElem_cons_zero List.getElem_cons_succ
def a_dEnds : AFunc := ⟨2,50,[.tmp 4,.tmp 5,.tmp 6],(.seq (.region [⟨some 2,.box (.t 0),none⟩,⟨some 3,.box (.t 1),none⟩,⟨some 4,.mv (.c (.v .zsl)),none⟩,⟨some 5,.mv (.c (.v .zsl)),none⟩,⟨some 6,.mv (.c (.v (.bool false))),none⟩]) (.seq (.region [⟨some 10,.load (some 1) (.t 2),none⟩,⟨some 11,.load (some 3) (.t 3),none⟩,⟨some 12,.call (.c (.fn 130 [])) [(.t 10),(.t 11)],none⟩,⟨some 7,.alloc [(.v (.int .i64 0)),(.v .zsl)],none⟩,⟨none,.store 2 (.t 7) (.t 12),none⟩]) (.seq (.region [⟨some 13,.faddr 0 (.t 7),none⟩,⟨some 14,.load none (.t 13),none⟩,⟨some 15,.bin .sub (.t 14) (.c (.v (.int .i64 1))),none⟩,⟨some 8,.mv (.t 15),none⟩]) (.seq (.region [⟨some 17,.load (some 2) (.t 7),none⟩,⟨some 18,.mv (.t 8),none⟩,⟨some 19,.call (.c (.fn 131 [])) [(.t 17),(.t 18)],none⟩,⟨some 16,.mv (.t 19),none⟩,⟨some 20,.extract 0 (.t 16),none⟩,⟨some 21,.extract 1 (.t 16),none⟩,⟨some 22,.extract 2 (.t 16),none⟩,⟨some 4,.mv (.t 20),none⟩,⟨some 6,.mv (.t 22),none⟩]) (.seq (.seq (.region [⟨some 23,.mv (.t 6),none⟩,⟨some 24,.not (.t 23),none⟩]) (.cond (.t 24) (.seq (.region [⟨some 4,.mv (.c (.v .zsl)),none⟩,⟨some 5,.mv (.c (.v .zsl)),none⟩,⟨some 6,.mv (.c (.v (.bool false))),none⟩]) .ret) .skip)) (.seq (.region [⟨some 26,.load (some 2) (.t 7),none⟩,⟨some 27,.call (.c (.fn 175 [])) [(.t 26)],none⟩,⟨some 28,.mv (.t 8),none⟩,⟨some 29,.call (.c (.fn 131 [])) [(.t 27),(.t 28)],none⟩,⟨some 25,.mv (.t 29),none⟩,⟨some 30,.extract 0 (.t 25),none⟩,⟨some 31,.extract 1 (.t 25),none⟩,⟨some 32,.extract 2 (.t 25),none⟩,⟨some 5,.mv (.t 30),none⟩,⟨some 6,.mv (.t 32),none⟩]) (.seq (.seq (.region [⟨some 33,.mv (.t 5),none⟩,⟨some 34,.len (.t 33),none⟩,⟨some 35,.mv (.c (.v (.int .i64 0))),none⟩]) (.block 0 (.loop (.seq (.region [⟨some 36,.bin .lss (.t 35) (.t 34),none⟩]) (.seq (.cond (.t 36) .skip (.exit 0)) (.seq (.block 1 (.seq (.region [⟨some 37,.mv (.t 35),none⟩,⟨some 9,.mv (.t 37),none⟩]) (.region [⟨some 38,.mv (.t 5),none⟩,⟨some 39,.mv (.t 9),none⟩,⟨some 40,.mv (.t 5),none⟩,⟨some 41,.mv (.t 9),none⟩,⟨some 42,.iaddr 1 (.t 40) (.t 41),none⟩,⟨some 43,.load none (.t 42),none⟩,⟨some 44,.neg (.t 43),none⟩,⟨some 45,.iaddr 1 (.t 38) (.t 39),none⟩,⟨none,.store 1 (.t 45) (.t 44),none⟩]))) (.region [⟨some 46,.bin .add (.t 35) (.c (.v (.int .i64 1))),none⟩,⟨some 35,.mv (.t 46),none⟩]))))))) (.seq (.region [⟨some 47,.mv (.t 4),none⟩,⟨some 48,.mv (.t 5),none⟩,⟨some 49,.mv (.t 6),none⟩,⟨some 4,.mv (.t 47),none⟩,⟨some 5,.mv (.t 48),none⟩,⟨some 6,.mv (.t 49),none⟩]) .ret))))))))⟩
theorem a_dEnds_ok : cFunc Try.prog 128 = some a_dEnds := by kernel_rfl
def r_dEnds0 : List (Nat × Nat) := [(9, 9), (35, 46)]

def lvR (n : Nat) (L : Nat → Int) : Row := .live 0 1 (vs (fl n fun v => [.int .i64 (L v)]))
def trR (n : Nat) : Row := .live 0 1 (vs (fl n fun _ => [.bool true]))
theorem lst_yes {n u : Nat} {ds : List Dm} {L : Nat → Int} (g : Gr ds n u L) (hp : NoPos ds) {b l : List Row} {x : AV} {b' l' : List Row} (h : lstP n ds u b l x b' l') :
  b' = b ∧ x = .tup [.sl (b.length + l.length) 0 0 n, .sl (b.length + l.length + 1) 0 0 n, .v (.bool true)] ∧ l' = l ++ [lvR n L, trR n] := by
 have hL0 : L u = 0 := by
  have h1 := hp u _ (g.at_ u g.un)
  have h2 := g.le u 0 (.nil u)
  omega
 obtain ⟨hb, h⟩ := h
 rcases h with ⟨r, hr, hc, hx, hl⟩ | ⟨hc, _⟩
 ·refine ⟨hb, hx, ?_⟩
  have hu0 := bfR_u0 (u := u) hp r
  have h1 : byR n (bfR ds u r) = lvR n L := by
   unfold byR lvR
   rw [fl_congr (fun v hv => by rw [(bf_val g hc hu0 hv).2])]
  have h2 : reR n (bfR ds u r) = trR n := by
   unfold reR trR
   rw [fl_congr (fun v hv => by rw [(bf_val g hc hu0 hv).1])]
  rw [hl, h1, h2]
 ·have := bf_stop g hL0
  rw [hc (n - 1) oM] at this
  cases this
theorem lst_no {n u : Nat} {ds : List Dm} (hp : ¬ NoPos ds) (hr : ∀ d ∈ ds, ∃ x, Wk ds u d.1 x) {b l : List Row} {x : AV} {b' l' : List Row} (h : lstP n ds u b l x b' l') :
  b' = b ∧ x = .tup [.v .zsl, .v .zsl, .v (.bool false)] ∧ l' = l := by
 obtain ⟨hb, h⟩ := h
 rcases h with ⟨r, hr2, hc, hx, hl⟩ | ⟨_, hx, hl⟩
 ·exact absurd (bf_ok hc (bfR_u r) hr) hp
 ·exact ⟨hb, hx, hl⟩
theorem Bok.reach {t : Tr} {bn : Bn} (h : Bok t bn) {v : Nat} (hv : v < (ids t).length + 1) : ∃ x, Wk (dsT t bn) (ids t).length v x := by
 obtain ⟨x, _, w⟩ := h.sys.back (h.ph_lt hv)
 have w2 := h.es_ds w
 rw [h.ps_ph hv] at w2
 exact ⟨_, w2⟩
theorem dsT_len {t : Tr} {bn : Bn} : (dsT t bn).length ≤ 5 * (ids t).length := by
 have h : dsT t bn = dsTo t bn t.length 0 := by unfold dsTo dsT; rw [idsTo_all]
 have := dsTo_len (t := t) (bn := bn) (p := t.length) (i := 0)
 rw [← h, idsTo_all] at this
 exact this
theorem Bok.dbd {t : Tr} {bn : Bn} (h : Bok t bn) : ∀ d ∈ dsT t bn, d.1 < (ids t).length + 1 ∧ d.2.1 < (ids t).length + 1 ∧ -2199023255552 ≤ d.2.2 ∧ d.2.2 ≤ 2199023255552 := fun d hd => by
 have := h.ds_bd hd
 unfold MT at this
 omega
noncomputable def loN (t : Tr) (bn : Bn) (v : Nat) : Int := -dM t bn (phN (ids t).length v) 0
noncomputable def hiN (t : Tr) (bn : Bn) (v : Nat) : Int := dM t bn 0 (phN (ids t).length v)
theorem phN_z {N : Nat} : phN N N = 0 := by unfold phN; rw [if_pos rfl]
noncomputable def endV (N : Nat) (f : Nat → Int) : AV := .v (.isl 1 (fl N fun v => [.int .i64 (f v)]))
theorem neg_set {n i : Nat} {f : Nat → Int} (h : i < n) : (fl n fun v => [IV.int .i64 (if v < i then -f v else f v)]).set i [.int .i64 (-f i)] = fl n fun v => [.int .i64 (if v < i + 1 then -f v else f v)] := by
 rw [fl_set]
 refine fl_congr (fun w _ => ?_)
 show fUp _ i _ w = _
 unfold fUp
 by_cases hw : w = i
 ·subst hw; rw [if_pos rfl, if_pos oM]
 ·rw [if_neg hw]
  show [IV.int .i64 (if w < i then -f w else f w)] = [.int .i64 (if w < i + 1 then -f w else f w)]
  by_cases h2 : w < i
  ·rw [if_pos h2, if_pos oM]
  ·rw [if_neg h2, if_neg oM]
theorem Bok.dM_bd {t : Tr} {bn : Bn} (h : Bok t bn) (hk : okB t bn = true) {i j : Nat} (hi : i < (ids t).length + 1) (hj : j < (ids t).length + 1) : -4398046511104 ≤ dM t bn i j ∧ dM t bn i j ≤ 4398046511104 := by
 have hn := h.ok_iff.1 hk
 obtain ⟨h1, _, h3⟩ := fw_least h.sys (by decide) h.ini hn hi hj
 have h4 := h.sys.ge hn hi hj h1
 unfold dM
 unfold MT at h3 h4
 omega
set_option maxRecDepth 20000 in
set_option maxHeartbeats 8000000 in
theorem dEnds_spec (t : Tr) (hS : Small t) (hN : Nm t) (hn : t.length ≤ 20) (he70 : ∀ x ∈ t, x.evs.length ≤ 70) (hC : (ids t).length ≤ 190) (hval : validL t = true) (bn : Bn) (hok : Bok t bn) (b l : List Row) :
  ACalls Try.prog 128 [.agg [.v (eT t)], .agg (eBn bn)] b l (fun r b' l' => r = (if okB t bn = true then .tup [endV ((ids t).length + 1) (loN t bn), endV ((ids t).length + 1) (hiN t bn), .v (.bool true)] else .tup [.v .zsl, .v .zsl, .v (.bool false)]) ∧ b' = b ∧ l' = l) := by
 refine calls_kept a_dEnds_ok rfl (by decide) ?_
 intro B g hB hR hE hA
 simp only [KArgs] at hA
 obtain ⟨N, hN0⟩ : ∃ N, (ids t).length = N := ⟨_, rfl⟩
 have eTe : eT t = .isl 3 (t.map ePr) := rfl
 have cO := fun b l => dOf_spec t hS hN hn he70 oM hval bn hok b l
 have hdl := dsT_len (t := t) (bn := bn)
 have cL := fun b l => dLeast_raw (N + 1) oM (dsT t bn) oM (by rw [← hN0]; exact hok.dbd) N oM b l
 have hz : ((N + 1 : Nat) : Int) - 1 = (N : Nat) := by omega
 simp only [eBn, eTe, hN0] at cO hA
 simp only [eSy] at cO cL
 simp (disch := (first | decide | omega)) only [a_dEnds, hA, eTe, go_sem]
 refine ACalls.nxt (cO _ _) ?_
 simp (disch := (first | decide | omega)) only [hA, hz, go_sem]
 refine ACalls_mono _ _ _ _ _ _ (cL _ _) ?_
 intro x1 b1 l1 hL1
 cases hk : okB t bn with
 | false =>
   have hnp : ¬ NoPos (dsT t bn) := fun h => by
    have := hok.ok_iff.2 (hok.pos_iff.1 h)
    rw [hk] at this; cases this
   obtain ⟨hb1, rfl, rfl⟩ := lst_no hnp (fun d hd => by rw [← hN0]; exact hok.reach (hok.dbd d hd).1) hL1
   replace hb1 := hb1.symm
   subst hb1
   rw [if_neg (by decide)]
   simp (disch := (first | decide | omega)) only [hA, go_sem]
   exact leave_pure (xs := [.v .zsl, .v .zsl, .v (.bool false)]) (.inr rfl) (by simp (disch := (first | decide | omega)) only [resVs, resV, go_sem, hA]) kO hR hB ⟨rfl, rfl, rfl⟩
 | true =>
   have hnp := hok.pos_iff.2 (hok.ok_iff.1 hk)
   have g1 := hok.gr hk (u := N) oM
   have g2 := hok.grT hk (u := N) oM (rs := (dsT t bn).map opp) (fun a c w => by
    rw [List.mem_map]
    exact ⟨fun ⟨d, h1, h2⟩ => by cases h2; exact h1, fun h => ⟨_, h, rfl⟩⟩)
   rw [hN0] at g1 g2
   rw [phN_z] at g1 g2
   have hnp2 : NoPos ((dsT t bn).map opp) := fun u s w => hnp u s (w.turn (fun a c w h => by
    obtain ⟨d, h1, h2⟩ := List.mem_map.1 h
    cases h2; exact h1))
   obtain ⟨hb1, rfl, rfl⟩ := lst_yes g1 hnp hL1
   replace hb1 := hb1.symm
   subst hb1
   have cR := fun b l => dRev_spec (N + 1) (dsT t bn) oM b l
   have cL2 := fun b l => dLeast_raw (N + 1) oM ((dsT t bn).map opp) (by rw [List.length_map]; omega) (fun d hd => by
    obtain ⟨e, h1, rfl⟩ := List.mem_map.1 hd
    have := hok.dbd e h1
    rw [hN0] at this
    exact ⟨this.2.1, this.1, this.2.2⟩) N oM b l
   simp only [eSy] at cR cL2
   rw [if_pos rfl]
   simp (disch := (first | decide | omega)) only [hA, go_sem]
   refine ACalls.nxt (cR _ _) ?_
   simp (disch := (first | decide | omega)) only [hA, go_sem]
   refine ACalls_mono _ _ _ _ _ _ (cL2 _ _) ?_
   intro x2 b2 l2 hL2
   obtain ⟨hb2, rfl, rfl⟩ := lst_yes g2 hnp2 hL2
   replace hb2 := hb2.symm
   subst hb2
   obtain ⟨L1, hL1e⟩ : ∃ L : Nat → Int, L = fun v => -dM t bn (phN N v) 0 := ⟨_, rfl⟩
   obtain ⟨L2, hL2e⟩ : ∃ L : Nat → Int, L = fun v => -dM t bn 0 (phN N v) := ⟨_, rfl⟩
   have bd2 : ∀ v, v < N + 1 → -4398046511104 ≤ L2 v ∧ L2 v ≤ 4398046511104 := fun v hv => by
    have h1 := hok.dM_bd hk (i := 0) (j := phN N v) oM (by rw [← hN0]; exact hok.ph_lt oM)
    rw [hL2e]
    show -4398046511104 ≤ -dM t bn 0 (phN N v) ∧ -dM t bn 0 (phN N v) ≤ 4398046511104
    omega
   simp only [← hL1e, ← hL2e]
   simp (disch := (first | decide | omega)) only [hA, go_sem]
   refine loop_kept (ι := Nat) r_dEnds0 (fun i => [(35, .v (.int .i64 i))]) 7 (fun i => [.live 0 1 [[.v (.isl 3 (t.map ePr))]], .live 0 3 [[.v (.isl 1 (bn.er.map eI)), .v (.int .i64 bn.lo), .v (.int .i64 bn.hi)]], .live 0 2 [[.v (.int .i64 (N + 1 : Nat)), .v (.isl 3 ((dsT t bn).map eDm))]], lvR (N + 1) L1, trR (N + 1), .live 0 1 (vs (fl (N + 1) fun v => [.int .i64 (if v < i then -L2 v else L2 v)])), trR (N + 1)])
    (fun i => i ≤ N + 1) (fun i => N + 1 - i) 0 (Nat.zero_le _) (by (repeat (first | exact hE.mono oM | refine KLt.up ?_ kL))) (by ((try simp (disch := decide) only [hA, go_sem]) <;> exact kH)) (fun e => ?_) ?_
   ·have h0 : (fl (N + 1) fun v => [IV.int .i64 (if v < 0 then -L2 v else L2 v)]) = fl (N + 1) fun v => [.int .i64 (L2 v)] := fl_congr (fun v _ => by rw [if_neg oM])
    rw [h0]
    exact Weak.refl _ _ _
   intro g1 hE1 hEE1 hg1 i hi
   by_cases hil : i < N + 1
   ·have hgi : (fl (N + 1) fun v => [IV.int .i64 (if v < i then -L2 v else L2 v)])[i]? = some [.int .i64 (L2 i)] := by rw [fl_get hil, if_neg oM]
    have hb := bd2 i hil
    have hng : 0 - L2 i = -L2 i := Int.zero_sub _
    have hst := neg_set (n := N + 1) (i := i) (f := L2) hil
    simp (disch := (first | decide | omega)) only [hA, hg1, hgi, hng, hst, vs_get, vs_len, fl_len, go_sem]
    refine ⟨i + 1, hil, by simp only; omega, ?_⟩
    exact Weak.kround (p := r_dEnds0) (k := 7) (by ((repeat refine (kAny_up rfl).trans ?_); exact hEE1)) (by ((try simp (disch := decide) only [hA, go_sem]) <;> exact kH)) rfl hE1 (by simp) kV hR (by simp (disch := omega) only [lvR, trR, lts.down, Nat.reduceLT, Nat.reduceAdd])
   ·obtain rfl : i = N + 1 := by omega
    have hfin : (fl (N + 1) fun v => [IV.int .i64 (if v < N + 1 then -L2 v else L2 v)]) = fl (N + 1) fun v => [.int .i64 (hiN t bn v)] := fl_congr (fun v hv => by
     rw [if_pos hv, hL2e]
     unfold hiN
     rw [hN0, Int.neg_neg])
    have hlo : lvR (N + 1) L1 = .live 0 1 (vs (fl (N + 1) fun v => [.int .i64 (loN t bn v)])) := by
     unfold lvR loN
     rw [hN0, hL1e]
    rw [hfin, hlo]
    simp (disch := (first | decide | omega)) only [hA, hg1, go_sem]
    refine leave_deep (.inr rfl) (xs := [.sl (B.length + 3) 0 0 (N + 1), .sl (B.length + 5) 0 0 (N + 1), .v (.bool true)]) (by simp (disch := (first | decide | omega)) only [resVs, resV, hA, hg1, go_sem]) (y := .tup [endV (N + 1) (loN t bn), endV (N + 1) (hiN t bn), .v (.bool true)]) ?_ hR hB ⟨by rw [hN0], rfl, rfl⟩
    exact Dv.tupL (.cons (Dv.slV (i := 3) rfl (by simp [fl_len])) (.cons (Dv.slV (i := 5) rfl (by simp [fl_len])) (.cons (.v _) .nil)))
end Go.Proofs.Ytanblnhnfkeffaa
