/- Texts of one proof, laid together: WZ, VY. No condition. -/
import Derived.Test.YtiiflkcebikecaaQA5
/- Kept runs: loops that collect into a slice that begins empty. No condition. -/
namespace Go.Proofs.Ytiiflkcebikecaa
set_option linter.unusedVariables false
theorem kOf_upd {N : Nat} {f : Nat → AV} {n : Nat} {x : AV} : upd (kOf N f) n x = kOf N (kUp f n x) := put_kOf (n := n)
/-- A slice without room becomes an empty row of the call's own. -/
theorem Weak.knil {N : Nat} {f : Nat → AV} {b l : List Row} (s sz : Nat) (hs : f s = .v .zsl) (hN : s < N) : Weak (kOf N f) b l (kOf N (kUp f s (.sl (b.length + l.length) 0 0 0))) b (l ++ [.live 0 sz []]) := by
  have := Weak.nilrow (e := kOf N f) (b := b) (l := l) (k := s) (sz := sz) (by rw [nth_kOf hN, hs]) (by rw [kOf_len]; exact hN)
  rwa [kOf_upd] at this
theorem loop_kept_from {P : Program} {c : ACode} {Q : AExit → List AV → List Row → List Row → Prop} {N : Nat} {f f' : Nat → AV} {b l l' : List Row} {ι : Type} (p : List (Nat × Nat)) (ov : ι → List (Nat × AV)) (k : Nat) (L : ι → List Row) (Cd : ι → Prop) (μ : ι → Nat) (i0 : ι) (h0 : Cd i0)
    (hw0 : Weak (kOf N f) b l (kOf N f') b l') (hlt : KLt (b.length + k) f') (hov : KHas f' (ov i0)) (hw : ∀ e, Weak e b l' e b (L i0))
    (step : ∀ g, KLt (b.length + k) g → kAny p g = g → (∀ n, kIn p n = false → g n = f' n) → ∀ i, Cd i → run (ACalls P) Weak c (kOf N (kOv (ov i) g)) b (L i) (seqQ (KRound N g ov b L Cd μ i) Q)) : run (ACalls P) Weak (.loop c) (kOf N f) b l Q :=
  loop_rule (fun i => kOf N (kOv (ov i) (kAny p f'))) (fun _ => b) L Cd μ i0 h0 (hw0.trans ((Weak.named p _ hov).trans (hw _)))
    (step (kAny p f') hlt.any kAny_idem (fun _ h => kAny_out h))
theorem loop_kept_nil {P : Program} {c : ACode} {Q : AExit → List AV → List Row → List Row → Prop} {N : Nat} {f : Nat → AV} {b l : List Row} {ι : Type} (s sz : Nat) (p : List (Nat × Nat)) (ov : ι → List (Nat × AV)) (k : Nat) (L : ι → List Row) (Cd : ι → Prop) (μ : ι → Nat) (i0 : ι) (h0 : Cd i0)
    (hs : f s = .v .zsl) (hN : s < N) (hp : kIn p s = true) (hlt : KLt (b.length + k) (kUp f s (.sl (b.length + l.length) 0 0 0))) (hov : KHas (kUp f s (.sl (b.length + l.length) 0 0 0)) (ov i0)) (hw : ∀ e, Weak e b (l ++ [.live 0 sz []]) e b (L i0))
    (step : ∀ g, KLt (b.length + k) g → kAny p g = g → (∀ n, kIn p n = false → g n = f n) → ∀ i, Cd i → run (ACalls P) Weak c (kOf N (kOv (ov i) g)) b (L i) (seqQ (KRound N g ov b L Cd μ i) Q)) : run (ACalls P) Weak (.loop c) (kOf N f) b l Q :=
  loop_kept_from p ov k L Cd μ i0 h0 (Weak.knil s sz hs hN) hlt hov hw (fun g h1 h2 h3 => step g h1 h2 (fun n hn => by
    rw [h3 n hn, kUp_ne]
    intro e; subst e; rw [hp] at hn; cases hn))
/-- A call whose contract says result and rows: the run goes on with them. -/
theorem ACalls.nxt {P : Program} {f : Nat} {args : List AV} {b l B' L' : List Row} {x : AV} {K : AV → List Row → List Row → Prop} (h : ACalls P f args b l (fun r b' l' => r = x ∧ b' = B' ∧ l' = L')) (k : K x B' L') : ACalls P f args b l K := by
  refine ACalls_mono _ _ _ _ _ _ h ?_
  rintro r b' l' ⟨rfl, rfl, rfl⟩
  exact k
/-- Frozen for a call: a row of plain values of the caller's own, handed on as a value. -/
theorem ACalls.frzA {P : Program} {f i ver sz : Nat} {args : List AV} {rows : List (List IV)} {b l : List Row} {Q : AV → List Row → List Row → Prop} (hi : l[i]? = some (.live ver sz (vs rows))) (h : ACalls P f (args.map (frz (b.length + i) ver sz rows)) b (l.set i (.dead ver)) Q) : ACalls P f args b l Q := by
  refine ⟨h.1, fun F L w us s hr => ?_⟩
  obtain ⟨F', s1, he1, st1, _⟩ := freeze_core (e := args) hi F L w { tmps := us, defers := [] } s ⟨rfl, by have := hr.1; simpa using this.symm, fun j x v hx hv => hr.2 j x v hx (by simpa using hv)⟩
  refine Calls.mono (h.2 F' L w us s1 ⟨by have := hr.1; simpa using this, fun j x v hx hv => he1.2.2 j x v hx (by simpa using hv)⟩) ?_
  rintro en w' ⟨v, x, b', l', F2, L2, h1, h2, h3, h4, h5, h6⟩
  have hlen : (b ++ l.set i (.dead ver)).length = (b ++ l).length := by simp
  have st : Step (b ++ l).length F L (b ++ l) w F' L (b ++ l.set i (.dead ver)) w := by
    refine ⟨st1.imm, fun _ _ _ _ hl => hl, rfl, rfl, rfl, Nat.le_refl _, fun _ _ _ => rfl, st1.own, fun id hid v hv => ?_, st1.fnew⟩
    by_cases hj : id < b.length
    · rw [List.getElem?_append_left hj] at hv ⊢; exact hv
    · rw [List.getElem?_append_right (by omega)] at hv ⊢
      by_cases hji : i = id - b.length
      · rw [← hji, hi] at hv; cases hv
      · rw [List.getElem?_set_ne hji]; exact hv
  exact ⟨v, x, b', l', F2, L2, h1, h2, h3, st.trans (hlen ▸ h4), h5, h6⟩

theorem ACalls.frzB {P : Program} {f i ver sz : Nat} {args args' : List AV} {rows : List (List IV)} {b l : List Row} {Q : AV → List Row → List Row → Prop} (hi : l[i]? = some (.live ver sz (vs rows))) (ha : args.map (frz (b.length + i) ver sz rows) = args') (h : ACalls P f args' b (l.set i (.dead ver)) Q) : ACalls P f args b l Q := by
  subst ha
  exact ACalls.frzA hi h
theorem frz_v {id ver sz : Nat} {rows : List (List IV)} {x : IV} : frz id ver sz rows (.v x) = .v x := rfl
theorem frz_own {id ver sz n : Nat} {rows : List (List IV)} (h : n = rows.length) : frz id ver sz rows (.sl id ver 0 n) = .v (.isl sz rows) := by
  subst h
  simp [frz, frz0]
/-- What is answered, said more weakly. -/
theorem ACalls.wk {P : Program} {f : Nat} {args : List AV} {b l : List Row} {Q Q' : AV → List Row → List Row → Prop} (h : ACalls P f args b l Q)
    (hw : ∀ r b' l', Q r b' l' → ∃ r', (∀ w F L v, RepA w F L r v → RepA w F L r' v) ∧ Q' r' b' l') : ACalls P f args b l Q' := by
  refine ⟨h.1, fun F L w us s hr => Calls.mono (h.2 F L w us s hr) ?_⟩
  rintro en w' ⟨v, x, b', l', F2, L2, h1, h2, h3, h4, h5, h6⟩
  obtain ⟨r', k1, k2⟩ := hw x b' l' h6
  exact ⟨v, r', b', l', F2, L2, h1, k1 _ _ _ _ h2, h3, h4, h5, k2⟩
/-- Slices without room, as lists: at the top of a value or of a tuple. -/
def zw1 (sz : Nat) : AV → AV
  | .v .zsl => .v (.isl sz [])
  | x => x
theorem zw1_rep {sz : Nat} {w : World} {F : Nat → Prop} {L : LMap} {x : AV} {v : Value} (h : RepA w F L x v) : RepA w F L (zw1 sz x) v := by
  unfold zw1
  split
  · cases h.vI; exact .v _ _ (.isl0 _ _ _ (Nat.zero_le _))
  · exact h
def zwT (szs : List Nat) : AV → AV
  | .tup cs => .tup (List.zipWith zw1 szs cs)
  | x => x
theorem zwT_rep {szs : List Nat} {cs : List AV} (hl : szs.length = cs.length) {w : World} {F : Nat → Prop} {L : LMap} {v : Value} (h : RepA w F L (.tup cs) v) : RepA w F L (zwT szs (.tup cs)) v := by
  obtain ⟨vs, rfl, h2⟩ := h.tupL
  refine RepL.tup ⟨by have := h2.1; simp [hl]; simpa using this, fun i x v hx hv => ?_⟩
  rw [List.getElem?_zipWith] at hx
  split at hx
  · rename_i a c ha hc
    cases hx
    exact zw1_rep (h2.2 i c v hc hv)
  · cases hx
end Go.Proofs.Ytiiflkcebikecaa

/- Functions of chapter 15 as runs: Zero; the reference's Tick, Join, Leq, Compare; the law VectorSteps. No condition but on lengths. -/
namespace Go.Proofs.Ytiiflkcebikecaa
set_option linter.unusedVariables false
set_option linter.unusedSimpArgs false
attribute [local go_sem ↓] run_skip run_region run_draw run_seq run_block run_exit run_ret run_cond atN_app seqC_normal seqC_exit seqC_ret seqQ_normal seqQ_exit seqQ_ret blkQ_normal blkQ_exit blkQ_ret runOps_nil runOps_cons runD_nil runD_cons grdO_true grdO_false grdD_true grdD_false ifC_true ifC_false opS_val opS_call opS_two opK_app dS_val dS_call dS_two dK_app kUp_same kUp_ne
attribute [local go_sem] rechks_nil rechks_cons rechk gcase_true gcase_false ex_val ex_val0 gd_none gd_some ev_t ev_c evs_nil evs_cons evo_some evo_none hget_at hget_first hsetB_at hsetB_first hsetL_at hsetL_first ofOpt_some aop aload astore aslice aappend aiaddr aiaddrA afaddr alen alenS acopy amm acall alookup amupdate alenM comma keyEq apick binV binVB binVS isSh intOp strOp boolOp shOp eqC eqF and2 cellsOf setFrom fillA fillS rd rdI elems mk bounds AV.cell List.all_cons List.all_nil Bool.and_true Bool.true_and Bool.and_self List.length_cons List.length_nil List.length_append Nat.reduceAdd Nat.reduceSub Nat.reduceMul Nat.zero_add Nat.add_zero List.cons_append List.nil_append List.append_assoc List.append_nil List.getElem?_cons_zero List.getElem?_cons_succ List.getElem?_nil List.set_cons_zero List.set_cons_succ List.drop_zero List.drop_succ_cons List.take_zero List.take_succ_cons List.take_nil List.drop_nil List.map_cons List.map_nil Option.map_some if_true if_false Bool.false_eq_true and_self true_and and_true Nat.reduceLeDiff Nat.reduceLT Nat.le_refl Nat.reduceEqDiff ite_true ite_false beq_self_eq_true beq_true beq_false Bool.not_true Bool.not_false Bool.true_beq Bool.false_beq map_vs vs_len vs_get vs_take vs_drop vs_snoc1 vs_snoc2 vs_snoc3 vs_snoc5 vs_set1 vs_set2 vs_rep wrap_id le_T lt_T le_F lt_F leI_T ltI_T leI_F ltI_F geI gtI get_T decide_true decide_false room List.getElem?_map List.length_map List.length_take Int.toNat_natCast Nat.min_def Nat.min_self nth_kOf put_kOf put_kNo kOv_cons kOv_nil KHas KArgs List.getElem_cons_zero List.getElem_cons_succ
def a_Zero : AFunc := ⟨1, 12, [.tmp 2, .tmp 3],
  (.seq (.region [⟨(some 2), .mv (.c (.v .zsl)), none⟩, ⟨(some 3), .mv (.c (.v (.int .i64 0))), none⟩])
  (.seq (.seq (.region [⟨(some 4), .mv (.t 0), none⟩, ⟨(some 5), .bin .lss (.t 4) (.c (.v (.int .i64 1))), none⟩, ⟨(some 6), .mv (.t 5), none⟩, ⟨(some 7), .mv (.t 0), some (6, false)⟩, ⟨(some 8), .bin .gtr (.t 7) (.c (.v (.int .i64 8))), some (6, false)⟩, ⟨(some 9), .pick (.t 6) (.c (.v (.bool true))) (.t 8), none⟩])
  (.cond (.t 9) (.seq (.region [⟨(some 2), .mv (.c (.v .zsl)), none⟩, ⟨(some 3), .mv (.c (.v (.int .i64 2))), none⟩])
  .ret)
  .skip))
  (.seq (.region [⟨(some 10), .mv (.t 0), none⟩, ⟨(some 11), .mkslice 1 [(.v (.int .i64 0))] 8 (.t 10) (.t 10), none⟩, ⟨(some 2), .mv (.t 11), none⟩, ⟨(some 3), .mv (.c (.v (.int .i64 0))), none⟩])
  .ret)))⟩
theorem a_Zero_ok : cFunc Try.prog 35 = some a_Zero := by kernel_rfl
def a_rTick : AFunc := ⟨2, 35, [.tmp 4, .tmp 5],
  (.seq (.region [⟨(some 4), .mv (.c (.v .zsl)), none⟩, ⟨(some 5), .mv (.c (.v (.int .i64 0))), none⟩])
  (.seq (.seq (.region [⟨(some 7), .mv (.t 0), none⟩, ⟨(some 8), .call (.c (.fn 85 [])) [(.t 7)], none⟩, ⟨(some 9), .not (.t 8), none⟩])
  (.cond (.t 9) (.seq (.region [⟨(some 4), .mv (.c (.v .zsl)), none⟩, ⟨(some 5), .mv (.c (.v (.int .i64 1))), none⟩])
  .ret)
  .skip))
  (.seq (.seq (.region [⟨(some 10), .mv (.t 1), none⟩, ⟨(some 11), .bin .lss (.t 10) (.c (.v (.int .i64 0))), none⟩, ⟨(some 12), .mv (.t 11), none⟩, ⟨(some 13), .mv (.t 1), some (12, false)⟩, ⟨(some 14), .mv (.t 0), some (12, false)⟩, ⟨(some 15), .len (.t 14), some (12, false)⟩, ⟨(some 16), .bin .geq (.t 13) (.t 15), some (12, false)⟩, ⟨(some 17), .pick (.t 12) (.c (.v (.bool true))) (.t 16), none⟩])
  (.cond (.t 17) (.seq (.region [⟨(some 4), .mv (.c (.v .zsl)), none⟩, ⟨(some 5), .mv (.c (.v (.int .i64 2))), none⟩])
  .ret)
  .skip))
  (.seq (.seq (.region [⟨(some 18), .mv (.t 0), none⟩, ⟨(some 19), .mv (.t 1), none⟩, ⟨(some 20), .iaddr 1 (.t 18) (.t 19), none⟩, ⟨(some 21), .load none (.t 20), none⟩, ⟨(some 22), .bin .eql (.t 21) (.c (.v (.int .i64 1125899906842624))), none⟩])
  (.cond (.t 22) (.seq (.region [⟨(some 4), .mv (.c (.v .zsl)), none⟩, ⟨(some 5), .mv (.c (.v (.int .i64 9))), none⟩])
  .ret)
  .skip))
  (.seq (.region [⟨(some 23), .bslice 1 [(.v (.int .i64 0))] 0 [], none⟩, ⟨(some 24), .mv (.t 0), none⟩, ⟨(some 25), .append 1 8 (.t 23) (.t 24), none⟩, ⟨(some 6), .mv (.t 25), none⟩])
  (.seq (.region [⟨(some 26), .mv (.t 6), none⟩, ⟨(some 27), .mv (.t 1), none⟩, ⟨(some 28), .mv (.t 6), none⟩, ⟨(some 29), .mv (.t 1), none⟩, ⟨(some 30), .iaddr 1 (.t 28) (.t 29), none⟩, ⟨(some 31), .load none (.t 30), none⟩, ⟨(some 32), .bin .add (.t 31) (.c (.v (.int .i64 1))), none⟩, ⟨(some 33), .iaddr 1 (.t 26) (.t 27), none⟩, ⟨none, .store 1 (.t 33) (.t 32), none⟩])
  (.seq (.region [⟨(some 34), .mv (.t 6), none⟩, ⟨(some 4), .mv (.t 34), none⟩, ⟨(some 5), .mv (.c (.v (.int .i64 0))), none⟩])
  .ret)))))))⟩
theorem a_rTick_ok : cFunc Try.prog 36 = some a_rTick := by kernel_rfl
def a_rJoin : AFunc := ⟨2, 26, [.tmp 4],
  (.seq (.region [⟨(some 4), .mv (.c (.v .zsl)), none⟩])
  (.seq (.region [⟨(some 5), .mv (.c (.v .zsl)), none⟩])
  (.seq (.seq (.region [⟨(some 6), .mv (.c (.v (.int .i64 0))), none⟩])
  (.block 0 (.loop (.seq (.seq (.region [⟨(some 7), .mv (.t 6), none⟩, ⟨(some 8), .mv (.t 0), none⟩, ⟨(some 9), .len (.t 8), none⟩, ⟨(some 10), .bin .lss (.t 7) (.t 9), none⟩])
  (.cond (.t 10) .skip
  (.exit 0)))
  (.seq (.block 1 (.draw [⟨0, ⟨(some 13), .mv (.t 5), none⟩, []⟩, ⟨1, ⟨(some 14), .mv (.t 0), none⟩, []⟩, ⟨2, ⟨(some 15), .mv (.t 6), none⟩, []⟩, ⟨3, ⟨(some 16), .iaddr 1 (.t 14) (.t 15), none⟩, []⟩, ⟨4, ⟨(some 17), .load none (.t 16), none⟩, []⟩, ⟨5, ⟨(some 18), .mv (.t 1), none⟩, []⟩, ⟨6, ⟨(some 19), .mv (.t 6), none⟩, []⟩, ⟨7, ⟨(some 20), .iaddr 1 (.t 18) (.t 19), none⟩, []⟩, ⟨8, ⟨(some 21), .load none (.t 20), none⟩, []⟩, ⟨9, ⟨(some 22), .mm true (.t 17) (.t 21), none⟩, []⟩, ⟨10, ⟨(some 23), .bslice 1 [(.v (.int .i64 0))] 1 [(0, (.t 22))], none⟩, [⟨(some 13), .mv (.t 5), none⟩]⟩, ⟨11, ⟨(some 24), .append 1 8 (.t 13) (.t 23), none⟩, []⟩, ⟨12, ⟨(some 5), .mv (.t 24), none⟩, []⟩]))
  (.region [⟨(some 11), .mv (.t 6), none⟩, ⟨(some 12), .bin .add (.t 11) (.c (.v (.int .i64 1))), none⟩, ⟨(some 6), .mv (.t 12), none⟩]))))))
  (.seq (.region [⟨(some 25), .mv (.t 5), none⟩, ⟨(some 4), .mv (.t 25), none⟩])
  .ret))))⟩
theorem a_rJoin_ok : cFunc Try.prog 37 = some a_rJoin := by kernel_rfl
def r_rJoin0 : List (Nat × Nat) := [(5, 24)]
def a_rLeq : AFunc := ⟨2, 21, [.tmp 4],
  (.seq (.region [⟨(some 4), .mv (.c (.v (.bool false))), none⟩])
  (.seq (.seq (.region [⟨(some 5), .mv (.c (.v (.int .i64 0))), none⟩])
  (.block 0 (.loop (.seq (.seq (.region [⟨(some 6), .mv (.t 5), none⟩, ⟨(some 7), .mv (.t 0), none⟩, ⟨(some 8), .len (.t 7), none⟩, ⟨(some 9), .bin .lss (.t 6) (.t 8), none⟩])
  (.cond (.t 9) .skip
  (.exit 0)))
  (.seq (.block 1 (.seq (.draw [⟨0, ⟨(some 12), .mv (.t 0), none⟩, []⟩, ⟨1, ⟨(some 13), .mv (.t 5), none⟩, []⟩, ⟨2, ⟨(some 14), .iaddr 1 (.t 12) (.t 13), none⟩, []⟩, ⟨3, ⟨(some 15), .load none (.t 14), none⟩, []⟩, ⟨4, ⟨(some 16), .mv (.t 1), none⟩, []⟩, ⟨5, ⟨(some 17), .mv (.t 5), none⟩, []⟩, ⟨6, ⟨(some 18), .iaddr 1 (.t 16) (.t 17), none⟩, []⟩, ⟨7, ⟨(some 19), .load none (.t 18), none⟩, []⟩, ⟨8, ⟨(some 20), .bin .gtr (.t 15) (.t 19), none⟩, []⟩])
  (.cond (.t 20) (.seq (.region [⟨(some 4), .mv (.c (.v (.bool false))), none⟩])
  .ret)
  .skip)))
  (.region [⟨(some 10), .mv (.t 5), none⟩, ⟨(some 11), .bin .add (.t 10) (.c (.v (.int .i64 1))), none⟩, ⟨(some 5), .mv (.t 11), none⟩]))))))
  (.seq (.region [⟨(some 4), .mv (.c (.v (.bool true))), none⟩])
  .ret)))⟩
theorem a_rLeq_ok : cFunc Try.prog 89 = some a_rLeq := by kernel_rfl
def r_rLeq0 : List (Nat × Nat) := [(4, 20)]
def a_rCompare : AFunc := ⟨2, 22, [.tmp 4],
  (.seq (.region [⟨(some 4), .mv (.c (.v (.int .i64 0))), none⟩])
  (.seq (.block 0 (.seq (.region [⟨(some 6), .mv (.t 0), none⟩, ⟨(some 7), .mv (.t 1), none⟩, ⟨(some 8), .call (.c (.fn 89 [])) [(.t 6), (.t 7)], none⟩, ⟨(some 9), .mv (.t 8), none⟩, ⟨(some 10), .mv (.t 1), some (9, true)⟩, ⟨(some 11), .mv (.t 0), some (9, true)⟩, ⟨(some 12), .call (.c (.fn 89 [])) [(.t 10), (.t 11)], some (9, true)⟩, ⟨(some 13), .pick (.t 9) (.t 12) (.c (.v (.bool false))), none⟩, ⟨(some 5), .mv (.t 13), none⟩])
  (.cond (.t 5) (.seq (.region [⟨(some 4), .mv (.c (.v (.int .i64 0))), none⟩])
  .ret)
  (.seq (.region [⟨(some 15), .mv (.t 0), none⟩, ⟨(some 16), .mv (.t 1), none⟩, ⟨(some 17), .call (.c (.fn 89 [])) [(.t 15), (.t 16)], none⟩, ⟨(some 14), .mv (.t 17), none⟩])
  (.cond (.t 14) (.seq (.region [⟨(some 4), .mv (.c (.v (.int .i64 (-1)))), none⟩])
  .ret)
  (.seq (.region [⟨(some 19), .mv (.t 1), none⟩, ⟨(some 20), .mv (.t 0), none⟩, ⟨(some 21), .call (.c (.fn 89 [])) [(.t 19), (.t 20)], none⟩, ⟨(some 18), .mv (.t 21), none⟩])
  (.cond (.t 18) (.seq (.region [⟨(some 4), .mv (.c (.v (.int .i64 1))), none⟩])
  .ret)
  .skip)))))))
  (.seq (.region [⟨(some 4), .mv (.c (.v (.int .i64 2))), none⟩])
  .ret)))⟩
theorem a_rCompare_ok : cFunc Try.prog 38 = some a_rCompare := by kernel_rfl
def a_VectorSteps : AFunc := ⟨4, 128, [.tmp 8],
  (.seq (.region [⟨(some 8), .mv (.c (.v (.bool false))), none⟩])
  (.seq (.seq (.region [⟨(some 19), .call (.c (.fn 15 [])) [], none⟩, ⟨(some 20), .not (.t 19), none⟩])
  (.cond (.t 20) (.seq (.region [⟨(some 8), .mv (.c (.v (.bool false))), none⟩])
  .ret)
  .skip))
  (.seq (.seq (.region [⟨(some 21), .mv (.t 0), none⟩, ⟨(some 22), .len (.t 21), none⟩, ⟨(some 23), .bin .gtr (.t 22) (.c (.v (.int .i64 40))), none⟩, ⟨(some 24), .mv (.t 23), none⟩, ⟨(some 25), .mv (.t 1), some (24, false)⟩, ⟨(some 26), .len (.t 25), some (24, false)⟩, ⟨(some 27), .bin .gtr (.t 26) (.c (.v (.int .i64 40))), some (24, false)⟩, ⟨(some 28), .pick (.t 24) (.c (.v (.bool true))) (.t 27), none⟩])
  (.cond (.t 28) (.seq (.region [⟨(some 8), .mv (.c (.v (.bool true))), none⟩])
  .ret)
  .skip))
  (.seq (.region [⟨(some 30), .mv (.t 3), none⟩, ⟨(some 31), .call (.c (.fn 35 [])) [(.t 30)], none⟩, ⟨(some 29), .mv (.t 31), none⟩, ⟨(some 32), .extract 0 (.t 29), none⟩, ⟨(some 33), .extract 1 (.t 29), none⟩, ⟨(some 9), .mv (.t 32), none⟩, ⟨(some 10), .mv (.t 33), none⟩])
  (.seq (.seq (.region [⟨(some 34), .mv (.t 3), none⟩, ⟨(some 35), .bin .lss (.t 34) (.c (.v (.int .i64 1))), none⟩, ⟨(some 36), .mv (.t 35), none⟩, ⟨(some 37), .mv (.t 3), some (36, false)⟩, ⟨(some 38), .bin .gtr (.t 37) (.c (.v (.int .i64 8))), some (36, false)⟩, ⟨(some 39), .pick (.t 36) (.c (.v (.bool true))) (.t 38), none⟩])
  (.cond (.t 39) (.seq (.region [⟨(some 40), .mv (.t 10), none⟩, ⟨(some 41), .bin .neq (.t 40) (.c (.v (.int .i64 2))), none⟩, ⟨(some 42), .mv (.t 41), none⟩, ⟨(some 43), .mv (.t 9), some (42, false)⟩, ⟨(some 44), .len (.t 43), some (42, false)⟩, ⟨(some 45), .bin .neq (.t 44) (.c (.v (.int .i64 0))), some (42, false)⟩, ⟨(some 46), .pick (.t 42) (.c (.v (.bool true))) (.t 45), none⟩])
  (.cond (.t 46) (.seq (.region [⟨(some 8), .mv (.c (.v (.bool false))), none⟩])
  .ret)
  .skip))
  (.seq (.region [⟨(some 47), .mv (.t 10), none⟩, ⟨(some 48), .bin .neq (.t 47) (.c (.v (.int .i64 0))), none⟩, ⟨(some 49), .mv (.t 48), none⟩, ⟨(some 50), .mv (.t 9), some (49, false)⟩, ⟨(some 51), .mv (.t 3), some (49, false)⟩, ⟨(some 52), .mkslice 1 [(.v (.int .i64 0))] 8 (.t 51) (.t 51), some (49, false)⟩, ⟨(some 53), .call (.c (.fn 26 [])) [(.t 50), (.t 52)], some (49, false)⟩, ⟨(some 54), .not (.t 53), some (49, false)⟩, ⟨(some 55), .pick (.t 49) (.c (.v (.bool true))) (.t 54), none⟩])
  (.cond (.t 55) (.seq (.region [⟨(some 8), .mv (.c (.v (.bool false))), none⟩])
  .ret)
  .skip))))
  (.seq (.region [⟨(some 57), .mv (.t 0), none⟩, ⟨(some 58), .mv (.t 2), none⟩, ⟨(some 59), .call (.c (.fn 34 [])) [(.t 57), (.t 58)], none⟩, ⟨(some 56), .mv (.t 59), none⟩, ⟨(some 60), .extract 0 (.t 56), none⟩, ⟨(some 61), .extract 1 (.t 56), none⟩, ⟨(some 11), .mv (.t 60), none⟩, ⟨(some 12), .mv (.t 61), none⟩])
  (.seq (.region [⟨(some 63), .mv (.t 0), none⟩, ⟨(some 64), .mv (.t 2), none⟩, ⟨(some 65), .call (.c (.fn 36 [])) [(.t 63), (.t 64)], none⟩, ⟨(some 62), .mv (.t 65), none⟩, ⟨(some 66), .extract 0 (.t 62), none⟩, ⟨(some 67), .extract 1 (.t 62), none⟩, ⟨(some 13), .mv (.t 66), none⟩, ⟨(some 14), .mv (.t 67), none⟩])
  (.seq (.region [⟨(some 69), .mv (.t 0), none⟩, ⟨(some 70), .mv (.t 1), none⟩, ⟨(some 71), .call (.c (.fn 33 [])) [(.t 69), (.t 70)], none⟩, ⟨(some 68), .mv (.t 71), none⟩, ⟨(some 72), .extract 0 (.t 68), none⟩, ⟨(some 73), .extract 1 (.t 68), none⟩, ⟨(some 15), .mv (.t 72), none⟩, ⟨(some 16), .mv (.t 73), none⟩])
  (.seq (.region [⟨(some 75), .mv (.t 0), none⟩, ⟨(some 76), .mv (.t 1), none⟩, ⟨(some 77), .call (.c (.fn 32 [])) [(.t 75), (.t 76)], none⟩, ⟨(some 74), .mv (.t 77), none⟩, ⟨(some 78), .extract 0 (.t 74), none⟩, ⟨(some 79), .extract 1 (.t 74), none⟩, ⟨(some 17), .mv (.t 78), none⟩, ⟨(some 18), .mv (.t 79), none⟩])
  (.seq (.seq (.region [⟨(some 80), .mv (.t 11), none⟩, ⟨(some 81), .mv (.t 13), none⟩, ⟨(some 82), .call (.c (.fn 26 [])) [(.t 80), (.t 81)], none⟩, ⟨(some 83), .not (.t 82), none⟩, ⟨(some 84), .mv (.t 83), none⟩, ⟨(some 85), .mv (.t 12), some (84, false)⟩, ⟨(some 86), .mv (.t 14), some (84, false)⟩, ⟨(some 87), .bin .neq (.t 85) (.t 86), some (84, false)⟩, ⟨(some 88), .pick (.t 84) (.c (.v (.bool true))) (.t 87), none⟩])
  (.cond (.t 88) (.seq (.region [⟨(some 8), .mv (.c (.v (.bool false))), none⟩])
  .ret)
  .skip))
  (.seq (.seq (.region [⟨(some 89), .mv (.t 0), none⟩, ⟨(some 90), .mv (.t 1), none⟩, ⟨(some 91), .call (.c (.fn 29 [])) [(.t 89), (.t 90)], none⟩, ⟨(some 92), .not (.t 91), none⟩])
  (.cond (.t 92) (.seq (.region [⟨(some 93), .mv (.t 16), none⟩, ⟨(some 94), .bin .eql (.t 93) (.c (.v (.int .i64 1))), none⟩, ⟨(some 95), .mv (.t 94), none⟩, ⟨(some 96), .mv (.t 15), some (95, true)⟩, ⟨(some 97), .len (.t 96), some (95, true)⟩, ⟨(some 98), .bin .eql (.t 97) (.c (.v (.int .i64 0))), some (95, true)⟩, ⟨(some 99), .pick (.t 95) (.t 98) (.c (.v (.bool false))), none⟩, ⟨(some 100), .mv (.t 99), none⟩, ⟨(some 101), .mv (.t 18), some (100, true)⟩, ⟨(some 102), .bin .eql (.t 101) (.c (.v (.int .i64 1))), some (100, true)⟩, ⟨(some 103), .pick (.t 100) (.t 102) (.c (.v (.bool false))), none⟩, ⟨(some 104), .mv (.t 103), none⟩, ⟨(some 105), .mv (.t 17), some (104, true)⟩, ⟨(some 106), .bin .eql (.t 105) (.c (.v (.int .i64 0))), some (104, true)⟩, ⟨(some 107), .pick (.t 104) (.t 106) (.c (.v (.bool false))), none⟩, ⟨(some 8), .mv (.t 107), none⟩])
  .ret)
  .skip))
  (.seq (.region [⟨(some 108), .mv (.t 16), none⟩, ⟨(some 109), .bin .eql (.t 108) (.c (.v (.int .i64 0))), none⟩, ⟨(some 110), .mv (.t 109), none⟩, ⟨(some 111), .mv (.t 15), some (110, true)⟩, ⟨(some 112), .mv (.t 0), some (110, true)⟩, ⟨(some 113), .mv (.t 1), some (110, true)⟩, ⟨(some 114), .call (.c (.fn 37 [])) [(.t 112), (.t 113)], some (110, true)⟩, ⟨(some 115), .call (.c (.fn 26 [])) [(.t 111), (.t 114)], some (110, true)⟩, ⟨(some 116), .pick (.t 110) (.t 115) (.c (.v (.bool false))), none⟩, ⟨(some 117), .mv (.t 116), none⟩, ⟨(some 118), .mv (.t 18), some (117, true)⟩, ⟨(some 119), .bin .eql (.t 118) (.c (.v (.int .i64 0))), some (117, true)⟩, ⟨(some 120), .pick (.t 117) (.t 119) (.c (.v (.bool false))), none⟩, ⟨(some 121), .mv (.t 120), none⟩, ⟨(some 122), .mv (.t 17), some (121, true)⟩, ⟨(some 123), .mv (.t 0), some (121, true)⟩, ⟨(some 124), .mv (.t 1), some (121, true)⟩, ⟨(some 125), .call (.c (.fn 38 [])) [(.t 123), (.t 124)], some (121, true)⟩, ⟨(some 126), .bin .eql (.t 122) (.t 125), some (121, true)⟩, ⟨(some 127), .pick (.t 121) (.t 126) (.c (.v (.bool false))), none⟩, ⟨(some 8), .mv (.t 127), none⟩])
  .ret))))))))))))⟩
theorem a_VectorSteps_ok : cFunc Try.prog 6 = some a_VectorSteps := by kernel_rfl

def zeroR (n : Int) : AV := if 1 ≤ n ∧ n ≤ 8 then .tup [.v (.isl 1 ((List.replicate n.toNat 0).map eI)), .v (.int .i64 0)] else .tup [.v .zsl, .v (.int .i64 2)]
theorem zero_spec (n : Int) (b l : List Row) : ACalls Try.prog 35 [.v (.int .i64 n)] b l (fun r b' l' => r = zeroR n ∧ b' = b ∧ l' = l) := by
  refine calls_kept a_Zero_ok rfl (by decide) ?_
  intro B g hB hR hE hA
  simp only [KArgs] at hA
  by_cases h1 : n < 1
  · have hd := decide_eq_true h1
    simp (disch := (first | decide | omega)) only [a_Zero, hA, hd, go_sem]
    exact leave_pure (xs := [.v .zsl, .v (.int .i64 2)]) (.inr rfl) (by simp (disch := (first | decide | omega)) only [resVs, resV, go_sem, hA]) (by simp only [one, AVlt_v, AVlt_any, AVlt_sl, AVlt_ptr, AVlt_mp, AVlt_agg, AVlt_tup, AVlt_fn, RowsLt_nil, RowsLt_live, RowsLt_dead, List.mem_cons, List.not_mem_nil, List.forall_mem_cons, List.forall_mem_nil, or_false, false_or, forall_eq_or_imp, forall_eq, vs_lt, Nat.add_lt_add_iff_left, Nat.reduceLT, true_and, and_true, and_self, List.length_cons, List.length_nil, Nat.reduceAdd, Nat.zero_add, implies_true, false_imp_iff, lt_T, List.mem_map]) hR hB ⟨by rw [zeroR, if_neg (by omega)]; rfl, rfl, rfl⟩
  have hd := decide_eq_false h1
  by_cases h2 : n > 8
  · have hd2 := decide_eq_true h2
    simp (disch := (first | decide | omega)) only [a_Zero, hA, hd, hd2, go_sem]
    exact leave_pure (xs := [.v .zsl, .v (.int .i64 2)]) (.inr rfl) (by simp (disch := (first | decide | omega)) only [resVs, resV, go_sem, hA]) (by simp only [one, AVlt_v, AVlt_any, AVlt_sl, AVlt_ptr, AVlt_mp, AVlt_agg, AVlt_tup, AVlt_fn, RowsLt_nil, RowsLt_live, RowsLt_dead, List.mem_cons, List.not_mem_nil, List.forall_mem_cons, List.forall_mem_nil, or_false, false_or, forall_eq_or_imp, forall_eq, vs_lt, Nat.add_lt_add_iff_left, Nat.reduceLT, true_and, and_true, and_self, List.length_cons, List.length_nil, Nat.reduceAdd, Nat.zero_add, implies_true, false_imp_iff, lt_T, List.mem_map]) hR hB ⟨by rw [zeroR, if_neg (by omega)]; rfl, rfl, rfl⟩
  have hd2 := decide_eq_false h2
  obtain ⟨m, rfl⟩ : ∃ m : Nat, n = m := ⟨n.toNat, by omega⟩
  have hrep : List.replicate m [AV.v (.int .i64 0)] = vs ((List.replicate m (0 : Int)).map eI) := by simp [vs, eI]
  simp (disch := (first | decide | omega)) only [a_Zero, hA, hd, hd2, hrep, go_sem]
  refine leave_frz2 (i := 0) (n := m) (rows := (List.replicate m 0).map eI) (z := .int .i64 0) (.inr rfl) (by simp (disch := (first | decide | omega)) only [resVs, resV, hA, go_sem]) rfl (by simp) hR hB ⟨?_, rfl, rfl⟩
  rw [zeroR, if_pos (by omega)]; rfl
theorem rTick_spec (v : List Int) (p : Int) (b l : List Row) : ACalls Try.prog 36 [.v (.isl 1 (v.map eI)), .v (.int .i64 p)] b l (fun r b' l' => r = tickR v p ∧ b' = b ∧ l' = l) := by
  refine calls_kept a_rTick_ok rfl (by decide) ?_
  intro B g hB hR hE hA
  simp only [KArgs] at hA
  simp (disch := decide) only [a_rTick, hA, go_sem]
  refine ACalls.nxt (rValid_spec v _ _) ?_
  cases h1 : isV v
  · simp (disch := decide) only [hA, go_sem]
    have e : tickE v p = 1 := by simp [tickE, h1]
    exact leave_pure (xs := [.v .zsl, .v (.int .i64 1)]) (.inr rfl) (by simp (disch := (first | decide | omega)) only [resVs, resV, go_sem, hA]) (by simp only [one, AVlt_v, AVlt_any, AVlt_sl, AVlt_ptr, AVlt_mp, AVlt_agg, AVlt_tup, AVlt_fn, RowsLt_nil, RowsLt_live, RowsLt_dead, List.mem_cons, List.not_mem_nil, List.forall_mem_cons, List.forall_mem_nil, or_false, false_or, forall_eq_or_imp, forall_eq, vs_lt, Nat.add_lt_add_iff_left, Nat.reduceLT, true_and, and_true, and_self, List.length_cons, List.length_nil, Nat.reduceAdd, Nat.zero_add, implies_true, false_imp_iff, lt_T, List.mem_map]) hR hB ⟨by simp [tickR, e, one], rfl, rfl⟩
  obtain ⟨l1, l2, l3⟩ := isV_open h1
  by_cases h2 : p < 0
  · have hd := decide_eq_true h2
    have e : tickE v p = 2 := by simp [tickE, h1, h2]
    simp (disch := (first | decide | omega)) only [hA, hd, go_sem]
    exact leave_pure (xs := [.v .zsl, .v (.int .i64 2)]) (.inr rfl) (by simp (disch := (first | decide | omega)) only [resVs, resV, go_sem, hA, hd]) (by simp only [one, AVlt_v, AVlt_any, AVlt_sl, AVlt_ptr, AVlt_mp, AVlt_agg, AVlt_tup, AVlt_fn, RowsLt_nil, RowsLt_live, RowsLt_dead, List.mem_cons, List.not_mem_nil, List.forall_mem_cons, List.forall_mem_nil, or_false, false_or, forall_eq_or_imp, forall_eq, vs_lt, Nat.add_lt_add_iff_left, Nat.reduceLT, true_and, and_true, and_self, List.length_cons, List.length_nil, Nat.reduceAdd, Nat.zero_add, implies_true, false_imp_iff, lt_T, List.mem_map]) hR hB ⟨by simp [tickR, e, one], rfl, rfl⟩
  have hd := decide_eq_false h2
  by_cases h3 : p ≥ v.length
  · have hd2 : decide ((v.length : Int) ≤ p) = true := decide_eq_true h3
    have e : tickE v p = 2 := by simp [tickE, h1, h3]
    simp (disch := (first | decide | omega)) only [hA, List.length_map, hd, hd2, go_sem]
    exact leave_pure (xs := [.v .zsl, .v (.int .i64 2)]) (.inr rfl) (by simp (disch := (first | decide | omega)) only [resVs, resV, go_sem, hA, hd]) (by simp only [one, AVlt_v, AVlt_any, AVlt_sl, AVlt_ptr, AVlt_mp, AVlt_agg, AVlt_tup, AVlt_fn, RowsLt_nil, RowsLt_live, RowsLt_dead, List.mem_cons, List.not_mem_nil, List.forall_mem_cons, List.forall_mem_nil, or_false, false_or, forall_eq_or_imp, forall_eq, vs_lt, Nat.add_lt_add_iff_left, Nat.reduceLT, true_and, and_true, and_self, List.length_cons, List.length_nil, Nat.reduceAdd, Nat.zero_add, implies_true, false_imp_iff, lt_T, List.mem_map]) hR hB ⟨by simp [tickR, e, one], rfl, rfl⟩
  have hd2 : decide ((v.length : Int) ≤ p) = false := decide_eq_false h3
  obtain ⟨n, rfl⟩ : ∃ n : Nat, p = n := ⟨p.toNat, by omega⟩
  have hn : n < v.length := by omega
  have hg := getD_at (d := 0) hn
  have hr := l3 n hn
  rw [hg] at hr
  by_cases h4 : v[n] = 1125899906842624
  · have hd3 : (v[n] == 1125899906842624) = true := by rw [h4]; rfl
    have e : tickE v n = 9 := by
      unfold tickE
      rw [if_neg (by simp [h1]), if_neg (by omega), if_pos (by rw [Int.toNat_natCast, hg]; exact h4)]
    simp (disch := (first | decide | omega)) only [hA, List.length_map, hd, hd2, eI, hd3, go_sem]
    exact leave_pure (xs := [.v .zsl, .v (.int .i64 9)]) (.inr rfl) (by simp (disch := (first | decide | omega)) only [resVs, resV, go_sem, hA, hd]) (by simp only [one, AVlt_v, AVlt_any, AVlt_sl, AVlt_ptr, AVlt_mp, AVlt_agg, AVlt_tup, AVlt_fn, RowsLt_nil, RowsLt_live, RowsLt_dead, List.mem_cons, List.not_mem_nil, List.forall_mem_cons, List.forall_mem_nil, or_false, false_or, forall_eq_or_imp, forall_eq, vs_lt, Nat.add_lt_add_iff_left, Nat.reduceLT, true_and, and_true, and_self, List.length_cons, List.length_nil, Nat.reduceAdd, Nat.zero_add, implies_true, false_imp_iff, lt_T, List.mem_map]) hR hB ⟨by simp [tickR, e, one], rfl, rfl⟩
  have hd3 : (v[n] == 1125899906842624) = false := by simpa using h4
  have e : tickE v n = 0 := by
    unfold tickE
    rw [if_neg (by simp [h1]), if_neg (by omega), if_neg (by rw [Int.toNat_natCast, hg]; exact h4)]
  have hs : (v.map eI).set n [.int .i64 (v[n] + 1)] = (tickL v n).map eI := by
    unfold tickL
    rw [List.map_set, hg]; rfl
  have hx : v.length ≤ 1000000 := by omega
  simp (disch := (first | decide | omega)) only [hA, List.length_map, hd, hd2, eI, hd3, hs, go_sem]
  refine leave_frz2 (i := 0) (n := v.length) (rows := (tickL v n).map eI) (z := .int .i64 0) (.inr rfl) (by simp (disch := (first | decide | omega)) only [resVs, resV, hA, List.length_map, go_sem]) rfl (by simp [tickL_len]) hR hB ⟨?_, rfl, rfl⟩
  unfold tickR
  rw [if_pos e]; rfl
theorem rJoin_spec (v w : List Int) (h2 : v.length ≤ 1000000) (h : v.length = w.length) (b l : List Row) : ACalls Try.prog 37 [.v (.isl 1 (v.map eI)), .v (.isl 1 (w.map eI))] b l (fun r b' l' => r = .v (.isl 1 ((joinV v w).map eI)) ∧ b' = b ∧ l' = l) := by
  refine calls_kept a_rJoin_ok rfl (by decide) ?_
  intro B g hB hR hE hA
  simp only [KArgs] at hA
  have jl := joinV_len h
  simp (disch := (first | decide | omega)) only [a_rJoin, hA, List.length_map, go_sem]
  refine loop_kept_nil (ι := Nat) 5 1 r_rJoin0 (fun i => [(5, .sl (B.length) i 0 i), (6, .v (.int .i64 i))]) 1 (fun i => [.live i 1 (vs (((joinV v w).take i).map eI))])
    (fun i => i ≤ v.length) (fun i => v.length - i) 0 (Nat.zero_le _) (by simp (disch := decide) only [hA, go_sem]) (by decide) rfl (by (repeat (first | exact hE.mono (by omega) | refine KLt.up ?_ (by simp (disch := omega) only [AVlt_v, AVlt_any, AVlt_sl, AVlt_ptr, AVlt_mp, AVlt_agg, AVlt_tup, AVlt_fn, RowsLt_nil, RowsLt_live, RowsLt_dead, List.mem_cons, List.not_mem_nil, List.forall_mem_cons, List.forall_mem_nil, or_false, false_or, forall_eq_or_imp, forall_eq, vs_lt, Nat.add_lt_add_iff_left, Nat.reduceLT, true_and, and_true, and_self, List.length_cons, List.length_nil, Nat.reduceAdd, Nat.zero_add, implies_true, false_imp_iff, lt_T, List.mem_map])))) (by ((try simp (disch := decide) only [hA, go_sem]) <;> (repeat' (first | exact trivial | refine And.intro ?_ ?_)) <;> (first | rfl | (congr 2; omega)))) (fun e => by simpa [vs] using Weak.refl _ _ _) ?_
  intro g1 hE1 hEE1 hg1 i hi
  by_cases hlt : i < v.length
  · have hlw : i < w.length := by omega
    have hlj : i < (joinV v w).length := by omega
    have hm : (if v[i] < w[i] then w[i] else v[i]) = (joinV v w)[i] := by simp only [joinV, List.getElem_zipWith]; split <;> omega
    have tk : ((joinV v w).take i).length = i := by rw [List.length_take]; omega
    have ts : ((joinV v w).take i).map eI ++ [[.int .i64 (joinV v w)[i]]] = ((joinV v w).take (i + 1)).map eI := by rw [List.take_succ_eq_append_getElem hlj, List.map_append]; rfl
    have tt : (((joinV v w).take i).map eI).take i = ((joinV v w).take i).map eI := List.take_of_length_le (by simp; omega)
    simp (disch := (first | decide | omega)) only [hA, hg1, eI, hm, tk, tt, ts, List.replicate_succ, List.replicate_zero, go_sem]
    refine ⟨i + 1, hlt, by simp only; omega, ?_⟩
    exact Weak.kround (p := r_rJoin0) (k := 1) (by ((repeat refine (kAny_up rfl).trans ?_); exact hEE1)) (by ((try simp (disch := decide) only [hA, go_sem]) <;> (repeat' (first | exact trivial | refine And.intro ?_ ?_)) <;> (first | rfl | (congr 2; omega)))) rfl hE1 (by simp) (by simp (disch := omega) only [KOvLt, AVlt_v, AVlt_any, AVlt_sl, AVlt_ptr, AVlt_mp, AVlt_agg, AVlt_tup, AVlt_fn, RowsLt_nil, RowsLt_live, RowsLt_dead, List.mem_cons, List.not_mem_nil, List.forall_mem_cons, List.forall_mem_nil, or_false, false_or, forall_eq_or_imp, forall_eq, vs_lt, Nat.add_lt_add_iff_left, Nat.reduceLT, true_and, and_true, and_self, List.length_cons, List.length_nil, Nat.reduceAdd, Nat.zero_add, implies_true, false_imp_iff, lt_T, List.mem_map]) hR (by simp (disch := omega) only [AVlt_v, AVlt_any, AVlt_sl, AVlt_ptr, AVlt_mp, AVlt_agg, AVlt_tup, AVlt_fn, RowsLt_nil, RowsLt_live, RowsLt_dead, List.mem_cons, List.not_mem_nil, List.forall_mem_cons, List.forall_mem_nil, or_false, false_or, forall_eq_or_imp, forall_eq, vs_lt, Nat.add_lt_add_iff_left, Nat.reduceLT, true_and, and_true, and_self, List.length_cons, List.length_nil, Nat.reduceAdd, Nat.zero_add, implies_true, false_imp_iff, lt_T, List.mem_map])
  · simp (disch := (first | decide | omega)) only [hA, hg1, go_sem]
    obtain rfl : i = v.length := by omega
    rw [show (joinV v w).take v.length = joinV v w by rw [← jl, List.take_length]]
    exact leave_frz (i := 0) (n := v.length) (rows := (joinV v w).map eI) (.inr rfl) (by simp (disch := (first | decide | omega)) only [resVs, resV, hA, hg1, go_sem]) rfl (by simp [jl]) hR hB ⟨rfl, rfl, rfl⟩
theorem rLeq_spec (v w : List Int) (hv : v.length ≤ 1000000) (hl : v.length ≤ w.length) (b l : List Row) : ACalls Try.prog 89 [.v (.isl 1 (v.map eI)), .v (.isl 1 (w.map eI))] b l (fun r b' l' => r = .v (.bool (leqV v w)) ∧ b' = b ∧ l' = l) := by
  refine calls_kept a_rLeq_ok rfl (by decide) ?_
  intro B g hB hR hE hA
  simp only [KArgs] at hA
  simp (disch := (first | decide | omega)) only [a_rLeq, hA, List.length_map, go_sem]
  refine loop_kept (ι := Nat) r_rLeq0 (fun i => [(5, .v (.int .i64 i))]) 0 (fun _ => [])
    (fun i => i ≤ v.length ∧ ∀ j, j < i → v.getD j 0 ≤ w.getD j 0) (fun i => v.length - i) 0 ⟨Nat.zero_le _, fun j hj => by omega⟩ (by (repeat (first | exact hE.mono (by omega) | refine KLt.up ?_ (by simp (disch := omega) only [AVlt_v, AVlt_any, AVlt_sl, AVlt_ptr, AVlt_mp, AVlt_agg, AVlt_tup, AVlt_fn, RowsLt_nil, RowsLt_live, RowsLt_dead, List.mem_cons, List.not_mem_nil, List.forall_mem_cons, List.forall_mem_nil, or_false, false_or, forall_eq_or_imp, forall_eq, vs_lt, Nat.add_lt_add_iff_left, Nat.reduceLT, true_and, and_true, and_self, List.length_cons, List.length_nil, Nat.reduceAdd, Nat.zero_add, implies_true, false_imp_iff, lt_T, List.mem_map])))) (by ((try simp (disch := decide) only [hA, go_sem]) <;> (repeat' (first | exact trivial | refine And.intro ?_ ?_)) <;> (first | rfl | (congr 2; omega)))) (fun e => Weak.refl _ _ _) ?_
  rintro g1 hE1 hEE1 hg1 i ⟨hi, h0⟩
  by_cases hlt : i < v.length
  · have hlw : i < w.length := by omega
    by_cases he : v[i] > w[i]
    · have hd := decide_eq_true he
      have hne : leqV v w = false := by
        rw [Bool.eq_false_iff]; intro h; have := leqV_iff.1 h i hlt; rw [getD_at hlt, getD_at hlw] at this; omega
      simp (disch := (first | decide | omega)) only [hA, hg1, eI, hd, go_sem]
      exact leave_pure (xs := [.v (.bool false)]) (.inr rfl) (by simp (disch := (first | decide | omega)) only [resVs, resV, go_sem, hA, hg1]) (by simp only [one, AVlt_v, AVlt_any, AVlt_sl, AVlt_ptr, AVlt_mp, AVlt_agg, AVlt_tup, AVlt_fn, RowsLt_nil, RowsLt_live, RowsLt_dead, List.mem_cons, List.not_mem_nil, List.forall_mem_cons, List.forall_mem_nil, or_false, false_or, forall_eq_or_imp, forall_eq, vs_lt, Nat.add_lt_add_iff_left, Nat.reduceLT, true_and, and_true, and_self, List.length_cons, List.length_nil, Nat.reduceAdd, Nat.zero_add, implies_true, false_imp_iff, lt_T, List.mem_map]) hR hB ⟨by rw [hne]; rfl, rfl, rfl⟩
    · have hd := decide_eq_false he
      simp (disch := (first | decide | omega)) only [hA, hg1, eI, hd, go_sem]
      refine ⟨i + 1, ⟨hlt, fun j hj => ?_⟩, by simp only; omega, ?_⟩
      · rcases Nat.lt_or_ge j i with hji | hji
        · exact h0 j hji
        · have : j = i := by omega
          subst this
          rw [getD_at hlt, getD_at hlw]; omega
      exact Weak.kround (p := r_rLeq0) (k := 0) (by ((repeat refine (kAny_up rfl).trans ?_); exact hEE1)) (by ((try simp (disch := decide) only [hA, go_sem]) <;> (repeat' (first | exact trivial | refine And.intro ?_ ?_)) <;> (first | rfl | (congr 2; omega)))) rfl hE1 (by simp) (by simp (disch := omega) only [KOvLt, AVlt_v, AVlt_any, AVlt_sl, AVlt_ptr, AVlt_mp, AVlt_agg, AVlt_tup, AVlt_fn, RowsLt_nil, RowsLt_live, RowsLt_dead, List.mem_cons, List.not_mem_nil, List.forall_mem_cons, List.forall_mem_nil, or_false, false_or, forall_eq_or_imp, forall_eq, vs_lt, Nat.add_lt_add_iff_left, Nat.reduceLT, true_and, and_true, and_self, List.length_cons, List.length_nil, Nat.reduceAdd, Nat.zero_add, implies_true, false_imp_iff, lt_T, List.mem_map]) hR (by simp (disch := omega) only [AVlt_v, AVlt_any, AVlt_sl, AVlt_ptr, AVlt_mp, AVlt_agg, AVlt_tup, AVlt_fn, RowsLt_nil, RowsLt_live, RowsLt_dead, List.mem_cons, List.not_mem_nil, List.forall_mem_cons, List.forall_mem_nil, or_false, false_or, forall_eq_or_imp, forall_eq, vs_lt, Nat.add_lt_add_iff_left, Nat.reduceLT, true_and, and_true, and_self, List.length_cons, List.length_nil, Nat.reduceAdd, Nat.zero_add, implies_true, false_imp_iff, lt_T, List.mem_map])
  · simp (disch := (first | decide | omega)) only [hA, hg1, go_sem]
    obtain rfl : i = v.length := by omega
    have he : leqV v w = true := leqV_iff.2 h0
    exact leave_pure (xs := [.v (.bool true)]) (.inr rfl) (by simp (disch := (first | decide | omega)) only [resVs, resV, go_sem, hA, hg1]) (by simp only [one, AVlt_v, AVlt_any, AVlt_sl, AVlt_ptr, AVlt_mp, AVlt_agg, AVlt_tup, AVlt_fn, RowsLt_nil, RowsLt_live, RowsLt_dead, List.mem_cons, List.not_mem_nil, List.forall_mem_cons, List.forall_mem_nil, or_false, false_or, forall_eq_or_imp, forall_eq, vs_lt, Nat.add_lt_add_iff_left, Nat.reduceLT, true_and, and_true, and_self, List.length_cons, List.length_nil, Nat.reduceAdd, Nat.zero_add, implies_true, false_imp_iff, lt_T, List.mem_map]) hR hB ⟨by rw [he]; rfl, rfl, rfl⟩
theorem rCompare_spec (v w : List Int) (hv : v.length ≤ 1000000) (hl : v.length = w.length) (b l : List Row) : ACalls Try.prog 38 [.v (.isl 1 (v.map eI)), .v (.isl 1 (w.map eI))] b l (fun r b' l' => r = .v (.int .i64 (cmpV v w)) ∧ b' = b ∧ l' = l) := by
  refine calls_kept a_rCompare_ok rfl (by decide) ?_
  intro B g hB hR hE hA
  simp only [KArgs] at hA
  simp (disch := decide) only [a_rCompare, hA, go_sem]
  refine ACalls.nxt (rLeq_spec v w hv (by omega) _ _) ?_
  cases q1 : leqV v w
  · simp (disch := decide) only [hA, go_sem]
    refine ACalls.nxt (rLeq_spec v w hv (by omega) _ _) ?_
    rw [q1]
    simp (disch := decide) only [hA, go_sem]
    refine ACalls.nxt (rLeq_spec w v (by omega) (by omega) _ _) ?_
    cases q2 : leqV w v
    · simp (disch := decide) only [hA, go_sem]
      exact leave_pure (xs := [.v (.int .i64 2)]) (.inr rfl) (by simp (disch := (first | decide | omega)) only [resVs, resV, go_sem, hA]) (by simp only [one, AVlt_v, AVlt_any, AVlt_sl, AVlt_ptr, AVlt_mp, AVlt_agg, AVlt_tup, AVlt_fn, RowsLt_nil, RowsLt_live, RowsLt_dead, List.mem_cons, List.not_mem_nil, List.forall_mem_cons, List.forall_mem_nil, or_false, false_or, forall_eq_or_imp, forall_eq, vs_lt, Nat.add_lt_add_iff_left, Nat.reduceLT, true_and, and_true, and_self, List.length_cons, List.length_nil, Nat.reduceAdd, Nat.zero_add, implies_true, false_imp_iff, lt_T, List.mem_map]) hR hB ⟨by simp [cmpV, q1, q2, one], rfl, rfl⟩
    · simp (disch := decide) only [hA, go_sem]
      exact leave_pure (xs := [.v (.int .i64 1)]) (.inr rfl) (by simp (disch := (first | decide | omega)) only [resVs, resV, go_sem, hA]) (by simp only [one, AVlt_v, AVlt_any, AVlt_sl, AVlt_ptr, AVlt_mp, AVlt_agg, AVlt_tup, AVlt_fn, RowsLt_nil, RowsLt_live, RowsLt_dead, List.mem_cons, List.not_mem_nil, List.forall_mem_cons, List.forall_mem_nil, or_false, false_or, forall_eq_or_imp, forall_eq, vs_lt, Nat.add_lt_add_iff_left, Nat.reduceLT, true_and, and_true, and_self, List.length_cons, List.length_nil, Nat.reduceAdd, Nat.zero_add, implies_true, false_imp_iff, lt_T, List.mem_map]) hR hB ⟨by simp [cmpV, q1, q2, one], rfl, rfl⟩
  · simp (disch := decide) only [hA, go_sem]
    refine ACalls.nxt (rLeq_spec w v (by omega) (by omega) _ _) ?_
    cases q2 : leqV w v
    · simp (disch := decide) only [hA, go_sem]
      refine ACalls.nxt (rLeq_spec v w hv (by omega) _ _) ?_
      rw [q1]
      simp (disch := decide) only [hA, go_sem]
      exact leave_pure (xs := [.v (.int .i64 (-1))]) (.inr rfl) (by simp (disch := (first | decide | omega)) only [resVs, resV, go_sem, hA]) (by simp only [one, AVlt_v, AVlt_any, AVlt_sl, AVlt_ptr, AVlt_mp, AVlt_agg, AVlt_tup, AVlt_fn, RowsLt_nil, RowsLt_live, RowsLt_dead, List.mem_cons, List.not_mem_nil, List.forall_mem_cons, List.forall_mem_nil, or_false, false_or, forall_eq_or_imp, forall_eq, vs_lt, Nat.add_lt_add_iff_left, Nat.reduceLT, true_and, and_true, and_self, List.length_cons, List.length_nil, Nat.reduceAdd, Nat.zero_add, implies_true, false_imp_iff, lt_T, List.mem_map]) hR hB ⟨by simp [cmpV, q1, q2, one], rfl, rfl⟩
    · simp (disch := decide) only [hA, go_sem]
      exact leave_pure (xs := [.v (.int .i64 0)]) (.inr rfl) (by simp (disch := (first | decide | omega)) only [resVs, resV, go_sem, hA]) (by simp only [one, AVlt_v, AVlt_any, AVlt_sl, AVlt_ptr, AVlt_mp, AVlt_agg, AVlt_tup, AVlt_fn, RowsLt_nil, RowsLt_live, RowsLt_dead, List.mem_cons, List.not_mem_nil, List.forall_mem_cons, List.forall_mem_nil, or_false, false_or, forall_eq_or_imp, forall_eq, vs_lt, Nat.add_lt_add_iff_left, Nat.reduceLT, true_and, and_true, and_self, List.length_cons, List.length_nil, Nat.reduceAdd, Nat.zero_add, implies_true, false_imp_iff, lt_T, List.mem_map]) hR hB ⟨by simp [cmpV, q1, q2, one], rfl, rfl⟩
/-! Answers whose empty slices are lists. -/
theorem tickR_wk {v : List Int} {p : Int} {w : World} {F : Nat → Prop} {L : LMap} {x : Value} (h : RepA w F L (tickR v p) x) : RepA w F L (.tup [.v (.isl 1 ((tickV v p).map eI)), .v (.int .i64 (tickE v p))]) x := by
  unfold tickR at h
  unfold tickV
  by_cases ht : tickE v p = 0
  · rw [if_pos ht] at h; rw [if_pos ht, ht]; exact h
  · rw [if_neg ht] at h; rw [if_neg ht]
    exact zwT_rep (szs := [1, 0]) rfl h
theorem tick_spec2 (v : List Int) (p : Int) (b l : List Row) : ACalls Try.prog 34 [.v (.isl 1 (v.map eI)), .v (.int .i64 p)] b l (fun r b' l' => r = .tup [.v (.isl 1 ((tickV v p).map eI)), .v (.int .i64 (tickE v p))] ∧ b' = b ∧ l' = l) :=
  (tick_spec v p b l).wk (fun r b' l' ⟨h1, h2⟩ => ⟨_, fun _ _ _ _ h => tickR_wk (h1 ▸ h), rfl, h2⟩)
theorem rTick_spec2 (v : List Int) (p : Int) (b l : List Row) : ACalls Try.prog 36 [.v (.isl 1 (v.map eI)), .v (.int .i64 p)] b l (fun r b' l' => r = .tup [.v (.isl 1 ((tickV v p).map eI)), .v (.int .i64 (tickE v p))] ∧ b' = b ∧ l' = l) :=
  (rTick_spec v p b l).wk (fun r b' l' ⟨h1, h2⟩ => ⟨_, fun _ _ _ _ h => tickR_wk (h1 ▸ h), rfl, h2⟩)
theorem tickV_len {v : List Int} {p : Int} (hv : v.length ≤ 40) : (tickV v p).length ≤ 1000000 := by
  unfold tickV; split
  · rw [tickL_len]; omega
  · simp
set_option maxRecDepth 20000 in
set_option maxHeartbeats 1000000 in
theorem vectorSteps_run (v w : List Int) (p n : Int) (b l : List Row)
    (hw : ∀ b l, ACalls Try.prog 15 [] b l (fun r b' l' => r = .v (.bool true) ∧ b' = b ∧ l' = l)) :
    ACalls Try.prog 6 [.v (.isl 1 (v.map eI)), .v (.isl 1 (w.map eI)), .v (.int .i64 p), .v (.int .i64 n)] b l (fun r b' l' => r = .v (.bool true) ∧ b' = b ∧ l' = l) := by
  refine calls_kept a_VectorSteps_ok rfl (by decide) ?_
  intro B g hB hR hE hA
  simp only [KArgs] at hA
  simp (disch := decide) only [a_VectorSteps, hA, go_sem]
  refine ACalls.nxt (hw _ _) ?_
  by_cases h1 : v.length > 40
  · have hd : decide ((v.length : Int) > 40) = true := decide_eq_true (by omega)
    simp (disch := decide) only [hA, List.length_map, hd, go_sem]
    exact leave_pure (xs := [.v (.bool true)]) (.inr rfl) (by simp (disch := (first | decide | omega)) only [resVs, resV, go_sem, hA]) (by simp only [one, AVlt_v, AVlt_any, AVlt_sl, AVlt_ptr, AVlt_mp, AVlt_agg, AVlt_tup, AVlt_fn, RowsLt_nil, RowsLt_live, RowsLt_dead, List.mem_cons, List.not_mem_nil, List.forall_mem_cons, List.forall_mem_nil, or_false, false_or, forall_eq_or_imp, forall_eq, vs_lt, Nat.add_lt_add_iff_left, Nat.reduceLT, true_and, and_true, and_self, List.length_cons, List.length_nil, Nat.reduceAdd, Nat.zero_add, implies_true, false_imp_iff, lt_T, List.mem_map]) hR hB ⟨rfl, rfl, rfl⟩
  have hd1 : decide ((v.length : Int) > 40) = false := decide_eq_false (by omega)
  by_cases h2 : w.length > 40
  · have hd : decide ((w.length : Int) > 40) = true := decide_eq_true (by omega)
    simp (disch := decide) only [hA, List.length_map, hd1, hd, go_sem]
    exact leave_pure (xs := [.v (.bool true)]) (.inr rfl) (by simp (disch := (first | decide | omega)) only [resVs, resV, go_sem, hA]) (by simp only [one, AVlt_v, AVlt_any, AVlt_sl, AVlt_ptr, AVlt_mp, AVlt_agg, AVlt_tup, AVlt_fn, RowsLt_nil, RowsLt_live, RowsLt_dead, List.mem_cons, List.not_mem_nil, List.forall_mem_cons, List.forall_mem_nil, or_false, false_or, forall_eq_or_imp, forall_eq, vs_lt, Nat.add_lt_add_iff_left, Nat.reduceLT, true_and, and_true, and_self, List.length_cons, List.length_nil, Nat.reduceAdd, Nat.zero_add, implies_true, false_imp_iff, lt_T, List.mem_map]) hR hB ⟨rfl, rfl, rfl⟩
  have hd2 : decide ((w.length : Int) > 40) = false := decide_eq_false (by omega)
  simp (disch := decide) only [hA, List.length_map, hd1, hd2, go_sem]
  have nes : ∀ n : Int, (n != n) = false := by intro n; simp
  have beqs : ∀ n : Int, (n == n) = true := by intro n; simp
  have tl := tickV_len (v := v) (p := p) (by omega)
  refine ACalls.nxt (zero_spec n _ _) ?_
  -- what follows once Zero has answered as it should
  have hc : (1 ≤ n ∧ n ≤ 8) ∨ (n < 1 ∨ (¬ n < 1 ∧ n > 8)) := by omega
  rcases hc with hn | hn | ⟨hn, hn2⟩
  case' inl =>
    obtain ⟨m, rfl⟩ : ∃ m : Nat, n = m := ⟨n.toNat, by omega⟩
    have hd3 : decide ((m : Int) < 1) = false := decide_eq_false (by omega)
    have hd4 : decide ((m : Int) > 8) = false := decide_eq_false (by omega)
    have hrep : List.replicate m [AV.v (.int .i64 0)] = vs ((List.replicate m (0 : Int)).map eI) := by simp [vs, eI]
    rw [zeroR, if_pos hn]
    simp (disch := (first | decide | omega)) only [hA, hd3, hd4, nes, hrep, go_sem]
    refine ACalls.frzB (i := 0) (rows := (List.replicate m (0 : Int)).map eI) rfl (by simp only [List.map_cons, List.map_nil, frz_v, Nat.add_zero]; rw [frz_own (by simp)]) ?_
    refine ACalls.nxt (eq1_spec (List.replicate m 0) (List.replicate m 0) (by simp; omega) _ _) ?_
    rw [decide_eq_true rfl]
    simp (disch := decide) only [hA, go_sem]
  case' inr.inl =>
    have hd3 : decide (n < 1) = true := decide_eq_true hn
    rw [zeroR, if_neg (by omega)]
    simp (disch := decide) only [hA, hd3, nes, go_sem]
  case' inr.inr =>
    have hd3 : decide (n < 1) = false := decide_eq_false hn
    have hd4 : decide (n > 8) = true := decide_eq_true hn2
    rw [zeroR, if_neg (by omega)]
    simp (disch := decide) only [hA, hd3, hd4, nes, go_sem]
  all_goals
    refine ACalls.nxt (tick_spec2 v p _ _) ?_
    simp (disch := decide) only [hA, go_sem]
    refine ACalls.nxt (rTick_spec2 v p _ _) ?_
    simp (disch := decide) only [hA, go_sem]
  all_goals
    cases hb : bothV v w
    case' false =>
      refine ACalls.nxt (join_no v w hb _ _) ?_
      simp (disch := decide) only [hA, go_sem]
      refine ACalls.nxt (compare_spec v w _ _) ?_
      simp only [cmpR, hb, Bool.false_eq_true, if_false]
      simp (disch := decide) only [hA, go_sem]
      refine ACalls.nxt (eq1_spec (tickV v p) (tickV v p) tl _ _) ?_
      rw [decide_eq_true rfl]
      simp (disch := decide) only [hA, nes, go_sem]
      refine ACalls.nxt (rPair_spec v w _ _) ?_
      rw [hb]
      simp (disch := decide) only [hA, beqs, go_sem]
    case' true =>
      obtain ⟨v1, v2, v3⟩ := bothV_open hb
      have jl := joinV_len v3
      refine ACalls.nxt (join_spec v w hb _ _) ?_
      simp (disch := decide) only [hA, go_sem]
      refine ACalls.nxt (compare_spec v w _ _) ?_
      simp only [cmpR, hb, if_true]
      simp (disch := decide) only [hA, go_sem]
      refine ACalls.nxt (eq1_spec (tickV v p) (tickV v p) tl _ _) ?_
      rw [decide_eq_true rfl]
      simp (disch := decide) only [hA, nes, go_sem]
      refine ACalls.nxt (rPair_spec v w _ _) ?_
      rw [hb]
      simp (disch := decide) only [hA, beqs, go_sem]
      refine ACalls.nxt (rJoin_spec v w (by omega) v3 _ _) ?_
      simp (disch := decide) only [hA, go_sem]
      refine ACalls.nxt (eq1_spec (joinV v w) (joinV v w) (by omega) _ _) ?_
      rw [decide_eq_true rfl]
      simp (disch := decide) only [hA, beqs, go_sem]
      refine ACalls.nxt (rCompare_spec v w (by omega) v3 _ _) ?_
      simp (disch := decide) only [hA, beqs, go_sem]
  all_goals
    exact leave_pure (xs := [.v (.bool true)]) (.inr rfl) (by simp (disch := (first | decide | omega)) only [resVs, resV, go_sem, hA]) (by simp only [one, AVlt_v, AVlt_any, AVlt_sl, AVlt_ptr, AVlt_mp, AVlt_agg, AVlt_tup, AVlt_fn, RowsLt_nil, RowsLt_live, RowsLt_dead, List.mem_cons, List.not_mem_nil, List.forall_mem_cons, List.forall_mem_nil, or_false, false_or, forall_eq_or_imp, forall_eq, vs_lt, Nat.add_lt_add_iff_left, Nat.reduceLT, true_and, and_true, and_self, List.length_cons, List.length_nil, Nat.reduceAdd, Nat.zero_add, implies_true, false_imp_iff, lt_T, List.mem_map]) hR hB ⟨rfl, rfl, rfl⟩
end Go.Proofs.Ytiiflkcebikecaa
