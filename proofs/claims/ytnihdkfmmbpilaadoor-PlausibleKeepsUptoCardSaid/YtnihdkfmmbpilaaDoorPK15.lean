/- Texts of one proof, laid together: VX, JX, JA. No condition. -/
import Derived.Test.YtnihdkfmmbpilaaDoorPK2
import Derived.Test.YtnihdkfmmbpilaaDoorPK8
import Derived.Test.YtnihdkfmmbpilaaDoorPK12
import Derived.Test.YtnihdkfmmbpilaaDoorPK14
import Derived.Test.YtnihdkfmmbpilaaDoorPK9
import Derived.Test.YtnihdkfmmbpilaaDoorProg
import Derived.KernelRfl
namespace Go.Proofs.YtnihdkfmmbpilaaDoor
set_option linter.unusedVariables false
set_option linter.unusedSimpArgs false
def xOk : XV → Bool
 | .ok (.v (.bool true)) _ _ _ => true
 | _ => false
theorem xOk_ok {x : XV} (h : xOk x = true) : ∃ b l t, x = .ok (.v (.bool true)) b l t := by
 unfold xOk at h
 split at h
 ·exact ⟨_, _, _, rfl⟩
 ·exact absurd h (by decide)
noncomputable def tab15 : Nat → Option AFunc := fun f => cFunc Tryd.prog f
set_option maxRecDepth 100000
theorem getLe_nil {f : IV → IV → Prop} : ∀ (j : Nat) (a a' : IV), ([] : List IV)[j]? = some a → ([] : List IV)[j]? = some a' → f a a' := fun j a a' h => by simp at h
theorem getLe_cons {f : IV → IV → Prop} {x y : IV} {xs ys : List IV} (h : f x y) (hs : ∀ (j : Nat) (a a' : IV), xs[j]? = some a → ys[j]? = some a' → f a a') : ∀ (j : Nat) (a a' : IV), (x :: xs)[j]? = some a → (y :: ys)[j]? = some a' → f a a' := by
 intro j a a' h1 h2
 cases j with
 | zero => simp at h1 h2; subst h1; subst h2; exact h
 | succ j => simp at h1 h2; exact hs j a a' h1 h2
theorem ACalls.of_extG {P : Program} {f : Nat} {args : List AV} {b l : List Row} {Q : AV → List Row → List Row → Prop} (hf : ∃ fn, P.funcs[f]? = some fn ∧ (fn.name == "runtime.NumGoroutine") = false ∧ fn.body.isSome = true)
  (h : ∀ F L w (vs : Array Value), (∀ k, F k → k < w.heap.size) → Glob w F → RepL w F L args vs.toList → Calls P f vs w fun en w' => Ext w w' ∧ ∃ v x, en = .returned v ∧ RepA w' F L x v ∧ Q x b l) : ACalls P f args b l Q := by
 refine ⟨hf, fun F L w vs s hr => Calls.mono (h F L w vs (fun k hk => (s.imm k hk).1) s.glob hr) ?_⟩
 rintro en w' ⟨he, v, x, h1, h2, h3⟩
 have hblk : ∀ k, k < w.heap.size → w'.heap[k]? = w.heap[k]? := he.block
 refine ⟨v, x, b, l, F, L, h1, h2, ⟨fun i v z els hi => ?_, s.born, s.apart, fun k hk => ⟨Nat.lt_of_lt_of_le (s.imm k hk).1 he.size, (s.imm k hk).2⟩, s.glob.mono (fun _ h => h) (fun k hk => hblk k (s.imm k hk).1)⟩,
  ⟨fun _ h => h, fun _ _ _ _ h => h, he.os, he.tape, he.output, he.size, fun k hk _ => hblk k hk, fun _ _ h => h, fun _ _ _ h => h, fun _ _ h => .inl h⟩, rfl, h3⟩
 obtain ⟨q, g1, g2⟩ := s.row i v z els hi
 exact ⟨q, g1, g2.mono (fun k hk => hblk k (g2.lt hk)) (fun _ _ hx => hx.mono (fun _ h => h) (fun k hk => hblk k (s.imm k hk).1) (fun _ _ _ h => h))⟩
theorem ACalls.lift_bool {P : Program} {f : Nat} {z : Bool} (h : ACalls P f [] [] [] (fun r _ _ => r = .v (.bool z))) (b l : List Row) : ACalls P f [] b l (fun r b' l' => r = .v (.bool z) ∧ b' = b ∧ l' = l) := by
 refine ACalls.of_extG h.1 (fun F L w vs hI hG hr => ?_)
 have hn : vs = #[] := Array.toList_inj.1 (repL_nil hr)
 subst hn
 refine (ACalls.calls h (vs := #[]) RepL.nil (hG := fun g tab e => ⟨hI g (hG g tab e).1, (hG g tab e).2⟩)).mono ?_
 rintro en w' ⟨v, x, b', l', F', L', he, hx, hE, rfl⟩
 cases hx.vI
 exact ⟨hE, _, _, he, .v _ _ (.bool _), rfl, rfl, rfl⟩
end Go.Proofs.YtnihdkfmmbpilaaDoor
namespace Go.Proofs.YtnihdkfmmbpilaaDoor
set_option linter.unusedVariables false
set_option linter.unusedSimpArgs false
def pair18 : Tr := [⟨⟨#[97]⟩, [], [⟨1, 0, 0, 0, []⟩]⟩, ⟨⟨#[98]⟩, [], [⟨1, 0, 0, 0, []⟩]⟩, ⟨⟨#[99]⟩, [], [⟨1, 0, 0, 0, []⟩]⟩]
def epair18 : IV := .isl 3 [[.str ⟨#[97]⟩, .zsl, .isl 5 [[.int .i64 1, .int .i64 0, .int .i64 0, .int .i64 0, .zsl]]], [.str ⟨#[98]⟩, .zsl, .isl 5 [[.int .i64 1, .int .i64 0, .int .i64 0, .int .i64 0, .zsl]]], [.str ⟨#[99]⟩, .zsl, .isl 5 [[.int .i64 1, .int .i64 0, .int .i64 0, .int .i64 0, .zsl]]]]
def ora18 : Nat → List AV → Option AV := fun f args => if (f == 68 && eqL (eqA 20) args [.agg [.v epair18]]) = true then some (.v (.bool true)) else none
def frz18 : Nat → Nat := fun f => if f = 22 then 200 else 0
set_option maxRecDepth 100000
theorem run18 : xOk (E1.xcall tab15 ora18 frz18 (E1.exec tab15 ora18 frz18 3000) 6 [] [] []) = true := by kernel_rfl
theorem epair18_le : IVle epair18 (eT pair18) := by
 have ev : ∀ (a c d e : Int), IVle (.isl 5 [[.int .i64 a, .int .i64 c, .int .i64 d, .int .i64 e, .zsl]]) (.isl 5 [[.int .i64 a, .int .i64 c, .int .i64 d, .int .i64 e, .isl 2 []]]) := fun a c d e =>
  .rows ⟨⟨rfl, getLe_cons (.refl _) (getLe_cons (.refl _) (getLe_cons (.refl _) (getLe_cons (.refl _) (getLe_cons (.zsl 2) getLe_nil))))⟩, trivial⟩
 exact .rows ⟨⟨rfl, getLe_cons (.refl _) (getLe_cons (.zsl 2) (getLe_cons (ev _ _ _ _) getLe_nil))⟩, ⟨rfl, getLe_cons (.refl _) (getLe_cons (.zsl 2) (getLe_cons (ev _ _ _ _) getLe_nil))⟩, ⟨rfl, getLe_cons (.refl _) (getLe_cons (.zsl 2) (getLe_cons (ev _ _ _ _) getLe_nil))⟩, trivial⟩
theorem pair18_small : Small pair18 := ⟨by decide, by decide, by decide, by decide⟩
theorem pair18_nm : Nm pair18 := by
 intro p hp
 simp [pair18] at hp
 rcases hp with rfl | rfl | rfl <;> exact ⟨by decide, by simp⟩
theorem pair18_valid : validL pair18 = true := conc_valid (rank := fun x => x.1 * 10 + x.2) (by kernel_rfl)
theorem ora18_ok (f : Nat) (args : List AV) (y : AV) (h : ora18 f args = some y) (b l : List Row) : ACalls Tryd.prog f args b l (fun r b' l' => r = y ∧ b' = b ∧ l' = l) := by
 unfold ora18 at h
 split at h
 ·rename_i hc
  simp only [Bool.and_eq_true, beq_iff_eq] at hc
  obtain ⟨rfl, h2⟩ := hc
  have h3 := eqL_eq (eqA_eq 20) h2
  subst h3
  cases h
  have hv := valid_spec pair18 pair18_small pair18_nm b l
  rw [pair18_valid] at hv
  refine ACalls.le hv rfl ?_
  intro i a c h1 h2
  cases i with
  | zero =>
    simp at h1 h2; subst h1; subst h2
    refine .agg _ _ rfl (fun i a c h1 h2 => ?_)
    cases i with
    | zero => simp at h1 h2; subst h1; subst h2; exact .v _ _ epair18_le
    | succ i => simp at h1
  | succ i => simp at h1
 ·cases h
theorem awake18_spec (b l : List Row) : ACalls Tryd.prog 6 [] b l (fun r b' l' => r = .v (.bool true) ∧ b' = b ∧ l' = l) := by
 obtain ⟨b1, l1, t, h⟩ := xOk_ok run18
 exact ACalls.lift_bool (E1.ACalls.of_exec (T := tab15) (O := ora18) (Z := frz18) (fun f af h => h) ora18_ok h) b l
end Go.Proofs.YtnihdkfmmbpilaaDoor
namespace Go.Proofs.YtnihdkfmmbpilaaDoor
set_option linter.unusedVariables false
set_option linter.unusedSimpArgs false
attribute [local go_sem ↓] run_skip run_region run_draw run_both run_seq run_block run_exit run_ret run_cond atN_app seqC_normal seqC_exit seqC_ret seqQ_normal seqQ_exit seqQ_ret blkQ_normal blkQ_exit blkQ_ret runOps_nil runOps_cons runD_nil runD_cons grdO_true grdO_false grdD_true grdD_false ifC_true ifC_false opS_val opS_call opS_two opK_app dS_val dS_call dS_two dK_app kUp_same kUp_ne
attribute [local go_sem] rechks_nil rechks_cons rechk gcase_true gcase_false ex_val ex_val0 gd_none gd_some ev_t ev_c evs_nil evs_cons evo_some evo_none hget_at hget_first hsetB_at hsetB_first hsetL_at hsetL_first ofOpt_some aop aload astore aslice aappend aiaddr aiaddrA afaddr alen alenS acopy amm acall alookup amupdate alenM atostr aappz comma keyEq apick binV binVB binVS isSh intOp strOp boolOp shOp eqC eqF and2 cellsOf setFrom fillA fillS rd rdI elems mk bounds AV.cell List.all_cons List.all_nil Bool.and_true Bool.true_and Bool.and_self List.length_cons List.length_nil List.length_append Nat.reduceAdd Nat.reduceSub Nat.reduceMul Nat.zero_add Nat.add_zero List.cons_append List.nil_append List.append_assoc List.append_nil List.getElem?_cons_zero List.getElem?_cons_succ List.getElem?_nil List.set_cons_zero List.set_cons_succ List.drop_zero List.drop_succ_cons List.take_zero List.take_succ_cons List.take_nil List.drop_nil List.map_cons List.map_nil Option.map_some if_true if_false Bool.false_eq_true and_self true_and and_true Nat.reduceLeDiff Nat.reduceLT Nat.le_refl Nat.reduceEqDiff ite_true ite_false beq_self_eq_true beq_true beq_false Bool.not_true Bool.not_false Bool.true_beq Bool.false_beq map_vs vs_len vs_get vs_take vs_drop vs_snoc1 vs_snoc2 vs_snoc3 vs_snoc5 vs_set1 vs_set2 vs_rep wrap_id le_T lt_T le_F lt_F leI_T ltI_T leI_F ltI_F geI gtI get_T decide_true decide_false room List.getElem?_map List.length_map List.length_take Int.toNat_natCast Nat.min_def Nat.min_self nth_kOf put_kOf put_kNo kOv_cons kOv_nil KHas KArgs List.getElem_cons_zero List.getElem_cons_succ
def a_psized : AFunc := ⟨1,9,[.tmp 2],(.seq (.region [⟨some 2,.mv (.c (.v (.bool false))),none⟩]) (.seq (.region [⟨some 3,.mv (.t 0),none⟩,⟨some 4,.bin .geq (.t 3) (.c (.v (.int .i64 1))),none⟩,⟨some 5,.mv (.t 4),none⟩,⟨some 6,.mv (.t 0),some (5,true)⟩,⟨some 7,.bin .leq (.t 6) (.c (.v (.int .i64 8))),some (5,true)⟩,⟨some 8,.pick (.t 5) (.t 7) (.c (.v (.bool false))),none⟩,⟨some 2,.mv (.t 8),none⟩]) .ret))⟩
theorem a_psized_ok : cFunc Tryd.prog 80 = some a_psized := by kernel_rfl
def a_pstamp1 : AFunc := ⟨1,9,[.tmp 2],(.seq (.region [⟨some 2,.mv (.c (.v (.bool false))),none⟩]) (.seq (.region [⟨some 3,.mv (.t 0),none⟩,⟨some 4,.bin .lss (.t 3) (.c (.v (.int .i64 0))),none⟩,⟨some 5,.mv (.t 4),none⟩,⟨some 6,.mv (.t 0),some (5,false)⟩,⟨some 7,.bin .gtr (.t 6) (.c (.v (.int .i64 1125899906842624))),some (5,false)⟩,⟨some 8,.pick (.t 5) (.c (.v (.bool true))) (.t 7),none⟩,⟨some 2,.mv (.t 8),none⟩]) .ret))⟩
theorem a_pstamp1_ok : cFunc Tryd.prog 82 = some a_pstamp1 := by kernel_rfl
def a_pstamp : AFunc := ⟨1,11,[.tmp 2],(.seq (.region [⟨some 2,.mv (.c (.v (.bool false))),none⟩]) (.seq (.region [⟨some 3,.mv (.t 0),none⟩,⟨some 4,.len (.t 3),none⟩,⟨some 5,.call (.c (.fn 80 [])) [(.t 4)],none⟩,⟨some 6,.mv (.t 5),none⟩,⟨some 7,.mv (.t 0),some (6,true)⟩,⟨some 8,.call (.c (.fn 81 [])) [(.t 7),(.c (.fn 82 []))],some (6,true)⟩,⟨some 9,.not (.t 8),some (6,true)⟩,⟨some 10,.pick (.t 6) (.t 9) (.c (.v (.bool false))),none⟩,⟨some 2,.mv (.t 10),none⟩]) .ret))⟩
theorem a_pstamp_ok : cFunc Tryd.prog 39 = some a_pstamp := by kernel_rfl
def a_pcompare : AFunc := ⟨2,51,[.tmp 4],(.seq (.region [⟨some 4,.mv (.c (.v (.int .i64 0))),none⟩]) (.seq (.region [⟨some 5,.alloc [(.v (.bool false)),(.v (.bool false))],none⟩]) (.seq (.seq (.region [⟨some 7,.mv (.t 0),none⟩,⟨some 8,.len (.t 7),none⟩,⟨some 9,.mv (.c (.v (.int .i64 0))),none⟩]) (.block 0 (.loop (.seq (.region [⟨some 10,.bin .lss (.t 9) (.t 8),none⟩]) (.seq (.cond (.t 10) .skip (.exit 0)) (.seq (.block 1 (.seq (.region [⟨some 11,.mv (.t 9),none⟩,⟨some 6,.mv (.t 11),none⟩]) (.seq (.draw [⟨0,⟨some 12,.iaddrA 2 1 (.t 5) (.c (.v (.int .i64 0))),none⟩,[]⟩,⟨1,⟨some 13,.load none (.t 12),none⟩,[]⟩,⟨2,⟨some 14,.mv (.t 13),none⟩,[]⟩,⟨3,⟨some 15,.mv (.t 0),some (14,false)⟩,[]⟩,⟨4,⟨some 16,.mv (.t 6),some (14,false)⟩,[]⟩,⟨5,⟨some 17,.iaddr 1 (.t 15) (.t 16),some (14,false)⟩,[]⟩,⟨6,⟨some 18,.load none (.t 17),some (14,false)⟩,[]⟩,⟨7,⟨some 19,.mv (.t 1),some (14,false)⟩,[]⟩,⟨8,⟨some 20,.mv (.t 6),some (14,false)⟩,[]⟩,⟨9,⟨some 21,.iaddr 1 (.t 19) (.t 20),some (14,false)⟩,[]⟩,⟨10,⟨some 22,.load none (.t 21),some (14,false)⟩,[]⟩,⟨11,⟨some 23,.bin .gtr (.t 18) (.t 22),some (14,false)⟩,[]⟩,⟨12,⟨some 24,.pick (.t 14) (.c (.v (.bool true))) (.t 23),none⟩,[]⟩,⟨13,⟨some 25,.iaddrA 2 1 (.t 5) (.c (.v (.int .i64 0))),none⟩,[]⟩,⟨14,⟨none,.store 1 (.t 25) (.t 24),none⟩,[]⟩]) (.draw [⟨0,⟨some 26,.iaddrA 2 1 (.t 5) (.c (.v (.int .i64 1))),none⟩,[]⟩,⟨1,⟨some 27,.load none (.t 26),none⟩,[]⟩,⟨2,⟨some 28,.mv (.t 27),none⟩,[]⟩,⟨3,⟨some 29,.mv (.t 1),some (28,false)⟩,[]⟩,⟨4,⟨some 30,.mv (.t 6),some (28,false)⟩,[]⟩,⟨5,⟨some 31,.iaddr 1 (.t 29) (.t 30),some (28,false)⟩,[]⟩,⟨6,⟨some 32,.load none (.t 31),some (28,false)⟩,[]⟩,⟨7,⟨some 33,.mv (.t 0),some (28,false)⟩,[]⟩,⟨8,⟨some 34,.mv (.t 6),some (28,false)⟩,[]⟩,⟨9,⟨some 35,.iaddr 1 (.t 33) (.t 34),some (28,false)⟩,[]⟩,⟨10,⟨some 36,.load none (.t 35),some (28,false)⟩,[]⟩,⟨11,⟨some 37,.bin .gtr (.t 32) (.t 36),some (28,false)⟩,[]⟩,⟨12,⟨some 38,.pick (.t 28) (.c (.v (.bool true))) (.t 37),none⟩,[]⟩,⟨13,⟨some 39,.iaddrA 2 1 (.t 5) (.c (.v (.int .i64 1))),none⟩,[]⟩,⟨14,⟨none,.store 1 (.t 39) (.t 38),none⟩,[]⟩])))) (.region [⟨some 40,.bin .add (.t 9) (.c (.v (.int .i64 1))),none⟩,⟨some 9,.mv (.t 40),none⟩]))))))) (.seq (.seq (.region [⟨some 41,.load (some 2) (.t 5),none⟩]) (.block 2 (.seq (.region [⟨some 43,.build [(.v (.bool false)),(.v (.bool false))] [(0,1,(.c (.v (.bool false)))),(1,1,(.c (.v (.bool false))))],none⟩,⟨some 44,.eqs false [.b,.b] (.t 41) (.t 43),none⟩,⟨some 42,.mv (.t 44),none⟩]) (.cond (.t 42) (.seq (.region [⟨some 4,.mv (.c (.v (.int .i64 0))),none⟩]) .ret) (.seq (.region [⟨some 46,.build [(.v (.bool false)),(.v (.bool false))] [(0,1,(.c (.v (.bool false)))),(1,1,(.c (.v (.bool true))))],none⟩,⟨some 47,.eqs false [.b,.b] (.t 41) (.t 46),none⟩,⟨some 45,.mv (.t 47),none⟩]) (.cond (.t 45) (.seq (.region [⟨some 4,.mv (.c (.v (.int .i64 (-1)))),none⟩]) .ret) (.seq (.region [⟨some 49,.build [(.v (.bool false)),(.v (.bool false))] [(0,1,(.c (.v (.bool true)))),(1,1,(.c (.v (.bool false))))],none⟩,⟨some 50,.eqs false [.b,.b] (.t 41) (.t 49),none⟩,⟨some 48,.mv (.t 50),none⟩]) (.cond (.t 48) (.seq (.region [⟨some 4,.mv (.c (.v (.int .i64 1))),none⟩]) .ret) .skip)))))))) (.seq (.region [⟨some 4,.mv (.c (.v (.int .i64 2))),none⟩]) .ret)))))⟩
theorem a_pcompare_ok : cFunc Tryd.prog 43 = some a_pcompare := by kernel_rfl
def r_pcompare0 : List (Nat × Nat) := [(6, 6), (9, 40)]
def a_pCompare : AFunc := ⟨2,24,[.tmp 4,.tmp 5],(.seq (.region [⟨some 4,.mv (.c (.v (.int .i64 0))),none⟩,⟨some 5,.mv (.c (.v (.int .i64 0))),none⟩]) (.seq (.seq (.region [⟨some 6,.mv (.t 0),none⟩,⟨some 7,.call (.c (.fn 39 [])) [(.t 6)],none⟩,⟨some 8,.not (.t 7),none⟩,⟨some 9,.mv (.t 8),none⟩,⟨some 10,.mv (.t 1),some (9,false)⟩,⟨some 11,.call (.c (.fn 39 [])) [(.t 10)],some (9,false)⟩,⟨some 12,.not (.t 11),some (9,false)⟩,⟨some 13,.pick (.t 9) (.c (.v (.bool true))) (.t 12),none⟩,⟨some 14,.mv (.t 13),none⟩,⟨some 15,.mv (.t 0),some (14,false)⟩,⟨some 16,.len (.t 15),some (14,false)⟩,⟨some 17,.mv (.t 1),some (14,false)⟩,⟨some 18,.len (.t 17),some (14,false)⟩,⟨some 19,.bin .neq (.t 16) (.t 18),some (14,false)⟩,⟨some 20,.pick (.t 14) (.c (.v (.bool true))) (.t 19),none⟩]) (.cond (.t 20) (.seq (.region [⟨some 4,.mv (.c (.v (.int .i64 0))),none⟩,⟨some 5,.mv (.c (.v (.int .i64 1))),none⟩]) .ret) .skip)) (.seq (.region [⟨some 21,.mv (.t 0),none⟩,⟨some 22,.mv (.t 1),none⟩,⟨some 23,.call (.c (.fn 43 [])) [(.t 21),(.t 22)],none⟩,⟨some 4,.mv (.t 23),none⟩,⟨some 5,.mv (.c (.v (.int .i64 0))),none⟩]) .ret)))⟩
theorem a_pCompare_ok : cFunc Tryd.prog 28 = some a_pCompare := by kernel_rfl
def a_rStamp18 : AFunc := ⟨2,32,[.tmp 4],(.seq (.region [⟨some 4,.mv (.c (.v (.bool false))),none⟩]) (.seq (.seq (.region [⟨some 6,.mv (.t 0),none⟩,⟨some 7,.call (.c (.fn 44 [])) [(.t 6)],none⟩,⟨some 8,.not (.t 7),none⟩,⟨some 9,.mv (.t 8),none⟩,⟨some 10,.mv (.t 1),some (9,false)⟩,⟨some 11,.len (.t 10),some (9,false)⟩,⟨some 12,.mv (.t 0),some (9,false)⟩,⟨some 13,.bin .neq (.t 11) (.t 12),some (9,false)⟩,⟨some 14,.pick (.t 9) (.c (.v (.bool true))) (.t 13),none⟩]) (.cond (.t 14) (.seq (.region [⟨some 4,.mv (.c (.v (.bool false))),none⟩]) .ret) .skip)) (.seq (.seq (.region [⟨some 5,.mv (.c (.v (.int .i64 0))),none⟩]) (.block 0 (.loop (.seq (.seq (.region [⟨some 15,.mv (.t 5),none⟩,⟨some 16,.mv (.t 0),none⟩,⟨some 17,.bin .lss (.t 15) (.t 16),none⟩]) (.cond (.t 17) .skip (.exit 0))) (.seq (.block 1 (.seq (.region [⟨some 20,.mv (.t 1),none⟩,⟨some 21,.mv (.t 5),none⟩,⟨some 22,.iaddr 1 (.t 20) (.t 21),none⟩,⟨some 23,.load none (.t 22),none⟩,⟨some 24,.bin .lss (.t 23) (.c (.v (.int .i64 0))),none⟩,⟨some 25,.mv (.t 24),none⟩,⟨some 26,.mv (.t 1),some (25,false)⟩,⟨some 27,.mv (.t 5),some (25,false)⟩,⟨some 28,.iaddr 1 (.t 26) (.t 27),some (25,false)⟩,⟨some 29,.load none (.t 28),some (25,false)⟩,⟨some 30,.bin .gtr (.t 29) (.c (.v (.int .i64 1125899906842624))),some (25,false)⟩,⟨some 31,.pick (.t 25) (.c (.v (.bool true))) (.t 30),none⟩]) (.cond (.t 31) (.seq (.region [⟨some 4,.mv (.c (.v (.bool false))),none⟩]) .ret) .skip))) (.region [⟨some 18,.mv (.t 5),none⟩,⟨some 19,.bin .add (.t 18) (.c (.v (.int .i64 1))),none⟩,⟨some 5,.mv (.t 19),none⟩])))))) (.seq (.region [⟨some 4,.mv (.c (.v (.bool true))),none⟩]) .ret))))⟩
theorem a_rStamp18_ok : cFunc Tryd.prog 71 = some a_rStamp18 := by kernel_rfl
def r_rStamp180 : List (Nat × Nat) := [(4, 5), (15, 31)]

def gtB (v w : List Int) (i : Nat) : Bool := (List.range i).any fun j => decide (w.getD j 0 < v.getD j 0)
theorem gtB_succ {v w : List Int} {i : Nat} : gtB v w (i + 1) = (gtB v w i || decide (w.getD i 0 < v.getD i 0)) := by
 unfold gtB; rw [List.range_succ, List.any_append]; simp
theorem leqV_gt {v w : List Int} : leqV v w = !gtB v w v.length := by
 rw [Bool.eq_iff_iff, leqV_iff]
 unfold gtB
 simp only [Bool.not_eq_true', List.any_eq_false, List.mem_range, decide_eq_true_eq]
 constructor
 ·intro h i hi; have := h i hi; omega
 ·intro h i hi; have := h i hi; omega
theorem cmpV_gt {v w : List Int} (h : v.length = w.length) : cmpV v w = if gtB v w v.length = true then (if gtB w v v.length = true then 2 else 1) else (if gtB w v v.length = true then -1 else 0) := by
 unfold cmpV
 have h2 : leqV w v = !gtB w v v.length := by rw [leqV_gt, h]
 rw [leqV_gt, h2]
 cases gtB v w v.length <;> cases gtB w v v.length <;> rfl
theorem psized_gen (f : Nat) (hf : cFunc Tryd.prog f = some a_psized) (n : Nat) (b l : List Row) : ACalls Tryd.prog f [.v (.int .i64 n)] b l (fun r b' l' => r = .v (.bool (decide (1 ≤ n) && decide (n ≤ 8))) ∧ b' = b ∧ l' = l) := by
 refine calls_kept hf rfl (by decide) ?_
 intro B g hB hR hE hA
 simp only [KArgs] at hA
 have h1 : decide ((n : Int) ≥ 1) = decide (1 ≤ n) := by rw [decide_eq_decide]; omega
 have h1' : decide ((1 : Int) ≤ (n : Int)) = decide (1 ≤ n) := h1
 have h2 : decide ((n : Int) ≤ 8) = decide (n ≤ 8) := by rw [decide_eq_decide]; omega
 cases h3 : decide (1 ≤ n)
 ·rw [h3] at h1 h1'
  simp (disch := (first | decide | omega)) only [a_psized, hA, h1, h1', h2, go_sem]
  exact leave_pure (xs := [.v (.bool false)]) (.inr rfl) (by simp (disch := (first | decide | omega)) only [resVs, resV, go_sem, hA]) kO hR hB ⟨rfl, rfl, rfl⟩
 ·rw [h3] at h1 h1'
  simp (disch := (first | decide | omega)) only [a_psized, hA, h1, h1', h2, go_sem]
  exact leave_pure (xs := [.v (.bool (decide (n ≤ 8)))]) (.inr rfl) (by simp (disch := (first | decide | omega)) only [resVs, resV, go_sem, hA]) kO hR hB ⟨rfl, rfl, rfl⟩
theorem pstamp1_spec (n : Int) (b l : List Row) : ACalls Tryd.prog 82 [.v (.int .i64 n)] b l (fun r b' l' => r = .v (.bool (vBad n)) ∧ b' = b ∧ l' = l) := by
 refine calls_kept a_pstamp1_ok rfl (by decide) ?_
 intro B g hB hR hE hA
 simp only [KArgs] at hA
 by_cases h : n < 0
 ·have hd := decide_eq_true h
  simp (disch := (first | decide | omega)) only [a_pstamp1, hA, hd, go_sem]
  exact leave_pure (xs := [.v (.bool true)]) (.inr rfl) (by simp (disch := (first | decide | omega)) only [resVs, resV, go_sem, hA, hd]) kO hR hB ⟨by simp [vBad, h, one], rfl, rfl⟩
 ·have hd := decide_eq_false h
  simp (disch := (first | decide | omega)) only [a_pstamp1, hA, hd, go_sem]
  exact leave_pure (xs := [.v (.bool (decide ((n : Int) > 1125899906842624)))]) (.inr rfl) (by simp (disch := (first | decide | omega)) only [resVs, resV, go_sem, hA, hd]) kO hR hB ⟨by simp [vBad, h, one], rfl, rfl⟩
theorem pstamp_spec (v : List Int) (hv : v.length ≤ 1000000) (b l : List Row) : ACalls Tryd.prog 39 [.v (.isl 1 (v.map eI))] b l (fun r b' l' => r = .v (.bool (isV v)) ∧ b' = b ∧ l' = l) := by
 refine calls_kept a_pstamp_ok rfl (by decide) ?_
 intro B g hB hR hE hA
 simp only [KArgs] at hA
 simp (disch := (first | decide | omega)) only [a_pstamp, hA, List.length_map, go_sem]
 refine ACalls.nxt (psized_gen _ a_psized_ok v.length _ _) ?_
 cases h1 : (decide (1 ≤ v.length) && decide (v.length ≤ 8)) with
 | false =>
   have hq : isV v = false := by
    unfold isV
    rw [← Bool.and_assoc, h1]; rfl
   simp (disch := (first | decide | omega)) only [hA, go_sem]
   exact leave_pure (xs := [.v (.bool false)]) (.inr rfl) (by simp (disch := (first | decide | omega)) only [resVs, resV, go_sem, hA]) kO hR hB ⟨by rw [hq]; rfl, rfl, rfl⟩
 | true =>
   have hq : isV v = !(List.range v.length).any (vBadAt v) := by
    unfold isV
    rw [← Bool.and_assoc, h1]; rfl
   simp (disch := (first | decide | omega)) only [hA, go_sem]
   refine ACalls.nxt (contains1_spec v _ [] (vBadAt v) hv _ _ (fun i hi => by unfold vBadAt; rw [getD_at hi]; exact pstamp1_spec _ _ _)) ?_
   simp (disch := (first | decide | omega)) only [hA, go_sem]
   exact leave_pure (xs := [.v (.bool (!(List.range v.length).any (vBadAt v)))]) (.inr rfl) (by simp (disch := (first | decide | omega)) only [resVs, resV, go_sem, hA]) kO hR hB ⟨by rw [hq]; rfl, rfl, rfl⟩
theorem pcompare_spec (v w : List Int) (hv : v.length ≤ 1000000) (hl : v.length = w.length) (b l : List Row) : ACalls Tryd.prog 43 [.v (.isl 1 (v.map eI)), .v (.isl 1 (w.map eI))] b l (fun r b' l' => r = .v (.int .i64 (cmpV v w)) ∧ b' = b ∧ l' = l) := by
 refine calls_kept a_pcompare_ok rfl (by decide) ?_
 intro B g hB hR hE hA
 simp only [KArgs] at hA
 have h0 : ∀ v w, gtB v w 0 = false := fun _ _ => rfl
 have z0 : Int.toNat 0 = 0 := rfl
 have z1 : Int.toNat 1 = 1 := rfl
 simp (disch := (first | decide | omega)) only [a_pcompare, hA, List.length_map, go_sem]
 refine loop_kept (ι := Nat) r_pcompare0 (fun i => [(9, .v (.int .i64 i))]) 1 (fun i => [.live 0 2 [[.v (.bool (gtB v w i)), .v (.bool (gtB w v i))]]])
  (fun i => i ≤ v.length) (fun i => v.length - i) 0 (Nat.zero_le _) (by (repeat (first | exact hE.mono oM | refine KLt.up ?_ kL))) (by ((try simp (disch := decide) only [hA, go_sem]) <;> exact kH)) (fun e => Weak.refl _ _ _) ?_
 intro g1 hE1 hEE1 hg1 i hi
 by_cases hil : i < v.length
 ·have hiw : i < w.length := by omega
  have s1 := gtB_succ (v := v) (w := w) (i := i)
  have s2 := gtB_succ (v := w) (w := v) (i := i)
  rw [getD_at hil, getD_at hiw] at s1 s2
  have r1 : ∀ x, gtB v w i = x → (x = false → decide (v[i] > w[i]) = gtB v w (i + 1)) ∧ (x = true → gtB v w (i + 1) = true) := by
   rintro x rfl
   refine ⟨fun h => by rw [s1, h]; rfl, fun h => by rw [s1, h]; rfl⟩
  have r2 : ∀ x, gtB w v i = x → (x = false → decide (w[i] > v[i]) = gtB w v (i + 1)) ∧ (x = true → gtB w v (i + 1) = true) := by
   rintro x rfl
   refine ⟨fun h => by rw [s2, h]; rfl, fun h => by rw [s2, h]; rfl⟩
  cases h1 : gtB v w i with
  | false =>
    have d1 := (r1 _ h1).1 rfl
    have d1' : decide (w[i] < v[i]) = gtB v w (i + 1) := d1
    cases h2 : gtB w v i with
    | false =>
      have d2 := (r2 _ h2).1 rfl
      have d2' : decide (v[i] < w[i]) = gtB w v (i + 1) := d2
      simp (disch := (first | decide | omega)) only [hA, hg1, eI, d1, d1', d2, d2', z0, z1, Nat.zero_mul, Nat.one_mul, setFrom, cellsOf, List.length_map, go_sem]
      refine ⟨i + 1, hil, by simp only; omega, ?_⟩
      exact Weak.kround (p := r_pcompare0) (k := 1) (by ((repeat refine (kAny_up rfl).trans ?_); exact hEE1)) (by ((try simp (disch := decide) only [hA, go_sem]) <;> exact kH)) rfl hE1 (by simp) kV hR kL
    | true =>
      have d2 := (r2 _ h2).2 rfl
      simp (disch := (first | decide | omega)) only [hA, hg1, eI, d1, d1', z0, z1, Nat.zero_mul, Nat.one_mul, setFrom, cellsOf, List.length_map, go_sem]
      refine ⟨i + 1, hil, by simp only; omega, ?_⟩
      simp only [d2]
      exact Weak.kround (p := r_pcompare0) (k := 1) (by ((repeat refine (kAny_up rfl).trans ?_); exact hEE1)) (by ((try simp (disch := decide) only [hA, go_sem]) <;> exact kH)) rfl hE1 (by simp) kV hR kL
  | true =>
    have d1 := (r1 _ h1).2 rfl
    cases h2 : gtB w v i with
    | false =>
      have d2 := (r2 _ h2).1 rfl
      have d2' : decide (v[i] < w[i]) = gtB w v (i + 1) := d2
      simp (disch := (first | decide | omega)) only [hA, hg1, eI, d2, d2', z0, z1, Nat.zero_mul, Nat.one_mul, setFrom, cellsOf, List.length_map, go_sem]
      refine ⟨i + 1, hil, by simp only; omega, ?_⟩
      simp only [d1]
      exact Weak.kround (p := r_pcompare0) (k := 1) (by ((repeat refine (kAny_up rfl).trans ?_); exact hEE1)) (by ((try simp (disch := decide) only [hA, go_sem]) <;> exact kH)) rfl hE1 (by simp) kV hR kL
    | true =>
      have d2 := (r2 _ h2).2 rfl
      simp (disch := (first | decide | omega)) only [hA, hg1, eI, z0, z1, Nat.zero_mul, Nat.one_mul, setFrom, cellsOf, List.length_map, go_sem]
      refine ⟨i + 1, hil, by simp only; omega, ?_⟩
      simp only [d1, d2]
      exact Weak.kround (p := r_pcompare0) (k := 1) (by ((repeat refine (kAny_up rfl).trans ?_); exact hEE1)) (by ((try simp (disch := decide) only [hA, go_sem]) <;> exact kH)) rfl hE1 (by simp) kV hR kL
 ·obtain rfl : i = v.length := by omega
  rw [cmpV_gt hl]
  have b1 : (true == true) = true := rfl
  have b2 : (false == false) = true := rfl
  have b3 : (true == false) = false := rfl
  have b4 : (false == true) = false := rfl
  cases h1 : gtB v w v.length <;> cases h2 : gtB w v v.length
  ·simp (disch := (first | decide | omega)) only [hA, hg1, b1, b2, b3, b4, List.length_map, go_sem]
   exact leave_pure (xs := [.v (.int .i64 0)]) (.inr rfl) (by simp (disch := (first | decide | omega)) only [resVs, resV, go_sem, hA, hg1]) kO hR hB ⟨rfl, rfl, rfl⟩
  ·simp (disch := (first | decide | omega)) only [hA, hg1, b1, b2, b3, b4, List.length_map, go_sem]
   exact leave_pure (xs := [.v (.int .i64 (-1))]) (.inr rfl) (by simp (disch := (first | decide | omega)) only [resVs, resV, go_sem, hA, hg1]) kO hR hB ⟨rfl, rfl, rfl⟩
  ·simp (disch := (first | decide | omega)) only [hA, hg1, b1, b2, b3, b4, List.length_map, go_sem]
   exact leave_pure (xs := [.v (.int .i64 1)]) (.inr rfl) (by simp (disch := (first | decide | omega)) only [resVs, resV, go_sem, hA, hg1]) kO hR hB ⟨rfl, rfl, rfl⟩
  ·simp (disch := (first | decide | omega)) only [hA, hg1, b1, b2, b3, b4, List.length_map, go_sem]
   exact leave_pure (xs := [.v (.int .i64 2)]) (.inr rfl) (by simp (disch := (first | decide | omega)) only [resVs, resV, go_sem, hA, hg1]) kO hR hB ⟨rfl, rfl, rfl⟩
def pcV (v w : List Int) : Int := if bothV v w = true then cmpV v w else 0
def pcE (v w : List Int) : Int := if bothV v w = true then 0 else 1
theorem pCompare_spec (v w : List Int) (hv : v.length ≤ 1000000) (hw : w.length ≤ 1000000) (b l : List Row) : ACalls Tryd.prog 28 [.v (.isl 1 (v.map eI)), .v (.isl 1 (w.map eI))] b l (fun r b' l' => r = .tup [.v (.int .i64 (pcV v w)), .v (.int .i64 (pcE v w))] ∧ b' = b ∧ l' = l) := by
 refine calls_kept a_pCompare_ok rfl (by decide) ?_
 intro B g hB hR hE hA
 simp only [KArgs] at hA
 have bad : bothV v w = false → pcV v w = 0 ∧ pcE v w = 1 := fun h => by
  unfold pcV pcE; rw [h]; exact ⟨rfl, rfl⟩
 simp (disch := (first | decide | omega)) only [a_pCompare, hA, go_sem]
 refine ACalls.nxt (pstamp_spec v hv _ _) ?_
 cases h1 : isV v with
 | false =>
   have q := bad (by unfold bothV; rw [h1]; rfl)
   have q1 := q.1
   have q2 := q.2
   simp (disch := (first | decide | omega)) only [hA, go_sem]
   exact leave_pure (xs := [.v (.int .i64 0), .v (.int .i64 1)]) (.inr rfl) (by simp (disch := (first | decide | omega)) only [resVs, resV, go_sem, hA]) kO hR hB ⟨by rw [q1, q2]; rfl, rfl, rfl⟩
 | true =>
   simp (disch := (first | decide | omega)) only [hA, go_sem]
   refine ACalls.nxt (pstamp_spec w hw _ _) ?_
   cases h2 : isV w with
   | false =>
     have q := bad (by unfold bothV; rw [h1, h2]; rfl)
     have q1 := q.1
     have q2 := q.2
     simp (disch := (first | decide | omega)) only [hA, go_sem]
     exact leave_pure (xs := [.v (.int .i64 0), .v (.int .i64 1)]) (.inr rfl) (by simp (disch := (first | decide | omega)) only [resVs, resV, go_sem, hA]) kO hR hB ⟨by rw [q1, q2]; rfl, rfl, rfl⟩
   | true =>
     by_cases hl : v.length = w.length
     ·have hd : ((v.length : Int) != (w.length : Int)) = false := by simp [hl]
      have hb : bothV v w = true := by unfold bothV; rw [h1, h2, decide_eq_true hl]; rfl
      have q1 : pcV v w = cmpV v w := if_pos hb
      have q2 : pcE v w = 0 := if_pos hb
      simp (disch := (first | decide | omega)) only [hA, hd, List.length_map, go_sem]
      refine ACalls.nxt (pcompare_spec v w hv hl _ _) ?_
      simp (disch := (first | decide | omega)) only [hA, go_sem]
      exact leave_pure (xs := [.v (.int .i64 (cmpV v w)), .v (.int .i64 0)]) (.inr rfl) (by simp (disch := (first | decide | omega)) only [resVs, resV, go_sem, hA]) kO hR hB ⟨by rw [q1, q2]; rfl, rfl, rfl⟩
     ·have hd : ((v.length : Int) != (w.length : Int)) = true := by simp; omega
      have q := bad (by unfold bothV; rw [decide_eq_false hl]; simp)
      have q1 := q.1
      have q2 := q.2
      simp (disch := (first | decide | omega)) only [hA, hd, List.length_map, go_sem]
      exact leave_pure (xs := [.v (.int .i64 0), .v (.int .i64 1)]) (.inr rfl) (by simp (disch := (first | decide | omega)) only [resVs, resV, go_sem, hA]) kO hR hB ⟨by rw [q1, q2]; rfl, rfl, rfl⟩
theorem rStamp18_spec (k : Nat) (v : List Int) (hk : k ≤ 1000000) (hv : v.length ≤ 1000000) (b l : List Row) : ACalls Tryd.prog 71 [.v (.int .i64 k), .v (.isl 1 (v.map eI))] b l (fun r b' l' => r = .v (.bool (decide (v.length = k) && isV v)) ∧ b' = b ∧ l' = l) := by
 refine calls_kept a_rStamp18_ok rfl (by decide) ?_
 intro B g hB hR hE hA
 simp only [KArgs] at hA
 have hsz := fun b l => psized_gen 44 (by kernel_rfl) k b l
 simp (disch := (first | decide | omega)) only [a_rStamp18, hA, go_sem]
 refine ACalls.nxt (hsz _ _) ?_
 cases h1 : (decide (1 ≤ k) && decide (k ≤ 8)) with
 | false =>
   have hq : (decide (v.length = k) && isV v) = false := by
    by_cases hk : v.length = k
    ·subst hk
     have hi : isV v = false := by unfold isV; rw [← Bool.and_assoc, h1]; rfl
     rw [hi, Bool.and_false]
    ·rw [decide_eq_false hk]; rfl
   simp (disch := (first | decide | omega)) only [hA, go_sem]
   exact leave_pure (xs := [.v (.bool false)]) (.inr rfl) (by simp (disch := (first | decide | omega)) only [resVs, resV, go_sem, hA]) kO hR hB ⟨by rw [hq]; rfl, rfl, rfl⟩
 | true =>
   by_cases hk : v.length = k
   ·subst hk
    have hd : ((v.length : Int) != (v.length : Int)) = false := by simp
    have hq : isV v = !(List.range v.length).any (vBadAt v) := by
     unfold isV
     rw [← Bool.and_assoc, h1]; rfl
    rw [decide_eq_true rfl, Bool.true_and]
    simp (disch := (first | decide | omega)) only [hA, hd, List.length_map, go_sem]
    refine loop_kept (ι := Nat) r_rStamp180 (fun i => [(5, .v (.int .i64 i))]) 0 (fun i => [])
     (fun i => i ≤ v.length ∧ ∀ j, j < i → vBadAt v j = false) (fun i => v.length - i) 0 ⟨Nat.zero_le _, fun j h => by omega⟩ (by (repeat (first | exact hE.mono oM | refine KLt.up ?_ kL))) (by ((try simp (disch := decide) only [hA, go_sem]) <;> exact kH)) (fun e => Weak.refl _ _ _) ?_
    rintro g1 hE1 hEE1 hg1 i ⟨hi, hbef⟩
    by_cases hil : i < v.length
    ·have hvb : vBadAt v i = (decide (v[i] < 0) || decide (v[i] > 1125899906842624)) := by unfold vBadAt vBad; rw [getD_at hil]
     have no : vBadAt v i = true → isV v = false := fun h => by
      have : (List.range v.length).any (vBadAt v) = true := List.any_eq_true.2 ⟨i, List.mem_range.2 hil, h⟩
      rw [hq, this]; rfl
     cases d1 : decide (v[i] < 0) with
     | true =>
       have hb : isV v = false := no (by rw [hvb, d1]; rfl)
       simp (disch := (first | decide | omega)) only [hA, hg1, eI, d1, List.length_map, go_sem]
       exact leave_pure (xs := [.v (.bool false)]) (.inr rfl) (by simp (disch := (first | decide | omega)) only [resVs, resV, go_sem, hA, hg1]) kO hR hB ⟨by rw [hb]; rfl, rfl, rfl⟩
     | false =>
       cases d2 : decide (v[i] > 1125899906842624) with
       | true =>
         have d2' : decide ((1125899906842624 : Int) < v[i]) = true := d2
         have hb : isV v = false := no (by rw [hvb, d1, d2]; rfl)
         simp (disch := (first | decide | omega)) only [hA, hg1, eI, d1, d2, d2', List.length_map, go_sem]
         exact leave_pure (xs := [.v (.bool false)]) (.inr rfl) (by simp (disch := (first | decide | omega)) only [resVs, resV, go_sem, hA, hg1]) kO hR hB ⟨by rw [hb]; rfl, rfl, rfl⟩
       | false =>
         have d2' : decide ((1125899906842624 : Int) < v[i]) = false := d2
         simp (disch := (first | decide | omega)) only [hA, hg1, eI, d1, d2, d2', List.length_map, go_sem]
         refine ⟨i + 1, ⟨hil, fun j hj => ?_⟩, by simp only; omega, ?_⟩
         ·by_cases hji : j = i
          ·subst hji; rw [hvb, d1, d2]; rfl
          ·exact hbef j oM
         ·exact Weak.kround (p := r_rStamp180) (k := 0) (by ((repeat refine (kAny_up rfl).trans ?_); exact hEE1)) (by ((try simp (disch := decide) only [hA, go_sem]) <;> exact kH)) rfl hE1 (by simp) kV hR kL
    ·have hb : isV v = true := by
      have : (List.range v.length).any (vBadAt v) = false := by
       rw [List.any_eq_false]; intro c hc; rw [hbef c (by have := List.mem_range.1 hc; omega)]; decide
      rw [hq, this]; rfl
     simp (disch := (first | decide | omega)) only [hA, hg1, go_sem]
     exact leave_pure (xs := [.v (.bool true)]) (.inr rfl) (by simp (disch := (first | decide | omega)) only [resVs, resV, go_sem, hA, hg1]) kO hR hB ⟨by rw [hb]; rfl, rfl, rfl⟩
   ·have hd : ((v.length : Int) != (k : Int)) = true := by simp; omega
    rw [decide_eq_false hk, Bool.false_and]
    simp (disch := (first | decide | omega)) only [hA, hd, List.length_map, go_sem]
    exact leave_pure (xs := [.v (.bool false)]) (.inr rfl) (by simp (disch := (first | decide | omega)) only [resVs, resV, go_sem, hA]) kO hR hB ⟨rfl, rfl, rfl⟩
end Go.Proofs.YtnihdkfmmbpilaaDoor
