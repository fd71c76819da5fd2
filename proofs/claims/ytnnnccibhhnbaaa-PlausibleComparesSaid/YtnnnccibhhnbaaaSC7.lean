/- Texts of one proof, laid together: JX, JA. No condition. -/
import Derived.Test.YtnnnccibhhnbaaaSC6
import Derived.Test.YtnnnccibhhnbaaaSG2
namespace Go.Proofs.Ytnnnccibhhnbaaa
set_option linter.unusedVariables false
set_option linter.unusedSimpArgs false
def pair18 : Tr := [⟨⟨#[97]⟩, [], [⟨1, 0, 0, 0, []⟩]⟩, ⟨⟨#[98]⟩, [], [⟨1, 0, 0, 0, []⟩]⟩, ⟨⟨#[99]⟩, [], [⟨1, 0, 0, 0, []⟩]⟩]
def epair18 : IV := .isl 3 [[.str ⟨#[97]⟩, .zsl, .isl 5 [[.int .i64 1, .int .i64 0, .int .i64 0, .int .i64 0, .zsl]]], [.str ⟨#[98]⟩, .zsl, .isl 5 [[.int .i64 1, .int .i64 0, .int .i64 0, .int .i64 0, .zsl]]], [.str ⟨#[99]⟩, .zsl, .isl 5 [[.int .i64 1, .int .i64 0, .int .i64 0, .int .i64 0, .zsl]]]]
def ora18 : Nat → List AV → Option AV := fun f args => if (f == 45 && eqL (eqA 20) args [.agg [.v epair18]]) = true then some (.v (.bool true)) else none
def frz18 : Nat → Nat := fun f => if f = 55 then 200 else 0
set_option maxRecDepth 100000
theorem run18 : xOk (E1.xcall tab15 ora18 frz18 (E1.exec tab15 ora18 frz18 3000) 50 [] [] []) = true := by kernel_rfl
theorem epair18_le : IVle epair18 (eT pair18) := by
  have ev : ∀ (a c d e : Int), IVle (.isl 5 [[.int .i64 a, .int .i64 c, .int .i64 d, .int .i64 e, .zsl]]) (.isl 5 [[.int .i64 a, .int .i64 c, .int .i64 d, .int .i64 e, .isl 2 []]]) := fun a c d e =>
    .rows ⟨⟨rfl, getLe_cons (.refl _) (getLe_cons (.refl _) (getLe_cons (.refl _) (getLe_cons (.refl _) (getLe_cons (.zsl 2) getLe_nil))))⟩, trivial⟩
  exact .rows ⟨⟨rfl, getLe_cons (.refl _) (getLe_cons (.zsl 2) (getLe_cons (ev _ _ _ _) getLe_nil))⟩, ⟨rfl, getLe_cons (.refl _) (getLe_cons (.zsl 2) (getLe_cons (ev _ _ _ _) getLe_nil))⟩, ⟨rfl, getLe_cons (.refl _) (getLe_cons (.zsl 2) (getLe_cons (ev _ _ _ _) getLe_nil))⟩, trivial⟩
theorem pair18_small : Small pair18 := ⟨by decide, by decide, by decide, by decide⟩
theorem pair18_nm : Nm pair18 := by
  intro p hp
  simp [pair18] at hp
  rcases hp with rfl | rfl | rfl <;> exact ⟨by decide, by simp⟩
theorem pair18_valid : validL pair18 = true := conc_valid (rank := fun x => x.1 * 10 + x.2) (by kernel_rfl)
theorem ora18_ok (f : Nat) (args : List AV) (y : AV) (h : ora18 f args = some y) (b l : List Row) : ACalls Try.prog f args b l (fun r b' l' => r = y ∧ b' = b ∧ l' = l) := by
  unfold ora18 at h
  split at h
  · rename_i hc
    simp only [Bool.and_eq_true, beq_iff_eq] at hc
    obtain ⟨rfl, h2⟩ := hc
    have h3 := eqL_eq (eqA_eq 20) h2
    subst h3
    cases h
    have hv := valid_spec pair18 pair18_small pair18_nm b l
    rw [pair18_valid] at hv
    refine ACalls.le hv rfl ?_
    intro i a c h1 h2
    cases i with
    | zero =>
      simp at h1 h2; subst h1; subst h2
      refine .agg _ _ rfl (fun i a c h1 h2 => ?_)
      cases i with
      | zero => simp at h1 h2; subst h1; subst h2; exact .v _ _ epair18_le
      | succ i => simp at h1
    | succ i => simp at h1
  · cases h
/-- The example of chapter 18. -/
theorem awake18_spec (b l : List Row) : ACalls Try.prog 50 [] b l (fun r b' l' => r = .v (.bool true) ∧ b' = b ∧ l' = l) := by
  obtain ⟨b1, l1, t, h⟩ := xOk_ok run18
  exact ACalls.lift_bool (E1.ACalls.of_exec (T := tab15) (O := ora18) (Z := frz18) (fun f af h => h) ora18_ok h) b l
end Go.Proofs.Ytnnnccibhhnbaaa

namespace Go.Proofs.Ytnnnccibhhnbaaa
set_option linter.unusedVariables false
set_option linter.unusedSimpArgs false
attribute [local go_sem ↓] run_skip run_region run_draw run_seq run_block run_exit run_ret run_cond atN_app seqC_normal seqC_exit seqC_ret seqQ_normal seqQ_exit seqQ_ret blkQ_normal blkQ_exit blkQ_ret runOps_nil runOps_cons runD_nil runD_cons grdO_true grdO_false grdD_true grdD_false ifC_true ifC_false opS_val opS_call opS_two opK_app dS_val dS_call dS_two dK_app kUp_same kUp_ne
attribute [local go_sem] rechks_nil rechks_cons rechk gcase_true gcase_false ex_val ex_val0 gd_none gd_some ev_t ev_c evs_nil evs_cons evo_some evo_none hget_at hget_first hsetB_at hsetB_first hsetL_at hsetL_first ofOpt_some aop aload astore aslice aappend aiaddr aiaddrA afaddr alen alenS acopy amm acall alookup amupdate alenM comma keyEq apick binV binVB binVS isSh intOp strOp boolOp shOp eqC eqF and2 cellsOf setFrom fillA fillS rd rdI elems mk bounds AV.cell List.all_cons List.all_nil Bool.and_true Bool.true_and Bool.and_self List.length_cons List.length_nil List.length_append Nat.reduceAdd Nat.reduceSub Nat.reduceMul Nat.zero_add Nat.add_zero List.cons_append List.nil_append List.append_assoc List.append_nil List.getElem?_cons_zero List.getElem?_cons_succ List.getElem?_nil List.set_cons_zero List.set_cons_succ List.drop_zero List.drop_succ_cons List.take_zero List.take_succ_cons List.take_nil List.drop_nil List.map_cons List.map_nil Option.map_some if_true if_false Bool.false_eq_true and_self true_and and_true Nat.reduceLeDiff Nat.reduceLT Nat.le_refl Nat.reduceEqDiff ite_true ite_false beq_self_eq_true beq_true beq_false Bool.not_true Bool.not_false Bool.true_beq Bool.false_beq map_vs vs_len vs_get vs_take vs_drop vs_snoc1 vs_snoc2 vs_snoc3 vs_snoc5 vs_set1 vs_set2 vs_rep wrap_id le_T lt_T le_F lt_F leI_T ltI_T leI_F ltI_F geI gtI get_T decide_true decide_false room List.getElem?_map List.length_map List.length_take Int.toNat_natCast Nat.min_def Nat.min_self nth_kOf put_kOf put_kNo kOv_cons kOv_nil KHas KArgs List.getElem_cons_zero List.getElem_cons_succ
def a_psized : AFunc := ⟨1, 9, [.tmp 2],
  (.seq (.region [⟨(some 2), .mv (.c (.v (.bool false))), none⟩])
  (.seq (.region [⟨(some 3), .mv (.t 0), none⟩, ⟨(some 4), .bin .geq (.t 3) (.c (.v (.int .i64 1))), none⟩, ⟨(some 5), .mv (.t 4), none⟩, ⟨(some 6), .mv (.t 0), some (5, true)⟩, ⟨(some 7), .bin .leq (.t 6) (.c (.v (.int .i64 8))), some (5, true)⟩, ⟨(some 8), .pick (.t 5) (.t 7) (.c (.v (.bool false))), none⟩, ⟨(some 2), .mv (.t 8), none⟩])
  .ret))⟩
theorem a_psized_ok : cFunc Try.prog 144 = some a_psized := by kernel_rfl
def a_pstamp1 : AFunc := ⟨1, 9, [.tmp 2],
  (.seq (.region [⟨(some 2), .mv (.c (.v (.bool false))), none⟩])
  (.seq (.region [⟨(some 3), .mv (.t 0), none⟩, ⟨(some 4), .bin .lss (.t 3) (.c (.v (.int .i64 0))), none⟩, ⟨(some 5), .mv (.t 4), none⟩, ⟨(some 6), .mv (.t 0), some (5, false)⟩, ⟨(some 7), .bin .gtr (.t 6) (.c (.v (.int .i64 1125899906842624))), some (5, false)⟩, ⟨(some 8), .pick (.t 5) (.c (.v (.bool true))) (.t 7), none⟩, ⟨(some 2), .mv (.t 8), none⟩])
  .ret))⟩
theorem a_pstamp1_ok : cFunc Try.prog 145 = some a_pstamp1 := by kernel_rfl
def a_pstamp : AFunc := ⟨1, 11, [.tmp 2],
  (.seq (.region [⟨(some 2), .mv (.c (.v (.bool false))), none⟩])
  (.seq (.region [⟨(some 3), .mv (.t 0), none⟩, ⟨(some 4), .len (.t 3), none⟩, ⟨(some 5), .call (.c (.fn 144 [])) [(.t 4)], none⟩, ⟨(some 6), .mv (.t 5), none⟩, ⟨(some 7), .mv (.t 0), some (6, true)⟩, ⟨(some 8), .call (.c (.fn 22 [])) [(.t 7), (.c (.fn 145 []))], some (6, true)⟩, ⟨(some 9), .not (.t 8), some (6, true)⟩, ⟨(some 10), .pick (.t 6) (.t 9) (.c (.v (.bool false))), none⟩, ⟨(some 2), .mv (.t 10), none⟩])
  .ret))⟩
theorem a_pstamp_ok : cFunc Try.prog 103 = some a_pstamp := by kernel_rfl
def a_pcompare : AFunc := ⟨2, 51, [.tmp 4],
  (.seq (.region [⟨(some 4), .mv (.c (.v (.int .i64 0))), none⟩])
  (.seq (.region [⟨(some 5), .alloc [(.v (.bool false)), (.v (.bool false))], none⟩])
  (.seq (.seq (.region [⟨(some 7), .mv (.t 0), none⟩, ⟨(some 8), .len (.t 7), none⟩, ⟨(some 9), .mv (.c (.v (.int .i64 0))), none⟩])
  (.block 0 (.loop (.seq (.region [⟨(some 10), .bin .lss (.t 9) (.t 8), none⟩])
  (.seq (.cond (.t 10) .skip
  (.exit 0))
  (.seq (.block 1 (.seq (.region [⟨(some 11), .mv (.t 9), none⟩, ⟨(some 6), .mv (.t 11), none⟩])
  (.seq (.draw [⟨0, ⟨(some 12), .iaddrA 2 1 (.t 5) (.c (.v (.int .i64 0))), none⟩, []⟩, ⟨1, ⟨(some 13), .load none (.t 12), none⟩, []⟩, ⟨2, ⟨(some 14), .mv (.t 13), none⟩, []⟩, ⟨3, ⟨(some 15), .mv (.t 0), some (14, false)⟩, []⟩, ⟨4, ⟨(some 16), .mv (.t 6), some (14, false)⟩, []⟩, ⟨5, ⟨(some 17), .iaddr 1 (.t 15) (.t 16), some (14, false)⟩, []⟩, ⟨6, ⟨(some 18), .load none (.t 17), some (14, false)⟩, []⟩, ⟨7, ⟨(some 19), .mv (.t 1), some (14, false)⟩, []⟩, ⟨8, ⟨(some 20), .mv (.t 6), some (14, false)⟩, []⟩, ⟨9, ⟨(some 21), .iaddr 1 (.t 19) (.t 20), some (14, false)⟩, []⟩, ⟨10, ⟨(some 22), .load none (.t 21), some (14, false)⟩, []⟩, ⟨11, ⟨(some 23), .bin .gtr (.t 18) (.t 22), some (14, false)⟩, []⟩, ⟨12, ⟨(some 24), .pick (.t 14) (.c (.v (.bool true))) (.t 23), none⟩, []⟩, ⟨13, ⟨(some 25), .iaddrA 2 1 (.t 5) (.c (.v (.int .i64 0))), none⟩, []⟩, ⟨14, ⟨none, .store 1 (.t 25) (.t 24), none⟩, []⟩])
  (.draw [⟨0, ⟨(some 26), .iaddrA 2 1 (.t 5) (.c (.v (.int .i64 1))), none⟩, []⟩, ⟨1, ⟨(some 27), .load none (.t 26), none⟩, []⟩, ⟨2, ⟨(some 28), .mv (.t 27), none⟩, []⟩, ⟨3, ⟨(some 29), .mv (.t 1), some (28, false)⟩, []⟩, ⟨4, ⟨(some 30), .mv (.t 6), some (28, false)⟩, []⟩, ⟨5, ⟨(some 31), .iaddr 1 (.t 29) (.t 30), some (28, false)⟩, []⟩, ⟨6, ⟨(some 32), .load none (.t 31), some (28, false)⟩, []⟩, ⟨7, ⟨(some 33), .mv (.t 0), some (28, false)⟩, []⟩, ⟨8, ⟨(some 34), .mv (.t 6), some (28, false)⟩, []⟩, ⟨9, ⟨(some 35), .iaddr 1 (.t 33) (.t 34), some (28, false)⟩, []⟩, ⟨10, ⟨(some 36), .load none (.t 35), some (28, false)⟩, []⟩, ⟨11, ⟨(some 37), .bin .gtr (.t 32) (.t 36), some (28, false)⟩, []⟩, ⟨12, ⟨(some 38), .pick (.t 28) (.c (.v (.bool true))) (.t 37), none⟩, []⟩, ⟨13, ⟨(some 39), .iaddrA 2 1 (.t 5) (.c (.v (.int .i64 1))), none⟩, []⟩, ⟨14, ⟨none, .store 1 (.t 39) (.t 38), none⟩, []⟩]))))
  (.region [⟨(some 40), .bin .add (.t 9) (.c (.v (.int .i64 1))), none⟩, ⟨(some 9), .mv (.t 40), none⟩])))))))
  (.seq (.seq (.region [⟨(some 41), .load (some 2) (.t 5), none⟩])
  (.block 2 (.seq (.region [⟨(some 43), .build [(.v (.bool false)), (.v (.bool false))] [(0, 1, (.c (.v (.bool false)))), (1, 1, (.c (.v (.bool false))))], none⟩, ⟨(some 44), .eqs false [.b, .b] (.t 41) (.t 43), none⟩, ⟨(some 42), .mv (.t 44), none⟩])
  (.cond (.t 42) (.seq (.region [⟨(some 4), .mv (.c (.v (.int .i64 0))), none⟩])
  .ret)
  (.seq (.region [⟨(some 46), .build [(.v (.bool false)), (.v (.bool false))] [(0, 1, (.c (.v (.bool false)))), (1, 1, (.c (.v (.bool true))))], none⟩, ⟨(some 47), .eqs false [.b, .b] (.t 41) (.t 46), none⟩, ⟨(some 45), .mv (.t 47), none⟩])
  (.cond (.t 45) (.seq (.region [⟨(some 4), .mv (.c (.v (.int .i64 (-1)))), none⟩])
  .ret)
  (.seq (.region [⟨(some 49), .build [(.v (.bool false)), (.v (.bool false))] [(0, 1, (.c (.v (.bool true)))), (1, 1, (.c (.v (.bool false))))], none⟩, ⟨(some 50), .eqs false [.b, .b] (.t 41) (.t 49), none⟩, ⟨(some 48), .mv (.t 50), none⟩])
  (.cond (.t 48) (.seq (.region [⟨(some 4), .mv (.c (.v (.int .i64 1))), none⟩])
  .ret)
  .skip))))))))
  (.seq (.region [⟨(some 4), .mv (.c (.v (.int .i64 2))), none⟩])
  .ret)))))⟩
theorem a_pcompare_ok : cFunc Try.prog 104 = some a_pcompare := by kernel_rfl
def r_pcompare0 : List (Nat × Nat) := [(6, 6), (9, 40)]
def a_pCompare : AFunc := ⟨2, 24, [.tmp 4, .tmp 5],
  (.seq (.region [⟨(some 4), .mv (.c (.v (.int .i64 0))), none⟩, ⟨(some 5), .mv (.c (.v (.int .i64 0))), none⟩])
  (.seq (.seq (.region [⟨(some 6), .mv (.t 0), none⟩, ⟨(some 7), .call (.c (.fn 103 [])) [(.t 6)], none⟩, ⟨(some 8), .not (.t 7), none⟩, ⟨(some 9), .mv (.t 8), none⟩, ⟨(some 10), .mv (.t 1), some (9, false)⟩, ⟨(some 11), .call (.c (.fn 103 [])) [(.t 10)], some (9, false)⟩, ⟨(some 12), .not (.t 11), some (9, false)⟩, ⟨(some 13), .pick (.t 9) (.c (.v (.bool true))) (.t 12), none⟩, ⟨(some 14), .mv (.t 13), none⟩, ⟨(some 15), .mv (.t 0), some (14, false)⟩, ⟨(some 16), .len (.t 15), some (14, false)⟩, ⟨(some 17), .mv (.t 1), some (14, false)⟩, ⟨(some 18), .len (.t 17), some (14, false)⟩, ⟨(some 19), .bin .neq (.t 16) (.t 18), some (14, false)⟩, ⟨(some 20), .pick (.t 14) (.c (.v (.bool true))) (.t 19), none⟩])
  (.cond (.t 20) (.seq (.region [⟨(some 4), .mv (.c (.v (.int .i64 0))), none⟩, ⟨(some 5), .mv (.c (.v (.int .i64 1))), none⟩])
  .ret)
  .skip))
  (.seq (.region [⟨(some 21), .mv (.t 0), none⟩, ⟨(some 22), .mv (.t 1), none⟩, ⟨(some 23), .call (.c (.fn 104 [])) [(.t 21), (.t 22)], none⟩, ⟨(some 4), .mv (.t 23), none⟩, ⟨(some 5), .mv (.c (.v (.int .i64 0))), none⟩])
  .ret)))⟩
theorem a_pCompare_ok : cFunc Try.prog 51 = some a_pCompare := by kernel_rfl
def a_rStamp18 : AFunc := ⟨2, 32, [.tmp 4],
  (.seq (.region [⟨(some 4), .mv (.c (.v (.bool false))), none⟩])
  (.seq (.seq (.region [⟨(some 6), .mv (.t 0), none⟩, ⟨(some 7), .call (.c (.fn 56 [])) [(.t 6)], none⟩, ⟨(some 8), .not (.t 7), none⟩, ⟨(some 9), .mv (.t 8), none⟩, ⟨(some 10), .mv (.t 1), some (9, false)⟩, ⟨(some 11), .len (.t 10), some (9, false)⟩, ⟨(some 12), .mv (.t 0), some (9, false)⟩, ⟨(some 13), .bin .neq (.t 11) (.t 12), some (9, false)⟩, ⟨(some 14), .pick (.t 9) (.c (.v (.bool true))) (.t 13), none⟩])
  (.cond (.t 14) (.seq (.region [⟨(some 4), .mv (.c (.v (.bool false))), none⟩])
  .ret)
  .skip))
  (.seq (.seq (.region [⟨(some 5), .mv (.c (.v (.int .i64 0))), none⟩])
  (.block 0 (.loop (.seq (.seq (.region [⟨(some 15), .mv (.t 5), none⟩, ⟨(some 16), .mv (.t 0), none⟩, ⟨(some 17), .bin .lss (.t 15) (.t 16), none⟩])
  (.cond (.t 17) .skip
  (.exit 0)))
  (.seq (.block 1 (.seq (.region [⟨(some 20), .mv (.t 1), none⟩, ⟨(some 21), .mv (.t 5), none⟩, ⟨(some 22), .iaddr 1 (.t 20) (.t 21), none⟩, ⟨(some 23), .load none (.t 22), none⟩, ⟨(some 24), .bin .lss (.t 23) (.c (.v (.int .i64 0))), none⟩, ⟨(some 25), .mv (.t 24), none⟩, ⟨(some 26), .mv (.t 1), some (25, false)⟩, ⟨(some 27), .mv (.t 5), some (25, false)⟩, ⟨(some 28), .iaddr 1 (.t 26) (.t 27), some (25, false)⟩, ⟨(some 29), .load none (.t 28), some (25, false)⟩, ⟨(some 30), .bin .gtr (.t 29) (.c (.v (.int .i64 1125899906842624))), some (25, false)⟩, ⟨(some 31), .pick (.t 25) (.c (.v (.bool true))) (.t 30), none⟩])
  (.cond (.t 31) (.seq (.region [⟨(some 4), .mv (.c (.v (.bool false))), none⟩])
  .ret)
  .skip)))
  (.region [⟨(some 18), .mv (.t 5), none⟩, ⟨(some 19), .bin .add (.t 18) (.c (.v (.int .i64 1))), none⟩, ⟨(some 5), .mv (.t 19), none⟩]))))))
  (.seq (.region [⟨(some 4), .mv (.c (.v (.bool true))), none⟩])
  .ret))))⟩
theorem a_rStamp18_ok : cFunc Try.prog 52 = some a_rStamp18 := by kernel_rfl
def r_rStamp180 : List (Nat × Nat) := [(4, 5), (15, 31)]
def a_rCompare18 : AFunc := ⟨2, 44, [.tmp 4],
  (.seq (.region [⟨(some 4), .mv (.c (.v (.int .i64 0))), none⟩])
  (.seq (.region [⟨(some 5), .mv (.c (.v (.bool false))), none⟩, ⟨(some 6), .mv (.c (.v (.bool false))), none⟩])
  (.seq (.seq (.region [⟨(some 7), .mv (.c (.v (.int .i64 0))), none⟩])
  (.block 0 (.loop (.seq (.seq (.region [⟨(some 8), .mv (.t 7), none⟩, ⟨(some 9), .mv (.t 0), none⟩, ⟨(some 10), .len (.t 9), none⟩, ⟨(some 11), .bin .lss (.t 8) (.t 10), none⟩])
  (.cond (.t 11) .skip
  (.exit 0)))
  (.seq (.block 1 (.seq (.draw [⟨0, ⟨(some 14), .mv (.t 5), none⟩, []⟩, ⟨1, ⟨(some 15), .mv (.t 14), none⟩, []⟩, ⟨2, ⟨(some 16), .mv (.t 0), some (15, false)⟩, []⟩, ⟨3, ⟨(some 17), .mv (.t 7), some (15, false)⟩, []⟩, ⟨4, ⟨(some 18), .iaddr 1 (.t 16) (.t 17), some (15, false)⟩, []⟩, ⟨5, ⟨(some 19), .load none (.t 18), some (15, false)⟩, []⟩, ⟨6, ⟨(some 20), .mv (.t 1), some (15, false)⟩, []⟩, ⟨7, ⟨(some 21), .mv (.t 7), some (15, false)⟩, []⟩, ⟨8, ⟨(some 22), .iaddr 1 (.t 20) (.t 21), some (15, false)⟩, []⟩, ⟨9, ⟨(some 23), .load none (.t 22), some (15, false)⟩, []⟩, ⟨10, ⟨(some 24), .bin .lss (.t 19) (.t 23), some (15, false)⟩, []⟩, ⟨11, ⟨(some 25), .pick (.t 15) (.c (.v (.bool true))) (.t 24), none⟩, []⟩, ⟨12, ⟨(some 5), .mv (.t 25), none⟩, []⟩])
  (.draw [⟨0, ⟨(some 26), .mv (.t 6), none⟩, []⟩, ⟨1, ⟨(some 27), .mv (.t 26), none⟩, []⟩, ⟨2, ⟨(some 28), .mv (.t 0), some (27, false)⟩, []⟩, ⟨3, ⟨(some 29), .mv (.t 7), some (27, false)⟩, []⟩, ⟨4, ⟨(some 30), .iaddr 1 (.t 28) (.t 29), some (27, false)⟩, []⟩, ⟨5, ⟨(some 31), .load none (.t 30), some (27, false)⟩, []⟩, ⟨6, ⟨(some 32), .mv (.t 1), some (27, false)⟩, []⟩, ⟨7, ⟨(some 33), .mv (.t 7), some (27, false)⟩, []⟩, ⟨8, ⟨(some 34), .iaddr 1 (.t 32) (.t 33), some (27, false)⟩, []⟩, ⟨9, ⟨(some 35), .load none (.t 34), some (27, false)⟩, []⟩, ⟨10, ⟨(some 36), .bin .gtr (.t 31) (.t 35), some (27, false)⟩, []⟩, ⟨11, ⟨(some 37), .pick (.t 27) (.c (.v (.bool true))) (.t 36), none⟩, []⟩, ⟨12, ⟨(some 6), .mv (.t 37), none⟩, []⟩])))
  (.region [⟨(some 12), .mv (.t 7), none⟩, ⟨(some 13), .bin .add (.t 12) (.c (.v (.int .i64 1))), none⟩, ⟨(some 7), .mv (.t 13), none⟩]))))))
  (.seq (.seq (.region [⟨(some 38), .mv (.t 5), none⟩, ⟨(some 39), .mv (.t 38), none⟩, ⟨(some 40), .mv (.t 6), some (39, true)⟩, ⟨(some 41), .pick (.t 39) (.t 40) (.c (.v (.bool false))), none⟩])
  (.cond (.t 41) (.seq (.region [⟨(some 4), .mv (.c (.v (.int .i64 2))), none⟩])
  .ret)
  .skip))
  (.seq (.seq (.region [⟨(some 42), .mv (.t 5), none⟩])
  (.cond (.t 42) (.seq (.region [⟨(some 4), .mv (.c (.v (.int .i64 (-1)))), none⟩])
  .ret)
  .skip))
  (.seq (.seq (.region [⟨(some 43), .mv (.t 6), none⟩])
  (.cond (.t 43) (.seq (.region [⟨(some 4), .mv (.c (.v (.int .i64 1))), none⟩])
  .ret)
  .skip))
  (.seq (.region [⟨(some 4), .mv (.c (.v (.int .i64 0))), none⟩])
  .ret)))))))⟩
theorem a_rCompare18_ok : cFunc Try.prog 53 = some a_rCompare18 := by kernel_rfl
def r_rCompare180 : List (Nat × Nat) := [(5, 37)]
def a_ComparesL : AFunc := ⟨2, 96, [.tmp 4],
  (.seq (.region [⟨(some 4), .mv (.c (.v (.bool false))), none⟩])
  (.seq (.seq (.region [⟨(some 9), .call (.c (.fn 50 [])) [], none⟩, ⟨(some 10), .not (.t 9), none⟩, ⟨(some 11), .mv (.t 10), none⟩, ⟨(some 12), .mv (.t 0), some (11, false)⟩, ⟨(some 13), .len (.t 12), some (11, false)⟩, ⟨(some 14), .bin .gtr (.t 13) (.c (.v (.int .i64 20))), some (11, false)⟩, ⟨(some 15), .pick (.t 11) (.c (.v (.bool true))) (.t 14), none⟩, ⟨(some 16), .mv (.t 15), none⟩, ⟨(some 17), .mv (.t 1), some (16, false)⟩, ⟨(some 18), .len (.t 17), some (16, false)⟩, ⟨(some 19), .bin .gtr (.t 18) (.c (.v (.int .i64 20))), some (16, false)⟩, ⟨(some 20), .pick (.t 16) (.c (.v (.bool true))) (.t 19), none⟩])
  (.cond (.t 20) (.seq (.region [⟨(some 21), .call (.c (.fn 50 [])) [], none⟩, ⟨(some 4), .mv (.t 21), none⟩])
  .ret)
  .skip))
  (.seq (.region [⟨(some 23), .mv (.t 0), none⟩, ⟨(some 24), .mv (.t 1), none⟩, ⟨(some 25), .call (.c (.fn 51 [])) [(.t 23), (.t 24)], none⟩, ⟨(some 22), .mv (.t 25), none⟩, ⟨(some 26), .extract 0 (.t 22), none⟩, ⟨(some 27), .extract 1 (.t 22), none⟩, ⟨(some 5), .mv (.t 26), none⟩, ⟨(some 6), .mv (.t 27), none⟩])
  (.seq (.region [⟨(some 29), .mv (.t 1), none⟩, ⟨(some 30), .mv (.t 0), none⟩, ⟨(some 31), .call (.c (.fn 51 [])) [(.t 29), (.t 30)], none⟩, ⟨(some 28), .mv (.t 31), none⟩, ⟨(some 32), .extract 0 (.t 28), none⟩, ⟨(some 33), .extract 1 (.t 28), none⟩, ⟨(some 7), .mv (.t 32), none⟩, ⟨(some 8), .mv (.t 33), none⟩])
  (.seq (.seq (.region [⟨(some 34), .mv (.t 0), none⟩, ⟨(some 35), .len (.t 34), none⟩, ⟨(some 36), .mv (.t 1), none⟩, ⟨(some 37), .len (.t 36), none⟩, ⟨(some 38), .bin .neq (.t 35) (.t 37), none⟩, ⟨(some 39), .mv (.t 38), none⟩, ⟨(some 40), .mv (.t 0), some (39, false)⟩, ⟨(some 41), .len (.t 40), some (39, false)⟩, ⟨(some 42), .mv (.t 0), some (39, false)⟩, ⟨(some 43), .call (.c (.fn 52 [])) [(.t 41), (.t 42)], some (39, false)⟩, ⟨(some 44), .not (.t 43), some (39, false)⟩, ⟨(some 45), .pick (.t 39) (.c (.v (.bool true))) (.t 44), none⟩, ⟨(some 46), .mv (.t 45), none⟩, ⟨(some 47), .mv (.t 1), some (46, false)⟩, ⟨(some 48), .len (.t 47), some (46, false)⟩, ⟨(some 49), .mv (.t 1), some (46, false)⟩, ⟨(some 50), .call (.c (.fn 52 [])) [(.t 48), (.t 49)], some (46, false)⟩, ⟨(some 51), .not (.t 50), some (46, false)⟩, ⟨(some 52), .pick (.t 46) (.c (.v (.bool true))) (.t 51), none⟩])
  (.cond (.t 52) (.seq (.region [⟨(some 53), .mv (.t 5), none⟩, ⟨(some 54), .bin .eql (.t 53) (.c (.v (.int .i64 0))), none⟩, ⟨(some 55), .mv (.t 54), none⟩, ⟨(some 56), .mv (.t 6), some (55, true)⟩, ⟨(some 57), .bin .eql (.t 56) (.c (.v (.int .i64 1))), some (55, true)⟩, ⟨(some 58), .pick (.t 55) (.t 57) (.c (.v (.bool false))), none⟩, ⟨(some 59), .mv (.t 58), none⟩, ⟨(some 60), .mv (.t 7), some (59, true)⟩, ⟨(some 61), .bin .eql (.t 60) (.c (.v (.int .i64 0))), some (59, true)⟩, ⟨(some 62), .pick (.t 59) (.t 61) (.c (.v (.bool false))), none⟩, ⟨(some 63), .mv (.t 62), none⟩, ⟨(some 64), .mv (.t 8), some (63, true)⟩, ⟨(some 65), .bin .eql (.t 64) (.c (.v (.int .i64 1))), some (63, true)⟩, ⟨(some 66), .pick (.t 63) (.t 65) (.c (.v (.bool false))), none⟩, ⟨(some 4), .mv (.t 66), none⟩])
  .ret)
  .skip))
  (.seq (.seq (.region [⟨(some 67), .mv (.t 5), none⟩, ⟨(some 68), .mv (.t 0), none⟩, ⟨(some 69), .mv (.t 1), none⟩, ⟨(some 70), .call (.c (.fn 53 [])) [(.t 68), (.t 69)], none⟩, ⟨(some 71), .bin .neq (.t 67) (.t 70), none⟩, ⟨(some 72), .mv (.t 71), none⟩, ⟨(some 73), .mv (.t 6), some (72, false)⟩, ⟨(some 74), .bin .neq (.t 73) (.c (.v (.int .i64 0))), some (72, false)⟩, ⟨(some 75), .pick (.t 72) (.c (.v (.bool true))) (.t 74), none⟩, ⟨(some 76), .mv (.t 75), none⟩, ⟨(some 77), .mv (.t 8), some (76, false)⟩, ⟨(some 78), .bin .neq (.t 77) (.c (.v (.int .i64 0))), some (76, false)⟩, ⟨(some 79), .pick (.t 76) (.c (.v (.bool true))) (.t 78), none⟩])
  (.cond (.t 79) (.seq (.region [⟨(some 4), .mv (.c (.v (.bool false))), none⟩])
  .ret)
  .skip))
  (.seq (.region [⟨(some 80), .mv (.t 5), none⟩, ⟨(some 81), .bin .eql (.t 80) (.c (.v (.int .i64 2))), none⟩, ⟨(some 82), .mv (.t 81), none⟩, ⟨(some 83), .mv (.t 7), some (82, true)⟩, ⟨(some 84), .bin .eql (.t 83) (.c (.v (.int .i64 2))), some (82, true)⟩, ⟨(some 85), .pick (.t 82) (.t 84) (.c (.v (.bool false))), none⟩, ⟨(some 86), .mv (.t 85), none⟩, ⟨(some 87), .mv (.t 5), some (86, false)⟩, ⟨(some 88), .bin .neq (.t 87) (.c (.v (.int .i64 2))), some (86, false)⟩, ⟨(some 89), .mv (.t 88), some (86, false)⟩, ⟨(some 90), .mv (.t 7), some (89, true)⟩, ⟨(some 91), .mv (.t 5), some (89, true)⟩, ⟨(some 92), .neg (.t 91), some (89, true)⟩, ⟨(some 93), .bin .eql (.t 90) (.t 92), some (89, true)⟩, ⟨(some 94), .pick (.t 89) (.t 93) (.c (.v (.bool false))), some (86, false)⟩, ⟨(some 95), .pick (.t 86) (.c (.v (.bool true))) (.t 94), none⟩, ⟨(some 4), .mv (.t 95), none⟩])
  .ret)))))))⟩
theorem a_ComparesL_ok : cFunc Try.prog 8 = some a_ComparesL := by kernel_rfl

/-- Whether one of the first entries is greater. -/
def gtB (v w : List Int) (i : Nat) : Bool := (List.range i).any fun j => decide (w.getD j 0 < v.getD j 0)
theorem gtB_succ {v w : List Int} {i : Nat} : gtB v w (i + 1) = (gtB v w i || decide (w.getD i 0 < v.getD i 0)) := by
  unfold gtB; rw [List.range_succ, List.any_append]; simp
theorem leqV_gt {v w : List Int} : leqV v w = !gtB v w v.length := by
  rw [Bool.eq_iff_iff, leqV_iff]
  unfold gtB
  simp only [Bool.not_eq_true', List.any_eq_false, List.mem_range, decide_eq_true_eq]
  constructor
  · intro h i hi; have := h i hi; omega
  · intro h i hi; have := h i hi; omega
theorem cmpV_gt {v w : List Int} (h : v.length = w.length) : cmpV v w = if gtB v w v.length = true then (if gtB w v v.length = true then 2 else 1) else (if gtB w v v.length = true then -1 else 0) := by
  unfold cmpV
  have h2 : leqV w v = !gtB w v v.length := by rw [leqV_gt, h]
  rw [leqV_gt, h2]
  cases gtB v w v.length <;> cases gtB w v v.length <;> rfl
theorem psized_gen (f : Nat) (hf : cFunc Try.prog f = some a_psized) (n : Nat) (b l : List Row) : ACalls Try.prog f [.v (.int .i64 n)] b l (fun r b' l' => r = .v (.bool (decide (1 ≤ n) && decide (n ≤ 8))) ∧ b' = b ∧ l' = l) := by
  refine calls_kept hf rfl (by decide) ?_
  intro B g hB hR hE hA
  simp only [KArgs] at hA
  have h1 : decide ((n : Int) ≥ 1) = decide (1 ≤ n) := by rw [decide_eq_decide]; omega
  have h1' : decide ((1 : Int) ≤ (n : Int)) = decide (1 ≤ n) := h1
  have h2 : decide ((n : Int) ≤ 8) = decide (n ≤ 8) := by rw [decide_eq_decide]; omega
  cases h3 : decide (1 ≤ n)
  · rw [h3] at h1 h1'
    simp (disch := (first | decide | omega)) only [a_psized, hA, h1, h1', h2, go_sem]
    exact leave_pure (xs := [.v (.bool false)]) (.inr rfl) (by simp (disch := (first | decide | omega)) only [resVs, resV, go_sem, hA]) (by simp only [one, AVlt_v, AVlt_any, AVlt_sl, AVlt_ptr, AVlt_mp, AVlt_agg, AVlt_tup, AVlt_fn, RowsLt_nil, RowsLt_live, RowsLt_dead, List.mem_cons, List.not_mem_nil, List.forall_mem_cons, List.forall_mem_nil, or_false, false_or, forall_eq_or_imp, forall_eq, vs_lt, Nat.add_lt_add_iff_left, Nat.reduceLT, true_and, and_true, and_self, List.length_cons, List.length_nil, Nat.reduceAdd, Nat.zero_add, implies_true, false_imp_iff, lt_T, List.mem_map]) hR hB ⟨rfl, rfl, rfl⟩
  · rw [h3] at h1 h1'
    simp (disch := (first | decide | omega)) only [a_psized, hA, h1, h1', h2, go_sem]
    exact leave_pure (xs := [.v (.bool (decide (n ≤ 8)))]) (.inr rfl) (by simp (disch := (first | decide | omega)) only [resVs, resV, go_sem, hA]) (by simp only [one, AVlt_v, AVlt_any, AVlt_sl, AVlt_ptr, AVlt_mp, AVlt_agg, AVlt_tup, AVlt_fn, RowsLt_nil, RowsLt_live, RowsLt_dead, List.mem_cons, List.not_mem_nil, List.forall_mem_cons, List.forall_mem_nil, or_false, false_or, forall_eq_or_imp, forall_eq, vs_lt, Nat.add_lt_add_iff_left, Nat.reduceLT, true_and, and_true, and_self, List.length_cons, List.length_nil, Nat.reduceAdd, Nat.zero_add, implies_true, false_imp_iff, lt_T, List.mem_map]) hR hB ⟨rfl, rfl, rfl⟩
theorem pstamp1_spec (n : Int) (b l : List Row) : ACalls Try.prog 145 [.v (.int .i64 n)] b l (fun r b' l' => r = .v (.bool (vBad n)) ∧ b' = b ∧ l' = l) := by
  refine calls_kept a_pstamp1_ok rfl (by decide) ?_
  intro B g hB hR hE hA
  simp only [KArgs] at hA
  by_cases h : n < 0
  · have hd := decide_eq_true h
    simp (disch := (first | decide | omega)) only [a_pstamp1, hA, hd, go_sem]
    exact leave_pure (xs := [.v (.bool true)]) (.inr rfl) (by simp (disch := (first | decide | omega)) only [resVs, resV, go_sem, hA, hd]) (by simp only [one, AVlt_v, AVlt_any, AVlt_sl, AVlt_ptr, AVlt_mp, AVlt_agg, AVlt_tup, AVlt_fn, RowsLt_nil, RowsLt_live, RowsLt_dead, List.mem_cons, List.not_mem_nil, List.forall_mem_cons, List.forall_mem_nil, or_false, false_or, forall_eq_or_imp, forall_eq, vs_lt, Nat.add_lt_add_iff_left, Nat.reduceLT, true_and, and_true, and_self, List.length_cons, List.length_nil, Nat.reduceAdd, Nat.zero_add, implies_true, false_imp_iff, lt_T, List.mem_map]) hR hB ⟨by simp [vBad, h, one], rfl, rfl⟩
  · have hd := decide_eq_false h
    simp (disch := (first | decide | omega)) only [a_pstamp1, hA, hd, go_sem]
    exact leave_pure (xs := [.v (.bool (decide ((n : Int) > 1125899906842624)))]) (.inr rfl) (by simp (disch := (first | decide | omega)) only [resVs, resV, go_sem, hA, hd]) (by simp only [one, AVlt_v, AVlt_any, AVlt_sl, AVlt_ptr, AVlt_mp, AVlt_agg, AVlt_tup, AVlt_fn, RowsLt_nil, RowsLt_live, RowsLt_dead, List.mem_cons, List.not_mem_nil, List.forall_mem_cons, List.forall_mem_nil, or_false, false_or, forall_eq_or_imp, forall_eq, vs_lt, Nat.add_lt_add_iff_left, Nat.reduceLT, true_and, and_true, and_self, List.length_cons, List.length_nil, Nat.reduceAdd, Nat.zero_add, implies_true, false_imp_iff, lt_T, List.mem_map]) hR hB ⟨by simp [vBad, h, one], rfl, rfl⟩
theorem pstamp_spec (v : List Int) (hv : v.length ≤ 1000000) (b l : List Row) : ACalls Try.prog 103 [.v (.isl 1 (v.map eI))] b l (fun r b' l' => r = .v (.bool (isV v)) ∧ b' = b ∧ l' = l) := by
  refine calls_kept a_pstamp_ok rfl (by decide) ?_
  intro B g hB hR hE hA
  simp only [KArgs] at hA
  simp (disch := (first | decide | omega)) only [a_pstamp, hA, List.length_map, go_sem]
  refine ACalls.nxt (psized_gen _ a_psized_ok v.length _ _) ?_
  cases h1 : (decide (1 ≤ v.length) && decide (v.length ≤ 8)) with
  | false =>
    have hq : isV v = false := by
      unfold isV
      rw [← Bool.and_assoc, h1]; rfl
    simp (disch := (first | decide | omega)) only [hA, go_sem]
    exact leave_pure (xs := [.v (.bool false)]) (.inr rfl) (by simp (disch := (first | decide | omega)) only [resVs, resV, go_sem, hA]) (by simp only [one, AVlt_v, AVlt_any, AVlt_sl, AVlt_ptr, AVlt_mp, AVlt_agg, AVlt_tup, AVlt_fn, RowsLt_nil, RowsLt_live, RowsLt_dead, List.mem_cons, List.not_mem_nil, List.forall_mem_cons, List.forall_mem_nil, or_false, false_or, forall_eq_or_imp, forall_eq, vs_lt, Nat.add_lt_add_iff_left, Nat.reduceLT, true_and, and_true, and_self, List.length_cons, List.length_nil, Nat.reduceAdd, Nat.zero_add, implies_true, false_imp_iff, lt_T, List.mem_map]) hR hB ⟨by rw [hq]; rfl, rfl, rfl⟩
  | true =>
    have hq : isV v = !(List.range v.length).any (vBadAt v) := by
      unfold isV
      rw [← Bool.and_assoc, h1]; rfl
    simp (disch := (first | decide | omega)) only [hA, go_sem]
    refine ACalls.nxt (contains1_spec v _ [] (vBadAt v) hv _ _ (fun i hi => by unfold vBadAt; rw [getD_at hi]; exact pstamp1_spec _ _ _)) ?_
    simp (disch := (first | decide | omega)) only [hA, go_sem]
    exact leave_pure (xs := [.v (.bool (!(List.range v.length).any (vBadAt v)))]) (.inr rfl) (by simp (disch := (first | decide | omega)) only [resVs, resV, go_sem, hA]) (by simp only [one, AVlt_v, AVlt_any, AVlt_sl, AVlt_ptr, AVlt_mp, AVlt_agg, AVlt_tup, AVlt_fn, RowsLt_nil, RowsLt_live, RowsLt_dead, List.mem_cons, List.not_mem_nil, List.forall_mem_cons, List.forall_mem_nil, or_false, false_or, forall_eq_or_imp, forall_eq, vs_lt, Nat.add_lt_add_iff_left, Nat.reduceLT, true_and, and_true, and_self, List.length_cons, List.length_nil, Nat.reduceAdd, Nat.zero_add, implies_true, false_imp_iff, lt_T, List.mem_map]) hR hB ⟨by rw [hq]; rfl, rfl, rfl⟩
theorem pcompare_spec (v w : List Int) (hv : v.length ≤ 1000000) (hl : v.length = w.length) (b l : List Row) : ACalls Try.prog 104 [.v (.isl 1 (v.map eI)), .v (.isl 1 (w.map eI))] b l (fun r b' l' => r = .v (.int .i64 (cmpV v w)) ∧ b' = b ∧ l' = l) := by
  refine calls_kept a_pcompare_ok rfl (by decide) ?_
  intro B g hB hR hE hA
  simp only [KArgs] at hA
  have h0 : ∀ v w, gtB v w 0 = false := fun _ _ => rfl
  have z0 : Int.toNat 0 = 0 := rfl
  have z1 : Int.toNat 1 = 1 := rfl
  simp (disch := (first | decide | omega)) only [a_pcompare, hA, List.length_map, go_sem]
  refine loop_kept (ι := Nat) r_pcompare0 (fun i => [(9, .v (.int .i64 i))]) 1 (fun i => [.live 0 2 [[.v (.bool (gtB v w i)), .v (.bool (gtB w v i))]]])
    (fun i => i ≤ v.length) (fun i => v.length - i) 0 (Nat.zero_le _) (by (repeat (first | exact hE.mono (by omega) | refine KLt.up ?_ (by simp (disch := omega) only [AVlt_v, AVlt_any, AVlt_sl, AVlt_ptr, AVlt_mp, AVlt_agg, AVlt_tup, AVlt_fn, RowsLt_nil, RowsLt_live, RowsLt_dead, List.mem_cons, List.not_mem_nil, List.forall_mem_cons, List.forall_mem_nil, or_false, false_or, forall_eq_or_imp, forall_eq, vs_lt, Nat.add_lt_add_iff_left, Nat.reduceLT, true_and, and_true, and_self, List.length_cons, List.length_nil, Nat.reduceAdd, Nat.zero_add, implies_true, false_imp_iff, lt_T, List.mem_map])))) (by ((try simp (disch := decide) only [hA, go_sem]) <;> (repeat' (first | exact trivial | refine And.intro ?_ ?_)) <;> (first | rfl | (congr 2; omega)))) (fun e => Weak.refl _ _ _) ?_
  intro g1 hE1 hEE1 hg1 i hi
  by_cases hil : i < v.length
  · have hiw : i < w.length := by omega
    have s1 := gtB_succ (v := v) (w := w) (i := i)
    have s2 := gtB_succ (v := w) (w := v) (i := i)
    rw [getD_at hil, getD_at hiw] at s1 s2
    have r1 : ∀ x, gtB v w i = x → (x = false → decide (v[i] > w[i]) = gtB v w (i + 1)) ∧ (x = true → gtB v w (i + 1) = true) := by
      rintro x rfl
      refine ⟨fun h => by rw [s1, h]; rfl, fun h => by rw [s1, h]; rfl⟩
    have r2 : ∀ x, gtB w v i = x → (x = false → decide (w[i] > v[i]) = gtB w v (i + 1)) ∧ (x = true → gtB w v (i + 1) = true) := by
      rintro x rfl
      refine ⟨fun h => by rw [s2, h]; rfl, fun h => by rw [s2, h]; rfl⟩
    cases h1 : gtB v w i with
    | false =>
      have d1 := (r1 _ h1).1 rfl
      have d1' : decide (w[i] < v[i]) = gtB v w (i + 1) := d1
      cases h2 : gtB w v i with
      | false =>
        have d2 := (r2 _ h2).1 rfl
        have d2' : decide (v[i] < w[i]) = gtB w v (i + 1) := d2
        simp (disch := (first | decide | omega)) only [hA, hg1, eI, d1, d1', d2, d2', z0, z1, Nat.zero_mul, Nat.one_mul, setFrom, cellsOf, List.length_map, go_sem]
        refine ⟨i + 1, hil, by simp only; omega, ?_⟩
        exact Weak.kround (p := r_pcompare0) (k := 1) (by ((repeat refine (kAny_up rfl).trans ?_); exact hEE1)) (by ((try simp (disch := decide) only [hA, go_sem]) <;> (repeat' (first | exact trivial | refine And.intro ?_ ?_)) <;> (first | rfl | (congr 2; omega)))) rfl hE1 (by simp) (by simp (disch := omega) only [KOvLt, AVlt_v, AVlt_any, AVlt_sl, AVlt_ptr, AVlt_mp, AVlt_agg, AVlt_tup, AVlt_fn, RowsLt_nil, RowsLt_live, RowsLt_dead, List.mem_cons, List.not_mem_nil, List.forall_mem_cons, List.forall_mem_nil, or_false, false_or, forall_eq_or_imp, forall_eq, vs_lt, Nat.add_lt_add_iff_left, Nat.reduceLT, true_and, and_true, and_self, List.length_cons, List.length_nil, Nat.reduceAdd, Nat.zero_add, implies_true, false_imp_iff, lt_T, List.mem_map]) hR (by simp (disch := omega) only [AVlt_v, AVlt_any, AVlt_sl, AVlt_ptr, AVlt_mp, AVlt_agg, AVlt_tup, AVlt_fn, RowsLt_nil, RowsLt_live, RowsLt_dead, List.mem_cons, List.not_mem_nil, List.forall_mem_cons, List.forall_mem_nil, or_false, false_or, forall_eq_or_imp, forall_eq, vs_lt, Nat.add_lt_add_iff_left, Nat.reduceLT, true_and, and_true, and_self, List.length_cons, List.length_nil, Nat.reduceAdd, Nat.zero_add, implies_true, false_imp_iff, lt_T, List.mem_map])
      | true =>
        have d2 := (r2 _ h2).2 rfl
        simp (disch := (first | decide | omega)) only [hA, hg1, eI, d1, d1', z0, z1, Nat.zero_mul, Nat.one_mul, setFrom, cellsOf, List.length_map, go_sem]
        refine ⟨i + 1, hil, by simp only; omega, ?_⟩
        simp only [d2]
        exact Weak.kround (p := r_pcompare0) (k := 1) (by ((repeat refine (kAny_up rfl).trans ?_); exact hEE1)) (by ((try simp (disch := decide) only [hA, go_sem]) <;> (repeat' (first | exact trivial | refine And.intro ?_ ?_)) <;> (first | rfl | (congr 2; omega)))) rfl hE1 (by simp) (by simp (disch := omega) only [KOvLt, AVlt_v, AVlt_any, AVlt_sl, AVlt_ptr, AVlt_mp, AVlt_agg, AVlt_tup, AVlt_fn, RowsLt_nil, RowsLt_live, RowsLt_dead, List.mem_cons, List.not_mem_nil, List.forall_mem_cons, List.forall_mem_nil, or_false, false_or, forall_eq_or_imp, forall_eq, vs_lt, Nat.add_lt_add_iff_left, Nat.reduceLT, true_and, and_true, and_self, List.length_cons, List.length_nil, Nat.reduceAdd, Nat.zero_add, implies_true, false_imp_iff, lt_T, List.mem_map]) hR (by simp (disch := omega) only [AVlt_v, AVlt_any, AVlt_sl, AVlt_ptr, AVlt_mp, AVlt_agg, AVlt_tup, AVlt_fn, RowsLt_nil, RowsLt_live, RowsLt_dead, List.mem_cons, List.not_mem_nil, List.forall_mem_cons, List.forall_mem_nil, or_false, false_or, forall_eq_or_imp, forall_eq, vs_lt, Nat.add_lt_add_iff_left, Nat.reduceLT, true_and, and_true, and_self, List.length_cons, List.length_nil, Nat.reduceAdd, Nat.zero_add, implies_true, false_imp_iff, lt_T, List.mem_map])
    | true =>
      have d1 := (r1 _ h1).2 rfl
      cases h2 : gtB w v i with
      | false =>
        have d2 := (r2 _ h2).1 rfl
        have d2' : decide (v[i] < w[i]) = gtB w v (i + 1) := d2
        simp (disch := (first | decide | omega)) only [hA, hg1, eI, d2, d2', z0, z1, Nat.zero_mul, Nat.one_mul, setFrom, cellsOf, List.length_map, go_sem]
        refine ⟨i + 1, hil, by simp only; omega, ?_⟩
        simp only [d1]
        exact Weak.kround (p := r_pcompare0) (k := 1) (by ((repeat refine (kAny_up rfl).trans ?_); exact hEE1)) (by ((try simp (disch := decide) only [hA, go_sem]) <;> (repeat' (first | exact trivial | refine And.intro ?_ ?_)) <;> (first | rfl | (congr 2; omega)))) rfl hE1 (by simp) (by simp (disch := omega) only [KOvLt, AVlt_v, AVlt_any, AVlt_sl, AVlt_ptr, AVlt_mp, AVlt_agg, AVlt_tup, AVlt_fn, RowsLt_nil, RowsLt_live, RowsLt_dead, List.mem_cons, List.not_mem_nil, List.forall_mem_cons, List.forall_mem_nil, or_false, false_or, forall_eq_or_imp, forall_eq, vs_lt, Nat.add_lt_add_iff_left, Nat.reduceLT, true_and, and_true, and_self, List.length_cons, List.length_nil, Nat.reduceAdd, Nat.zero_add, implies_true, false_imp_iff, lt_T, List.mem_map]) hR (by simp (disch := omega) only [AVlt_v, AVlt_any, AVlt_sl, AVlt_ptr, AVlt_mp, AVlt_agg, AVlt_tup, AVlt_fn, RowsLt_nil, RowsLt_live, RowsLt_dead, List.mem_cons, List.not_mem_nil, List.forall_mem_cons, List.forall_mem_nil, or_false, false_or, forall_eq_or_imp, forall_eq, vs_lt, Nat.add_lt_add_iff_left, Nat.reduceLT, true_and, and_true, and_self, List.length_cons, List.length_nil, Nat.reduceAdd, Nat.zero_add, implies_true, false_imp_iff, lt_T, List.mem_map])
      | true =>
        have d2 := (r2 _ h2).2 rfl
        simp (disch := (first | decide | omega)) only [hA, hg1, eI, z0, z1, Nat.zero_mul, Nat.one_mul, setFrom, cellsOf, List.length_map, go_sem]
        refine ⟨i + 1, hil, by simp only; omega, ?_⟩
        simp only [d1, d2]
        exact Weak.kround (p := r_pcompare0) (k := 1) (by ((repeat refine (kAny_up rfl).trans ?_); exact hEE1)) (by ((try simp (disch := decide) only [hA, go_sem]) <;> (repeat' (first | exact trivial | refine And.intro ?_ ?_)) <;> (first | rfl | (congr 2; omega)))) rfl hE1 (by simp) (by simp (disch := omega) only [KOvLt, AVlt_v, AVlt_any, AVlt_sl, AVlt_ptr, AVlt_mp, AVlt_agg, AVlt_tup, AVlt_fn, RowsLt_nil, RowsLt_live, RowsLt_dead, List.mem_cons, List.not_mem_nil, List.forall_mem_cons, List.forall_mem_nil, or_false, false_or, forall_eq_or_imp, forall_eq, vs_lt, Nat.add_lt_add_iff_left, Nat.reduceLT, true_and, and_true, and_self, List.length_cons, List.length_nil, Nat.reduceAdd, Nat.zero_add, implies_true, false_imp_iff, lt_T, List.mem_map]) hR (by simp (disch := omega) only [AVlt_v, AVlt_any, AVlt_sl, AVlt_ptr, AVlt_mp, AVlt_agg, AVlt_tup, AVlt_fn, RowsLt_nil, RowsLt_live, RowsLt_dead, List.mem_cons, List.not_mem_nil, List.forall_mem_cons, List.forall_mem_nil, or_false, false_or, forall_eq_or_imp, forall_eq, vs_lt, Nat.add_lt_add_iff_left, Nat.reduceLT, true_and, and_true, and_self, List.length_cons, List.length_nil, Nat.reduceAdd, Nat.zero_add, implies_true, false_imp_iff, lt_T, List.mem_map])
  · obtain rfl : i = v.length := by omega
    rw [cmpV_gt hl]
    have b1 : (true == true) = true := rfl
    have b2 : (false == false) = true := rfl
    have b3 : (true == false) = false := rfl
    have b4 : (false == true) = false := rfl
    cases h1 : gtB v w v.length <;> cases h2 : gtB w v v.length
    · simp (disch := (first | decide | omega)) only [hA, hg1, b1, b2, b3, b4, List.length_map, go_sem]
      exact leave_pure (xs := [.v (.int .i64 0)]) (.inr rfl) (by simp (disch := (first | decide | omega)) only [resVs, resV, go_sem, hA, hg1]) (by simp only [one, AVlt_v, AVlt_any, AVlt_sl, AVlt_ptr, AVlt_mp, AVlt_agg, AVlt_tup, AVlt_fn, RowsLt_nil, RowsLt_live, RowsLt_dead, List.mem_cons, List.not_mem_nil, List.forall_mem_cons, List.forall_mem_nil, or_false, false_or, forall_eq_or_imp, forall_eq, vs_lt, Nat.add_lt_add_iff_left, Nat.reduceLT, true_and, and_true, and_self, List.length_cons, List.length_nil, Nat.reduceAdd, Nat.zero_add, implies_true, false_imp_iff, lt_T, List.mem_map]) hR hB ⟨rfl, rfl, rfl⟩
    · simp (disch := (first | decide | omega)) only [hA, hg1, b1, b2, b3, b4, List.length_map, go_sem]
      exact leave_pure (xs := [.v (.int .i64 (-1))]) (.inr rfl) (by simp (disch := (first | decide | omega)) only [resVs, resV, go_sem, hA, hg1]) (by simp only [one, AVlt_v, AVlt_any, AVlt_sl, AVlt_ptr, AVlt_mp, AVlt_agg, AVlt_tup, AVlt_fn, RowsLt_nil, RowsLt_live, RowsLt_dead, List.mem_cons, List.not_mem_nil, List.forall_mem_cons, List.forall_mem_nil, or_false, false_or, forall_eq_or_imp, forall_eq, vs_lt, Nat.add_lt_add_iff_left, Nat.reduceLT, true_and, and_true, and_self, List.length_cons, List.length_nil, Nat.reduceAdd, Nat.zero_add, implies_true, false_imp_iff, lt_T, List.mem_map]) hR hB ⟨rfl, rfl, rfl⟩
    · simp (disch := (first | decide | omega)) only [hA, hg1, b1, b2, b3, b4, List.length_map, go_sem]
      exact leave_pure (xs := [.v (.int .i64 1)]) (.inr rfl) (by simp (disch := (first | decide | omega)) only [resVs, resV, go_sem, hA, hg1]) (by simp only [one, AVlt_v, AVlt_any, AVlt_sl, AVlt_ptr, AVlt_mp, AVlt_agg, AVlt_tup, AVlt_fn, RowsLt_nil, RowsLt_live, RowsLt_dead, List.mem_cons, List.not_mem_nil, List.forall_mem_cons, List.forall_mem_nil, or_false, false_or, forall_eq_or_imp, forall_eq, vs_lt, Nat.add_lt_add_iff_left, Nat.reduceLT, true_and, and_true, and_self, List.length_cons, List.length_nil, Nat.reduceAdd, Nat.zero_add, implies_true, false_imp_iff, lt_T, List.mem_map]) hR hB ⟨rfl, rfl, rfl⟩
    · simp (disch := (first | decide | omega)) only [hA, hg1, b1, b2, b3, b4, List.length_map, go_sem]
      exact leave_pure (xs := [.v (.int .i64 2)]) (.inr rfl) (by simp (disch := (first | decide | omega)) only [resVs, resV, go_sem, hA, hg1]) (by simp only [one, AVlt_v, AVlt_any, AVlt_sl, AVlt_ptr, AVlt_mp, AVlt_agg, AVlt_tup, AVlt_fn, RowsLt_nil, RowsLt_live, RowsLt_dead, List.mem_cons, List.not_mem_nil, List.forall_mem_cons, List.forall_mem_nil, or_false, false_or, forall_eq_or_imp, forall_eq, vs_lt, Nat.add_lt_add_iff_left, Nat.reduceLT, true_and, and_true, and_self, List.length_cons, List.length_nil, Nat.reduceAdd, Nat.zero_add, implies_true, false_imp_iff, lt_T, List.mem_map]) hR hB ⟨rfl, rfl, rfl⟩
def pcV (v w : List Int) : Int := if bothV v w = true then cmpV v w else 0
def pcE (v w : List Int) : Int := if bothV v w = true then 0 else 1
theorem pCompare_spec (v w : List Int) (hv : v.length ≤ 1000000) (hw : w.length ≤ 1000000) (b l : List Row) : ACalls Try.prog 51 [.v (.isl 1 (v.map eI)), .v (.isl 1 (w.map eI))] b l (fun r b' l' => r = .tup [.v (.int .i64 (pcV v w)), .v (.int .i64 (pcE v w))] ∧ b' = b ∧ l' = l) := by
  refine calls_kept a_pCompare_ok rfl (by decide) ?_
  intro B g hB hR hE hA
  simp only [KArgs] at hA
  have bad : bothV v w = false → pcV v w = 0 ∧ pcE v w = 1 := fun h => by
    unfold pcV pcE; rw [h]; exact ⟨rfl, rfl⟩
  simp (disch := (first | decide | omega)) only [a_pCompare, hA, go_sem]
  refine ACalls.nxt (pstamp_spec v hv _ _) ?_
  cases h1 : isV v with
  | false =>
    have q := bad (by unfold bothV; rw [h1]; rfl)
    have q1 := q.1
    have q2 := q.2
    simp (disch := (first | decide | omega)) only [hA, go_sem]
    exact leave_pure (xs := [.v (.int .i64 0), .v (.int .i64 1)]) (.inr rfl) (by simp (disch := (first | decide | omega)) only [resVs, resV, go_sem, hA]) (by simp only [one, AVlt_v, AVlt_any, AVlt_sl, AVlt_ptr, AVlt_mp, AVlt_agg, AVlt_tup, AVlt_fn, RowsLt_nil, RowsLt_live, RowsLt_dead, List.mem_cons, List.not_mem_nil, List.forall_mem_cons, List.forall_mem_nil, or_false, false_or, forall_eq_or_imp, forall_eq, vs_lt, Nat.add_lt_add_iff_left, Nat.reduceLT, true_and, and_true, and_self, List.length_cons, List.length_nil, Nat.reduceAdd, Nat.zero_add, implies_true, false_imp_iff, lt_T, List.mem_map]) hR hB ⟨by rw [q1, q2]; rfl, rfl, rfl⟩
  | true =>
    simp (disch := (first | decide | omega)) only [hA, go_sem]
    refine ACalls.nxt (pstamp_spec w hw _ _) ?_
    cases h2 : isV w with
    | false =>
      have q := bad (by unfold bothV; rw [h1, h2]; rfl)
      have q1 := q.1
      have q2 := q.2
      simp (disch := (first | decide | omega)) only [hA, go_sem]
      exact leave_pure (xs := [.v (.int .i64 0), .v (.int .i64 1)]) (.inr rfl) (by simp (disch := (first | decide | omega)) only [resVs, resV, go_sem, hA]) (by simp only [one, AVlt_v, AVlt_any, AVlt_sl, AVlt_ptr, AVlt_mp, AVlt_agg, AVlt_tup, AVlt_fn, RowsLt_nil, RowsLt_live, RowsLt_dead, List.mem_cons, List.not_mem_nil, List.forall_mem_cons, List.forall_mem_nil, or_false, false_or, forall_eq_or_imp, forall_eq, vs_lt, Nat.add_lt_add_iff_left, Nat.reduceLT, true_and, and_true, and_self, List.length_cons, List.length_nil, Nat.reduceAdd, Nat.zero_add, implies_true, false_imp_iff, lt_T, List.mem_map]) hR hB ⟨by rw [q1, q2]; rfl, rfl, rfl⟩
    | true =>
      by_cases hl : v.length = w.length
      · have hd : ((v.length : Int) != (w.length : Int)) = false := by simp [hl]
        have hb : bothV v w = true := by unfold bothV; rw [h1, h2, decide_eq_true hl]; rfl
        have q1 : pcV v w = cmpV v w := if_pos hb
        have q2 : pcE v w = 0 := if_pos hb
        simp (disch := (first | decide | omega)) only [hA, hd, List.length_map, go_sem]
        refine ACalls.nxt (pcompare_spec v w hv hl _ _) ?_
        simp (disch := (first | decide | omega)) only [hA, go_sem]
        exact leave_pure (xs := [.v (.int .i64 (cmpV v w)), .v (.int .i64 0)]) (.inr rfl) (by simp (disch := (first | decide | omega)) only [resVs, resV, go_sem, hA]) (by simp only [one, AVlt_v, AVlt_any, AVlt_sl, AVlt_ptr, AVlt_mp, AVlt_agg, AVlt_tup, AVlt_fn, RowsLt_nil, RowsLt_live, RowsLt_dead, List.mem_cons, List.not_mem_nil, List.forall_mem_cons, List.forall_mem_nil, or_false, false_or, forall_eq_or_imp, forall_eq, vs_lt, Nat.add_lt_add_iff_left, Nat.reduceLT, true_and, and_true, and_self, List.length_cons, List.length_nil, Nat.reduceAdd, Nat.zero_add, implies_true, false_imp_iff, lt_T, List.mem_map]) hR hB ⟨by rw [q1, q2]; rfl, rfl, rfl⟩
      · have hd : ((v.length : Int) != (w.length : Int)) = true := by simp; omega
        have q := bad (by unfold bothV; rw [decide_eq_false hl]; simp)
        have q1 := q.1
        have q2 := q.2
        simp (disch := (first | decide | omega)) only [hA, hd, List.length_map, go_sem]
        exact leave_pure (xs := [.v (.int .i64 0), .v (.int .i64 1)]) (.inr rfl) (by simp (disch := (first | decide | omega)) only [resVs, resV, go_sem, hA]) (by simp only [one, AVlt_v, AVlt_any, AVlt_sl, AVlt_ptr, AVlt_mp, AVlt_agg, AVlt_tup, AVlt_fn, RowsLt_nil, RowsLt_live, RowsLt_dead, List.mem_cons, List.not_mem_nil, List.forall_mem_cons, List.forall_mem_nil, or_false, false_or, forall_eq_or_imp, forall_eq, vs_lt, Nat.add_lt_add_iff_left, Nat.reduceLT, true_and, and_true, and_self, List.length_cons, List.length_nil, Nat.reduceAdd, Nat.zero_add, implies_true, false_imp_iff, lt_T, List.mem_map]) hR hB ⟨by rw [q1, q2]; rfl, rfl, rfl⟩
theorem rStamp18_spec (k : Nat) (v : List Int) (hk : k ≤ 1000000) (hv : v.length ≤ 1000000) (b l : List Row) : ACalls Try.prog 52 [.v (.int .i64 k), .v (.isl 1 (v.map eI))] b l (fun r b' l' => r = .v (.bool (decide (v.length = k) && isV v)) ∧ b' = b ∧ l' = l) := by
  refine calls_kept a_rStamp18_ok rfl (by decide) ?_
  intro B g hB hR hE hA
  simp only [KArgs] at hA
  have hsz := fun b l => psized_gen 56 (by kernel_rfl) k b l
  simp (disch := (first | decide | omega)) only [a_rStamp18, hA, go_sem]
  refine ACalls.nxt (hsz _ _) ?_
  cases h1 : (decide (1 ≤ k) && decide (k ≤ 8)) with
  | false =>
    have hq : (decide (v.length = k) && isV v) = false := by
      by_cases hk : v.length = k
      · subst hk
        have hi : isV v = false := by unfold isV; rw [← Bool.and_assoc, h1]; rfl
        rw [hi, Bool.and_false]
      · rw [decide_eq_false hk]; rfl
    simp (disch := (first | decide | omega)) only [hA, go_sem]
    exact leave_pure (xs := [.v (.bool false)]) (.inr rfl) (by simp (disch := (first | decide | omega)) only [resVs, resV, go_sem, hA]) (by simp only [one, AVlt_v, AVlt_any, AVlt_sl, AVlt_ptr, AVlt_mp, AVlt_agg, AVlt_tup, AVlt_fn, RowsLt_nil, RowsLt_live, RowsLt_dead, List.mem_cons, List.not_mem_nil, List.forall_mem_cons, List.forall_mem_nil, or_false, false_or, forall_eq_or_imp, forall_eq, vs_lt, Nat.add_lt_add_iff_left, Nat.reduceLT, true_and, and_true, and_self, List.length_cons, List.length_nil, Nat.reduceAdd, Nat.zero_add, implies_true, false_imp_iff, lt_T, List.mem_map]) hR hB ⟨by rw [hq]; rfl, rfl, rfl⟩
  | true =>
    by_cases hk : v.length = k
    · subst hk
      have hd : ((v.length : Int) != (v.length : Int)) = false := by simp
      have hq : isV v = !(List.range v.length).any (vBadAt v) := by
        unfold isV
        rw [← Bool.and_assoc, h1]; rfl
      rw [decide_eq_true rfl, Bool.true_and]
      simp (disch := (first | decide | omega)) only [hA, hd, List.length_map, go_sem]
      refine loop_kept (ι := Nat) r_rStamp180 (fun i => [(5, .v (.int .i64 i))]) 0 (fun i => [])
        (fun i => i ≤ v.length ∧ ∀ j, j < i → vBadAt v j = false) (fun i => v.length - i) 0 ⟨Nat.zero_le _, fun j h => by omega⟩ (by (repeat (first | exact hE.mono (by omega) | refine KLt.up ?_ (by simp (disch := omega) only [AVlt_v, AVlt_any, AVlt_sl, AVlt_ptr, AVlt_mp, AVlt_agg, AVlt_tup, AVlt_fn, RowsLt_nil, RowsLt_live, RowsLt_dead, List.mem_cons, List.not_mem_nil, List.forall_mem_cons, List.forall_mem_nil, or_false, false_or, forall_eq_or_imp, forall_eq, vs_lt, Nat.add_lt_add_iff_left, Nat.reduceLT, true_and, and_true, and_self, List.length_cons, List.length_nil, Nat.reduceAdd, Nat.zero_add, implies_true, false_imp_iff, lt_T, List.mem_map])))) (by ((try simp (disch := decide) only [hA, go_sem]) <;> (repeat' (first | exact trivial | refine And.intro ?_ ?_)) <;> (first | rfl | (congr 2; omega)))) (fun e => Weak.refl _ _ _) ?_
      rintro g1 hE1 hEE1 hg1 i ⟨hi, hbef⟩
      by_cases hil : i < v.length
      · have hvb : vBadAt v i = (decide (v[i] < 0) || decide (v[i] > 1125899906842624)) := by unfold vBadAt vBad; rw [getD_at hil]
        have no : vBadAt v i = true → isV v = false := fun h => by
          have : (List.range v.length).any (vBadAt v) = true := List.any_eq_true.2 ⟨i, List.mem_range.2 hil, h⟩
          rw [hq, this]; rfl
        cases d1 : decide (v[i] < 0) with
        | true =>
          have hb : isV v = false := no (by rw [hvb, d1]; rfl)
          simp (disch := (first | decide | omega)) only [hA, hg1, eI, d1, List.length_map, go_sem]
          exact leave_pure (xs := [.v (.bool false)]) (.inr rfl) (by simp (disch := (first | decide | omega)) only [resVs, resV, go_sem, hA, hg1]) (by simp only [one, AVlt_v, AVlt_any, AVlt_sl, AVlt_ptr, AVlt_mp, AVlt_agg, AVlt_tup, AVlt_fn, RowsLt_nil, RowsLt_live, RowsLt_dead, List.mem_cons, List.not_mem_nil, List.forall_mem_cons, List.forall_mem_nil, or_false, false_or, forall_eq_or_imp, forall_eq, vs_lt, Nat.add_lt_add_iff_left, Nat.reduceLT, true_and, and_true, and_self, List.length_cons, List.length_nil, Nat.reduceAdd, Nat.zero_add, implies_true, false_imp_iff, lt_T, List.mem_map]) hR hB ⟨by rw [hb]; rfl, rfl, rfl⟩
        | false =>
          cases d2 : decide (v[i] > 1125899906842624) with
          | true =>
            have d2' : decide ((1125899906842624 : Int) < v[i]) = true := d2
            have hb : isV v = false := no (by rw [hvb, d1, d2]; rfl)
            simp (disch := (first | decide | omega)) only [hA, hg1, eI, d1, d2, d2', List.length_map, go_sem]
            exact leave_pure (xs := [.v (.bool false)]) (.inr rfl) (by simp (disch := (first | decide | omega)) only [resVs, resV, go_sem, hA, hg1]) (by simp only [one, AVlt_v, AVlt_any, AVlt_sl, AVlt_ptr, AVlt_mp, AVlt_agg, AVlt_tup, AVlt_fn, RowsLt_nil, RowsLt_live, RowsLt_dead, List.mem_cons, List.not_mem_nil, List.forall_mem_cons, List.forall_mem_nil, or_false, false_or, forall_eq_or_imp, forall_eq, vs_lt, Nat.add_lt_add_iff_left, Nat.reduceLT, true_and, and_true, and_self, List.length_cons, List.length_nil, Nat.reduceAdd, Nat.zero_add, implies_true, false_imp_iff, lt_T, List.mem_map]) hR hB ⟨by rw [hb]; rfl, rfl, rfl⟩
          | false =>
            have d2' : decide ((1125899906842624 : Int) < v[i]) = false := d2
            simp (disch := (first | decide | omega)) only [hA, hg1, eI, d1, d2, d2', List.length_map, go_sem]
            refine ⟨i + 1, ⟨hil, fun j hj => ?_⟩, by simp only; omega, ?_⟩
            · by_cases hji : j = i
              · subst hji; rw [hvb, d1, d2]; rfl
              · exact hbef j (by omega)
            · exact Weak.kround (p := r_rStamp180) (k := 0) (by ((repeat refine (kAny_up rfl).trans ?_); exact hEE1)) (by ((try simp (disch := decide) only [hA, go_sem]) <;> (repeat' (first | exact trivial | refine And.intro ?_ ?_)) <;> (first | rfl | (congr 2; omega)))) rfl hE1 (by simp) (by simp (disch := omega) only [KOvLt, AVlt_v, AVlt_any, AVlt_sl, AVlt_ptr, AVlt_mp, AVlt_agg, AVlt_tup, AVlt_fn, RowsLt_nil, RowsLt_live, RowsLt_dead, List.mem_cons, List.not_mem_nil, List.forall_mem_cons, List.forall_mem_nil, or_false, false_or, forall_eq_or_imp, forall_eq, vs_lt, Nat.add_lt_add_iff_left, Nat.reduceLT, true_and, and_true, and_self, List.length_cons, List.length_nil, Nat.reduceAdd, Nat.zero_add, implies_true, false_imp_iff, lt_T, List.mem_map]) hR (by simp (disch := omega) only [AVlt_v, AVlt_any, AVlt_sl, AVlt_ptr, AVlt_mp, AVlt_agg, AVlt_tup, AVlt_fn, RowsLt_nil, RowsLt_live, RowsLt_dead, List.mem_cons, List.not_mem_nil, List.forall_mem_cons, List.forall_mem_nil, or_false, false_or, forall_eq_or_imp, forall_eq, vs_lt, Nat.add_lt_add_iff_left, Nat.reduceLT, true_and, and_true, and_self, List.length_cons, List.length_nil, Nat.reduceAdd, Nat.zero_add, implies_true, false_imp_iff, lt_T, List.mem_map])
      · have hb : isV v = true := by
          have : (List.range v.length).any (vBadAt v) = false := by
            rw [List.any_eq_false]; intro c hc; rw [hbef c (by have := List.mem_range.1 hc; omega)]; decide
          rw [hq, this]; rfl
        simp (disch := (first | decide | omega)) only [hA, hg1, go_sem]
        exact leave_pure (xs := [.v (.bool true)]) (.inr rfl) (by simp (disch := (first | decide | omega)) only [resVs, resV, go_sem, hA, hg1]) (by simp only [one, AVlt_v, AVlt_any, AVlt_sl, AVlt_ptr, AVlt_mp, AVlt_agg, AVlt_tup, AVlt_fn, RowsLt_nil, RowsLt_live, RowsLt_dead, List.mem_cons, List.not_mem_nil, List.forall_mem_cons, List.forall_mem_nil, or_false, false_or, forall_eq_or_imp, forall_eq, vs_lt, Nat.add_lt_add_iff_left, Nat.reduceLT, true_and, and_true, and_self, List.length_cons, List.length_nil, Nat.reduceAdd, Nat.zero_add, implies_true, false_imp_iff, lt_T, List.mem_map]) hR hB ⟨by rw [hb]; rfl, rfl, rfl⟩
    · have hd : ((v.length : Int) != (k : Int)) = true := by simp; omega
      rw [decide_eq_false hk, Bool.false_and]
      simp (disch := (first | decide | omega)) only [hA, hd, List.length_map, go_sem]
      exact leave_pure (xs := [.v (.bool false)]) (.inr rfl) (by simp (disch := (first | decide | omega)) only [resVs, resV, go_sem, hA]) (by simp only [one, AVlt_v, AVlt_any, AVlt_sl, AVlt_ptr, AVlt_mp, AVlt_agg, AVlt_tup, AVlt_fn, RowsLt_nil, RowsLt_live, RowsLt_dead, List.mem_cons, List.not_mem_nil, List.forall_mem_cons, List.forall_mem_nil, or_false, false_or, forall_eq_or_imp, forall_eq, vs_lt, Nat.add_lt_add_iff_left, Nat.reduceLT, true_and, and_true, and_self, List.length_cons, List.length_nil, Nat.reduceAdd, Nat.zero_add, implies_true, false_imp_iff, lt_T, List.mem_map]) hR hB ⟨rfl, rfl, rfl⟩
theorem rCompare18_spec (v w : List Int) (hv : v.length ≤ 1000000) (hl : v.length = w.length) (b l : List Row) : ACalls Try.prog 53 [.v (.isl 1 (v.map eI)), .v (.isl 1 (w.map eI))] b l (fun r b' l' => r = .v (.int .i64 (cmpV v w)) ∧ b' = b ∧ l' = l) := by
  refine calls_kept a_rCompare18_ok rfl (by decide) ?_
  intro B g hB hR hE hA
  simp only [KArgs] at hA
  have h0 : ∀ v w, gtB v w 0 = false := fun _ _ => rfl
  simp (disch := (first | decide | omega)) only [a_rCompare18, hA, go_sem]
  refine loop_kept (ι := Nat) r_rCompare180 (fun i => [(7, .v (.int .i64 i)), (5, .v (.bool (gtB w v i))), (6, .v (.bool (gtB v w i)))]) 0 (fun i => [])
    (fun i => i ≤ v.length) (fun i => v.length - i) 0 (Nat.zero_le _) (by (repeat (first | exact hE.mono (by omega) | refine KLt.up ?_ (by simp (disch := omega) only [AVlt_v, AVlt_any, AVlt_sl, AVlt_ptr, AVlt_mp, AVlt_agg, AVlt_tup, AVlt_fn, RowsLt_nil, RowsLt_live, RowsLt_dead, List.mem_cons, List.not_mem_nil, List.forall_mem_cons, List.forall_mem_nil, or_false, false_or, forall_eq_or_imp, forall_eq, vs_lt, Nat.add_lt_add_iff_left, Nat.reduceLT, true_and, and_true, and_self, List.length_cons, List.length_nil, Nat.reduceAdd, Nat.zero_add, implies_true, false_imp_iff, lt_T, List.mem_map])))) (by ((try simp (disch := decide) only [hA, h0, go_sem]) <;> (repeat' (first | exact trivial | refine And.intro ?_ ?_)) <;> (first | rfl | (congr 2; omega)))) (fun e => Weak.refl _ _ _) ?_
  intro g1 hE1 hEE1 hg1 i hi
  by_cases hil : i < v.length
  · have hiw : i < w.length := by omega
    have s1 := gtB_succ (v := v) (w := w) (i := i)
    have s2 := gtB_succ (v := w) (w := v) (i := i)
    rw [getD_at hil, getD_at hiw] at s1 s2
    cases h1 : gtB v w i <;> cases h2 : gtB w v i
    · rw [h1] at s1
      rw [h2] at s2
      simp only [Bool.false_or, Bool.true_or] at s1 s2
      have d1 : decide (v[i] > w[i]) = gtB v w (i + 1) := s1.symm
      have d1' : decide (w[i] < v[i]) = gtB v w (i + 1) := s1.symm
      have d2 : decide (v[i] < w[i]) = gtB w v (i + 1) := s2.symm
      simp (disch := (first | decide | omega)) only [hA, hg1, eI, h1, h2, d1, d1', d2, List.length_map, go_sem]
      refine ⟨i + 1, hil, by simp only; omega, ?_⟩
      exact Weak.kround (p := r_rCompare180) (k := 0) (by ((repeat refine (kAny_up rfl).trans ?_); exact hEE1)) (by ((try simp (disch := decide) only [hA, d1, d1', d2, go_sem]) <;> (repeat' (first | exact trivial | refine And.intro ?_ ?_)) <;> (first | rfl | (congr 2; omega)))) rfl hE1 (by simp) (by simp (disch := omega) only [KOvLt, AVlt_v, AVlt_any, AVlt_sl, AVlt_ptr, AVlt_mp, AVlt_agg, AVlt_tup, AVlt_fn, RowsLt_nil, RowsLt_live, RowsLt_dead, List.mem_cons, List.not_mem_nil, List.forall_mem_cons, List.forall_mem_nil, or_false, false_or, forall_eq_or_imp, forall_eq, vs_lt, Nat.add_lt_add_iff_left, Nat.reduceLT, true_and, and_true, and_self, List.length_cons, List.length_nil, Nat.reduceAdd, Nat.zero_add, implies_true, false_imp_iff, lt_T, List.mem_map]) hR (by simp (disch := omega) only [AVlt_v, AVlt_any, AVlt_sl, AVlt_ptr, AVlt_mp, AVlt_agg, AVlt_tup, AVlt_fn, RowsLt_nil, RowsLt_live, RowsLt_dead, List.mem_cons, List.not_mem_nil, List.forall_mem_cons, List.forall_mem_nil, or_false, false_or, forall_eq_or_imp, forall_eq, vs_lt, Nat.add_lt_add_iff_left, Nat.reduceLT, true_and, and_true, and_self, List.length_cons, List.length_nil, Nat.reduceAdd, Nat.zero_add, implies_true, false_imp_iff, lt_T, List.mem_map])
    · rw [h1] at s1
      rw [h2] at s2
      simp only [Bool.false_or, Bool.true_or] at s1 s2
      have d1 : decide (v[i] > w[i]) = gtB v w (i + 1) := s1.symm
      have d1' : decide (w[i] < v[i]) = gtB v w (i + 1) := s1.symm
      simp (disch := (first | decide | omega)) only [hA, hg1, eI, h1, h2, d1, d1', List.length_map, go_sem]
      refine ⟨i + 1, hil, by simp only; omega, ?_⟩
      exact Weak.kround (p := r_rCompare180) (k := 0) (by ((repeat refine (kAny_up rfl).trans ?_); exact hEE1)) (by ((try simp (disch := decide) only [hA, d1, d1', s2, go_sem]) <;> (repeat' (first | exact trivial | refine And.intro ?_ ?_)) <;> (first | rfl | (congr 2; omega)))) rfl hE1 (by simp) (by simp (disch := omega) only [KOvLt, AVlt_v, AVlt_any, AVlt_sl, AVlt_ptr, AVlt_mp, AVlt_agg, AVlt_tup, AVlt_fn, RowsLt_nil, RowsLt_live, RowsLt_dead, List.mem_cons, List.not_mem_nil, List.forall_mem_cons, List.forall_mem_nil, or_false, false_or, forall_eq_or_imp, forall_eq, vs_lt, Nat.add_lt_add_iff_left, Nat.reduceLT, true_and, and_true, and_self, List.length_cons, List.length_nil, Nat.reduceAdd, Nat.zero_add, implies_true, false_imp_iff, lt_T, List.mem_map]) hR (by simp (disch := omega) only [AVlt_v, AVlt_any, AVlt_sl, AVlt_ptr, AVlt_mp, AVlt_agg, AVlt_tup, AVlt_fn, RowsLt_nil, RowsLt_live, RowsLt_dead, List.mem_cons, List.not_mem_nil, List.forall_mem_cons, List.forall_mem_nil, or_false, false_or, forall_eq_or_imp, forall_eq, vs_lt, Nat.add_lt_add_iff_left, Nat.reduceLT, true_and, and_true, and_self, List.length_cons, List.length_nil, Nat.reduceAdd, Nat.zero_add, implies_true, false_imp_iff, lt_T, List.mem_map])
    · rw [h1] at s1
      rw [h2] at s2
      simp only [Bool.false_or, Bool.true_or] at s1 s2
      have d2 : decide (v[i] < w[i]) = gtB w v (i + 1) := s2.symm
      simp (disch := (first | decide | omega)) only [hA, hg1, eI, h1, h2, d2, List.length_map, go_sem]
      refine ⟨i + 1, hil, by simp only; omega, ?_⟩
      exact Weak.kround (p := r_rCompare180) (k := 0) (by ((repeat refine (kAny_up rfl).trans ?_); exact hEE1)) (by ((try simp (disch := decide) only [hA, s1, d2, go_sem]) <;> (repeat' (first | exact trivial | refine And.intro ?_ ?_)) <;> (first | rfl | (congr 2; omega)))) rfl hE1 (by simp) (by simp (disch := omega) only [KOvLt, AVlt_v, AVlt_any, AVlt_sl, AVlt_ptr, AVlt_mp, AVlt_agg, AVlt_tup, AVlt_fn, RowsLt_nil, RowsLt_live, RowsLt_dead, List.mem_cons, List.not_mem_nil, List.forall_mem_cons, List.forall_mem_nil, or_false, false_or, forall_eq_or_imp, forall_eq, vs_lt, Nat.add_lt_add_iff_left, Nat.reduceLT, true_and, and_true, and_self, List.length_cons, List.length_nil, Nat.reduceAdd, Nat.zero_add, implies_true, false_imp_iff, lt_T, List.mem_map]) hR (by simp (disch := omega) only [AVlt_v, AVlt_any, AVlt_sl, AVlt_ptr, AVlt_mp, AVlt_agg, AVlt_tup, AVlt_fn, RowsLt_nil, RowsLt_live, RowsLt_dead, List.mem_cons, List.not_mem_nil, List.forall_mem_cons, List.forall_mem_nil, or_false, false_or, forall_eq_or_imp, forall_eq, vs_lt, Nat.add_lt_add_iff_left, Nat.reduceLT, true_and, and_true, and_self, List.length_cons, List.length_nil, Nat.reduceAdd, Nat.zero_add, implies_true, false_imp_iff, lt_T, List.mem_map])
    · rw [h1] at s1
      rw [h2] at s2
      simp only [Bool.false_or, Bool.true_or] at s1 s2
      simp (disch := (first | decide | omega)) only [hA, hg1, eI, h1, h2, List.length_map, go_sem]
      refine ⟨i + 1, hil, by simp only; omega, ?_⟩
      exact Weak.kround (p := r_rCompare180) (k := 0) (by ((repeat refine (kAny_up rfl).trans ?_); exact hEE1)) (by ((try simp (disch := decide) only [hA, s1, s2, go_sem]) <;> (repeat' (first | exact trivial | refine And.intro ?_ ?_)) <;> (first | rfl | (congr 2; omega)))) rfl hE1 (by simp) (by simp (disch := omega) only [KOvLt, AVlt_v, AVlt_any, AVlt_sl, AVlt_ptr, AVlt_mp, AVlt_agg, AVlt_tup, AVlt_fn, RowsLt_nil, RowsLt_live, RowsLt_dead, List.mem_cons, List.not_mem_nil, List.forall_mem_cons, List.forall_mem_nil, or_false, false_or, forall_eq_or_imp, forall_eq, vs_lt, Nat.add_lt_add_iff_left, Nat.reduceLT, true_and, and_true, and_self, List.length_cons, List.length_nil, Nat.reduceAdd, Nat.zero_add, implies_true, false_imp_iff, lt_T, List.mem_map]) hR (by simp (disch := omega) only [AVlt_v, AVlt_any, AVlt_sl, AVlt_ptr, AVlt_mp, AVlt_agg, AVlt_tup, AVlt_fn, RowsLt_nil, RowsLt_live, RowsLt_dead, List.mem_cons, List.not_mem_nil, List.forall_mem_cons, List.forall_mem_nil, or_false, false_or, forall_eq_or_imp, forall_eq, vs_lt, Nat.add_lt_add_iff_left, Nat.reduceLT, true_and, and_true, and_self, List.length_cons, List.length_nil, Nat.reduceAdd, Nat.zero_add, implies_true, false_imp_iff, lt_T, List.mem_map])
  · obtain rfl : i = v.length := by omega
    rw [cmpV_gt hl]
    cases h1 : gtB v w v.length <;> cases h2 : gtB w v v.length
    · simp (disch := (first | decide | omega)) only [hA, hg1, h1, h2, List.length_map, go_sem]
      exact leave_pure (xs := [.v (.int .i64 0)]) (.inr rfl) (by simp (disch := (first | decide | omega)) only [resVs, resV, go_sem, hA, hg1]) (by simp only [one, AVlt_v, AVlt_any, AVlt_sl, AVlt_ptr, AVlt_mp, AVlt_agg, AVlt_tup, AVlt_fn, RowsLt_nil, RowsLt_live, RowsLt_dead, List.mem_cons, List.not_mem_nil, List.forall_mem_cons, List.forall_mem_nil, or_false, false_or, forall_eq_or_imp, forall_eq, vs_lt, Nat.add_lt_add_iff_left, Nat.reduceLT, true_and, and_true, and_self, List.length_cons, List.length_nil, Nat.reduceAdd, Nat.zero_add, implies_true, false_imp_iff, lt_T, List.mem_map]) hR hB ⟨rfl, rfl, rfl⟩
    · simp (disch := (first | decide | omega)) only [hA, hg1, h1, h2, List.length_map, go_sem]
      exact leave_pure (xs := [.v (.int .i64 (-1))]) (.inr rfl) (by simp (disch := (first | decide | omega)) only [resVs, resV, go_sem, hA, hg1]) (by simp only [one, AVlt_v, AVlt_any, AVlt_sl, AVlt_ptr, AVlt_mp, AVlt_agg, AVlt_tup, AVlt_fn, RowsLt_nil, RowsLt_live, RowsLt_dead, List.mem_cons, List.not_mem_nil, List.forall_mem_cons, List.forall_mem_nil, or_false, false_or, forall_eq_or_imp, forall_eq, vs_lt, Nat.add_lt_add_iff_left, Nat.reduceLT, true_and, and_true, and_self, List.length_cons, List.length_nil, Nat.reduceAdd, Nat.zero_add, implies_true, false_imp_iff, lt_T, List.mem_map]) hR hB ⟨rfl, rfl, rfl⟩
    · simp (disch := (first | decide | omega)) only [hA, hg1, h1, h2, List.length_map, go_sem]
      exact leave_pure (xs := [.v (.int .i64 1)]) (.inr rfl) (by simp (disch := (first | decide | omega)) only [resVs, resV, go_sem, hA, hg1]) (by simp only [one, AVlt_v, AVlt_any, AVlt_sl, AVlt_ptr, AVlt_mp, AVlt_agg, AVlt_tup, AVlt_fn, RowsLt_nil, RowsLt_live, RowsLt_dead, List.mem_cons, List.not_mem_nil, List.forall_mem_cons, List.forall_mem_nil, or_false, false_or, forall_eq_or_imp, forall_eq, vs_lt, Nat.add_lt_add_iff_left, Nat.reduceLT, true_and, and_true, and_self, List.length_cons, List.length_nil, Nat.reduceAdd, Nat.zero_add, implies_true, false_imp_iff, lt_T, List.mem_map]) hR hB ⟨rfl, rfl, rfl⟩
    · simp (disch := (first | decide | omega)) only [hA, hg1, h1, h2, List.length_map, go_sem]
      exact leave_pure (xs := [.v (.int .i64 2)]) (.inr rfl) (by simp (disch := (first | decide | omega)) only [resVs, resV, go_sem, hA, hg1]) (by simp only [one, AVlt_v, AVlt_any, AVlt_sl, AVlt_ptr, AVlt_mp, AVlt_agg, AVlt_tup, AVlt_fn, RowsLt_nil, RowsLt_live, RowsLt_dead, List.mem_cons, List.not_mem_nil, List.forall_mem_cons, List.forall_mem_nil, or_false, false_or, forall_eq_or_imp, forall_eq, vs_lt, Nat.add_lt_add_iff_left, Nat.reduceLT, true_and, and_true, and_self, List.length_cons, List.length_nil, Nat.reduceAdd, Nat.zero_add, implies_true, false_imp_iff, lt_T, List.mem_map]) hR hB ⟨rfl, rfl, rfl⟩
theorem cmpV_opp (v w : List Int) : (cmpV v w = 2 ∧ cmpV w v = 2) ∨ (cmpV v w = 0 ∧ cmpV w v = 0) ∨ (cmpV v w = 1 ∧ cmpV w v = -1) ∨ (cmpV v w = -1 ∧ cmpV w v = 1) := by
  unfold cmpV
  cases leqV v w <;> cases leqV w v <;> simp
set_option maxHeartbeats 4000000 in
theorem plausibleCompares_run (v w : List Int) (hvm : v.length ≤ maxLen) (hwm : w.length ≤ maxLen) (b l : List Row) :
    ACalls Try.prog 8 [.v (.isl 1 (v.map eI)), .v (.isl 1 (w.map eI))] b l (fun r b' l' => r = .v (.bool true) ∧ b' = b ∧ l' = l) := by
  refine calls_kept a_ComparesL_ok rfl (by decide) ?_
  intro B g hB hR hE hA
  simp only [KArgs] at hA
  have hn0 : ((0 : Int) != 0) = false := rfl
  have hnn : ∀ n : Int, (n != n) = false := fun n => by simp
  have hee : ∀ n : Int, (n == n) = true := fun n => by simp
  simp (disch := decide) only [a_ComparesL, hA, go_sem]
  refine ACalls.nxt (awake18_spec _ _) ?_
  simp (disch := decide) only [hA, List.length_map, go_sem]
  by_cases h1 : 20 < v.length
  · have hd : decide ((v.length : Int) > 20) = true := decide_eq_true (by omega)
    have hd' : decide ((20 : Int) < (v.length : Int)) = true := hd
    simp (disch := decide) only [hA, hd, hd', List.length_map, go_sem]
    refine ACalls.nxt (awake18_spec _ _) ?_
    simp (disch := decide) only [hA, go_sem]
    exact leave_pure (xs := [.v (.bool true)]) (.inr rfl) (by simp (disch := (first | decide | omega)) only [resVs, resV, go_sem, hA]) (by simp only [one, AVlt_v, AVlt_any, AVlt_sl, AVlt_ptr, AVlt_mp, AVlt_agg, AVlt_tup, AVlt_fn, RowsLt_nil, RowsLt_live, RowsLt_dead, List.mem_cons, List.not_mem_nil, List.forall_mem_cons, List.forall_mem_nil, or_false, false_or, forall_eq_or_imp, forall_eq, vs_lt, Nat.add_lt_add_iff_left, Nat.reduceLT, true_and, and_true, and_self, List.length_cons, List.length_nil, Nat.reduceAdd, Nat.zero_add, implies_true, false_imp_iff, lt_T, List.mem_map]) hR hB ⟨rfl, rfl, rfl⟩
  have hd : decide ((v.length : Int) > 20) = false := decide_eq_false (by omega)
  have hd' : decide ((20 : Int) < (v.length : Int)) = false := hd
  by_cases h2 : 20 < w.length
  · have he : decide ((w.length : Int) > 20) = true := decide_eq_true (by omega)
    have he' : decide ((20 : Int) < (w.length : Int)) = true := he
    simp (disch := decide) only [hA, hd, hd', he, he', List.length_map, go_sem]
    refine ACalls.nxt (awake18_spec _ _) ?_
    simp (disch := decide) only [hA, go_sem]
    exact leave_pure (xs := [.v (.bool true)]) (.inr rfl) (by simp (disch := (first | decide | omega)) only [resVs, resV, go_sem, hA]) (by simp only [one, AVlt_v, AVlt_any, AVlt_sl, AVlt_ptr, AVlt_mp, AVlt_agg, AVlt_tup, AVlt_fn, RowsLt_nil, RowsLt_live, RowsLt_dead, List.mem_cons, List.not_mem_nil, List.forall_mem_cons, List.forall_mem_nil, or_false, false_or, forall_eq_or_imp, forall_eq, vs_lt, Nat.add_lt_add_iff_left, Nat.reduceLT, true_and, and_true, and_self, List.length_cons, List.length_nil, Nat.reduceAdd, Nat.zero_add, implies_true, false_imp_iff, lt_T, List.mem_map]) hR hB ⟨rfl, rfl, rfl⟩
  have he : decide ((w.length : Int) > 20) = false := decide_eq_false (by omega)
  have he' : decide ((20 : Int) < (w.length : Int)) = false := he
  have hvl : v.length ≤ 1000000 := by omega
  have hwl : w.length ≤ 1000000 := by omega
  have c1 := fun b l => pCompare_spec v w hvl hwl b l
  have c2 := fun b l => pCompare_spec w v hwl hvl b l
  have s1 := fun b l => rStamp18_spec v.length v hvl hvl b l
  have s2 := fun b l => rStamp18_spec w.length w hwl hwl b l
  simp only [decide_true, Bool.true_and] at s1 s2
  have bad : bothV v w = false → bothV w v = false → pcV v w = 0 ∧ pcE v w = 1 ∧ pcV w v = 0 ∧ pcE w v = 1 := fun h k => by
    unfold pcV pcE; rw [h, k]; exact ⟨rfl, rfl, rfl, rfl⟩
  by_cases hl : v.length = w.length
  case neg =>
    have hlb : ((v.length : Int) != (w.length : Int)) = true := by simp; omega
    have q := bad (by unfold bothV; rw [decide_eq_false hl]; simp) (by unfold bothV; rw [decide_eq_false (fun h => hl h.symm)]; simp)
    have q1 := q.1
    have q2 := q.2.1
    have q3 := q.2.2.1
    have q4 := q.2.2.2
    rw [q1, q2] at c1
    rw [q3, q4] at c2
    simp (disch := decide) only [hA, hd, hd', he, he', List.length_map, go_sem]
    refine ACalls.nxt (c1 _ _) ?_
    simp (disch := decide) only [hA, go_sem]
    refine ACalls.nxt (c2 _ _) ?_
    simp (disch := decide) only [hA, hlb, hee, List.length_map, go_sem]
    exact leave_pure (xs := [.v (.bool true)]) (.inr rfl) (by simp (disch := (first | decide | omega)) only [resVs, resV, go_sem, hA]) (by simp only [one, AVlt_v, AVlt_any, AVlt_sl, AVlt_ptr, AVlt_mp, AVlt_agg, AVlt_tup, AVlt_fn, RowsLt_nil, RowsLt_live, RowsLt_dead, List.mem_cons, List.not_mem_nil, List.forall_mem_cons, List.forall_mem_nil, or_false, false_or, forall_eq_or_imp, forall_eq, vs_lt, Nat.add_lt_add_iff_left, Nat.reduceLT, true_and, and_true, and_self, List.length_cons, List.length_nil, Nat.reduceAdd, Nat.zero_add, implies_true, false_imp_iff, lt_T, List.mem_map]) hR hB ⟨rfl, rfl, rfl⟩
  have hlb : ((v.length : Int) != (w.length : Int)) = false := by simp [hl]
  cases hv : isV v with
  | false =>
    have q := bad (by unfold bothV; rw [hv]; rfl) (by unfold bothV; rw [hv]; simp)
    have q1 := q.1
    have q2 := q.2.1
    have q3 := q.2.2.1
    have q4 := q.2.2.2
    rw [q1, q2] at c1
    rw [q3, q4] at c2
    rw [hv] at s1
    simp (disch := decide) only [hA, hd, hd', he, he', List.length_map, go_sem]
    refine ACalls.nxt (c1 _ _) ?_
    simp (disch := decide) only [hA, go_sem]
    refine ACalls.nxt (c2 _ _) ?_
    simp (disch := decide) only [hA, hlb, hee, List.length_map, go_sem]
    refine ACalls.nxt (s1 _ _) ?_
    simp (disch := decide) only [hA, hlb, hee, List.length_map, go_sem]
    exact leave_pure (xs := [.v (.bool true)]) (.inr rfl) (by simp (disch := (first | decide | omega)) only [resVs, resV, go_sem, hA]) (by simp only [one, AVlt_v, AVlt_any, AVlt_sl, AVlt_ptr, AVlt_mp, AVlt_agg, AVlt_tup, AVlt_fn, RowsLt_nil, RowsLt_live, RowsLt_dead, List.mem_cons, List.not_mem_nil, List.forall_mem_cons, List.forall_mem_nil, or_false, false_or, forall_eq_or_imp, forall_eq, vs_lt, Nat.add_lt_add_iff_left, Nat.reduceLT, true_and, and_true, and_self, List.length_cons, List.length_nil, Nat.reduceAdd, Nat.zero_add, implies_true, false_imp_iff, lt_T, List.mem_map]) hR hB ⟨rfl, rfl, rfl⟩
  | true =>
    rw [hv] at s1
    cases hw : isV w with
    | false =>
      have q := bad (by unfold bothV; rw [hw]; simp) (by unfold bothV; rw [hw]; rfl)
      have q1 := q.1
      have q2 := q.2.1
      have q3 := q.2.2.1
      have q4 := q.2.2.2
      rw [q1, q2] at c1
      rw [q3, q4] at c2
      rw [hw] at s2
      simp (disch := decide) only [hA, hd, hd', he, he', List.length_map, go_sem]
      refine ACalls.nxt (c1 _ _) ?_
      simp (disch := decide) only [hA, go_sem]
      refine ACalls.nxt (c2 _ _) ?_
      simp (disch := decide) only [hA, hlb, hee, List.length_map, go_sem]
      refine ACalls.nxt (s1 _ _) ?_
      simp (disch := decide) only [hA, hlb, hee, List.length_map, go_sem]
      refine ACalls.nxt (s2 _ _) ?_
      simp (disch := decide) only [hA, hlb, hee, List.length_map, go_sem]
      exact leave_pure (xs := [.v (.bool true)]) (.inr rfl) (by simp (disch := (first | decide | omega)) only [resVs, resV, go_sem, hA]) (by simp only [one, AVlt_v, AVlt_any, AVlt_sl, AVlt_ptr, AVlt_mp, AVlt_agg, AVlt_tup, AVlt_fn, RowsLt_nil, RowsLt_live, RowsLt_dead, List.mem_cons, List.not_mem_nil, List.forall_mem_cons, List.forall_mem_nil, or_false, false_or, forall_eq_or_imp, forall_eq, vs_lt, Nat.add_lt_add_iff_left, Nat.reduceLT, true_and, and_true, and_self, List.length_cons, List.length_nil, Nat.reduceAdd, Nat.zero_add, implies_true, false_imp_iff, lt_T, List.mem_map]) hR hB ⟨rfl, rfl, rfl⟩
    | true =>
      rw [hw] at s2
      have hb1 : bothV v w = true := by unfold bothV; rw [hv, hw, decide_eq_true hl]; rfl
      have hb2 : bothV w v = true := by unfold bothV; rw [hv, hw, decide_eq_true hl.symm]; rfl
      have q1 : pcV v w = cmpV v w := if_pos hb1
      have q2 : pcE v w = 0 := if_pos hb1
      have q3 : pcV w v = cmpV w v := if_pos hb2
      have q4 : pcE w v = 0 := if_pos hb2
      rw [q1, q2] at c1
      rw [q3, q4] at c2
      have c3 := fun b l => rCompare18_spec v w hvl hl b l
      have m1 : IntKind.i64.wrap (-(1 : Int)) = -1 := by rw [IntKind.wrap_i64]; omega
      have m2 : IntKind.i64.wrap (-(-1 : Int)) = 1 := by rw [IntKind.wrap_i64]; omega
      have m3 : IntKind.i64.wrap (-(0 : Int)) = 0 := by rw [IntKind.wrap_i64]; omega
      have k1 : ((0 : Int) == 0 - 0) = true := rfl
      have k2 : ((-1 : Int) == 0 - 1) = true := rfl
      have k3 : ((1 : Int) == 0 - -1) = true := rfl
      have n1 : ((0 : Int) == 2) = false := rfl
      have n2 : ((1 : Int) == 2) = false := rfl
      have n3 : ((-1 : Int) == 2) = false := rfl
      have n4 : ((0 : Int) != 2) = true := rfl
      have n5 : ((1 : Int) != 2) = true := rfl
      have n6 : ((-1 : Int) != 2) = true := rfl
      rcases cmpV_opp v w with ⟨o1, o2⟩ | ⟨o1, o2⟩ | ⟨o1, o2⟩ | ⟨o1, o2⟩
      all_goals
        rw [o1] at c1 c3
        rw [o2] at c2
        simp (disch := decide) only [hA, hd, hd', he, he', List.length_map, go_sem]
        refine ACalls.nxt (c1 _ _) ?_
        simp (disch := decide) only [hA, go_sem]
        refine ACalls.nxt (c2 _ _) ?_
        simp (disch := decide) only [hA, hlb, hee, List.length_map, go_sem]
        refine ACalls.nxt (s1 _ _) ?_
        simp (disch := decide) only [hA, hlb, hee, List.length_map, go_sem]
        refine ACalls.nxt (s2 _ _) ?_
        simp (disch := decide) only [hA, hlb, hee, List.length_map, go_sem]
        refine ACalls.nxt (c3 _ _) ?_
        simp (disch := decide) only [hA, hn0, hnn, hee, m1, m2, m3, n1, n2, n3, n4, n5, n6, k1, k2, k3, go_sem]
        exact leave_pure (xs := [.v (.bool true)]) (.inr rfl) (by simp (disch := (first | decide | omega)) only [resVs, resV, go_sem, hA, k1, k2, k3]) (by simp only [one, AVlt_v, AVlt_any, AVlt_sl, AVlt_ptr, AVlt_mp, AVlt_agg, AVlt_tup, AVlt_fn, RowsLt_nil, RowsLt_live, RowsLt_dead, List.mem_cons, List.not_mem_nil, List.forall_mem_cons, List.forall_mem_nil, or_false, false_or, forall_eq_or_imp, forall_eq, vs_lt, Nat.add_lt_add_iff_left, Nat.reduceLT, true_and, and_true, and_self, List.length_cons, List.length_nil, Nat.reduceAdd, Nat.zero_add, implies_true, false_imp_iff, lt_T, List.mem_map]) hR hB ⟨rfl, rfl, rfl⟩
end Go.Proofs.Ytnnnccibhhnbaaa
