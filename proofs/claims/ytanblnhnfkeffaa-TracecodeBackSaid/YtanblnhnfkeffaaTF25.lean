/- Texts of one proof, laid together: ZO. No condition. -/
import Derived.Test.YtanblnhnfkeffaaTF16
namespace Go.Proofs.Ytanblnhnfkeffaa
set_option linter.unusedVariables false
set_option linter.unusedSimpArgs false
attribute [local go_sem ↓] run_skip run_region run_draw run_both run_seq run_block run_exit run_ret run_cond atN_app seqC_normal seqC_exit seqC_ret seqQ_normal seqQ_exit seqQ_ret blkQ_normal blkQ_exit blkQ_ret runOps_nil runOps_cons runD_nil runD_cons grdO_true grdO_false grdD_true grdD_false ifC_true ifC_false opS_val opS_call opS_two opK_app dS_val dS_call dS_two dK_app kUp_same kUp_ne
attribute [local go_sem] rechks_nil rechks_cons rechk gcase_true gcase_false ex_val ex_val0 gd_none gd_some ev_t ev_c evs_nil evs_cons evo_some evo_none hget_at hget_first hsetB_at hsetB_first hsetL_at hsetL_first ofOpt_some aop aload astore aslice aappend aiaddr aiaddrA afaddr alen alenS acopy amm acall alookup amupdate alenM atostr aappz comma keyEq apick binV binVB binVS isSh intOp strOp boolOp shOp eqC eqF and2 cellsOf setFrom fillA fillS rd rdI elems mk bounds AV.cell List.all_cons List.all_nil Bool.and_true Bool.true_and Bool.and_self List.length_cons List.length_nil List.length_append Nat.reduceAdd Nat.reduceSub Nat.reduceMul Nat.zero_add Nat.add_zero List.cons_append List.nil_append List.append_assoc List.append_nil List.getElem?_cons_zero List.getElem?_cons_succ List.getElem?_nil List.set_cons_zero List.set_cons_succ List.drop_zero List.drop_succ_cons List.take_zero List.take_succ_cons List.take_nil List.drop_nil List.map_cons List.map_nil Option.map_some if_true if_false Bool.false_eq_true and_self true_and and_true Nat.reduceLeDiff Nat.reduceLT Nat.le_refl Nat.reduceEqDiff ite_true ite_false beq_self_eq_true beq_true beq_false Bool.not_true Bool.not_false Bool.true_beq Bool.false_beq map_vs vs_len vs_get vs_take vs_drop vs_snoc1 vs_snoc2 vs_snoc3 vs_snoc5 vs_set1 vs_set2 vs_rep wrap_id le_T lt_T le_F lt_F leI_T ltI_T leI_F ltI_F geI gtI get_T decide_true decide_false room List.getElem?_map List.length_map List.length_take Int.toNat_natCast Nat.min_def Nat.min_self nth_kOf put_kOf put_kNo kOv_cons kOv_nil KHas KArgs List.getElem_cons_zero List.getElem_cons_succ
def a_bGrow : AFunc := ⟨2,27,[.tmp 4],(.seq (.region [⟨some 4,.mv (.c (.v .zsl)),none⟩]) (.seq (.seq (.region [⟨some 5,.mv (.t 1),none⟩,⟨some 6,.bin .lss (.t 5) (.c (.v (.int .i64 0))),none⟩]) (.cond (.t 6) (.region [⟨none,.extract 0 (.c .any),none⟩]) .skip)) (.seq (.seq (.region [⟨some 8,.mv (.t 1),none⟩,⟨some 9,.mv (.t 0),none⟩,⟨some 10,.capz (.t 9),none⟩,⟨some 11,.mv (.t 0),none⟩,⟨some 12,.len (.t 11),none⟩,⟨some 13,.bin .sub (.t 10) (.t 12),none⟩,⟨some 14,.bin .sub (.t 8) (.t 13),none⟩,⟨some 1,.mv (.t 14),none⟩]) (.seq (.region [⟨some 15,.mv (.t 1),none⟩,⟨some 16,.bin .gtr (.t 15) (.c (.v (.int .i64 0))),none⟩]) (.cond (.t 16) (.region [⟨some 17,.mv (.t 0),none⟩,⟨some 18,.mv (.t 0),none⟩,⟨some 19,.capz (.t 18),none⟩,⟨some 20,.slice 1 (.t 17) none (some (.t 19)),none⟩,⟨some 21,.mv (.t 1),none⟩,⟨some 22,.appz 1 1 [(.v (.int .u8 0))] (.t 20) (.t 21),none⟩,⟨some 23,.mv (.t 0),none⟩,⟨some 24,.len (.t 23),none⟩,⟨some 25,.slice 1 (.t 22) none (some (.t 24)),none⟩,⟨some 0,.mv (.t 25),none⟩]) .skip))) (.seq (.region [⟨some 26,.mv (.t 0),none⟩,⟨some 4,.mv (.t 26),none⟩]) .ret))))⟩
theorem a_bGrow_ok : cFunc Try.prog 116 = some a_bGrow := by kernel_rfl
def a_bCat : AFunc := ⟨1,36,[.tmp 2],(.seq (.region [⟨some 2,.mv (.c (.v .zsl)),none⟩]) (.seq (.region [⟨some 3,.mv (.c (.v (.int .i64 0))),none⟩]) (.seq (.seq (.region [⟨some 9,.mv (.t 0),none⟩,⟨some 10,.len (.t 9),none⟩,⟨some 11,.mv (.c (.v (.int .i64 0))),none⟩]) (.block 0 (.loop (.seq (.region [⟨some 12,.bin .lss (.t 11) (.t 10),none⟩]) (.seq (.cond (.t 12) .skip (.exit 0)) (.seq (.block 1 (.seq (.region [⟨some 13,.iaddr 1 (.t 9) (.t 11),none⟩,⟨some 14,.load none (.t 13),none⟩,⟨some 5,.mv (.t 14),none⟩]) (.seq (.region [⟨some 15,.mv (.t 3),none⟩,⟨some 16,.mv (.t 5),none⟩,⟨some 17,.len (.t 16),none⟩,⟨some 18,.bin .add (.t 15) (.t 17),none⟩,⟨some 3,.mv (.t 18),none⟩]) (.seq (.region [⟨some 19,.mv (.t 3),none⟩,⟨some 20,.bin .lss (.t 19) (.c (.v (.int .i64 0))),none⟩]) (.cond (.t 20) (.region [⟨none,.extract 0 (.c .any),none⟩]) .skip))))) (.region [⟨some 22,.bin .add (.t 11) (.c (.v (.int .i64 1))),none⟩,⟨some 11,.mv (.t 22),none⟩]))))))) (.seq (.region [⟨some 23,.mv (.t 3),none⟩,⟨some 24,.call (.c (.fn 116 [])) [(.c (.v .zsl)),(.t 23)],none⟩,⟨some 6,.mv (.t 24),none⟩]) (.seq (.seq (.region [⟨some 25,.mv (.t 0),none⟩,⟨some 26,.len (.t 25),none⟩,⟨some 27,.mv (.c (.v (.int .i64 0))),none⟩]) (.block 2 (.loop (.seq (.region [⟨some 28,.bin .lss (.t 27) (.t 26),none⟩]) (.seq (.cond (.t 28) .skip (.exit 2)) (.seq (.block 3 (.seq (.region [⟨some 29,.iaddr 1 (.t 25) (.t 27),none⟩,⟨some 30,.load none (.t 29),none⟩,⟨some 8,.mv (.t 30),none⟩]) (.region [⟨some 31,.mv (.t 6),none⟩,⟨some 32,.mv (.t 8),none⟩,⟨some 33,.append 1 1 (.t 31) (.t 32),none⟩,⟨some 6,.mv (.t 33),none⟩]))) (.region [⟨some 34,.bin .add (.t 27) (.c (.v (.int .i64 1))),none⟩,⟨some 27,.mv (.t 34),none⟩]))))))) (.seq (.region [⟨some 35,.mv (.t 6),none⟩,⟨some 2,.mv (.t 35),none⟩]) .ret))))))⟩
theorem a_bCat_ok : cFunc Try.prog 46 = some a_bCat := by kernel_rfl
def r_bCat0 : List (Nat × Nat) := [(3, 3), (5, 5), (11, 20), (22, 22)]
def r_bCat1 : List (Nat × Nat) := [(6, 6), (8, 8), (27, 34)]

theorem grow_pos (n : Nat) (h0 : 0 < n) (h : n ≤ 1000000) (b l : List Row) :
  ACalls Try.prog 116 [.v .zsl, .v (.int .i64 (n : Int))] b l (fun r b' l' => r = .sl (b.length + l.length) 0 0 0 ∧ b' = b ∧ l' = l ++ [bRow 0 (List.replicate n 0)]) := by
 refine calls_kept a_bGrow_ok rfl (by decide) ?_
 intro B g hB hR hE hA
 simp only [KArgs] at hA
 have d1 : decide ((n : Int) < 0) = false := decide_eq_false oM
 have d2 : decide ((n : Int) > 0) = true := decide_eq_true oM
 have nz : ((n : Int) = 0) = False := eq_false oM
 have hz : ∀ n : Nat, List.replicate n [AV.v (.int .u8 0)] = vs ((List.replicate n (0 : UInt8)).map eB) := fun n => by
  unfold vs
  rw [List.map_replicate, List.map_replicate]
  rfl
 have sub00 : (n : Int) - (0 - 0) = (n : Int) := by omega
 simp (disch := (first | decide | omega)) only [a_bGrow, hA, aappz, d1, d2, nz, hz, sub00, go_sem]
 have hbl : b.length + l.length = B.length := by rw [hB, List.length_append]
 exact leave_own (.inr rfl) (ver := 0) (sz := 1) (n := 0) (rows := (List.replicate n (0 : UInt8)).map eB) (junk := []) (by simp (disch := (first | decide | omega)) only [resVs, resV, hA, go_sem]; rfl) rfl hR hB ⟨by rw [hbl], rfl, rfl⟩
def catS (xs ys : List UInt8) (i : Nat) : Nat := if i = 0 then 0 else if i = 1 then xs.length else xs.length + ys.length
def catL (xs ys : List UInt8) (i : Nat) : List UInt8 := if i = 0 then List.replicate (xs.length + ys.length) 0 else if i = 1 then xs else xs ++ ys
set_option maxHeartbeats 4000000 in
theorem bCat_spec (xs ys : List UInt8) (hx : 0 < xs.length) (hxl : xs.length ≤ 400000) (hyl : ys.length ≤ 400000) (id : Nat) (b l : List Row) (hg : hget b l id = some (.live 0 1 [[.v (.isl 1 (xs.map eB))], [.v (.isl 1 (ys.map eB))]])) :
  ACalls Try.prog 46 [.sl id 0 0 2] b l (fun r b' l' => r = .v (.isl 1 ((xs ++ ys).map eB)) ∧ b' = b ∧ l' = l) := by
 refine calls_kept a_bCat_ok rfl (by decide) ?_
 intro B g hB hR hE hA
 simp only [KArgs] at hA
 have hBi : B[id]? = some (.live 0 1 [[.v (.isl 1 (xs.map eB))], [.v (.isl 1 (ys.map eB))]]) := by rw [hB, ← hget_eq]; exact hg
 have hidB : id < B.length := (List.getElem?_eq_some_iff.1 hBi).1
 have gB : ∀ l', hget B l' id = some (.live 0 1 [[.v (.isl 1 (xs.map eB))], [.v (.isl 1 (ys.map eB))]]) := fun l' => hgetLo hBi l'
 simp (disch := (first | decide | omega)) only [a_bCat, hA, go_sem]
 refine loop_kept (ι := Nat) r_bCat0 (fun i => [(3, .v (.int .i64 (catS xs ys i : Nat))), (11, .v (.int .i64 (i : Nat)))]) 0 (fun i => []) (fun i => i ≤ 2) (fun i => 2 - i) 0 (Nat.zero_le _) (by (repeat (first | exact hE.mono oM | refine KLt.up ?_ kL))) (by ((try simp (disch := decide) only [hA, catS, go_sem]) <;> exact kH)) (fun e => Weak.refl _ _ _) ?_
 intro g1 hE1 hEE1 hg1 i hi
 have hi : i ≤ 2 := hi
 have stp : ∀ i zs, ((i = 0 ∧ zs = xs) ∨ (i = 1 ∧ zs = ys)) → [[AV.v (.isl 1 (xs.map eB))], [AV.v (.isl 1 (ys.map eB))]][i]? = some [AV.v (.isl 1 (zs.map eB))] ∧ (catS xs ys i : Int) + (zs.length : Int) = ((catS xs ys (i + 1) : Nat) : Int) ∧ catS xs ys (i + 1) ≤ 800000 ∧ zs.length ≤ 400000 := by
  rintro i zs (⟨rfl, rfl⟩ | ⟨rfl, rfl⟩)
  ·exact ⟨rfl, by unfold catS; simp, by unfold catS; simp; omega, hxl⟩
  ·exact ⟨rfl, by unfold catS; simp, by unfold catS; simp; omega, hyl⟩
 by_cases h2 : i < 2
 ·obtain ⟨zs, hz⟩ : ∃ zs, (i = 0 ∧ zs = xs) ∨ (i = 1 ∧ zs = ys) := by
   rcases Nat.lt_or_ge i 1 with h | h
   ·exact ⟨xs, .inl ⟨by omega, rfl⟩⟩
   ·exact ⟨ys, .inr ⟨by omega, rfl⟩⟩
  obtain ⟨k1, k2, k3, k4⟩ := stp i zs hz
  have d0 : decide ((i : Int) < 2) = true := decide_eq_true oM
  have d1 : decide (((catS xs ys (i + 1) : Nat) : Int) < 0) = false := decide_eq_false oM
  have lt2 : ((i : Int) < ((2 : Nat) : Int)) = True := eq_true oM
  simp (disch := (first | decide | omega)) only [hA, hg1, gB, d0, d1, k1, k2, lt2, List.length_map, go_sem]
  refine ⟨i + 1, by show i + 1 ≤ 2; omega, by show 2 - (i + 1) < 2 - i; omega, ?_⟩
  exact Weak.kround (p := r_bCat0) (k := 0) (by ((repeat refine (kAny_up rfl).trans ?_); exact hEE1)) (by ((try simp (disch := decide) only [hA, go_sem]) <;> exact kH)) rfl hE1 (by simp) kV hR kL
 ·obtain rfl : i = 2 := by omega
  obtain ⟨n, hn⟩ : ∃ n, xs.length + ys.length = n := ⟨_, rfl⟩
  have hs2 : catS xs ys 2 = n := by unfold catS; simp; exact hn
  have d0 : decide (((2 : Nat) : Int) < 2) = false := rfl
  simp (disch := (first | decide | omega)) only [hA, hg1, gB, d0, hs2, go_sem]
  refine ACalls.nxt (grow_pos n oM oM _ _) ?_
  simp (disch := (first | decide | omega)) only [hA, hg1, gB, go_sem]
  refine loop_kept (ι := Nat) r_bCat1 (fun i => [(6, .sl B.length i 0 (catS xs ys i)), (27, .v (.int .i64 (i : Nat)))]) 1 (fun i => [bRow i (catL xs ys i)]) (fun i => i ≤ 2) (fun i => 2 - i) 0 (Nat.zero_le _) (by (repeat (first | exact hE1.mono oM | refine KLt.up ?_ kL))) (by ((try simp (disch := decide) only [hA, hg1, catS, go_sem]) <;> exact kH)) (fun e => by unfold catL; rw [if_pos rfl, hn]; exact Weak.refl _ _ _) ?_
  intro g2 hE2 hEE2 hg2 i hi
  have hi : i ≤ 2 := hi
  by_cases h2 : i < 2
  ·obtain ⟨zs, hz⟩ : ∃ zs, (i = 0 ∧ zs = xs) ∨ (i = 1 ∧ zs = ys) := by
    rcases Nat.lt_or_ge i 1 with h | h
    ·exact ⟨xs, .inl ⟨by omega, rfl⟩⟩
    ·exact ⟨ys, .inr ⟨by omega, rfl⟩⟩
   obtain ⟨k1, k2, k3, k4⟩ := stp i zs hz
   have d0 : decide ((i : Int) < 2) = true := decide_eq_true oM
   have lt2 : ((i : Int) < ((2 : Nat) : Int)) = True := eq_true oM
   have kl : catS xs ys i ≤ (catL xs ys i).length := by
    unfold catS catL
    rcases hz with ⟨rfl, _⟩ | ⟨rfl, _⟩ <;> simp
   have ka : catS xs ys i + zs.length = catS xs ys (i + 1) := by omega
   have kv : vs (List.take (catS xs ys i) ((catL xs ys i).map eB)) ++ vs (zs.map eB) = vs ((catL xs ys (i + 1)).map eB) := by
    rcases hz with ⟨rfl, rfl⟩ | ⟨rfl, rfl⟩
    ·simp [catS, catL, vs]
    ·simp only [catS, catL, Nat.reduceAdd, Nat.reduceEqDiff, if_true, if_false]
     rw [List.take_of_length_le (by rw [List.length_map]; exact Nat.le_refl _)]
     unfold vs
     simp
   simp (disch := (first | decide | omega)) only [hA, hg1, hg2, gB, d0, k1, lt2, bRow, kl, ka, kv, k3, List.length_map, go_sem]
   refine ⟨i + 1, by show i + 1 ≤ 2; omega, by show 2 - (i + 1) < 2 - i; omega, ?_⟩
   exact Weak.kround (p := r_bCat1) (k := 1) (by ((repeat refine (kAny_up rfl).trans ?_); exact hEE2)) (by ((try simp (disch := decide) only [hA, go_sem]) <;> exact kH)) rfl hE2 (by simp) kV hR kL
  ·obtain rfl : i = 2 := by omega
   have d0 : decide (((2 : Nat) : Int) < 2) = false := rfl
   have hS : catS xs ys 2 = (xs ++ ys).length := by unfold catS; simp
   have hL : catL xs ys 2 = xs ++ ys := by unfold catL; simp
   simp (disch := (first | decide | omega)) only [hA, hg1, hg2, gB, d0, hS, hL, go_sem]
   refine leave_deep (.inr rfl) (xs := [.sl B.length 2 0 (xs ++ ys).length]) (by simp (disch := (first | decide | omega)) only [resVs, resV, hA, go_sem]) (y := .v (.isl 1 ((xs ++ ys).map eB))) ?_ hR hB ⟨rfl, rfl, rfl⟩
   exact Dv.slV (i := 0) (rows := (xs ++ ys).map eB) rfl (by simp)
end Go.Proofs.Ytanblnhnfkeffaa
