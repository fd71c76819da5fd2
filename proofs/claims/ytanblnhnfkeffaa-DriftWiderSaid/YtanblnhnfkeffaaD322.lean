/- Texts of one proof, laid together: YF. No condition. -/
import Derived.Test.YtanblnhnfkeffaaD312
import Derived.Test.YtanblnhnfkeffaaD37
import Derived.Test.YtanblnhnfkeffaaD321
import Derived.Test.YtanblnhnfkeffaaD317
namespace Go.Proofs.Ytanblnhnfkeffaa
set_option linter.unusedVariables false
set_option linter.unusedSimpArgs false
attribute [local go_sem ↓] run_skip run_region run_draw run_both run_seq run_block run_exit run_ret run_cond atN_app seqC_normal seqC_exit seqC_ret seqQ_normal seqQ_exit seqQ_ret blkQ_normal blkQ_exit blkQ_ret runOps_nil runOps_cons runD_nil runD_cons grdO_true grdO_false grdD_true grdD_false ifC_true ifC_false opS_val opS_call opS_two opK_app dS_val dS_call dS_two dK_app kUp_same kUp_ne
attribute [local go_sem] rechks_nil rechks_cons rechk gcase_true gcase_false ex_val ex_val0 gd_none gd_some ev_t ev_c evs_nil evs_cons evo_some evo_none hget_at hget_first hsetB_at hsetB_first hsetL_at hsetL_first ofOpt_some aop aload astore aslice aappend aiaddr aiaddrA afaddr alen alenS acopy amm acall alookup amupdate alenM atostr comma keyEq apick binV binVB binVS isSh intOp strOp boolOp shOp eqC eqF and2 cellsOf setFrom fillA fillS rd rdI elems mk bounds AV.cell List.all_cons List.all_nil Bool.and_true Bool.true_and Bool.and_self List.length_cons List.length_nil List.length_append Nat.reduceAdd Nat.reduceSub Nat.reduceMul Nat.zero_add Nat.add_zero List.cons_append List.nil_append List.append_assoc List.append_nil List.getElem?_cons_zero List.getElem?_cons_succ List.getElem?_nil List.set_cons_zero List.set_cons_succ List.drop_zero List.drop_succ_cons List.take_zero List.take_succ_cons List.take_nil List.drop_nil List.map_cons List.map_nil Option.map_some if_true if_false Bool.false_eq_true and_self true_and and_true Nat.reduceLeDiff Nat.reduceLT Nat.le_refl Nat.reduceEqDiff ite_true ite_false beq_self_eq_true beq_true beq_false Bool.not_true Bool.not_false Bool.true_beq Bool.false_beq map_vs vs_len vs_get vs_take vs_drop vs_snoc1 vs_snoc2 vs_snoc3 vs_snoc5 vs_set1 vs_set2 vs_rep wrap_id le_T lt_T le_F lt_F leI_T ltI_T leI_F ltI_F geI gtI get_T decide_true decide_false room List.getElem?_map List.length_map List.length_take Int.toNat_natCast Nat.min_def Nat.min_self nth_kOf put_kOf put_kNo kOv_cons kOv_nil KHas KArgs List.getElem_cons_zero List.getElem_cons_succ
def a_pair19 : AFunc := ⟨0,14,[.cell 0 (some 1),.cell 1 (some 3)],(.seq (.region [⟨some 0,.alloc [(.v .zsl)],none⟩,⟨some 1,.alloc [(.v .zsl),(.v (.int .i64 0)),(.v (.int .i64 0))],none⟩]) (.seq (.region [⟨some 3,.build [(.v (.int .i64 0)),(.v (.int .i64 0)),(.v (.int .i64 0)),(.v (.int .i64 0)),(.v .zsl)] [(0,1,(.c (.v (.int .i64 2)))),(1,1,(.c (.v (.int .i64 1)))),(3,1,(.c (.v (.int .i64 10))))],none⟩,⟨some 4,.bslice 5 [(.v (.int .i64 0)),(.v (.int .i64 0)),(.v (.int .i64 0)),(.v (.int .i64 0)),(.v .zsl)] 1 [(0,(.t 3))],none⟩,⟨some 5,.build [(.v (.str ⟨#[]⟩)),(.v .zsl),(.v .zsl)] [(0,1,(.c (.v (.str ⟨#[97]⟩)))),(2,1,(.t 4))],none⟩,⟨some 6,.build [(.v (.int .i64 0)),(.v (.int .i64 0)),(.v (.int .i64 0)),(.v (.int .i64 0)),(.v .zsl)] [(0,1,(.c (.v (.int .i64 3)))),(1,1,(.c (.v (.int .i64 0)))),(3,1,(.c (.v (.int .i64 20))))],none⟩,⟨some 7,.bslice 5 [(.v (.int .i64 0)),(.v (.int .i64 0)),(.v (.int .i64 0)),(.v (.int .i64 0)),(.v .zsl)] 1 [(0,(.t 6))],none⟩,⟨some 8,.build [(.v (.str ⟨#[]⟩)),(.v .zsl),(.v .zsl)] [(0,1,(.c (.v (.str ⟨#[98]⟩)))),(2,1,(.t 7))],none⟩,⟨some 9,.bslice 3 [(.v (.str ⟨#[]⟩)),(.v .zsl),(.v .zsl)] 2 [(0,(.t 5)),(1,(.t 8))],none⟩,⟨some 10,.build [(.v .zsl)] [(0,1,(.t 9))],none⟩,⟨some 2,.alloc [(.v .zsl)],none⟩,⟨none,.store 1 (.t 2) (.t 10),none⟩]) (.seq (.region [⟨some 11,.load (some 1) (.t 2),none⟩,⟨some 12,.bslice 1 [(.v (.int .i64 0))] 2 [(0,(.c (.v (.int .i64 5)))),(1,(.c (.v (.int .i64 5))))],none⟩,⟨some 13,.build [(.v .zsl),(.v (.int .i64 0)),(.v (.int .i64 0))] [(0,1,(.t 12)),(1,1,(.c (.v (.int .i64 2)))),(2,1,(.c (.v (.int .i64 4))))],none⟩,⟨none,.store 1 (.t 0) (.t 11),none⟩,⟨none,.store 3 (.t 1) (.t 13),none⟩]) .ret)))⟩
theorem a_pair19_ok : cFunc Try.prog 117 = some a_pair19 := by kernel_rfl
def a_awake19 : AFunc := ⟨0,55,[.tmp 0],(.seq (.region [⟨some 0,.mv (.c (.v (.bool false))),none⟩]) (.seq (.region [⟨some 6,.call (.c (.fn 117 [])) [],none⟩,⟨some 5,.mv (.t 6),none⟩,⟨some 7,.extract 0 (.t 5),none⟩,⟨some 8,.extract 1 (.t 5),none⟩,⟨some 1,.alloc [(.v .zsl)],none⟩,⟨some 2,.alloc [(.v .zsl),(.v (.int .i64 0)),(.v (.int .i64 0))],none⟩,⟨none,.store 1 (.t 1) (.t 7),none⟩,⟨none,.store 3 (.t 2) (.t 8),none⟩]) (.seq (.region [⟨some 10,.load (some 1) (.t 1),none⟩,⟨some 11,.load (some 3) (.t 2),none⟩,⟨some 12,.call (.c (.fn 58 [])) [(.t 10),(.t 11)],none⟩,⟨some 9,.mv (.t 12),none⟩,⟨some 13,.extract 0 (.t 9),none⟩,⟨some 14,.extract 1 (.t 9),none⟩,⟨some 3,.mv (.t 13),none⟩,⟨some 4,.mv (.t 14),none⟩]) (.seq (.region [⟨some 15,.mv (.t 4),none⟩,⟨some 16,.bin .eql (.t 15) (.c (.v (.int .i64 0))),none⟩,⟨some 17,.mv (.t 16),none⟩,⟨some 18,.mv (.t 3),some (17,true)⟩,⟨some 19,.len (.t 18),some (17,true)⟩,⟨some 20,.bin .eql (.t 19) (.c (.v (.int .i64 2))),some (17,true)⟩,⟨some 21,.pick (.t 17) (.t 20) (.c (.v (.bool false))),none⟩,⟨some 22,.mv (.t 21),none⟩,⟨some 23,.mv (.t 3),some (22,true)⟩,⟨some 24,.iaddr 1 (.t 23) (.c (.v (.int .i64 0))),some (22,true)⟩,⟨some 25,.load none (.t 24),some (22,true)⟩,⟨some 26,.build [(.v (.int .i64 0)),(.v (.int .i64 0))] [(0,1,(.c (.v (.int .i64 11)))),(1,1,(.c (.v (.int .i64 15))))],some (22,true)⟩,⟨some 27,.bslice 2 [(.v (.int .i64 0)),(.v (.int .i64 0))] 1 [(0,(.t 26))],some (22,true)⟩,⟨some 28,.call (.c (.fn 118 [])) [(.t 25),(.t 27)],some (22,true)⟩,⟨some 29,.pick (.t 22) (.t 28) (.c (.v (.bool false))),none⟩,⟨some 30,.mv (.t 29),none⟩,⟨some 31,.mv (.t 3),some (30,true)⟩,⟨some 32,.iaddr 1 (.t 31) (.c (.v (.int .i64 1))),some (30,true)⟩,⟨some 33,.load none (.t 32),some (30,true)⟩,⟨some 34,.build [(.v (.int .i64 0)),(.v (.int .i64 0))] [(0,1,(.c (.v (.int .i64 15)))),(1,1,(.c (.v (.int .i64 19))))],some (30,true)⟩,⟨some 35,.bslice 2 [(.v (.int .i64 0)),(.v (.int .i64 0))] 1 [(0,(.t 34))],some (30,true)⟩,⟨some 36,.call (.c (.fn 118 [])) [(.t 33),(.t 35)],some (30,true)⟩,⟨some 37,.pick (.t 30) (.t 36) (.c (.v (.bool false))),none⟩,⟨some 38,.mv (.t 37),none⟩,⟨some 39,.load (some 1) (.t 1),some (38,true)⟩,⟨some 40,.load (some 3) (.t 2),some (38,true)⟩,⟨some 41,.bslice 1 [(.v (.int .i64 0))] 1 [(0,(.c (.v (.int .i64 11))))],some (38,true)⟩,⟨some 42,.bslice 1 [(.v (.int .i64 0))] 1 [(0,(.c (.v (.int .i64 15))))],some (38,true)⟩,⟨some 43,.bslice 1 [(.v .zsl)] 2 [(0,(.t 41)),(1,(.t 42))],some (38,true)⟩,⟨some 44,.call (.c (.fn 54 [])) [(.t 39),(.t 40),(.t 43)],some (38,true)⟩,⟨some 45,.pick (.t 38) (.t 44) (.c (.v (.bool false))),none⟩,⟨some 46,.mv (.t 45),none⟩,⟨some 47,.load (some 1) (.t 1),some (46,true)⟩,⟨some 48,.load (some 3) (.t 2),some (46,true)⟩,⟨some 49,.bslice 1 [(.v (.int .i64 0))] 1 [(0,(.c (.v (.int .i64 10))))],some (46,true)⟩,⟨some 50,.bslice 1 [(.v (.int .i64 0))] 1 [(0,(.c (.v (.int .i64 15))))],some (46,true)⟩,⟨some 51,.bslice 1 [(.v .zsl)] 2 [(0,(.t 49)),(1,(.t 50))],some (46,true)⟩,⟨some 52,.call (.c (.fn 54 [])) [(.t 47),(.t 48),(.t 51)],some (46,true)⟩,⟨some 53,.not (.t 52),some (46,true)⟩,⟨some 54,.pick (.t 46) (.t 53) (.c (.v (.bool false))),none⟩,⟨some 0,.mv (.t 54),none⟩]) .ret))))⟩
theorem a_awake19_ok : cFunc Try.prog 47 = some a_awake19 := by kernel_rfl

set_option maxRecDepth 100000
def pair19 : Tr := [⟨⟨#[97]⟩, [], [⟨2, 1, 0, 10, []⟩]⟩, ⟨⟨#[98]⟩, [], [⟨3, 0, 0, 20, []⟩]⟩]
def bn19 : Bn := ⟨[5, 5], 2, 4⟩
def tiV19 : AV := .tup [.v (.isl 1 [[.isl 2 [[.int .i64 11, .int .i64 15]]], [.isl 2 [[.int .i64 15, .int .i64 19]]]]), .v (.int .i64 0)]
theorem pair19_small : Small pair19 := ⟨by decide, by decide, by decide, by decide⟩
theorem pair19_nm : Nm pair19 := by
 intro p hp
 simp [pair19] at hp
 rcases hp with rfl | rfl <;> exact ⟨by decide, by simp⟩
theorem pair19_valid : validL pair19 = true := conc_valid (rank := fun x => x.1 * 10 + x.2) (by kernel_rfl)
theorem bn19_ok : bnB pair19 bn19 = true := by
 unfold bnB
 rw [pair19_valid]
 decide
theorem ids19 : ids pair19 = [(0, 1), (1, 1)] := by kernel_rfl
theorem ok19 : okB pair19 bn19 = true := by kernel_rfl
theorem ti19 : tiAll pair19 bn19 2 = [[.isl 2 [[.int .i64 11, .int .i64 15]]], [.isl 2 [[.int .i64 15, .int .i64 19]]]] := by kernel_rfl
theorem tight19 : tightR pair19 bn19 = tiV19 := by
 rw [tightR, if_neg (by rw [bn19_ok]; decide), if_neg (by rw [ok19]; decide)]
 show AV.tup [.v (.isl 1 (tiAll pair19 bn19 2)), .v (.int .i64 0)] = tiV19
 rw [ti19]; rfl
theorem asg19 : asgB pair19 bn19 [[11], [15]] = true := by
 refine asg_yes ⟨⟨rfl, fun p hp => ?_⟩, fun p i hx => ?_⟩
 ·have hp : p < 2 := hp
  have : p = 0 ∨ p = 1 := by omega
  rcases this with rfl | rfl <;> rfl
 ·rw [ids19] at hx
  simp only [List.mem_cons, List.not_mem_nil, or_false, Prod.mk.injEq] at hx
  rcases hx with ⟨rfl, h⟩ | ⟨rfl, h⟩
  ·obtain rfl : i = 0 := by omega
   exact ⟨⟨by decide, by decide⟩, fun h => by omega, fun h => absurd h (by decide)⟩
  ·obtain rfl : i = 0 := by omega
   refine ⟨⟨by decide, by decide⟩, fun h => by omega, fun _ => ?_⟩
   have : sndr pair19 (1, 0 + 1) = (0, 1) := by kernel_rfl
   rw [this]
   exact ⟨by decide, by decide⟩
theorem asg19n : asgB pair19 bn19 [[10], [15]] = false := by
 refine asg_no (fun h => ?_)
 have h1 := (h.2 1 0 (by rw [ids19]; simp)).2.2 (by decide)
 have : sndr pair19 (1, 0 + 1) = (0, 1) := by kernel_rfl
 rw [this] at h1
 exact absurd h1.2 (by decide)
theorem tr0 : tiR pair19 bn19 0 1 = [[.int .i64 11, .int .i64 15]] := by kernel_rfl
theorem tr1 : tiR pair19 bn19 1 1 = [[.int .i64 15, .int .i64 19]] := by kernel_rfl
theorem pair19_spec (b l : List Row) : ACalls Try.prog 117 [] b l (fun r b' l' => r = .tup [.agg [.v (eT pair19)], .agg (eBn bn19)] ∧ b' = b ∧ l' = l) := by
 refine calls_kept a_pair19_ok rfl (by decide) ?_
 intro B g hB hR hE hA
 simp only [KArgs] at hA
 simp (disch := (first | decide | omega)) only [a_pair19, hA, List.replicate_succ, List.replicate_zero, setFrom, cellsOf, go_sem]
 refine leave_deep (.inr rfl) (xs := [.agg [.sl (B.length + 4) 0 0 2], .agg [.sl (B.length + 6) 0 0 2, .v (.int .i64 2), .v (.int .i64 4)]]) (by simp (disch := (first | decide | omega)) only [resVs, resV, hA, go_sem]) (y := .tup [.agg [.v (eT pair19)], .agg (eBn bn19)]) ?_ hR hB ⟨rfl, rfl, rfl⟩
 refine Dv.tupL (.cons (Dv.aggL (.cons ?_ .nil)) (.cons (Dv.aggL (.cons (Dv.slV (i := 6) (rows := [[.int .i64 5], [.int .i64 5]]) rfl rfl) (.cons (.v _) (.cons (.v _) .nil)))) .nil))
 refine Dv.slR (i := 4) rfl (by simp) rfl (fun k r row h1 h2 => ?_)
 match k, h1, h2 with
 | 0, h1, h2 =>
   cases h1; cases h2
   refine .cons (.v _) (.cons (.z 2) (.cons (Dv.slR (i := 2) rfl (by simp) rfl (fun k r row h1 h2 => ?_)) .nil))
   match k, h1, h2 with
   | 0, h1, h2 => cases h1; cases h2; exact .cons (.v _) (.cons (.v _) (.cons (.v _) (.cons (.v _) (.cons (.z 2) .nil))))
   | k + 1, h1, h2 => simp at h1
 | 1, h1, h2 =>
   cases h1; cases h2
   refine .cons (.v _) (.cons (.z 2) (.cons (Dv.slR (i := 3) rfl (by simp) rfl (fun k r row h1 h2 => ?_)) .nil))
   match k, h1, h2 with
   | 0, h1, h2 => cases h1; cases h2; exact .cons (.v _) (.cons (.v _) (.cons (.v _) (.cons (.v _) (.cons (.z 2) .nil))))
   | k + 1, h1, h2 => simp at h1
 | k + 2, h1, h2 => simp at h1
theorem two_dv {n : Nat} {l : List Row} {x : Int} (h0 : l[0]? = some (.live 0 1 [[.v (.int .i64 x)]])) (h1 : l[1]? = some (.live 0 1 [[.v (.int .i64 15)]])) (h2 : l[2]? = some (.live 0 1 [[.sl (n + 0) 0 0 1], [.sl (n + 1) 0 0 1]])) : Dv n l (.sl (n + 2) 0 0 2) (.v (.isl 1 ([[x], [15]].map eRw))) := by
 refine Dv.slR h2 (by simp) rfl (fun k r row g1 g2 => ?_)
 match k, g1, g2 with
 | 0, g1, g2 => cases g1; cases g2; exact .cons (Dv.slV (rows := [[.int .i64 x]]) h0 rfl) .nil
 | 1, g1, g2 => cases g1; cases g2; exact .cons (Dv.slV (rows := [[.int .i64 15]]) h1 rfl) .nil
 | k + 2, g1, g2 => simp at g1
theorem awake19_spec (b l : List Row) : ACalls Try.prog 47 [] b l (fun r b' l' => r = .v (.bool true) ∧ b' = b ∧ l' = l) := by
 refine calls_kept a_awake19_ok rfl (by decide) ?_
 intro B g hB hR hE hA
 simp only [KArgs] at hA
 have cT := fun b l => dTight_spec pair19 pair19_small pair19_nm (by decide) (by decide) (by decide) bn19 (by decide) b l
 simp only [tight19, tiV19] at cT
 have e0 := fun b l => eq22_refl pair19 bn19 0 1 (by decide) b l
 have e1 := fun b l => eq22_refl pair19 bn19 1 1 (by decide) b l
 simp only [tr0] at e0
 simp only [tr1] at e1
 have k1 := fun b l => dCheck_spec pair19 pair19_small pair19_nm bn19 (by decide) [[11], [15]] (by decide) (by decide) b l
 have k2 := fun b l => dCheck_spec pair19 pair19_small pair19_nm bn19 (by decide) [[10], [15]] (by decide) (by decide) b l
 simp only [bn19_ok, asg19, Bool.and_self] at k1
 simp only [bn19_ok, asg19n, Bool.and_false] at k2
 have z0 : ((0 : Int) == 0) = true := rfl
 have z2 : (((2 : Nat) : Int) == 2) = true := rfl
 have z3 : (0 : Int).toNat = 0 := rfl
 have z4 : (1 : Int).toNat = 1 := rfl
 simp (disch := (first | decide | omega)) only [a_awake19, hA, go_sem]
 refine ACalls.nxt (pair19_spec _ _) ?_
 simp (disch := (first | decide | omega)) only [hA, setFrom, cellsOf, eBn, go_sem]
 simp only [eBn] at cT k1 k2
 refine ACalls.nxt (cT _ _) ?_
 simp (disch := (first | decide | omega)) only [hA, z0, z2, z3, List.replicate_succ, List.replicate_zero, setFrom, cellsOf, go_sem]
 refine ACalls.frzB (i := 2) (ver := 0) (sz := 2) (rows := [[.int .i64 11, .int .i64 15]]) (args' := [.v (.isl 2 [[.int .i64 11, .int .i64 15]]), .v (.isl 2 [[.int .i64 11, .int .i64 15]])]) rfl (by simp [frz, frz0]) ?_
 refine ACalls.nxt (e0 _ _) ?_
 simp (disch := (first | decide | omega)) only [hA, z4, List.replicate_succ, List.replicate_zero, setFrom, cellsOf, go_sem]
 refine ACalls.frzB (i := 3) (ver := 0) (sz := 2) (rows := [[.int .i64 15, .int .i64 19]]) (args' := [.v (.isl 2 [[.int .i64 15, .int .i64 19]]), .v (.isl 2 [[.int .i64 15, .int .i64 19]])]) rfl (by simp [frz, frz0]) ?_
 refine ACalls.nxt (e1 _ _) ?_
 simp (disch := (first | decide | omega)) only [hA, List.replicate_succ, List.replicate_zero, setFrom, cellsOf, go_sem]
 refine ACalls.deepMid (l1 := [.live 0 1 [[.v (eT pair19)]], .live 0 3 [[.v (.isl 1 (bn19.er.map eI)), .v (.int .i64 bn19.lo), .v (.int .i64 bn19.hi)]], .dead 0, .dead 0]) (N := [.live 0 1 [[.v (.int .i64 11)]], .live 0 1 [[.v (.int .i64 15)]], .live 0 1 [[.sl (B.length + 4) 0 0 1], [.sl (B.length + 5) 0 0 1]]]) (l2 := []) (args' := [.agg [.v (eT pair19)], .agg [.v (.isl 1 (bn19.er.map eI)), .v (.int .i64 bn19.lo), .v (.int .i64 bn19.hi)], .v (.isl 1 ([[11], [15]].map eRw))]) rfl (fun i x y hx hy => ?_) ?_
 ·match i, hx, hy with
  | 0, hx, hy => cases hx; cases hy; exact Dv.aggL (.cons (.v _) .nil)
  | 1, hx, hy => cases hx; cases hy; exact Dv.aggL (.cons (.v _) (.cons (.v _) (.cons (.v _) .nil)))
  | 2, hx, hy => cases hx; cases hy; exact two_dv (n := B.length + 4) rfl rfl rfl
  | i + 3, hx, hy => simp at hx
 refine ACalls.nxt (k1 _ _) ?_
 simp (disch := (first | decide | omega)) only [hA, List.replicate_succ, List.replicate_zero, setFrom, cellsOf, List.map_cons, List.map_nil, deadR, List.cons_append, List.nil_append, List.length_cons, List.length_nil, go_sem]
 refine ACalls.deepMid (l1 := [.live 0 1 [[.v (eT pair19)]], .live 0 3 [[.v (.isl 1 (bn19.er.map eI)), .v (.int .i64 bn19.lo), .v (.int .i64 bn19.hi)]], .dead 0, .dead 0, .dead 0, .dead 0, .dead 0]) (N := [.live 0 1 [[.v (.int .i64 10)]], .live 0 1 [[.v (.int .i64 15)]], .live 0 1 [[.sl (B.length + 7) 0 0 1], [.sl (B.length + 8) 0 0 1]]]) (l2 := []) (args' := [.agg [.v (eT pair19)], .agg [.v (.isl 1 (bn19.er.map eI)), .v (.int .i64 bn19.lo), .v (.int .i64 bn19.hi)], .v (.isl 1 ([[10], [15]].map eRw))]) rfl (fun i x y hx hy => ?_) ?_
 ·match i, hx, hy with
  | 0, hx, hy => cases hx; cases hy; exact Dv.aggL (.cons (.v _) .nil)
  | 1, hx, hy => cases hx; cases hy; exact Dv.aggL (.cons (.v _) (.cons (.v _) (.cons (.v _) .nil)))
  | 2, hx, hy => cases hx; cases hy; exact two_dv (n := B.length + 7) rfl rfl rfl
  | i + 3, hx, hy => simp at hx
 refine ACalls.nxt (k2 _ _) ?_
 simp (disch := (first | decide | omega)) only [hA, go_sem]
 exact leave_pure (xs := [.v (.bool true)]) (.inr rfl) (by simp (disch := (first | decide | omega)) only [resVs, resV, go_sem, hA]) kO hR hB ⟨rfl, rfl, rfl⟩
end Go.Proofs.Ytanblnhnfkeffaa
