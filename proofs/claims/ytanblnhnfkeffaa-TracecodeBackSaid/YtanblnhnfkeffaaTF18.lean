/- Texts of one proof, laid together: ZD. No condition. -/
import Derived.Test.YtanblnhnfkeffaaTF17
namespace Go.Proofs.Ytanblnhnfkeffaa
set_option linter.unusedVariables false
set_option linter.unusedSimpArgs false
attribute [local go_sem ↓] run_skip run_region run_draw run_both run_seq run_block run_exit run_ret run_cond atN_app seqC_normal seqC_exit seqC_ret seqQ_normal seqQ_exit seqQ_ret blkQ_normal blkQ_exit blkQ_ret runOps_nil runOps_cons runD_nil runD_cons grdO_true grdO_false grdD_true grdD_false ifC_true ifC_false opS_val opS_call opS_two opK_app dS_val dS_call dS_two dK_app kUp_same kUp_ne
attribute [local go_sem] rechks_nil rechks_cons rechk gcase_true gcase_false ex_val ex_val0 gd_none gd_some ev_t ev_c evs_nil evs_cons evo_some evo_none hget_at hget_first hsetB_at hsetB_first hsetL_at hsetL_first ofOpt_some aop aload astore aslice aappend aiaddr aiaddrA afaddr alen alenS acopy amm acall alookup amupdate alenM atostr aappz comma keyEq apick binV binVB binVS isSh intOp strOp boolOp shOp eqC eqF and2 cellsOf setFrom fillA fillS rd rdI elems mk bounds AV.cell List.all_cons List.all_nil Bool.and_true Bool.true_and Bool.and_self List.length_cons List.length_nil List.length_append Nat.reduceAdd Nat.reduceSub Nat.reduceMul Nat.zero_add Nat.add_zero List.cons_append List.nil_append List.append_assoc List.append_nil List.getElem?_cons_zero List.getElem?_cons_succ List.getElem?_nil List.set_cons_zero List.set_cons_succ List.drop_zero List.drop_succ_cons List.take_zero List.take_succ_cons List.take_nil List.drop_nil List.map_cons List.map_nil Option.map_some if_true if_false Bool.false_eq_true and_self true_and and_true Nat.reduceLeDiff Nat.reduceLT Nat.le_refl Nat.reduceEqDiff ite_true ite_false beq_self_eq_true beq_true beq_false Bool.not_true Bool.not_false Bool.true_beq Bool.false_beq map_vs vs_len vs_get vs_take vs_drop vs_snoc1 vs_snoc2 vs_snoc3 vs_snoc5 vs_set1 vs_set2 vs_rep wrap_id le_T lt_T le_F lt_F leI_T ltI_T leI_F ltI_F geI gtI get_T decide_true decide_false room List.getElem?_map List.length_map List.length_take Int.toNat_natCast Nat.min_def Nat.min_self nth_kOf put_kOf put_kNo kOv_cons kOv_nil KHas KArgs List.getElem_cons_zero List.getElem_cons_succ
def a_rtbody : AFunc := ⟨1,133,[.tmp 2],(.seq (.region [⟨some 1,.box (.t 0),none⟩,⟨some 2,.mv (.c (.v .zsl)),none⟩]) (.seq (.region [⟨some 13,.faddr 0 (.t 1),none⟩,⟨some 14,.load none (.t 13),none⟩,⟨some 15,.len (.t 14),none⟩,⟨some 16,.call (.c (.fn 166 [])) [(.t 15)],none⟩,⟨some 3,.mv (.t 16),none⟩]) (.seq (.seq (.region [⟨some 4,.mv (.c (.v (.int .i64 0))),none⟩]) (.block 0 (.loop (.seq (.seq (.region [⟨some 17,.mv (.t 4),none⟩,⟨some 18,.faddr 0 (.t 1),none⟩,⟨some 19,.load none (.t 18),none⟩,⟨some 20,.len (.t 19),none⟩,⟨some 21,.bin .lss (.t 17) (.t 20),none⟩]) (.cond (.t 21) .skip (.exit 0))) (.seq (.block 1 (.seq (.region [⟨some 24,.faddr 0 (.t 1),none⟩,⟨some 25,.load none (.t 24),none⟩,⟨some 26,.mv (.t 4),none⟩,⟨some 27,.iaddr 3 (.t 25) (.t 26),none⟩,⟨some 28,.load (some 3) (.t 27),none⟩,⟨some 5,.alloc [(.v (.str ⟨#[]⟩)),(.v .zsl),(.v .zsl)],none⟩,⟨none,.store 3 (.t 5) (.t 28),none⟩]) (.seq (.region [⟨some 29,.mv (.t 3),none⟩,⟨some 30,.faddr 0 (.t 5),none⟩,⟨some 31,.load none (.t 30),none⟩,⟨some 32,.call (.c (.fn 167 [])) [(.t 29),(.t 31)],none⟩,⟨some 3,.mv (.t 32),none⟩]) (.seq (.region [⟨some 33,.mv (.t 3),none⟩,⟨some 34,.faddr 1 (.t 5),none⟩,⟨some 35,.load none (.t 34),none⟩,⟨some 36,.len (.t 35),none⟩,⟨some 37,.call (.c (.fn 166 [])) [(.t 36)],none⟩,⟨some 38,.append 1 1 (.t 33) (.t 37),none⟩,⟨some 3,.mv (.t 38),none⟩]) (.seq (.seq (.region [⟨some 6,.mv (.c (.v (.int .i64 0))),none⟩]) (.block 2 (.loop (.seq (.seq (.region [⟨some 39,.mv (.t 6),none⟩,⟨some 40,.faddr 1 (.t 5),none⟩,⟨some 41,.load none (.t 40),none⟩,⟨some 42,.len (.t 41),none⟩,⟨some 43,.bin .lss (.t 39) (.t 42),none⟩]) (.cond (.t 43) .skip (.exit 2))) (.seq (.block 3 (.seq (.region [⟨some 46,.mv (.t 3),none⟩,⟨some 47,.faddr 1 (.t 5),none⟩,⟨some 48,.load none (.t 47),none⟩,⟨some 49,.mv (.t 6),none⟩,⟨some 50,.iaddr 2 (.t 48) (.t 49),none⟩,⟨some 51,.faddr 0 (.t 50),none⟩,⟨some 52,.load none (.t 51),none⟩,⟨some 53,.call (.c (.fn 167 [])) [(.t 46),(.t 52)],none⟩,⟨some 3,.mv (.t 53),none⟩]) (.region [⟨some 54,.mv (.t 3),none⟩,⟨some 55,.faddr 1 (.t 5),none⟩,⟨some 56,.load none (.t 55),none⟩,⟨some 57,.mv (.t 6),none⟩,⟨some 58,.iaddr 2 (.t 56) (.t 57),none⟩,⟨some 59,.faddr 1 (.t 58),none⟩,⟨some 60,.load none (.t 59),none⟩,⟨some 61,.call (.c (.fn 166 [])) [(.t 60)],none⟩,⟨some 62,.append 1 1 (.t 54) (.t 61),none⟩,⟨some 3,.mv (.t 62),none⟩]))) (.region [⟨some 44,.mv (.t 6),none⟩,⟨some 45,.bin .add (.t 44) (.c (.v (.int .i64 1))),none⟩,⟨some 6,.mv (.t 45),none⟩])))))) (.seq (.region [⟨some 63,.mv (.t 3),none⟩,⟨some 64,.faddr 2 (.t 5),none⟩,⟨some 65,.load none (.t 64),none⟩,⟨some 66,.len (.t 65),none⟩,⟨some 67,.call (.c (.fn 166 [])) [(.t 66)],none⟩,⟨some 68,.append 1 1 (.t 63) (.t 67),none⟩,⟨some 3,.mv (.t 68),none⟩]) (.seq (.region [⟨some 7,.mv (.c (.v (.int .i64 0))),none⟩]) (.seq (.region [⟨some 8,.mv (.c (.v (.int .i64 0))),none⟩]) (.block 4 (.loop (.seq (.seq (.region [⟨some 69,.mv (.t 8),none⟩,⟨some 70,.faddr 2 (.t 5),none⟩,⟨some 71,.load none (.t 70),none⟩,⟨some 72,.len (.t 71),none⟩,⟨some 73,.bin .lss (.t 69) (.t 72),none⟩]) (.cond (.t 73) .skip (.exit 4))) (.seq (.block 5 (.seq (.region [⟨some 76,.faddr 2 (.t 5),none⟩,⟨some 77,.load none (.t 76),none⟩,⟨some 78,.mv (.t 8),none⟩,⟨some 79,.iaddr 5 (.t 77) (.t 78),none⟩,⟨some 80,.load (some 5) (.t 79),none⟩,⟨some 9,.alloc [(.v (.int .i64 0)),(.v (.int .i64 0)),(.v (.int .i64 0)),(.v (.int .i64 0)),(.v .zsl)],none⟩,⟨none,.store 5 (.t 9) (.t 80),none⟩]) (.seq (.region [⟨some 81,.faddr 0 (.t 9),none⟩,⟨some 82,.load none (.t 81),none⟩,⟨some 83,.faddr 1 (.t 9),none⟩,⟨some 84,.load none (.t 83),none⟩,⟨some 85,.faddr 2 (.t 9),none⟩,⟨some 86,.load none (.t 85),none⟩,⟨some 87,.faddr 3 (.t 9),none⟩,⟨some 88,.load none (.t 87),none⟩,⟨some 89,.mv (.t 7),none⟩,⟨some 90,.bin .sub (.t 88) (.t 89),none⟩,⟨some 91,.faddr 4 (.t 9),none⟩,⟨some 92,.load none (.t 91),none⟩,⟨some 93,.len (.t 92),none⟩,⟨some 94,.bslice 1 [(.v (.int .i64 0))] 5 [(0,(.t 82)),(1,(.t 84)),(2,(.t 86)),(3,(.t 90)),(4,(.t 93))],none⟩,⟨some 10,.mv (.t 94),none⟩]) (.seq (.region [⟨some 95,.faddr 3 (.t 9),none⟩,⟨some 96,.load none (.t 95),none⟩,⟨some 7,.mv (.t 96),none⟩]) (.seq (.seq (.region [⟨some 11,.mv (.c (.v (.int .i64 0))),none⟩]) (.block 6 (.loop (.seq (.seq (.region [⟨some 97,.mv (.t 11),none⟩,⟨some 98,.faddr 4 (.t 9),none⟩,⟨some 99,.load none (.t 98),none⟩,⟨some 100,.len (.t 99),none⟩,⟨some 101,.bin .lss (.t 97) (.t 100),none⟩]) (.cond (.t 101) .skip (.exit 6))) (.seq (.block 7 (.draw [⟨0,⟨some 104,.mv (.t 10),none⟩,[]⟩,⟨1,⟨some 105,.faddr 4 (.t 9),none⟩,[]⟩,⟨2,⟨some 106,.load none (.t 105),none⟩,[]⟩,⟨3,⟨some 107,.mv (.t 11),none⟩,[]⟩,⟨4,⟨some 108,.iaddr 2 (.t 106) (.t 107),none⟩,[]⟩,⟨5,⟨some 109,.faddr 0 (.t 108),none⟩,[]⟩,⟨6,⟨some 110,.load none (.t 109),none⟩,[]⟩,⟨7,⟨some 111,.faddr 4 (.t 9),none⟩,[]⟩,⟨8,⟨some 112,.load none (.t 111),none⟩,[]⟩,⟨9,⟨some 113,.mv (.t 11),none⟩,[]⟩,⟨10,⟨some 114,.iaddr 2 (.t 112) (.t 113),none⟩,[]⟩,⟨11,⟨some 115,.faddr 1 (.t 114),none⟩,[]⟩,⟨12,⟨some 116,.load none (.t 115),none⟩,[]⟩,⟨13,⟨some 117,.bslice 1 [(.v (.int .i64 0))] 2 [(0,(.t 110)),(1,(.t 116))],none⟩,[⟨some 104,.mv (.t 10),none⟩]⟩,⟨14,⟨some 118,.append 1 8 (.t 104) (.t 117),none⟩,[]⟩,⟨15,⟨some 10,.mv (.t 118),none⟩,[]⟩])) (.region [⟨some 102,.mv (.t 11),none⟩,⟨some 103,.bin .add (.t 102) (.c (.v (.int .i64 1))),none⟩,⟨some 11,.mv (.t 103),none⟩])))))) (.seq (.region [⟨some 12,.mv (.c (.v (.int .i64 0))),none⟩]) (.block 8 (.loop (.seq (.seq (.region [⟨some 119,.mv (.t 12),none⟩,⟨some 120,.mv (.t 10),none⟩,⟨some 121,.len (.t 120),none⟩,⟨some 122,.bin .lss (.t 119) (.t 121),none⟩]) (.cond (.t 122) .skip (.exit 8))) (.seq (.block 9 (.region [⟨some 125,.mv (.t 3),none⟩,⟨some 126,.mv (.t 10),none⟩,⟨some 127,.mv (.t 12),none⟩,⟨some 128,.iaddr 1 (.t 126) (.t 127),none⟩,⟨some 129,.load none (.t 128),none⟩,⟨some 130,.call (.c (.fn 166 [])) [(.t 129)],none⟩,⟨some 131,.append 1 1 (.t 125) (.t 130),none⟩,⟨some 3,.mv (.t 131),none⟩])) (.region [⟨some 123,.mv (.t 12),none⟩,⟨some 124,.bin .add (.t 123) (.c (.v (.int .i64 1))),none⟩,⟨some 12,.mv (.t 124),none⟩]))))))))))) (.region [⟨some 74,.mv (.t 8),none⟩,⟨some 75,.bin .add (.t 74) (.c (.v (.int .i64 1))),none⟩,⟨some 8,.mv (.t 75),none⟩]))))))))))))) (.region [⟨some 22,.mv (.t 4),none⟩,⟨some 23,.bin .add (.t 22) (.c (.v (.int .i64 1))),none⟩,⟨some 4,.mv (.t 23),none⟩])))))) (.seq (.region [⟨some 132,.mv (.t 3),none⟩,⟨some 2,.mv (.t 132),none⟩]) .ret))))⟩
theorem a_rtbody_ok : cFunc Try.prog 110 = some a_rtbody := by kernel_rfl
def r_rtbody0 : List (Nat × Nat) := [(3, 12), (17, 131)]
def r_rtbody1 : List (Nat × Nat) := [(3, 3), (6, 6), (39, 62)]
def r_rtbody2 : List (Nat × Nat) := [(3, 3), (7, 12), (69, 131)]
def r_rtbody3 : List (Nat × Nat) := [(10, 11), (97, 118)]
def r_rtbody4 : List (Nat × Nat) := [(3, 3), (12, 12), (119, 131)]
def a_rtenc : AFunc := ⟨1,6,[.tmp 2],(.seq (.region [⟨some 1,.box (.t 0),none⟩,⟨some 2,.mv (.c (.v .zsl)),none⟩]) (.seq (.region [⟨some 3,.load (some 1) (.t 1),none⟩,⟨some 4,.call (.c (.fn 110 [])) [(.t 3)],none⟩,⟨some 5,.call (.c (.fn 109 [])) [(.t 4)],none⟩,⟨some 2,.mv (.t 5),none⟩]) .ret))⟩
theorem a_rtenc_ok : cFunc Try.prog 37 = some a_rtenc := by kernel_rfl

theorem takeB {xs : List UInt8} : List.take xs.length (xs.map eB) = xs.map eB := List.take_of_length_le (by rw [List.length_map]; exact Nat.le_refl _)
theorem catB {xs ys : List UInt8} : vs (xs.map eB) ++ vs (ys.map eB) = vs ((xs ++ ys).map eB) := by unfold vs; simp
theorem takeI {xs : List Int} : List.take xs.length (xs.map eI) = xs.map eI := List.take_of_length_le (by rw [List.length_map]; exact Nat.le_refl _)
theorem catI2 {xs : List Int} {a c : Int} : vs (xs.map eI) ++ [[AV.v (.int .i64 a)], [AV.v (.int .i64 c)]] = vs ((xs ++ [a, c]).map eI) := by unfold vs eI; simp
def asN (a : Asg) : List Int := [a.v, a.val]
def allN (la : Int) (e : Ev) (k : Nat) : List Int := hdN la e ++ (e.asg.take k).flatMap asN
theorem allN_len {la : Int} {e : Ev} {k : Nat} (h : k ≤ e.asg.length) : (allN la e k).length = 5 + 2 * k := by
 unfold allN
 rw [List.length_append]
 have : ∀ l : List Asg, (l.flatMap asN).length = 2 * l.length := fun l => by
  induction l with
  | nil => rfl
  | cons a l ih => rw [List.flatMap_cons, List.length_append, ih, List.length_cons]; unfold asN; simp; omega
 rw [this, List.length_take]
 unfold hdN
 simp
 omega
theorem allN_next {la : Int} {e : Ev} {k : Nat} (h : k < e.asg.length) : allN la e k ++ [e.asg[k].v, e.asg[k].val] = allN la e (k + 1) := by
 unfold allN
 rw [List.take_succ_eq_append_getElem h, List.flatMap_append, List.append_assoc]
 simp [asN]
theorem allN_body {la : Int} {e : Ev} : (allN la e e.asg.length).flatMap putL = bodyEv la e := by
 unfold allN
 rw [List.take_length, List.flatMap_append, ← hdL_all]
 unfold hdL
 rw [show (hdN la e).take 5 = hdN la e from rfl]
 congr 1
 induction e.asg with
 | nil => rfl
 | cons a l ih => rw [List.flatMap_cons, List.flatMap_append, List.flatMap_cons, ih]; congr 1; unfold asN bodyAsg; simp
theorem allN_far {la : Int} {e : Ev} (h : ∀ k, k < 5 → far ((hdN la e).getD k 0) = false) (ha : ∀ a ∈ e.asg, far a.v = false ∧ far a.val = false) : ∀ n ∈ allN la e e.asg.length, far n = false := by
 intro n hn
 unfold allN at hn
 rw [List.take_length, List.mem_append] at hn
 rcases hn with hn | hn
 ·obtain ⟨k, hk, rfl⟩ := List.getElem_of_mem hn
  have := h k hk
  rwa [List.getD_eq_getElem?_getD, List.getElem?_eq_getElem hk] at this
 ·obtain ⟨a, h1, h2⟩ := List.mem_flatMap.1 hn
  unfold asN at h2
  simp only [List.mem_cons, List.not_mem_nil, or_false] at h2
  rcases h2 with rfl | rfl
  ·exact (ha a h1).1
  ·exact (ha a h1).2
theorem allN_bd {la : Int} {e : Ev} (h : e.asg.length ≤ 8) (k : Nat) : (((allN la e e.asg.length).take k).flatMap putL).length ≤ 231 := by
 have := flat_bd (g := putL) (c := 11) (l := (allN la e e.asg.length).take k) (fun n _ => putL_len n)
 rw [List.length_take, allN_len (Nat.le_refl _)] at this
 have h2 : min k (5 + 2 * e.asg.length) * 11 ≤ 21 * 11 := Nat.mul_le_mul_right _ oM
 omega
set_option maxRecDepth 20000 in
set_option maxHeartbeats 16000000 in
theorem rbody_live (t : Tr) (hV : Vok t) (b l : List Row) :
  ACalls Try.prog 110 [.agg [.v (eT t)]] b l (fun r b' l' => ∃ ver, r = .sl (b.length + l.length + 1) ver 0 (bodyT t).length ∧ b' = b ∧ l' = l ++ [.live 0 1 [[.v (.isl 3 (t.map ePr))]], bRow ver (bodyT t)]) := by
 refine calls_kept a_rtbody_ok rfl (by decide) ?_
 intro B g hB hR hE hA
 simp only [KArgs] at hA
 have eTe : eT t = .isl 3 (t.map ePr) := rfl
 simp only [eTe] at hA
 have hO := hV.codOk
 have hNO := hO.ok
 have hnp := hO.np
 have hp0 := putL_len (t.length : Int)
 simp (disch := (first | decide | omega)) only [a_rtbody, hA, List.length_map, go_sem]
 refine ACalls.nxt (rput_live (t.length : Int) oM oM _ _) ?_
 obtain ⟨W0, hW0⟩ : ∃ W, putL (t.length : Int) = W := ⟨_, rfl⟩
 rw [hW0] at hp0
 simp only [hW0]
 simp (disch := (first | decide | omega)) only [hA, List.length_map, go_sem]
 refine loop_kept (ι := Nat × Nat × List UInt8) r_rtbody0 (fun i => [(3, .sl (B.length + 1) i.2.1 0 i.2.2.length), (4, .v (.int .i64 i.1))]) 2 (fun i => [.live 0 1 [[.v (.isl 3 (t.map ePr))]], bRow i.2.1 i.2.2])
  (fun i => i.1 ≤ t.length ∧ i.2.2 = W0 ++ (t.take i.1).flatMap bodyPr) (fun i => t.length - i.1) (0, W0.length, W0) ⟨Nat.zero_le _, by simp⟩ (by (repeat (first | exact hE.mono oM | refine KLt.up ?_ kL))) (by ((try simp (disch := decide) only [hA, go_sem]) <;> exact kH)) (fun e => Weak.refl _ _ _) ?_
 intro g1 hE1 hEE1 hg1 i hi
 obtain ⟨i, ver, W⟩ := i
 obtain ⟨hi, hWi⟩ := hi
 simp only at hi hWi ⊢
 have hWb := body_bd hO i hi
 have hWl : W.length ≤ 160011 := by rw [hWi, List.length_append]; omega
 by_cases hlt : i < t.length
 ·obtain ⟨p, hpe⟩ : ∃ p, t[i] = p := ⟨_, rfl⟩
  have hpt : p ∈ t := hpe ▸ List.getElem_mem hlt
  have gp : (t.map ePr)[i]? = some [.str p.name, .isl 2 (p.vars.map eVr), .isl 5 (p.evs.map eEv)] := by rw [List.getElem?_map, List.getElem?_eq_getElem hlt, hpe]; rfl
  obtain ⟨o1, o2, o3, o4, o5⟩ := hO.pr p hpt
  obtain ⟨_, _, _, n4, n5⟩ := hNO.pr p hpt
  have hnl := namC_len p.name
  simp (disch := (first | decide | omega)) only [hA, hg1, gp, setFrom, cellsOf, List.length_map, go_sem]
  refine ACalls.nxt (rname_spec (B.length + 1) ver W oM p.name oM _ _ hgetOut) ?_
  obtain ⟨W1, hW1⟩ : ∃ X, W ++ namC p.name = X := ⟨_, rfl⟩
  have hW1l : W1.length ≤ 160100 := by rw [← hW1, List.length_append]; omega
  simp (disch := (first | decide | omega)) only [hA, hg1, hW1, List.length_map, go_sem]
  refine ACalls.nxt (rput_live (p.vars.length : Int) oM oM _ _) ?_
  obtain ⟨W2, hW2⟩ : ∃ X, W1 ++ putL (p.vars.length : Int) = X := ⟨_, rfl⟩
  have hpl2 := putL_len (p.vars.length : Int)
  have hW2s : W1.length + (putL (p.vars.length : Int)).length = W2.length := by rw [← hW2, List.length_append]
  have hW2l : W2.length ≤ 160200 := by omega
  simp (disch := (first | decide | omega)) only [hA, hg1, bRow, takeB, catB, hW2, hW2s, List.length_map, go_sem]
  refine loop_kept (ι := Nat × Nat × List UInt8) r_rtbody1 (fun i => [(3, .sl (B.length + 1) i.2.1 0 i.2.2.length), (6, .v (.int .i64 i.1))]) 4 (fun i => [.live 0 1 [[.v (.isl 3 (t.map ePr))]], bRow i.2.1 i.2.2, .live 0 3 [prC p], bRow (putL (p.vars.length : Int)).length (putL (p.vars.length : Int))])
   (fun i => i.1 ≤ p.vars.length ∧ i.2.2 = W2 ++ (p.vars.take i.1).flatMap bodyVr) (fun i => p.vars.length - i.1) (0, ver + 2 + 1, W2) ⟨Nat.zero_le _, by simp⟩ (by (repeat (first | exact hE1.mono oM | refine KLt.up ?_ kL))) (by ((try simp (disch := decide) only [hA, hg1, go_sem]) <;> exact kH)) (fun e => Weak.refl _ _ _) ?_
  intro g2 hE2 hEE2 hg2 j hj
  obtain ⟨j, ver2, X⟩ := j
  obtain ⟨hj, hXj⟩ := hj
  simp only at hj hXj ⊢
  have hXb := vars_bd o2 o4 j
  have hXl : X.length ≤ 160600 := by rw [hXj, List.length_append]; omega
  by_cases hjl : j < p.vars.length
  ·obtain ⟨v, hve⟩ : ∃ v, p.vars[j] = v := ⟨_, rfl⟩
   have hvp : v ∈ p.vars := hve ▸ List.getElem_mem hjl
   have gv : (p.vars.map eVr)[j]? = some [.str v.name, .int .i64 v.init] := by rw [List.getElem?_map, List.getElem?_eq_getElem hjl, hve]; rfl
   have hnv := namC_len v.name
   have hsv := o4 v hvp
   have hfv := far_bd (n4 v hvp).2
   have hpi := putL_len v.init
   simp (disch := (first | decide | omega)) only [hA, hg1, hg2, prC, gv, setFrom, cellsOf, List.length_map, go_sem]
   refine ACalls.nxt (rname_spec (B.length + 1) ver2 X oM v.name oM _ _ hgetOut) ?_
   obtain ⟨X1, hX1⟩ : ∃ Z, X ++ namC v.name = Z := ⟨_, rfl⟩
   have hX1l : X1.length ≤ 160700 := by rw [← hX1, List.length_append]; omega
   simp (disch := (first | decide | omega)) only [hA, hg1, hg2, hX1, gv, List.length_map, go_sem]
   refine ACalls.nxt (rput_live v.init hfv.1 hfv.2 _ _) ?_
   obtain ⟨X2, hX2⟩ : ∃ Z, X1 ++ putL v.init = Z := ⟨_, rfl⟩
   have hX2s : X1.length + (putL v.init).length = X2.length := by rw [← hX2, List.length_append]
   simp (disch := (first | decide | omega)) only [hA, hg1, hg2, bRow, takeB, catB, hX2, hX2s, List.length_map, go_sem]
   refine ⟨(j + 1, ver2 + 2 + 1, X2), ⟨hjl, ?_⟩, by simp only; omega, ?_⟩
   ·simp only
    rw [flat_take hjl, hve, ← hX2, ← hX1, hXj, bodyVr]
    simp only [List.append_assoc]
   ·exact Weak.kround (p := r_rtbody1) (k := 4) (by ((repeat refine (kAny_up rfl).trans ?_); exact hEE2)) (by ((try simp (disch := decide) only [hA, hg1, go_sem]) <;> exact kH)) rfl hE2 (by simp) kV hR (by simp (disch := omega) only [bRow, prC, lts.down, Nat.reduceLT, Nat.reduceAdd])
  ·obtain rfl : j = p.vars.length := by omega
   rw [List.take_length] at hXj
   simp (disch := (first | decide | omega)) only [hA, hg1, hg2, prC, List.length_map, go_sem]
   refine ACalls.nxt (rput_live (p.evs.length : Int) oM oM _ _) ?_
   obtain ⟨W3, hW3⟩ : ∃ Z, X ++ putL (p.evs.length : Int) = Z := ⟨_, rfl⟩
   have hpl3 := putL_len (p.evs.length : Int)
   have hW3s : X.length + (putL (p.evs.length : Int)).length = W3.length := by rw [← hW3, List.length_append]
   have hW3l : W3.length ≤ 160700 := by omega
   simp (disch := (first | decide | omega)) only [hA, hg1, hg2, bRow, takeB, catB, hW3, hW3s, List.length_map, go_sem]
   refine loop_kept (ι := Nat × Nat × List UInt8) r_rtbody2 (fun i => [(3, .sl (B.length + 1) i.2.1 0 i.2.2.length), (7, .v (.int .i64 (lastE (p.evs.take i.1)))), (8, .v (.int .i64 i.1))]) 5 (fun i => [.live 0 1 [[.v (.isl 3 (t.map ePr))]], bRow i.2.1 i.2.2, .live 0 3 [prC p], bRow (putL (p.vars.length : Int)).length (putL (p.vars.length : Int)), bRow (putL (p.evs.length : Int)).length (putL (p.evs.length : Int))])
    (fun i => i.1 ≤ p.evs.length ∧ i.2.2 = W3 ++ bodyEvs p.evs i.1) (fun i => p.evs.length - i.1) (0, ver2 + 1, W3) ⟨Nat.zero_le _, by simp [bodyEvs]⟩ (by (repeat (first | exact hE2.mono oM | refine KLt.up ?_ kL))) (by ((try simp (disch := decide) only [hA, hg1, hg2, go_sem]) <;> exact kH)) (fun e => Weak.refl _ _ _) ?_
   intro g3 hE3 hEE3 hg3 j hj
   obtain ⟨j, ver3, Y⟩ := j
   obtain ⟨hj, hYj⟩ := hj
   simp only at hj hYj ⊢
   have hYb := bodyEvs_bd o5 j hj
   have hYl : Y.length ≤ 180000 := by rw [hYj, List.length_append]; omega
   by_cases hjl : j < p.evs.length
   ·obtain ⟨e, hee⟩ : ∃ e, p.evs[j] = e := ⟨_, rfl⟩
    have hep : e ∈ p.evs := hee ▸ List.getElem_mem hjl
    have ge : (p.evs.map eEv)[j]? = some [.int .i64 e.kind, .int .i64 e.peer, .int .i64 e.msg, .int .i64 e.time, .isl 2 (e.asg.map eAsg)] := by rw [List.getElem?_map, List.getElem?_eq_getElem hjl, hee]; rfl
    obtain ⟨m1, m2, m3, m4, m5, m6, m7⟩ := n5 e hep
    have hlb := lastE_bd (l := p.evs.take j) (fun x hx => by have := n5 x (List.mem_of_mem_take hx); exact ⟨this.2.2.2.1, this.2.2.2.2.1⟩)
    have hla : lastE (p.evs.take (j + 1)) = e.time := by rw [lastE_take hjl, hee]
    obtain ⟨la, hlae⟩ : ∃ z, lastE (p.evs.take j) = z := ⟨_, rfl⟩
    rw [hlae] at hlb
    have ha8 := o5 e hep
    have hfar : ∀ k (hk : k < 5), far ((hdN la e).getD k 0) = false := fun k hk => by
     match k, hk with
     | 0, _ => exact m1
     | 1, _ => exact m2
     | 2, _ => exact m3
     | 3, _ => exact far_false.2 (show -1125899906842624 ≤ e.time - la ∧ e.time - la ≤ 1125899906842624 by omega)
     | 4, _ => exact far_false.2 (show -1125899906842624 ≤ (e.asg.length : Int) ∧ (e.asg.length : Int) ≤ 1125899906842624 by omega)
    have hallf := allN_far hfar m7
    simp (disch := (first | decide | omega)) only [hA, hg1, hg2, hg3, prC, ge, hlae, setFrom, cellsOf, List.length_map, List.replicate_succ, List.replicate_zero, go_sem]
    refine loop_kept (ι := Nat) r_rtbody3 (fun k => [(10, .sl (B.length + 6) k 0 (allN la e k).length), (11, .v (.int .i64 k))]) 7 (fun k => [.live 0 1 [[.v (.isl 3 (t.map ePr))]], bRow ver3 Y, .live 0 3 [prC p], bRow (putL (p.vars.length : Int)).length (putL (p.vars.length : Int)), bRow (putL (p.evs.length : Int)).length (putL (p.evs.length : Int)), .live 0 5 [evC e], .live k 1 (vs ((allN la e k).map eI))])
     (fun k => k ≤ e.asg.length) (fun k => e.asg.length - k) 0 (Nat.zero_le _) (by (repeat (first | exact hE3.mono oM | refine KLt.up ?_ kL))) (by ((try simp (disch := decide) only [hA, hg1, hg2, hg3, go_sem]) <;> exact kH)) (fun e => Weak.refl _ _ _) ?_
    intro g4 hE4 hEE4 hg4 k hk
    have hall := allN_len (la := la) hk
    by_cases hkl : k < e.asg.length
    ·obtain ⟨a, hae⟩ : ∃ a, e.asg[k] = a := ⟨_, rfl⟩
     have ga : (e.asg.map eAsg)[k]? = some [.int .i64 a.v, .int .i64 a.val] := by rw [List.getElem?_map, List.getElem?_eq_getElem hkl, hae]; rfl
     have hnx := allN_next (la := la) hkl
     rw [hae] at hnx
     have hnl2 : (allN la e k).length + 2 = (allN la e (k + 1)).length := by rw [← hnx]; simp
     simp (disch := (first | decide | omega)) only [hA, hg1, hg2, hg3, hg4, evC, ga, takeI, catI2, hnx, hnl2, List.length_map, List.replicate_succ, List.replicate_zero, go_sem]
     refine ⟨k + 1, hkl, by simp only; omega, ?_⟩
     exact Weak.kround (p := r_rtbody3) (k := 7) (by ((repeat refine (kAny_up rfl).trans ?_); exact hEE4)) (by ((try simp (disch := decide) only [hA, hg1, hnl2, go_sem]) <;> exact kH)) rfl hE4 (by simp) kV hR (by simp (disch := omega) only [bRow, prC, evC, lts.down, Nat.reduceLT, Nat.reduceAdd])
    ·obtain rfl : k = e.asg.length := by omega
     simp (disch := (first | decide | omega)) only [hA, hg1, hg2, hg3, hg4, evC, List.length_map, go_sem]
     obtain ⟨N, hN⟩ : ∃ N, allN la e e.asg.length = N := ⟨_, rfl⟩
     have hNf : ∀ n ∈ N, far n = false := by rw [← hN]; exact hallf
     have hNb : N.flatMap putL = bodyEv la e := by rw [← hN]; exact allN_body
     rw [hN] at hall
     simp only [hN]
     refine loop_kept (ι := Nat × Nat × List UInt8) r_rtbody4 (fun i => [(3, .sl (B.length + 1) i.2.1 0 i.2.2.length), (12, .v (.int .i64 i.1))]) 7 (fun i => [.live 0 1 [[.v (.isl 3 (t.map ePr))]], bRow i.2.1 i.2.2, .live 0 3 [prC p], bRow (putL (p.vars.length : Int)).length (putL (p.vars.length : Int)), bRow (putL (p.evs.length : Int)).length (putL (p.evs.length : Int)), .live 0 5 [evC e], .live e.asg.length 1 (vs (N.map eI))])
      (fun i => i.1 ≤ N.length ∧ i.2.2 = Y ++ (N.take i.1).flatMap putL) (fun i => N.length - i.1) (0, ver3, Y) ⟨Nat.zero_le _, by simp⟩ (by (repeat (first | exact hE4.mono oM | refine KLt.up ?_ kL))) (by ((try simp (disch := decide) only [hA, hg1, hg2, hg3, hg4, go_sem]) <;> exact kH)) (fun e => Weak.refl _ _ _) ?_
     intro g5 hE5 hEE5 hg5 k hk
     obtain ⟨k, ver5, V⟩ := k
     obtain ⟨hk, hVk⟩ := hk
     simp only at hk hVk ⊢
     have hVb := allN_bd (la := la) ha8 k
     rw [hN] at hVb
     have hVl : V.length ≤ 200000 := by rw [hVk, List.length_append]; omega
     by_cases hkl : k < N.length
     ·obtain ⟨n, hn⟩ : ∃ n, N[k] = n := ⟨_, rfl⟩
      have gn : (N.map eI)[k]? = some [.int .i64 n] := by rw [List.getElem?_map, List.getElem?_eq_getElem hkl, hn]; rfl
      have f1 := far_bd (hNf n (hn ▸ List.getElem_mem hkl))
      have hpn := putL_len n
      simp (disch := (first | decide | omega)) only [hA, hg1, hg2, hg3, hg4, hg5, gn, List.length_map, go_sem]
      refine ACalls.nxt (rput_live n f1.1 f1.2 _ _) ?_
      obtain ⟨V1, hV1⟩ : ∃ z, V ++ putL n = z := ⟨_, rfl⟩
      have hV1s : V.length + (putL n).length = V1.length := by rw [← hV1, List.length_append]
      simp (disch := (first | decide | omega)) only [hA, hg1, hg2, hg3, hg4, hg5, bRow, takeB, catB, hV1, hV1s, List.length_map, go_sem]
      refine ⟨(k + 1, ver5 + 1, V1), ⟨hkl, ?_⟩, by simp only; omega, ?_⟩
      ·simp only
       rw [flat_take hkl, hn, ← hV1, hVk, List.append_assoc]
      ·exact Weak.kround (p := r_rtbody4) (k := 7) (by ((repeat refine (kAny_up rfl).trans ?_); exact hEE5)) (by ((try simp (disch := decide) only [hA, hg1, go_sem]) <;> exact kH)) rfl hE5 (by simp) kV hR (by simp (disch := omega) only [bRow, prC, evC, lts.down, Nat.reduceLT, Nat.reduceAdd])
     ·obtain rfl : k = N.length := by omega
      rw [List.take_length] at hVk
      simp (disch := (first | decide | omega)) only [hA, hg1, hg2, hg3, hg4, hg5, List.length_map, go_sem]
      refine ⟨(j + 1, ver5, V), ⟨hjl, ?_⟩, by simp only; omega, ?_⟩
      ·simp only
       rw [bodyEvs_at hjl, hee, hlae, ← hNb, hVk, hYj, List.append_assoc]
      ·exact Weak.kround (p := r_rtbody2) (k := 5) (by ((repeat refine (kAny_up rfl).trans ?_); refine (kAny_sub hg5 (kIn_sub rfl)).trans ?_; (repeat refine (kAny_up rfl).trans ?_); refine (kAny_sub hg4 (kIn_sub rfl)).trans ?_; (repeat refine (kAny_up rfl).trans ?_); exact hEE3)) (by ((try simp (disch := decide) only [hA, hg1, hg2, hg3, hg4, hg5, hla, go_sem]) <;> exact kH)) rfl hE3 (by simp) kV hR (by simp (disch := omega) only [bRow, prC, lts.down, Nat.reduceLT, Nat.reduceAdd])
   ·obtain rfl : j = p.evs.length := by omega
    simp (disch := (first | decide | omega)) only [hA, hg1, hg2, hg3, prC, List.length_map, go_sem]
    refine ⟨(i + 1, ver3, Y), ⟨hlt, ?_⟩, by simp only; omega, ?_⟩
    ·simp only
     rw [flat_take hlt, hpe, hYj, ← hW3, hXj, ← hW2, ← hW1, hWi, bodyPr]
     simp only [List.append_assoc]
    ·exact Weak.kround (p := r_rtbody0) (k := 2) (by ((repeat refine (kAny_up rfl).trans ?_); refine (kAny_sub hg3 (kIn_sub rfl)).trans ?_; (repeat refine (kAny_up rfl).trans ?_); refine (kAny_sub hg2 (kIn_sub rfl)).trans ?_; (repeat refine (kAny_up rfl).trans ?_); exact hEE1)) (by ((try simp (disch := decide) only [hA, go_sem]) <;> exact kH)) rfl hE1 (by simp) kV hR (by simp (disch := omega) only [bRow, lts.down, Nat.reduceLT, Nat.reduceAdd])
 ·obtain rfl : i = t.length := by omega
  rw [List.take_length] at hWi
  have hWT : W = bodyT t := by rw [hWi, ← hW0]; rfl
  rw [← hWT]
  simp (disch := (first | decide | omega)) only [hA, hg1, List.length_map, go_sem]
  exact leave_keep (.inr rfl) (y := .sl (B.length + 1) ver 0 W.length) (keep := [.live 0 1 [[.v (.isl 3 (t.map ePr))]], bRow ver W]) (junk := []) (by simp (disch := (first | decide | omega)) only [resVs, resV, hA, go_sem]) rfl hR kL (by simp (disch := omega) only [bRow, lts.down, Nat.reduceLT, Nat.reduceAdd]) hB ⟨ver, by rw [hB, List.length_append], rfl, rfl⟩
set_option maxHeartbeats 4000000 in
theorem rencode_spec (t : Tr) (hV : Vok t) (b l : List Row) : ACalls Try.prog 37 [.agg [.v (eT t)]] b l (fun r b' l' => r = .v (.isl 1 ((codeL t).map eB)) ∧ b' = b ∧ l' = l) := by
 refine calls_kept a_rtenc_ok rfl (by decide) ?_
 intro B g hB hR hE hA
 simp only [KArgs] at hA
 have hO := hV.codOk
 have hb : (bodyT t).length ≤ 160011 := by
  have h1 := putL_len (t.length : Int)
  have h2 := body_bd hO t.length (Nat.le_refl _)
  rw [List.take_length] at h2
  unfold bodyT
  rw [List.length_append]
  omega
 simp (disch := (first | decide | omega)) only [a_rtenc, hA, go_sem]
 refine ACalls_mono _ _ _ _ _ _ (rbody_live t hV _ _) ?_
 rintro r b' l' ⟨ver, hr1, hb1, hl1⟩
 rw [hr1, hb1, hl1]
 simp (disch := (first | decide | omega)) only [hA, go_sem]
 refine ACalls.nxt (rsummed_spec (B.length + 2) ver (bodyT t) oM _ _ ((hget_at (i := 2)).trans rfl)) ?_
 simp (disch := (first | decide | omega)) only [hA, go_sem]
 exact leave_pure (xs := [.v (.isl 1 ((sumL (bodyT t)).map eB))]) (.inr rfl) (by simp (disch := (first | decide | omega)) only [resVs, resV, go_sem, hA]) kO hR hB ⟨rfl, rfl, rfl⟩
end Go.Proofs.Ytanblnhnfkeffaa
