/- Texts of one proof, laid together: Q5. No condition. -/
import Derived.Test.YtnihdkfmmbpilaaDoorPK21
import Derived.Test.YtnihdkfmmbpilaaDoorPK16
import Derived.Test.YtnihdkfmmbpilaaDoorPK13
import Derived.Test.YtnihdkfmmbpilaaDoorPK19
namespace Go.Proofs.YtnihdkfmmbpilaaDoor
set_option linter.unusedVariables false
set_option linter.unusedSimpArgs false
attribute [local go_sem ↓] run_skip run_region run_draw run_both run_seq run_block run_exit run_ret run_cond atN_app seqC_normal seqC_exit seqC_ret seqQ_normal seqQ_exit seqQ_ret blkQ_normal blkQ_exit blkQ_ret runOps_nil runOps_cons runD_nil runD_cons grdO_true grdO_false grdD_true grdD_false ifC_true ifC_false opS_val opS_call opS_two opK_app dS_val dS_call dS_two dK_app kUp_same kUp_ne
attribute [local go_sem] rechks_nil rechks_cons rechk gcase_true gcase_false ex_val ex_val0 gd_none gd_some ev_t ev_c evs_nil evs_cons evo_some evo_none hget_at hget_first hsetB_at hsetB_first hsetL_at hsetL_first ofOpt_some aop aload astore aslice aappend aiaddr aiaddrA afaddr alen alenS acopy amm acall alookup amupdate alenM atostr aappz comma keyEq apick binV binVB binVS isSh intOp strOp boolOp shOp eqC eqF and2 cellsOf setFrom fillA fillS rd rdI elems mk bounds AV.cell List.all_cons List.all_nil Bool.and_true Bool.true_and Bool.and_self List.length_cons List.length_nil List.length_append Nat.reduceAdd Nat.reduceSub Nat.reduceMul Nat.zero_add Nat.add_zero List.cons_append List.nil_append List.append_assoc List.append_nil List.getElem?_cons_zero List.getElem?_cons_succ List.getElem?_nil List.set_cons_zero List.set_cons_succ List.drop_zero List.drop_succ_cons List.take_zero List.take_succ_cons List.take_nil List.drop_nil List.map_cons List.map_nil Option.map_some if_true if_false Bool.false_eq_true and_self true_and and_true Nat.reduceLeDiff Nat.reduceLT Nat.le_refl Nat.reduceEqDiff ite_true ite_false beq_self_eq_true beq_true beq_false Bool.not_true Bool.not_false Bool.true_beq Bool.false_beq map_vs vs_len vs_get vs_take vs_drop vs_snoc1 vs_snoc2 vs_snoc3 vs_snoc5 vs_set1 vs_set2 vs_rep wrap_id le_T lt_T le_F lt_F leI_T ltI_T leI_F ltI_F geI gtI get_T decide_true decide_false room List.getElem?_map List.length_map List.length_take Int.toNat_natCast Nat.min_def Nat.min_self nth_kOf put_kOf put_kNo kOv_cons kOv_nil KHas KArgs List.getElem_cons_zero List.getElem_cons_succ
def a_pallS : AFunc := ⟨1,34,[.tmp 2],(.seq (.region [⟨some 2,.mv (.c (.v .zsl)),none⟩]) (.seq (.region [⟨some 3,.mv (.c (.v .zsl)),none⟩]) (.seq (.seq (.region [⟨some 8,.mv (.t 0),none⟩,⟨some 9,.len (.t 8),none⟩,⟨some 10,.mv (.c (.v (.int .i64 0))),none⟩]) (.block 0 (.loop (.seq (.region [⟨some 11,.bin .lss (.t 10) (.t 9),none⟩]) (.seq (.cond (.t 11) .skip (.exit 0)) (.seq (.block 1 (.seq (.region [⟨some 12,.mv (.t 10),none⟩,⟨some 13,.iaddr 1 (.t 8) (.t 10),none⟩,⟨some 14,.load none (.t 13),none⟩,⟨some 4,.mv (.t 12),none⟩,⟨some 5,.mv (.t 14),none⟩]) (.seq (.region [⟨some 15,.mv (.t 5),none⟩,⟨some 16,.len (.t 15),none⟩,⟨some 17,.mv (.c (.v (.int .i64 0))),none⟩]) (.block 2 (.loop (.seq (.region [⟨some 18,.bin .lss (.t 17) (.t 16),none⟩]) (.seq (.cond (.t 18) .skip (.exit 2)) (.seq (.block 3 (.seq (.region [⟨some 19,.mv (.t 17),none⟩,⟨some 20,.iaddr 1 (.t 15) (.t 17),none⟩,⟨some 21,.load none (.t 20),none⟩,⟨some 6,.mv (.t 19),none⟩,⟨some 7,.mv (.t 21),none⟩]) (.region [⟨some 22,.mv (.t 3),none⟩,⟨some 23,.mv (.t 4),none⟩,⟨some 24,.mv (.t 6),none⟩,⟨some 25,.bin .add (.t 24) (.c (.v (.int .i64 1))),none⟩,⟨some 26,.build [(.v (.int .i64 0)),(.v (.int .i64 0))] [(0,1,(.t 23)),(1,1,(.t 25))],none⟩,⟨some 27,.mv (.t 7),none⟩,⟨some 28,.build [(.v (.int .i64 0)),(.v (.int .i64 0)),(.v .zsl)] [(0,2,(.t 26)),(2,1,(.t 27))],none⟩,⟨some 29,.bslice 3 [(.v (.int .i64 0)),(.v (.int .i64 0)),(.v .zsl)] 1 [(0,(.t 28))],none⟩,⟨some 30,.append 3 40 (.t 22) (.t 29),none⟩,⟨some 3,.mv (.t 30),none⟩]))) (.region [⟨some 31,.bin .add (.t 17) (.c (.v (.int .i64 1))),none⟩,⟨some 17,.mv (.t 31),none⟩]))))))))) (.region [⟨some 32,.bin .add (.t 10) (.c (.v (.int .i64 1))),none⟩,⟨some 10,.mv (.t 32),none⟩]))))))) (.seq (.region [⟨some 33,.mv (.t 3),none⟩,⟨some 2,.mv (.t 33),none⟩]) .ret))))⟩
theorem a_pallS_ok : cFunc Tryd.prog 41 = some a_pallS := by kernel_rfl
def r_pallS0 : List (Nat × Nat) := [(3, 7), (10, 32)]
def r_pallS1 : List (Nat × Nat) := [(3, 3), (6, 7), (17, 31)]
def a_pck : AFunc := ⟨3,93,[.tmp 6],(.seq (.region [⟨some 3,.box (.t 0),none⟩,⟨some 4,.box (.t 1),none⟩,⟨some 6,.mv (.c (.v (.bool false))),none⟩]) (.seq (.seq (.region [⟨some 18,.load (some 1) (.t 3),none⟩,⟨some 19,.load none (.t 4),none⟩,⟨some 20,.call (.c (.fn 37 [])) [(.t 18),(.t 19)],none⟩,⟨some 21,.bin .neq (.t 20) (.c (.v (.int .i64 0))),none⟩,⟨some 22,.mv (.t 21),none⟩,⟨some 23,.mv (.t 2),some (22,false)⟩,⟨some 24,.len (.t 23),some (22,false)⟩,⟨some 25,.faddr 0 (.t 3),some (22,false)⟩,⟨some 26,.load none (.t 25),some (22,false)⟩,⟨some 27,.len (.t 26),some (22,false)⟩,⟨some 28,.bin .neq (.t 24) (.t 27),some (22,false)⟩,⟨some 29,.pick (.t 22) (.c (.v (.bool true))) (.t 28),none⟩]) (.cond (.t 29) (.seq (.region [⟨some 6,.mv (.c (.v (.bool false))),none⟩]) .ret) .skip)) (.seq (.seq (.region [⟨some 30,.mv (.t 2),none⟩,⟨some 31,.len (.t 30),none⟩,⟨some 32,.mv (.c (.v (.int .i64 0))),none⟩]) (.block 0 (.loop (.seq (.region [⟨some 33,.bin .lss (.t 32) (.t 31),none⟩]) (.seq (.cond (.t 33) .skip (.exit 0)) (.seq (.block 1 (.seq (.region [⟨some 34,.mv (.t 32),none⟩,⟨some 35,.iaddr 1 (.t 30) (.t 32),none⟩,⟨some 36,.load none (.t 35),none⟩,⟨some 7,.mv (.t 34),none⟩,⟨some 8,.mv (.t 36),none⟩]) (.seq (.region [⟨some 37,.mv (.t 8),none⟩,⟨some 38,.len (.t 37),none⟩,⟨some 39,.faddr 0 (.t 3),none⟩,⟨some 40,.load none (.t 39),none⟩,⟨some 41,.mv (.t 7),none⟩,⟨some 42,.iaddr 3 (.t 40) (.t 41),none⟩,⟨some 43,.faddr 2 (.t 42),none⟩,⟨some 44,.load none (.t 43),none⟩,⟨some 45,.len (.t 44),none⟩,⟨some 46,.bin .neq (.t 38) (.t 45),none⟩,⟨some 47,.mv (.t 46),none⟩,⟨some 48,.mv (.t 8),some (47,false)⟩,⟨some 49,.mkfn 38 [(.t 4)],some (47,false)⟩,⟨some 50,.call (.c (.fn 10 [])) [(.t 48),(.t 49)],some (47,false)⟩,⟨some 51,.pick (.t 47) (.c (.v (.bool true))) (.t 50),none⟩]) (.cond (.t 51) (.seq (.region [⟨some 6,.mv (.c (.v (.bool false))),none⟩]) .ret) .skip)))) (.region [⟨some 52,.bin .add (.t 32) (.c (.v (.int .i64 1))),none⟩,⟨some 32,.mv (.t 52),none⟩]))))))) (.seq (.region [⟨some 54,.load (some 1) (.t 3),none⟩,⟨some 55,.call (.c (.fn 40 [])) [(.t 54)],none⟩,⟨some 53,.mv (.t 55),none⟩,⟨some 56,.extract 0 (.t 53),none⟩,⟨some 57,.extract 1 (.t 53),none⟩,⟨some 9,.alloc [(.v .zsl)],none⟩,⟨none,.store 1 (.t 9) (.t 56),none⟩,⟨some 10,.mv (.t 57),none⟩]) (.seq (.region [⟨some 58,.mv (.t 2),none⟩,⟨some 59,.call (.c (.fn 41 [])) [(.t 58)],none⟩,⟨some 11,.mv (.t 59),none⟩]) (.seq (.seq (.region [⟨some 60,.faddr 0 (.t 9),none⟩,⟨some 61,.load none (.t 60),none⟩,⟨some 62,.len (.t 61),none⟩,⟨some 63,.mv (.c (.v (.int .i64 0))),none⟩]) (.block 2 (.loop (.seq (.region [⟨some 64,.bin .lss (.t 63) (.t 62),none⟩]) (.seq (.cond (.t 64) .skip (.exit 2)) (.seq (.block 3 (.seq (.region [⟨some 65,.mv (.t 63),none⟩,⟨some 66,.iaddr 2 (.t 61) (.t 63),none⟩,⟨some 67,.load (some 2) (.t 66),none⟩,⟨some 13,.alloc [(.v (.int .i64 0)),(.v .zsl)],none⟩,⟨some 12,.mv (.t 65),none⟩,⟨none,.store 2 (.t 13) (.t 67),none⟩]) (.seq (.region [⟨some 69,.load (some 2) (.t 13),none⟩,⟨some 70,.call (.c (.fn 42 [])) [(.t 69)],none⟩,⟨some 68,.mv (.t 70),none⟩,⟨some 71,.extract 0 (.t 68),none⟩,⟨some 72,.extract 1 (.t 68),none⟩,⟨some 14,.mv (.t 71),none⟩,⟨some 15,.mv (.t 72),none⟩]) (.seq (.region [⟨some 73,.mv (.t 14),none⟩,⟨some 74,.len (.t 73),none⟩,⟨some 75,.mv (.c (.v (.int .i64 0))),none⟩]) (.block 4 (.loop (.seq (.region [⟨some 76,.bin .lss (.t 75) (.t 74),none⟩]) (.seq (.cond (.t 76) .skip (.exit 4)) (.seq (.block 5 (.seq (.region [⟨some 77,.iaddr 1 (.t 73) (.t 75),none⟩,⟨some 78,.load none (.t 77),none⟩,⟨some 17,.mv (.t 78),none⟩]) (.seq (.draw [⟨0,⟨some 79,.mv (.t 11),none⟩,[]⟩,⟨1,⟨some 80,.mv (.t 12),none⟩,[]⟩,⟨2,⟨some 81,.iaddr 3 (.t 79) (.t 80),none⟩,[]⟩,⟨3,⟨some 82,.faddr 2 (.t 81),none⟩,[]⟩,⟨4,⟨some 83,.load none (.t 82),none⟩,[]⟩,⟨5,⟨some 84,.mv (.t 11),none⟩,[]⟩,⟨6,⟨some 85,.mv (.t 17),none⟩,[]⟩,⟨7,⟨some 86,.iaddr 3 (.t 84) (.t 85),none⟩,[]⟩,⟨8,⟨some 87,.faddr 2 (.t 86),none⟩,[]⟩,⟨9,⟨some 88,.load none (.t 87),none⟩,[]⟩,⟨10,⟨some 89,.call (.c (.fn 43 [])) [(.t 83),(.t 88)],none⟩,[]⟩,⟨11,⟨some 90,.bin .neq (.t 89) (.c (.v (.int .i64 (-1)))),none⟩,[]⟩]) (.cond (.t 90) (.seq (.region [⟨some 6,.mv (.c (.v (.bool false))),none⟩]) .ret) .skip)))) (.region [⟨some 91,.bin .add (.t 75) (.c (.v (.int .i64 1))),none⟩,⟨some 75,.mv (.t 91),none⟩])))))))))) (.region [⟨some 92,.bin .add (.t 63) (.c (.v (.int .i64 1))),none⟩,⟨some 63,.mv (.t 92),none⟩]))))))) (.seq (.region [⟨some 6,.mv (.c (.v (.bool true))),none⟩]) .ret)))))))⟩
theorem a_pck_ok : cFunc Tryd.prog 12 = some a_pck := by kernel_rfl
def r_pck0 : List (Nat × Nat) := [(6, 8), (32, 52)]
def r_pck1 : List (Nat × Nat) := [(6, 6), (12, 15), (17, 17), (63, 92)]
def r_pck2 : List (Nat × Nat) := [(6, 6), (17, 17), (75, 91)]

def cuB (S : List (List (List Int))) (x : Nat × Nat) : List Int := (S.getD x.1 []).getD (x.2 - 1) []
def shB (t : Tr) (S : List (List (List Int))) : Prop := S.length = t.length ∧ ∀ p, p < t.length → (S.getD p []).length = (evsOf t p).length
def okR (t : Tr) (k : Nat) (S : List (List (List Int))) (p : Nat) : Bool := decide ((S.getD p []).length = (evsOf t p).length) && (List.range (S.getD p []).length).all fun i => okV k ((S.getD p []).getD i [])
def fitB (t : Tr) (k : Nat) (S : List (List (List Int))) : Bool := decide (S.length = t.length) && (List.range S.length).all (okR t k S)
noncomputable def kpB (t : Tr) (S : List (List (List Int))) (i j : Nat) : Bool := !hpB t i j || decide (cmpV (cuB S (idN t i)) (cuB S (idN t j)) = -1)
noncomputable def keepB (t : Tr) (S : List (List (List Int))) : Bool := (List.range (ids t).length).all fun i => (List.range (ids t).length).all (kpB t S i)
open Classical in
noncomputable def chkB (t : Tr) (k : Int) (S : List (List (List Int))) : Bool := validL t && (decide (1 ≤ k ∧ k ≤ 8) && (fitB t k.toNat S && keepB t S))
theorem fitB_sh {t : Tr} {k : Nat} {S : List (List (List Int))} (h : fitB t k S = true) : shB t S ∧ ∀ x ∈ ids t, okV k (cuB S x) = true := by
 unfold fitB at h
 rw [Bool.and_eq_true, decide_eq_true_iff, List.all_eq_true] at h
 obtain ⟨h1, h2⟩ := h
 have h3 : ∀ p, p < t.length → (S.getD p []).length = (evsOf t p).length ∧ ∀ i, i < (S.getD p []).length → okV k ((S.getD p []).getD i []) = true := fun p hp => by
  have := h2 p (List.mem_range.2 oM)
  unfold okR at this
  rw [Bool.and_eq_true, decide_eq_true_iff, List.all_eq_true] at this
  exact ⟨this.1, fun i hi => this.2 i (List.mem_range.2 hi)⟩
 refine ⟨⟨h1, fun p hp => (h3 p hp).1⟩, fun x hx => ?_⟩
 obtain ⟨p, i⟩ := x
 obtain ⟨i, rfl⟩ : ∃ j, i = j + 1 := ⟨i - 1, by have := mem_pos hx; simp only at this; omega⟩
 obtain ⟨hp, hi⟩ := mem_ids2.1 hx
 exact (h3 p hp).2 i (by rw [(h3 p hp).1]; exact hi)
theorem okV_len {k : Nat} {v : List Int} (h : okV k v = true) : v.length = k := by
 unfold okV at h
 rw [Bool.and_eq_true, decide_eq_true_iff] at h
 exact h.1
def eFs (S : List (List (List Int))) (x : Nat × Nat) : List IV := [.int .i64 x.1, .int .i64 x.2, .isl 1 ((cuB S x).map eI)]
def evS (t : Tr) (S : List (List (List Int))) (p i : Nat) : List (List IV) := (idsTo t p i).map (eFs S)
theorem pallS_spec (t : Tr) (hS : Small t) (hC : (ids t).length ≤ 1000000) (S : List (List (List Int))) (hs : shB t S) (b l : List Row) :
  ACalls Tryd.prog 41 [.v (.isl 1 (S.map eMq))] b l (fun r b' l' => r = .v (.isl 3 ((ids t).map (eFs S))) ∧ b' = b ∧ l' = l) := by
 refine calls_kept a_pallS_ok rfl (by decide) ?_
 intro B g hB hR hE hA
 simp only [KArgs] at hA
 have hnp := hS.np
 have l0 : evL t 0 0 = 0 := rfl
 have v0 : evS t S 0 0 = [] := rfl
 obtain ⟨hs1, hs2⟩ := hs
 simp (disch := (first | decide | omega)) only [a_pallS, hA, hs1, List.length_map, go_sem]
 refine loop_kept_nil (ι := Nat) 3 3 r_pallS0 (fun p => [(10, .v (.int .i64 p)), (3, .sl B.length (evL t p 0) 0 (evL t p 0))]) 1 (fun p => [.live (evL t p 0) 3 (vs (evS t S p 0))])
  (fun p => p ≤ t.length) (fun p => t.length - p) 0 (Nat.zero_le _) (by simp (disch := decide) only [hA, go_sem]) (by decide) rfl (by (repeat (first | exact hE.mono oM | refine KLt.up ?_ kL))) (by ((try simp (disch := decide) only [hA, l0, go_sem]) <;> exact kH)) (fun e => Weak.refl _ _ _) ?_
 intro g1 hE1 hEE1 hg1 p hp
 by_cases hpl : p < t.length
 ·have hne := hS.ne _ (List.getElem_mem hpl)
  have heo := evsOf_lt hpl
  have hpS : p < S.length := by omega
  have hrow := hs2 p hpl
  rw [getD_at hpS, heo] at hrow
  have hgp : (S.map eMq)[p]? = some [.isl 1 (S[p].map eRw)] := by rw [List.getElem?_map, List.getElem?_eq_getElem hpS]; rfl
  simp (disch := (first | decide | omega)) only [hA, hg1, hs1, hgp, hrow, List.length_map, go_sem]
  refine loop_kept (ι := Nat) r_pallS1 (fun i => [(17, .v (.int .i64 i)), (3, .sl B.length (evL t p i) 0 (evL t p i))]) 1 (fun i => [.live (evL t p i) 3 (vs (evS t S p i))])
   (fun i => i ≤ t[p].evs.length) (fun i => t[p].evs.length - i) 0 (Nat.zero_le _) (by (repeat (first | exact hE1.mono oM | refine KLt.up ?_ kL))) (by ((try simp (disch := decide) only [hA, hg1, go_sem]) <;> exact kH)) (fun e => Weak.refl _ _ _) ?_
  intro g2 hE2 hEE2 hg2 i hi
  by_cases hil : i < t[p].evs.length
  ·have hle := evL_le hpl (show i + 1 ≤ t[p].evs.length by omega)
   have hsl : evL t p (i + 1) = evL t p i + 1 := by unfold evL; rw [idsTo_succ, List.length_append]; rfl
   have hvl : (evS t S p i).length = evL t p i := by unfold evS evL; rw [List.length_map]
   have tk : List.take (evL t p i) (evS t S p i) = evS t S p i := List.take_of_length_le oM
   have hck : (i : Int) + 1 = ((i + 1 : Nat) : Int) := by omega
   have hiS : i < S[p].length := by omega
   have hcu : cuB S (p, i + 1) = S[p][i] := by unfold cuB; rw [getD_at hpS]; exact getD_at hiS
   have hgi : (S[p].map eRw)[i]? = some [.isl 1 ((cuB S (p, i + 1)).map eI)] := by rw [List.getElem?_map, List.getElem?_eq_getElem hiS, hcu]; rfl
   have hsn : evS t S p i ++ [[.int .i64 p, .int .i64 ((i + 1 : Nat) : Int), .isl 1 ((cuB S (p, i + 1)).map eI)]] = evS t S p (i + 1) := by unfold evS; rw [idsTo_succ, List.map_append]; rfl
   simp (disch := (first | decide | omega)) only [hA, hg1, hg2, hs1, hrow, hgi, hvl, tk, List.length_map, List.replicate_succ, List.replicate_zero, reduceCtorEq, hck, hsn, setFrom, cellsOf, go_sem]
   rw [← hsl]
   refine ⟨i + 1, hil, by simp only; omega, ?_⟩
   exact Weak.kround (p := r_pallS1) (k := 1) (by ((repeat refine (kAny_up rfl).trans ?_); exact hEE2)) (by ((try simp (disch := decide) only [hA, go_sem]) <;> exact kH)) rfl hE2 (by simp) kV hR kL
  ·simp (disch := (first | decide | omega)) only [hA, hg1, hg2, hrow, List.length_map, go_sem]
   obtain rfl : i = t[p].evs.length := by omega
   have hnl : evL t p t[p].evs.length = evL t (p + 1) 0 := by unfold evL; rw [idsTo_next t p hpl]
   have hnv : evS t S p t[p].evs.length = evS t S (p + 1) 0 := by unfold evS; rw [idsTo_next t p hpl]
   rw [hnl, hnv]
   refine ⟨p + 1, hpl, by simp only; omega, ?_⟩
   exact Weak.kround (p := r_pallS0) (k := 1) (by ((repeat refine (kAny_up rfl).trans ?_); refine (kAny_sub hg2 (kIn_sub rfl)).trans ?_; (repeat refine (kAny_up rfl).trans ?_); exact hEE1)) (by ((try simp (disch := decide) only [hA, hg1, go_sem]) <;> exact kH)) rfl hE1 (by simp) kV hR kL
 ·simp (disch := (first | decide | omega)) only [hA, hg1, hs1, List.length_map, go_sem]
  obtain rfl : p = t.length := by omega
  have hv : evS t S t.length 0 = (ids t).map (eFs S) := by unfold evS; rw [idsTo_all]
  have hl2 : evL t t.length 0 = (ids t).length := by unfold evL; rw [idsTo_all]
  rw [hv, hl2]
  exact leave_frz (i := 0) (ver := (ids t).length) (sz := 3) (n := (ids t).length) (rows := (ids t).map (eFs S)) (.inr rfl) (by simp (disch := (first | decide | omega)) only [resVs, resV, hA, hg1, go_sem]) rfl (by simp) hR hB ⟨rfl, rfl, rfl⟩
noncomputable def mbL (t : Tr) (i : Nat) : List Nat := memW (bw (relT t i)) (nW (ids t).length)
theorem mbL_mem {t : Tr} {i j : Nat} : j ∈ mbL t i ↔ j ∈ relT t i := by
 unfold mbL
 refine mem_memW (fun k j hj => bw_bit hj _) (fun k => bw_lt _) (fun i' hi => ?_)
 have := rel_lt i i' hi
 unfold nW; omega
theorem mbL_hp {t : Tr} {i j : Nat} (hi : i < (ids t).length) : j ∈ mbL t i ↔ j < (ids t).length ∧ hpB t i j = true := by
 rw [mbL_mem, mem_rel]; rfl
theorem keep_true {t : Tr} {S : List (List (List Int))} (h : ∀ i, i < (ids t).length → ∀ j ∈ mbL t i, cmpV (cuB S (idN t i)) (cuB S (idN t j)) = -1) : keepB t S = true := by
 unfold keepB
 rw [List.all_eq_true]
 intro i hi
 rw [List.all_eq_true]
 intro j hj
 have hi := List.mem_range.1 hi
 have hj := List.mem_range.1 hj
 unfold kpB
 cases hb : hpB t i j with
 | false => rfl
 | true => simp [h i hi j ((mbL_hp hi).2 ⟨hj, hb⟩)]
theorem keep_false {t : Tr} {S : List (List (List Int))} {i j : Nat} (hi : i < (ids t).length) (hj : j ∈ mbL t i) (h : cmpV (cuB S (idN t i)) (cuB S (idN t j)) ≠ -1) : keepB t S = false := by
 rw [Bool.eq_false_iff]
 intro hk
 unfold keepB at hk
 rw [List.all_eq_true] at hk
 obtain ⟨h1, h2⟩ := (mbL_hp hi).1 hj
 have h3 := List.all_eq_true.1 (hk i (List.mem_range.2 hi)) j (List.mem_range.2 h1)
 unfold kpB at h3
 rw [h2] at h3
 simp at h3
 exact h h3
set_option maxRecDepth 20000 in
set_option maxHeartbeats 8000000 in
theorem pcheck_spec (t : Tr) (hS : Small t) (hN : Nm t) (hC : validL t = true → (ids t).length ≤ 512) (k : Int) (S : List (List (List Int))) (hSl : S.length ≤ 1000000 ∧ ∀ r ∈ S, r.length ≤ 1000000) (b l : List Row) :
  ACalls Tryd.prog 12 [.agg [.v (eT t)], .v (.int .i64 k), .v (.isl 1 (S.map eMq))] b l (fun r b' l' => r = .v (.bool (chkB t k S)) ∧ b' = b ∧ l' = l) := by
 refine calls_kept a_pck_ok rfl (by decide) ?_
 intro B g hB hR hE hA
 simp only [KArgs] at hA
 have hnp := hS.np
 have hgv := fun b l => pgiven_spec t hS hN k b l
 have n00 : ((0 : Int) != 0) = false := rfl
 by_cases hg : givE t k = 0
 case neg =>
  have hd : (givE t k != 0) = true := by simpa using hg
  have hc : chkB t k S = false := by
   unfold chkB
   cases hval : validL t with
   | false => rfl
   | true =>
     by_cases hk : 1 ≤ k ∧ k ≤ 8
     ·exfalso; apply hg; unfold givE; rw [if_pos hval, if_pos hk]
     ·rw [decide_eq_false hk]; rfl
  obtain ⟨z, hz⟩ : ∃ z, givE t k = z := ⟨_, rfl⟩
  rw [hz] at hd hgv
  simp (disch := (first | decide | omega)) only [a_pck, hA, go_sem]
  refine ACalls.nxt (hgv _ _) ?_
  simp (disch := (first | decide | omega)) only [hA, hd, go_sem]
  exact leave_pure (xs := [.v (.bool false)]) (.inr rfl) (by simp (disch := (first | decide | omega)) only [resVs, resV, go_sem, hA]) kO hR hB ⟨by rw [hc]; rfl, rfl, rfl⟩
 rw [hg] at hgv
 obtain ⟨hval, k, rfl, hk1, hk8⟩ := giv_zero hg
 have hv := vok hval
 have hC := hC hval
 have hchk : chkB t (k : Int) S = (fitB t k S && keepB t S) := by
  unfold chkB
  rw [hval, decide_eq_true (show (1 : Int) ≤ k ∧ (k : Int) ≤ 8 by omega), Int.toNat_natCast]
  rfl
 rw [hchk]
 by_cases hlS : S.length = t.length
 case neg =>
  have hd : ((S.length : Int) != (t.length : Int)) = true := by simp; omega
  have hf : (fitB t k S && keepB t S) = false := by unfold fitB; rw [decide_eq_false hlS]; rfl
  simp (disch := (first | decide | omega)) only [a_pck, hA, go_sem]
  refine ACalls.nxt (hgv _ _) ?_
  simp (disch := (first | decide | omega)) only [hA, n00, eT, List.length_map, hd, go_sem]
  exact leave_pure (xs := [.v (.bool false)]) (.inr rfl) (by simp (disch := (first | decide | omega)) only [resVs, resV, go_sem, hA]) kO hR hB ⟨by rw [hf]; rfl, rfl, rfl⟩
 have hd : ((S.length : Int) != (t.length : Int)) = false := by simp [hlS]
 simp (disch := (first | decide | omega)) only [a_pck, hA, go_sem]
 refine ACalls.nxt (hgv _ _) ?_
 simp (disch := (first | decide | omega)) only [hA, n00, eT, List.length_map, hd, go_sem]
 refine loop_kept (ι := Nat) r_pck0 (fun p => [(32, .v (.int .i64 p))]) 2 (fun _ => [.live 0 1 [[.v (.isl 3 (t.map ePr))]], .live 0 1 [[.v (.int .i64 k)]]])
  (fun p => p ≤ S.length ∧ ∀ q, q < p → okR t k S q = true) (fun p => S.length - p) 0 ⟨Nat.zero_le _, fun q hq => by omega⟩ (by (repeat (first | exact hE.mono oM | refine KLt.up ?_ kL))) (by ((try simp (disch := decide) only [hA, go_sem]) <;> exact kH)) (fun e => Weak.refl _ _ _) ?_
 rintro g1 hE1 hEE1 hg1 p ⟨hp, hpq⟩
 by_cases hpl : p < S.length
 ·have hpt : p < t.length := by omega
  have heo := evsOf_lt hpt
  have hne := hS.ne _ (List.getElem_mem hpt)
  have hgp : (S.map eMq)[p]? = some [.isl 1 (S[p].map eRw)] := by rw [List.getElem?_map, List.getElem?_eq_getElem hpl]; rfl
  have hrS := hSl.2 _ (List.getElem_mem hpl)
  by_cases hrow : S[p].length = t[p].evs.length
  case neg =>
   have hdr : ((S[p].length : Int) != (t[p].evs.length : Int)) = true := by simp; omega
   have hf : (fitB t k S && keepB t S) = false := by
    rw [Bool.eq_false_iff]
    intro h
    rw [Bool.and_eq_true] at h
    have := (fitB_sh h.1).1.2 p hpt
    rw [getD_at hpl, heo] at this
    exact hrow this
   simp (disch := (first | decide | omega)) only [hA, hg1, ePr, hgp, hdr, List.length_map, go_sem]
   exact leave_pure (xs := [.v (.bool false)]) (.inr rfl) (by simp (disch := (first | decide | omega)) only [resVs, resV, go_sem, hA, hg1]) kO hR hB ⟨by rw [hf]; rfl, rfl, rfl⟩
  have hdr : ((S[p].length : Int) != (t[p].evs.length : Int)) = false := by simp [hrow]
  have hco := fun (l : List Row) (hl : l[1]? = some (.live 0 1 [[.v (.int .i64 k)]])) => containsQ_spec S[p] 38 [.ptr (B.length + 1) 0 0 0] (fun i => !okV k (S[p].getD i [])) oM B l (fun i hi => by
   rw [getD_at hi]
   exact pck1_spec k S[p][i] (fun h => by omega) _ _ _ (by rw [← hl]; unfold hget; rw [if_pos (by rw [List.length_append]; have := (List.getElem?_eq_some_iff.1 hl).1; omega), List.getElem?_append_right oM, Nat.add_sub_cancel_left]))
  have hco := hco [.live 0 1 [[.v (.isl 3 (t.map ePr))]], .live 0 1 [[.v (.int .i64 k)]]] rfl
  cases hany : (List.range S[p].length).any fun i => !okV k (S[p].getD i []) with
  | true =>
    rw [hany] at hco
    have hf : (fitB t k S && keepB t S) = false := by
     rw [Bool.eq_false_iff]
     intro h
     rw [Bool.and_eq_true] at h
     obtain ⟨i, hi, hb⟩ := List.any_eq_true.1 hany
     have := (fitB_sh h.1).2 (p, i + 1) (mem_ids2.2 ⟨hpt, by have := List.mem_range.1 hi; rw [heo]; omega⟩)
     have e : cuB S (p, i + 1) = S[p].getD i [] := by unfold cuB; rw [getD_at hpl]; rfl
     rw [e] at this
     rw [this] at hb
     cases hb
    simp (disch := (first | decide | omega)) only [hA, hg1, ePr, hgp, hdr, List.length_map, go_sem]
    refine ACalls.nxt hco ?_
    simp (disch := (first | decide | omega)) only [hA, hg1, go_sem]
    exact leave_pure (xs := [.v (.bool false)]) (.inr rfl) (by simp (disch := (first | decide | omega)) only [resVs, resV, go_sem, hA, hg1]) kO hR hB ⟨by rw [hf]; rfl, rfl, rfl⟩
  | false =>
    rw [hany] at hco
    have hok : okR t k S p = true := by
     unfold okR
     rw [getD_at hpl, heo, decide_eq_true hrow, Bool.true_and, List.all_eq_true]
     intro i hi
     have := List.any_eq_false.1 hany i hi
     simpa using this
    simp (disch := (first | decide | omega)) only [hA, hg1, ePr, hgp, hdr, List.length_map, go_sem]
    refine ACalls.nxt hco ?_
    simp (disch := (first | decide | omega)) only [hA, hg1, go_sem]
    refine ⟨p + 1, ⟨hpl, fun q hq => ?_⟩, by simp only; omega, ?_⟩
    ·rcases Nat.lt_or_ge q p with h | h
     ·exact hpq q h
     ·have : q = p := by omega
      rw [this]; exact hok
    exact Weak.kround (p := r_pck0) (k := 2) (by ((repeat refine (kAny_up rfl).trans ?_); exact hEE1)) (by ((try simp (disch := decide) only [hA, go_sem]) <;> exact kH)) rfl hE1 (by simp) kV hR kL
 obtain rfl : p = S.length := by omega
 have hfit : fitB t k S = true := by
  unfold fitB
  rw [decide_eq_true hlS, Bool.true_and, List.all_eq_true]
  exact fun q hq => hpq q (List.mem_range.1 hq)
 obtain ⟨hsh, hok⟩ := fitB_sh hfit
 rw [hfit, Bool.true_and]
 have hord := fun b l => OrderC_run t hv hval hS hN hC b l
 change ∀ b l, ACalls _ _ _ _ _ (fun r b' l' => r = AV.tup [.agg [.v (eRel (ids t).length (relT t))], .v (.int .i64 0)] ∧ b' = b ∧ l' = l) at hord
 have hmem := fun i (hi : i < (ids t).length) b l => members_spec (ids t).length (relT t i) hC (fun k hk => rel_lt i k hk) b l
 change ∀ i (hi : i < (ids t).length) b l, ACalls _ _ _ _ _ (fun r b' l' => r = AV.tup [.v (.isl 1 ((mbL t i).map eN)), .v (.int .i64 0)] ∧ b' = b ∧ l' = l) at hmem
 have hgi : ∀ i, i < (ids t).length → (fl (ids t).length fun i => setV (ids t).length (relT t i))[i]? = some [.int .i64 (ids t).length, .isl 1 (wL (ids t).length (relT t i))] := fun i hi => fl_get hi
 have hal := fun b l => pallS_spec t hS oM S hsh b l
 have hLe : ∀ i, i < (ids t).length → ((ids t).map (eFs S))[i]? = some [.int .i64 (idN t i).1, .int .i64 (idN t i).2, .isl 1 ((cuB S (idN t i)).map eI)] := fun i hi => by
  rw [List.getElem?_map, List.getElem?_eq_getElem hi]
  unfold idN
  rw [getD_at hi]; rfl
 have hokN : ∀ i, i < (ids t).length → (cuB S (idN t i)).length = k := fun i hi => okV_len (hok _ (by unfold idN; rw [getD_at hi]; exact List.getElem_mem hi))
 obtain ⟨RR, hRR⟩ : ∃ RR, (fl (ids t).length fun i => setV (ids t).length (relT t i)) = RR := ⟨_, rfl⟩
 have hRl : RR.length = (ids t).length := by rw [← hRR]; exact fl_len
 obtain ⟨LL, hLL⟩ : ∃ LL, (ids t).map (eFs S) = LL := ⟨_, rfl⟩
 have hLLl : LL.length = (ids t).length := by rw [← hLL, List.length_map]
 simp only [eRel, hRR] at hord hgi
 rw [hLL] at hal hLe
 have hmL : ∀ i, (mbL t i).length ≤ 1000000 := fun i => by
  have := memW_length (bw (relT t i)) (nW (ids t).length)
  unfold mbL
  have : nW (ids t).length ≤ 9 := by unfold nW; omega
  omega
 simp only [eT] at hord
 simp (disch := (first | decide | omega)) only [hA, hg1, go_sem]
 refine ACalls.nxt (hord _ _) ?_
 simp (disch := (first | decide | omega)) only [hA, hg1, go_sem]
 refine ACalls.nxt (hal _ _) ?_
 simp (disch := (first | decide | omega)) only [hA, hg1, hRl, go_sem]
 refine loop_kept (ι := Nat) r_pck1 (fun i => [(63, .v (.int .i64 i))]) 3 (fun _ => [.live 0 1 [[.v (.isl 3 (t.map ePr))]], .live 0 1 [[.v (.int .i64 k)]], .live 0 1 [[.v (.isl 2 RR)]]])
  (fun i => i ≤ (ids t).length ∧ ∀ a, a < i → ∀ j ∈ mbL t a, cmpV (cuB S (idN t a)) (cuB S (idN t j)) = -1) (fun i => (ids t).length - i) 0 ⟨Nat.zero_le _, fun a ha => by omega⟩ (by (repeat (first | exact hE1.mono oM | refine KLt.up ?_ kL))) (by ((try simp (disch := decide) only [hA, hg1, go_sem]) <;> exact kH)) (fun e => Weak.refl _ _ _) ?_
 rintro g2 hE2 hEE2 hg2 i ⟨hi, hia⟩
 by_cases hil : i < (ids t).length
 ·have gi := hgi i hil
  have mi := hmem i hil
  have li := hLe i hil
  have oi := hokN i hil
  have hml := hmL i
  obtain ⟨MB, hMB⟩ : ∃ MB, (mbL t i).map eN = MB := ⟨_, rfl⟩
  have hMBl : MB.length = (mbL t i).length := by rw [← hMB, List.length_map]
  rw [hMB] at mi
  simp (disch := (first | decide | omega)) only [hA, hg1, hg2, hRl, gi, setFrom, cellsOf, go_sem]
  refine ACalls.nxt (mi _ _) ?_
  simp (disch := (first | decide | omega)) only [hA, hg1, hg2, hMBl, go_sem]
  refine loop_kept (ι := Nat) r_pck2 (fun m => [(75, .v (.int .i64 m))]) 4 (fun _ => [.live 0 1 [[.v (.isl 3 (t.map ePr))]], .live 0 1 [[.v (.int .i64 k)]], .live 0 1 [[.v (.isl 2 RR)]], .live 0 2 [[.v (.int .i64 (ids t).length), .v (.isl 1 (wL (ids t).length (relT t i)))]]])
   (fun m => m ≤ (mbL t i).length ∧ ∀ a (h : a < m) (h' : a < (mbL t i).length), cmpV (cuB S (idN t i)) (cuB S (idN t (mbL t i)[a])) = -1) (fun m => (mbL t i).length - m) 0 ⟨Nat.zero_le _, fun a ha => by omega⟩ (by (repeat (first | exact hE2.mono oM | refine KLt.up ?_ kL))) (by ((try simp (disch := decide) only [hA, hg1, hg2, go_sem]) <;> exact kH)) (fun e => Weak.refl _ _ _) ?_
  rintro g3 hE3 hEE3 hg3 m ⟨hm, hma⟩
  by_cases hmll : m < (mbL t i).length
  ·have hjm := List.getElem_mem hmll
   obtain ⟨j, hj⟩ : ∃ j, (mbL t i)[m] = j := ⟨_, rfl⟩
   rw [hj] at hjm
   have hjN := ((mbL_hp hil).1 hjm).1
   have gm : MB[m]? = some [.int .i64 j] := by rw [← hMB, List.getElem?_map, List.getElem?_eq_getElem hmll, hj]; rfl
   have lj := hLe j hjN
   have oj := hokN j hjN
   have hcmp := fun b l => pcompare_spec (cuB S (idN t i)) (cuB S (idN t j)) oM oM b l
   obtain ⟨z, hz⟩ : ∃ z, cmpV (cuB S (idN t i)) (cuB S (idN t j)) = z := ⟨_, rfl⟩
   rw [hz] at hcmp
   by_cases hzz : z = -1
   ·have hbz : (z != -1) = false := by simp [hzz]
    simp (disch := (first | decide | omega)) only [hA, hg1, hg2, hg3, hMBl, gm, li, lj, hLLl, go_sem]
    refine ACalls.nxt (hcmp _ _) ?_
    simp (disch := (first | decide | omega)) only [hA, hg1, hg2, hg3, hbz, go_sem]
    refine ⟨m + 1, ⟨hmll, fun a ha ha' => ?_⟩, by simp only; omega, ?_⟩
    ·rcases Nat.lt_or_ge a m with h | h
     ·exact hma a h ha'
     ·have : a = m := by omega
      subst this
      rw [hj, hz, hzz]
    exact Weak.kround (p := r_pck2) (k := 4) (by ((repeat refine (kAny_up rfl).trans ?_); exact hEE3)) (by ((try simp (disch := decide) only [hA, go_sem]) <;> exact kH)) rfl hE3 (by simp) kV hR kL
   ·have hbz : (z != -1) = true := by simpa using hzz
    have hf := keep_false (S := S) hil hjm (by rw [hz]; exact hzz)
    simp (disch := (first | decide | omega)) only [hA, hg1, hg2, hg3, hMBl, gm, li, lj, hLLl, go_sem]
    refine ACalls.nxt (hcmp _ _) ?_
    simp (disch := (first | decide | omega)) only [hA, hg1, hg2, hg3, hbz, go_sem]
    exact leave_pure (xs := [.v (.bool false)]) (.inr rfl) (by simp (disch := (first | decide | omega)) only [resVs, resV, go_sem, hA, hg1, hg2, hg3]) kO hR hB ⟨by rw [hf]; rfl, rfl, rfl⟩
  ·obtain rfl : m = (mbL t i).length := by omega
   simp (disch := (first | decide | omega)) only [hA, hg1, hg2, hg3, hMBl, go_sem]
   refine ⟨i + 1, ⟨hil, fun a ha j hj => ?_⟩, by simp only; omega, ?_⟩
   ·rcases Nat.lt_or_ge a i with h | h
    ·exact hia a h j hj
    ·have : a = i := by omega
     subst this
     obtain ⟨m, hm1, rfl⟩ := List.getElem_of_mem hj
     exact hma m hm1 hm1
   exact Weak.kround (p := r_pck1) (k := 3) (by ((repeat refine (kAny_up rfl).trans ?_); refine (kAny_sub hg3 (kIn_sub rfl)).trans ?_; (repeat refine (kAny_up rfl).trans ?_); exact hEE2)) (by ((try simp (disch := decide) only [hA, hg1, hg2, go_sem]) <;> exact kH)) rfl hE2 (by simp) kV hR kL
 ·obtain rfl : i = (ids t).length := by omega
  have hk := keep_true (S := S) hia
  simp (disch := (first | decide | omega)) only [hA, hg1, hg2, hRl, go_sem]
  exact leave_pure (xs := [.v (.bool true)]) (.inr rfl) (by simp (disch := (first | decide | omega)) only [resVs, resV, go_sem, hA, hg1, hg2]) kO hR hB ⟨by rw [hk]; rfl, rfl, rfl⟩
end Go.Proofs.YtnihdkfmmbpilaaDoor
