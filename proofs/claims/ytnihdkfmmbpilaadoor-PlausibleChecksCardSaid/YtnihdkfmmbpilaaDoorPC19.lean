/- Texts of one proof, laid together: K7. No condition. -/
import Derived.Test.YtnihdkfmmbpilaaDoorPC17
import Derived.Test.YtnihdkfmmbpilaaDoorPC16
import Derived.Test.YtnihdkfmmbpilaaDoorPC12
import Derived.Test.YtnihdkfmmbpilaaDoorPC14
import Derived.Test.YtnihdkfmmbpilaaDoorPC11
import Derived.Test.YtnihdkfmmbpilaaDoorPC15
import Derived.Test.YtnihdkfmmbpilaaDoorPC8
import Derived.Test.YtnihdkfmmbpilaaDoorPC3
import Derived.Test.YtnihdkfmmbpilaaDoorPC5
import Derived.Test.YtnihdkfmmbpilaaDoorPC9
namespace Go.Proofs.YtnihdkfmmbpilaaDoor
set_option linter.unusedVariables false
set_option linter.unusedSimpArgs false
attribute [local go_sem ↓] run_skip run_region run_draw run_both run_seq run_block run_exit run_ret run_cond atN_app seqC_normal seqC_exit seqC_ret seqQ_normal seqQ_exit seqQ_ret blkQ_normal blkQ_exit blkQ_ret runOps_nil runOps_cons runD_nil runD_cons grdO_true grdO_false grdD_true grdD_false ifC_true ifC_false opS_val opS_call opS_two opK_app dS_val dS_call dS_two dK_app kUp_same kUp_ne
attribute [local go_sem] rechks_nil rechks_cons rechk gcase_true gcase_false ex_val ex_val0 gd_none gd_some ev_t ev_c evs_nil evs_cons evo_some evo_none hget_at hget_first hsetB_at hsetB_first hsetL_at hsetL_first ofOpt_some aop aload astore aslice aappend aiaddr aiaddrA afaddr alen alenS acopy amm acall alookup amupdate alenM atostr aappz comma keyEq apick binV binVB binVS isSh intOp strOp boolOp shOp eqC eqF and2 cellsOf setFrom fillA fillS rd rdI elems mk bounds AV.cell List.all_cons List.all_nil Bool.and_true Bool.true_and Bool.and_self List.length_cons List.length_nil List.length_append Nat.reduceAdd Nat.reduceSub Nat.reduceMul Nat.zero_add Nat.add_zero List.cons_append List.nil_append List.append_assoc List.append_nil List.getElem?_cons_zero List.getElem?_cons_succ List.getElem?_nil List.set_cons_zero List.set_cons_succ List.drop_zero List.drop_succ_cons List.take_zero List.take_succ_cons List.take_nil List.drop_nil List.map_cons List.map_nil Option.map_some if_true if_false Bool.false_eq_true and_self true_and and_true Nat.reduceLeDiff Nat.reduceLT Nat.le_refl Nat.reduceEqDiff ite_true ite_false beq_self_eq_true beq_true beq_false Bool.not_true Bool.not_false Bool.true_beq Bool.false_beq map_vs vs_len vs_get vs_take vs_drop vs_snoc1 vs_snoc2 vs_snoc3 vs_snoc5 vs_set1 vs_set2 vs_rep wrap_id le_T lt_T le_F lt_F leI_T ltI_T leI_F ltI_F geI gtI get_T decide_true decide_false room List.getElem?_map List.length_map List.length_take Int.toNat_natCast Nat.min_def Nat.min_self nth_kOf put_kOf put_kNo kOv_cons kOv_nil KHas KArgs List.getElem_cons_zero List.getElem_cons_succ
def a_rEv18 : AFunc := ⟨1,32,[.tmp 2],(.seq (.region [⟨some 1,.box (.t 0),none⟩,⟨some 2,.mv (.c (.v .zsl)),none⟩]) (.seq (.region [⟨some 3,.mv (.c (.v .zsl)),none⟩]) (.seq (.seq (.region [⟨some 4,.mv (.c (.v (.int .i64 0))),none⟩]) (.block 0 (.loop (.seq (.seq (.region [⟨some 6,.mv (.t 4),none⟩,⟨some 7,.faddr 0 (.t 1),none⟩,⟨some 8,.load none (.t 7),none⟩,⟨some 9,.len (.t 8),none⟩,⟨some 10,.bin .lss (.t 6) (.t 9),none⟩]) (.cond (.t 10) .skip (.exit 0))) (.seq (.block 1 (.seq (.region [⟨some 5,.mv (.c (.v (.int .i64 0))),none⟩]) (.block 2 (.loop (.seq (.seq (.region [⟨some 13,.mv (.t 5),none⟩,⟨some 14,.faddr 0 (.t 1),none⟩,⟨some 15,.load none (.t 14),none⟩,⟨some 16,.mv (.t 4),none⟩,⟨some 17,.iaddr 3 (.t 15) (.t 16),none⟩,⟨some 18,.faddr 2 (.t 17),none⟩,⟨some 19,.load none (.t 18),none⟩,⟨some 20,.len (.t 19),none⟩,⟨some 21,.bin .lss (.t 13) (.t 20),none⟩]) (.cond (.t 21) .skip (.exit 2))) (.seq (.block 3 (.region [⟨some 24,.mv (.t 3),none⟩,⟨some 25,.mv (.t 4),none⟩,⟨some 26,.mv (.t 5),none⟩,⟨some 27,.bin .add (.t 26) (.c (.v (.int .i64 1))),none⟩,⟨some 28,.build [(.v (.int .i64 0)),(.v (.int .i64 0))] [(0,1,(.t 25)),(1,1,(.t 27))],none⟩,⟨some 29,.bslice 2 [(.v (.int .i64 0)),(.v (.int .i64 0))] 1 [(0,(.t 28))],none⟩,⟨some 30,.append 2 16 (.t 24) (.t 29),none⟩,⟨some 3,.mv (.t 30),none⟩])) (.region [⟨some 22,.mv (.t 5),none⟩,⟨some 23,.bin .add (.t 22) (.c (.v (.int .i64 1))),none⟩,⟨some 5,.mv (.t 23),none⟩]))))))) (.region [⟨some 11,.mv (.t 4),none⟩,⟨some 12,.bin .add (.t 11) (.c (.v (.int .i64 1))),none⟩,⟨some 4,.mv (.t 12),none⟩])))))) (.seq (.region [⟨some 31,.mv (.t 3),none⟩,⟨some 2,.mv (.t 31),none⟩]) .ret))))⟩
theorem a_rEv18_ok : cFunc Tryd.prog 20 = some a_rEv18 := by kernel_rfl
def r_rEv180 : List (Nat × Nat) := [(3, 30)]
def r_rEv181 : List (Nat × Nat) := [(3, 3), (5, 5), (13, 30)]
def a_rOrd18 : AFunc := ⟨1,63,[.tmp 2],(.seq (.region [⟨some 1,.box (.t 0),none⟩,⟨some 2,.mv (.c (.v .zsl)),none⟩]) (.seq (.region [⟨some 9,.load (some 1) (.t 1),none⟩,⟨some 10,.call (.c (.fn 20 [])) [(.t 9)],none⟩,⟨some 3,.mv (.t 10),none⟩]) (.seq (.region [⟨some 4,.mv (.c (.v .zsl)),none⟩]) (.seq (.seq (.region [⟨some 5,.mv (.c (.v (.int .i64 0))),none⟩]) (.block 0 (.loop (.seq (.seq (.region [⟨some 11,.mv (.t 5),none⟩,⟨some 12,.mv (.t 3),none⟩,⟨some 13,.len (.t 12),none⟩,⟨some 14,.bin .lss (.t 11) (.t 13),none⟩]) (.cond (.t 14) .skip (.exit 0))) (.seq (.block 1 (.region [⟨some 17,.mv (.t 4),none⟩,⟨some 18,.mv (.t 3),none⟩,⟨some 19,.len (.t 18),none⟩,⟨some 20,.mkslice 1 [(.v (.bool false))] 1 (.t 19) (.t 19),none⟩,⟨some 21,.bslice 1 [(.v .zsl)] 1 [(0,(.t 20))],none⟩,⟨some 22,.append 1 24 (.t 17) (.t 21),none⟩,⟨some 4,.mv (.t 22),none⟩])) (.region [⟨some 15,.mv (.t 5),none⟩,⟨some 16,.bin .add (.t 15) (.c (.v (.int .i64 1))),none⟩,⟨some 5,.mv (.t 16),none⟩])))))) (.seq (.seq (.region [⟨some 6,.mv (.c (.v (.int .i64 0))),none⟩]) (.block 2 (.loop (.seq (.seq (.region [⟨some 23,.mv (.t 6),none⟩,⟨some 24,.mv (.t 3),none⟩,⟨some 25,.len (.t 24),none⟩,⟨some 26,.bin .lss (.t 23) (.t 25),none⟩]) (.cond (.t 26) .skip (.exit 2))) (.seq (.block 3 (.seq (.draw [⟨0,⟨some 29,.load (some 1) (.t 1),none⟩,[]⟩,⟨1,⟨some 30,.mv (.t 3),none⟩,[]⟩,⟨2,⟨some 31,.mv (.t 6),none⟩,[]⟩,⟨3,⟨some 32,.iaddr 2 (.t 30) (.t 31),none⟩,[]⟩,⟨4,⟨some 33,.load (some 2) (.t 32),none⟩,[]⟩,⟨5,⟨some 34,.call (.c (.fn 88 [])) [(.t 29),(.t 33)],none⟩,[]⟩,⟨6,⟨some 7,.mv (.t 34),none⟩,[]⟩]) (.seq (.region [⟨some 8,.mv (.c (.v (.int .i64 0))),none⟩]) (.block 4 (.loop (.seq (.seq (.region [⟨some 35,.mv (.t 8),none⟩,⟨some 36,.mv (.t 3),none⟩,⟨some 37,.len (.t 36),none⟩,⟨some 38,.bin .lss (.t 35) (.t 37),none⟩]) (.cond (.t 38) .skip (.exit 4))) (.seq (.block 5 (.draw [⟨0,⟨some 41,.mv (.t 4),none⟩,[]⟩,⟨1,⟨some 42,.mv (.t 8),none⟩,[]⟩,⟨2,⟨some 43,.iaddr 1 (.t 41) (.t 42),none⟩,[]⟩,⟨3,⟨some 44,.load none (.t 43),none⟩,[]⟩,⟨4,⟨some 45,.mv (.t 6),none⟩,[]⟩,⟨5,⟨some 46,.mv (.t 7),none⟩,[]⟩,⟨6,⟨some 47,.mv (.t 3),none⟩,[]⟩,⟨7,⟨some 48,.mv (.t 8),none⟩,[]⟩,⟨8,⟨some 49,.iaddr 2 (.t 47) (.t 48),none⟩,[]⟩,⟨9,⟨some 50,.faddr 0 (.t 49),none⟩,[]⟩,⟨10,⟨some 51,.load none (.t 50),none⟩,[]⟩,⟨11,⟨some 52,.iaddr 1 (.t 46) (.t 51),none⟩,[]⟩,⟨12,⟨some 53,.load none (.t 52),none⟩,[]⟩,⟨13,⟨some 54,.mv (.t 3),none⟩,[]⟩,⟨14,⟨some 55,.mv (.t 8),none⟩,[]⟩,⟨15,⟨some 56,.iaddr 2 (.t 54) (.t 55),none⟩,[]⟩,⟨16,⟨some 57,.faddr 1 (.t 56),none⟩,[]⟩,⟨17,⟨some 58,.load none (.t 57),none⟩,[]⟩,⟨18,⟨some 59,.iaddr 1 (.t 53) (.t 58),none⟩,[]⟩,⟨19,⟨some 60,.load none (.t 59),none⟩,[]⟩,⟨20,⟨some 61,.iaddr 1 (.t 44) (.t 45),none⟩,[]⟩,⟨21,⟨none,.store 1 (.t 61) (.t 60),none⟩,[]⟩])) (.region [⟨some 39,.mv (.t 8),none⟩,⟨some 40,.bin .add (.t 39) (.c (.v (.int .i64 1))),none⟩,⟨some 8,.mv (.t 40),none⟩])))))))) (.region [⟨some 27,.mv (.t 6),none⟩,⟨some 28,.bin .add (.t 27) (.c (.v (.int .i64 1))),none⟩,⟨some 6,.mv (.t 28),none⟩])))))) (.seq (.region [⟨some 62,.mv (.t 4),none⟩,⟨some 2,.mv (.t 62),none⟩]) .ret))))))⟩
theorem a_rOrd18_ok : cFunc Tryd.prog 45 = some a_rOrd18 := by kernel_rfl
def r_rOrd180 : List (Nat × Nat) := [(4, 5), (11, 22)]
def r_rOrd181 : List (Nat × Nat) := [(6, 8), (23, 61)]
def r_rOrd182 : List (Nat × Nat) := [(8, 8), (35, 61)]
def a_rSize18 : AFunc := ⟨1,9,[.tmp 2],(.seq (.region [⟨some 2,.mv (.c (.v (.bool false))),none⟩]) (.seq (.region [⟨some 3,.mv (.t 0),none⟩,⟨some 4,.bin .geq (.t 3) (.c (.v (.int .i64 1))),none⟩,⟨some 5,.mv (.t 4),none⟩,⟨some 6,.mv (.t 0),some (5,true)⟩,⟨some 7,.bin .leq (.t 6) (.c (.v (.int .i64 8))),some (5,true)⟩,⟨some 8,.pick (.t 5) (.t 7) (.c (.v (.bool false))),none⟩,⟨some 2,.mv (.t 8),none⟩]) .ret))⟩
theorem a_rSize18_ok : cFunc Tryd.prog 44 = some a_rSize18 := by kernel_rfl

theorem rSize18_spec (k : Int) (b l : List Row) : ACalls Tryd.prog 44 [.v (.int .i64 k)] b l (fun r b' l' => r = .v (.bool (decide (1 ≤ k ∧ k ≤ 8))) ∧ b' = b ∧ l' = l) := by
 refine calls_kept a_rSize18_ok rfl (by decide) ?_
 intro B g hB hR hE hA
 simp only [KArgs] at hA
 by_cases h1 : 1 ≤ k
 ·have d1 : decide (k ≥ 1) = true := decide_eq_true h1
  have d1' : decide (1 ≤ k) = true := d1
  by_cases h2 : k ≤ 8
  ·have d2 : decide (k ≤ 8) = true := decide_eq_true h2
   have hq : decide (1 ≤ k ∧ k ≤ 8) = true := decide_eq_true ⟨h1, h2⟩
   rw [hq]
   simp (disch := (first | decide | omega)) only [a_rSize18, hA, d1, d1', d2, go_sem]
   exact leave_pure (xs := [.v (.bool true)]) (.inr rfl) (by simp (disch := (first | decide | omega)) only [resVs, resV, go_sem, hA]) kO hR hB ⟨rfl, rfl, rfl⟩
  ·have d2 : decide (k ≤ 8) = false := decide_eq_false h2
   have hq : decide (1 ≤ k ∧ k ≤ 8) = false := decide_eq_false (fun h => h2 h.2)
   rw [hq]
   simp (disch := (first | decide | omega)) only [a_rSize18, hA, d1, d1', d2, go_sem]
   exact leave_pure (xs := [.v (.bool false)]) (.inr rfl) (by simp (disch := (first | decide | omega)) only [resVs, resV, go_sem, hA]) kO hR hB ⟨rfl, rfl, rfl⟩
 ·have d1 : decide (k ≥ 1) = false := decide_eq_false h1
  have d1' : decide (1 ≤ k) = false := d1
  have hq : decide (1 ≤ k ∧ k ≤ 8) = false := decide_eq_false (fun h => h1 h.1)
  rw [hq]
  simp (disch := (first | decide | omega)) only [a_rSize18, hA, d1, d1', go_sem]
  exact leave_pure (xs := [.v (.bool false)]) (.inr rfl) (by simp (disch := (first | decide | omega)) only [resVs, resV, go_sem, hA]) kO hR hB ⟨rfl, rfl, rfl⟩
theorem rEv18_spec (t : Tr) (hS : Small t) (hC : (ids t).length ≤ 1000000) (b l : List Row) :
  ACalls Tryd.prog 20 [.agg [.v (eT t)]] b l (fun r b' l' => r = .v (.isl 2 ((ids t).map eId)) ∧ b' = b ∧ l' = l) := by
 refine calls_kept a_rEv18_ok rfl (by decide) ?_
 intro B g hB hR hE hA
 simp only [KArgs] at hA
 have hnp := hS.np
 have l0 : evL t 0 0 = 0 := rfl
 simp (disch := (first | decide | omega)) only [a_rEv18, hA, eT, List.length_map, go_sem]
 refine loop_kept_nil (ι := Nat) 3 2 r_rEv180 (fun p => [(4, .v (.int .i64 p)), (3, .sl (B.length + 1) (evL t p 0) 0 (evL t p 0))]) 2 (fun p => [.live 0 1 [[.v (.isl 3 (t.map ePr))]], .live (evL t p 0) 2 (vs (evV t p 0))])
  (fun p => p ≤ t.length) (fun p => t.length - p) 0 (Nat.zero_le _) (by simp (disch := decide) only [hA, go_sem]) (by decide) (by decide) (by (repeat (first | exact hE.mono oM | refine KLt.up ?_ kL))) (by ((try simp (disch := decide) only [hA, l0, go_sem]) <;> exact kH)) (fun e => Weak.refl _ _ _) ?_
 intro g1 hE1 hEE1 hg1 p hp
 by_cases hpl : p < t.length
 ·have hne := hS.ne _ (List.getElem_mem hpl)
  simp (disch := (first | decide | omega)) only [hA, hg1, ePr, List.length_map, go_sem]
  refine loop_kept (ι := Nat) r_rEv181 (fun i => [(5, .v (.int .i64 i)), (3, .sl (B.length + 1) (evL t p i) 0 (evL t p i))]) 2 (fun i => [.live 0 1 [[.v (.isl 3 (t.map ePr))]], .live (evL t p i) 2 (vs (evV t p i))])
   (fun i => i ≤ t[p].evs.length) (fun i => t[p].evs.length - i) 0 (Nat.zero_le _) (by (repeat (first | exact hE1.mono oM | refine KLt.up ?_ kL))) (by ((try simp (disch := decide) only [hA, hg1, go_sem]) <;> exact kH)) (fun e => Weak.refl _ _ _) ?_
  intro g2 hE2 hEE2 hg2 i hi
  by_cases hil : i < t[p].evs.length
  ·have hle := evL_le hpl (show i + 1 ≤ t[p].evs.length by omega)
   have hsl : evL t p (i + 1) = evL t p i + 1 := by unfold evL; rw [idsTo_succ, List.length_append]; rfl
   have hvl : (evV t p i).length = evL t p i := by unfold evV evL; rw [List.length_map]
   have tk : List.take (evL t p i) (evV t p i) = evV t p i := List.take_of_length_le oM
   have hck : (i : Int) + 1 = ((i + 1 : Nat) : Int) := by omega
   have hsn : evV t p i ++ [[.int .i64 p, .int .i64 ((i + 1 : Nat) : Int)]] = evV t p (i + 1) := by unfold evV; rw [idsTo_succ, List.map_append]; rfl
   simp (disch := (first | decide | omega)) only [hA, hg1, hg2, ePr, hvl, tk, List.length_map, List.replicate_succ, List.replicate_zero, reduceCtorEq, hck, hsn, setFrom, cellsOf, go_sem]
   rw [← hsl]
   refine ⟨i + 1, hil, by simp only; omega, ?_⟩
   exact Weak.kround (p := r_rEv181) (k := 2) (by ((repeat refine (kAny_up rfl).trans ?_); exact hEE2)) (by ((try simp (disch := decide) only [hA, hg1, go_sem]) <;> exact kH)) rfl hE2 (by simp) kV hR kL
  ·obtain rfl : i = t[p].evs.length := by omega
   have hnl : evL t p t[p].evs.length = evL t (p + 1) 0 := by unfold evL; rw [idsTo_next t p hpl]
   have hnv : evV t p t[p].evs.length = evV t (p + 1) 0 := by unfold evV; rw [idsTo_next t p hpl]
   simp (disch := (first | decide | omega)) only [hA, hg1, hg2, ePr, List.length_map, go_sem]
   rw [hnl, hnv]
   refine ⟨p + 1, hpl, by simp only; omega, ?_⟩
   exact Weak.kround (p := r_rEv180) (k := 2) (by ((repeat refine (kAny_up rfl).trans ?_); refine (kAny_sub hg2 (kIn_sub rfl)).trans ?_; (repeat refine (kAny_up rfl).trans ?_); exact hEE1)) (by ((try simp (disch := decide) only [hA, hg1, go_sem]) <;> exact kH)) rfl hE1 (by simp) kV hR kL
 ·obtain rfl : p = t.length := by omega
  have hv : evV t t.length 0 = (ids t).map eId := by unfold evV; rw [idsTo_all]
  have hl2 : evL t t.length 0 = (ids t).length := by unfold evL; rw [idsTo_all]
  simp (disch := (first | decide | omega)) only [hA, hg1, List.length_map, go_sem]
  rw [hv, hl2]
  exact leave_frz (i := 1) (ver := (ids t).length) (sz := 2) (n := (ids t).length) (rows := (ids t).map eId) (.inr rfl) (by simp (disch := (first | decide | omega)) only [resVs, resV, hA, hg1, go_sem]) rfl (by simp) hR hB ⟨rfl, rfl, rfl⟩
def obT (n v m N : Nat) : Row := .live v 1 (fl m fun q => [.sl (n + (q + 1 + 1)) 0 0 N])
noncomputable def obR (t : Tr) (n v m : Nat) (R : Nat → Nat → Bool) : List Row := .live 0 1 [[.v (eT t)]] :: obT n v m (ids t).length :: fl m (tbW (ids t).length R)
theorem obR_len {t : Tr} {n v m : Nat} {R : Nat → Nat → Bool} : (obR t n v m R).length = m + 2 := by simp [obR, fl_len]
theorem obR_lt {t : Tr} {n v m j : Nat} {R : Nat → Nat → Bool} (h : n + (m + 2) ≤ j) : RowsLt j (obR t n v m R) := by
 intro id ver sz els hr row hrow c hc
 match id, hr with
 | 0, hr => cases hr; simp at hrow; subst hrow; simp at hc; subst hc; exact .v _
 | 1, hr =>
   cases hr
   obtain ⟨a, ha, rfl⟩ := List.mem_map.1 hrow
   simp only [List.mem_singleton] at hc
   subst hc
   have := List.mem_range.1 ha
   exact .sl _ _ _ _ oM
 | id + 2, hr =>
   have hr : (fl m (tbW (ids t).length R))[id]? = some (.live ver sz els) := hr
   by_cases hid : id < m
   ·rw [fl_get hid] at hr
    cases hr
    obtain ⟨r0, _, rfl⟩ := List.mem_map.1 hrow
    obtain ⟨x0, _, rfl⟩ := List.mem_map.1 hc
    exact .v _
   ·rw [fl_none oM] at hr; cases hr
noncomputable def tO (t : Tr) (j i a c : Nat) : Bool := if c < j ∨ (c = j ∧ a < i) then hpB t a c else false
theorem tO_put {t : Tr} {j i : Nat} (a c : Nat) : tO t j (i + 1) a c = if a = i ∧ c = j then hpB t i j else tO t j i a c := by
 unfold tO
 by_cases h : a = i ∧ c = j
 ·rw [if_pos h, if_pos (.inr ⟨h.2, by omega⟩), h.1, h.2]
 ·rw [if_neg h]
  by_cases h2 : c < j ∨ (c = j ∧ a < i)
  ·rw [if_pos h2, if_pos oM]
  ·rw [if_neg h2, if_neg oM]
noncomputable def hbV (t : Tr) : List (List IV) := fl (ids t).length fun i => [.isl 1 (bR (ids t).length (hpB t i))]
set_option maxRecDepth 20000 in
set_option maxHeartbeats 4000000 in
theorem rOrd18_spec (t : Tr) (hv : Vok t) (hS : Small t) (hN : Nm t) (hC : (ids t).length ≤ 1000000) (b l : List Row) :
  ACalls Tryd.prog 45 [.agg [.v (eT t)]] b l (fun r b' l' => r = .v (.isl 1 (hbV t)) ∧ b' = b ∧ l' = l) := by
 refine calls_kept a_rOrd18_ok rfl (by decide) ?_
 intro B g hB hR hE hA
 simp only [KArgs] at hA
 have hev := fun b l => rEv18_spec t hS hC b l
 have hT8 := hv.hi
 obtain ⟨LV, hLV⟩ : ∃ LV, (ids t).map eId = LV := ⟨_, rfl⟩
 have hll : LV.length = (ids t).length := by rw [← hLV, List.length_map]
 rw [hLV] at hev
 simp (disch := (first | decide | omega)) only [a_rOrd18, hA, go_sem]
 refine ACalls.nxt (hev _ _) ?_
 simp (disch := (first | decide | omega)) only [hA, go_sem]
 refine loop_kept_nil (ι := Nat) 4 1 r_rOrd180 (fun q => [(4, .sl (B.length + 1) q 0 q), (5, .v (.int .i64 q))]) 2 (fun q => obR t B.length q q (fun _ _ => false))
  (fun q => q ≤ (ids t).length) (fun q => (ids t).length - q) 0 (Nat.zero_le _) (by simp (disch := decide) only [hA, go_sem]) (by decide) rfl (by (repeat (first | exact hE.mono oM | refine KLt.up ?_ kL))) (by ((try simp (disch := decide) only [hA, go_sem]) <;> exact kH)) (fun e => Weak.refl _ _ _) ?_
 intro g1 hE1 hEE1 hg1 q hq
 by_cases hql : q < (ids t).length
 ·have hz := bR_zero (n := (ids t).length)
  have tl : (fl q fun q => [AV.sl (B.length + (q + 1 + 1)) 0 0 (ids t).length]).length = q := fl_len
  have tk : List.take q (fl q fun q => [AV.sl (B.length + (q + 1 + 1)) 0 0 (ids t).length]) = fl q fun q => [AV.sl (B.length + (q + 1 + 1)) 0 0 (ids t).length] := List.take_of_length_le oM
  have hnx : (fl q fun q => [AV.sl (B.length + (q + 1 + 1)) 0 0 (ids t).length]) ++ [[AV.sl (B.length + (q + 1 + 1)) 0 0 (ids t).length]] = fl (q + 1) fun q => [AV.sl (B.length + (q + 1 + 1)) 0 0 (ids t).length] := fl_next rfl
  have hnr : ∀ T : List Row, fl q (tbW (ids t).length fun _ _ => false) ++ .live 0 1 (vs (bR (ids t).length fun _ => false)) :: T = fl (q + 1) (tbW (ids t).length fun _ _ => false) ++ T := fun T => by rw [← fl_next (n := q) (f := tbW (ids t).length fun _ _ => false) (x := .live 0 1 (vs (bR (ids t).length fun _ => false))) rfl, List.append_assoc]; rfl
  simp (disch := (first | decide | omega)) only [hA, hg1, obR, obT, hll, hz, tl, tk, hnx, hnr, fl_len, fa_tail0, List.replicate_succ, List.replicate_zero, reduceCtorEq, setFrom, cellsOf, go_sem]
  refine ⟨q + 1, hql, by simp only; omega, ?_⟩
  exact Weak.kround (l1 := obR t B.length (q + 1) (q + 1) (fun _ _ => false)) (junk := [_]) (p := r_rOrd180) (k := 2) (by ((repeat refine (kAny_up rfl).trans ?_); exact hEE1)) (by ((try simp (disch := decide) only [hA, go_sem]) <;> exact kH)) rfl hE1 (by simp [obR]) (by rw [obR_len]; simp (disch := omega) only [KOvLt, lts.down, Nat.reduceLT, Nat.reduceAdd]) hR (obR_lt (Nat.le_of_eq (by rw [obR_len])))
 obtain rfl : q = (ids t).length := by omega
 have hz0 : fl (ids t).length (tbW (ids t).length fun _ _ => false) = fl (ids t).length (tbW (ids t).length (tO t 0 0)) := tW_end (fun a c _ _ => by unfold tO; rw [if_neg oM])
 simp (disch := (first | decide | omega)) only [hA, hg1, hll, obR, hz0, go_sem]
 refine loop_kept (ι := Nat) r_rOrd181 (fun j => [(6, .v (.int .i64 j))]) ((ids t).length + 2) (fun j => obR t B.length (ids t).length (ids t).length (tO t j 0))
  (fun j => j ≤ (ids t).length) (fun j => (ids t).length - j) 0 (Nat.zero_le _) (by (repeat (first | exact hE1.mono oM | refine KLt.up ?_ kL))) (by ((try simp (disch := decide) only [hA, hg1, go_sem]) <;> exact kH)) (fun e => Weak.refl _ _ _) ?_
 intro g2 hE2 hEE2 hg2 j hj
 by_cases hjl : j < (ids t).length
 ·have hx := List.getElem_mem hjl
  have hxj : idN t j = (ids t)[j] := by unfold idN; rw [getD_at hjl]
  obtain ⟨⟨p, i⟩, hpi⟩ : ∃ y, (ids t)[j] = y := ⟨_, rfl⟩
  rw [hpi] at hx hxj
  have hgL : LV[j]? = some [.int .i64 p, .int .i64 i] := by
   rw [← hLV, List.getElem?_map, List.getElem?_eq_getElem hjl, hpi]; rfl
  have hpa := fun b l => past_spec t hv hS hN (p, i) hx hC b l
  simp only [idA] at hpa
  simp (disch := (first | decide | omega)) only [hA, hg1, hg2, obR, hll, hgL, go_sem]
  refine ACalls_mono _ _ _ _ _ _ (hpa _ _) ?_
  rintro r0 b0 l0 ⟨S, hSS, rfl, rfl, rfl⟩
  simp only [tabV]
  obtain ⟨TB, hTB⟩ : ∃ TB, (fl t.length fun p => [IV.isl 1 (tabRow S p ((evsOf t p).length + 1))]) = TB := ⟨_, rfl⟩
  have htl : TB.length = t.length := by rw [← hTB, fl_len]
  rw [hTB]
  simp (disch := (first | decide | omega)) only [hA, hg1, hg2, go_sem]
  refine loop_kept (ι := Nat) r_rOrd182 (fun a => [(8, .v (.int .i64 a))]) ((ids t).length + 2) (fun a => obR t b0.length (ids t).length (ids t).length (tO t j a))
   (fun a => a ≤ (ids t).length) (fun a => (ids t).length - a) 0 (Nat.zero_le _) (by (repeat (first | exact hE2.mono oM | refine KLt.up ?_ kL))) (by ((try simp (disch := decide) only [hA, hg1, hg2, go_sem]) <;> exact kH)) (fun e => Weak.refl _ _ _) ?_
  intro g3 hE3 hEE3 hg3 a ha
  by_cases hal : a < (ids t).length
  ·have hy := List.getElem_mem hal
   have hya : idN t a = (ids t)[a] := by unfold idN; rw [getD_at hal]
   obtain ⟨⟨ap, ai⟩, hai⟩ : ∃ y, (ids t)[a] = y := ⟨_, rfl⟩
   rw [hai] at hy hya
   obtain ⟨ai, rfl⟩ : ∃ k, ai = k + 1 := ⟨ai - 1, by have := mem_pos hy; simp only at this; omega⟩
   obtain ⟨hap, hae⟩ := mem_ids2.1 hy
   have hne := hS.ne _ (List.getElem_mem hap)
   rw [← evsOf_lt hap] at hne
   have hgA : LV[a]? = some [.int .i64 ap, .int .i64 ((ai + 1 : Nat) : Int)] := by
    rw [← hLV, List.getElem?_map, List.getElem?_eq_getElem hal, hai]; rfl
   have hval : decide ((ap, ai + 1) ∈ S) = hpB t a j := by
    unfold hpB
    rw [hxj, hya, Bool.eq_iff_iff, decide_eq_true_iff, befB_iff hv hy hx]
    exact hSS _ hy
   have hgt : TB[ap]? = some [.isl 1 (tabRow S ap ((evsOf t ap).length + 1))] := by rw [← hTB]; exact fl_get hap
   have hgl : (tabRow S ap ((evsOf t ap).length + 1)).length = (evsOf t ap).length + 1 := fl_len
   have hgr : (tabRow S ap ((evsOf t ap).length + 1))[ai + 1]? = some [.bool (hpB t a j)] := by
    unfold tabRow; rw [fl_get oM, hval]
   have hwi : tbW (ids t).length (tO t j a) a = .live 0 1 (vs (bR (ids t).length (tO t j a a))) := rfl
   have hbs := bR_set (n := (ids t).length) (c := j) (f := tO t j a a) (v := hpB t a j)
   have hput := tbW_put (n := (ids t).length) (m := (ids t).length) (i := a) (c := j) (R := tO t j a) (R' := tO t j (a + 1)) (v := hpB t a j) (fun x c => tO_put x c)
   have hbc := bR_get (n := (ids t).length) (f := tO t j a a) hjl
   have hgT : (fl (ids t).length fun q => [AV.sl (b0.length + (q + 1 + 1)) 0 0 (ids t).length])[a]? = some [.sl (b0.length + (a + 1 + 1)) 0 0 (ids t).length] := fl_get hal
   have haii : ((ai + 1 : Nat) : Int).toNat = ai + 1 := by omega
   simp (disch := (first | decide | omega)) only [hA, hg1, hg2, hg3, obR, obT, hll, hgA, htl, hgt, hgl, hgr, hgT, hwi, bR_len, hbc, hbs, hput, fl_len, fl_get, fl_set, setFrom, cellsOf, go_sem]
   refine ⟨a + 1, hal, by simp only; omega, ?_⟩
   exact Weak.kround (l1 := obR t b0.length (ids t).length (ids t).length (tO t j (a + 1))) (junk := []) (p := r_rOrd182) (k := (ids t).length + 2) (by ((repeat refine (kAny_up rfl).trans ?_); exact hEE3)) (by ((try simp (disch := decide) only [hA, go_sem]) <;> exact kH)) (List.append_nil _).symm hE3 (by rw [obR_len]; omega) (by rw [obR_len]; simp (disch := omega) only [KOvLt, lts.down, Nat.reduceLT, Nat.reduceAdd]) hR (obR_lt (Nat.le_of_eq (by rw [obR_len])))
  ·obtain rfl : a = (ids t).length := by omega
   have hend : fl (ids t).length (tbW (ids t).length (tO t j (ids t).length)) = fl (ids t).length (tbW (ids t).length (tO t (j + 1) 0)) := tW_end (fun x c hx hc => by
    unfold tO
    by_cases h1 : c < j + 1
    ·rw [if_pos oM, if_pos (.inl h1)]
    ·rw [if_neg oM, if_neg oM])
   simp (disch := (first | decide | omega)) only [hA, hg1, hg2, hg3, obR, hll, hend, go_sem]
   refine ⟨j + 1, hjl, by simp only; omega, ?_⟩
   exact Weak.kround (l1 := obR t b0.length (ids t).length (ids t).length (tO t (j + 1) 0)) (junk := []) (p := r_rOrd181) (k := (ids t).length + 2) (by ((repeat refine (kAny_up rfl).trans ?_); refine (kAny_sub hg3 (kIn_sub rfl)).trans ?_; (repeat refine (kAny_up rfl).trans ?_); exact hEE2)) (by ((try simp (disch := decide) only [hA, hg1, go_sem]) <;> exact kH)) (List.append_nil _).symm hE2 (by rw [obR_len]; omega) (by rw [obR_len]; simp (disch := omega) only [KOvLt, lts.down, Nat.reduceLT, Nat.reduceAdd]) hR (obR_lt (Nat.le_of_eq (by rw [obR_len])))
 ·obtain rfl : j = (ids t).length := by omega
  simp (disch := (first | decide | omega)) only [hA, hg1, hg2, hll, go_sem]
  have he : hbV t = mV (ids t).length 1 (fun i => bR (ids t).length (tO t (ids t).length 0 i)) := by
   unfold hbV mV
   refine fl_congr (fun i hi => ?_)
   congr 2
   unfold bR
   refine fl_congr (fun c hc => ?_)
   unfold tO; rw [if_pos (.inl hc)]
  rw [he]
  refine leave_matP (n := (ids t).length) (m := 1) (v0 := (ids t).length) (sz := 1) (ver := fun _ => 0) (R := fun i => bR (ids t).length (tO t (ids t).length 0 i)) (pre := [.live 0 1 [[.v (eT t)]]]) (junk := []) (.inr rfl) (by simp (disch := (first | decide | omega)) only [resVs, resV, hA, hg1, hg2, go_sem]) rfl ?_ kN hR hB ⟨rfl, rfl, rfl⟩
  unfold mR obR obT
  simp only [List.append_nil, List.cons_append, List.nil_append]
  congr 3
  refine fl_congr (fun j hj => ?_)
  unfold mC
  rw [if_neg oM, bR_len, show B.length + 1 + (j + 1) = B.length + (j + 1 + 1) by omega]
end Go.Proofs.YtnihdkfmmbpilaaDoor
