/- Texts of one proof, laid together: K3, K4, K7. No condition. -/
import Derived.Test.YtcemoeigegkmoaaUM9
import Derived.Test.YtcemoeigegkmoaaUM10
import Derived.Test.YtcemoeigegkmoaaUM8
namespace Go.Proofs.Ytcemoeigegkmoaa
set_option linter.unusedVariables false
set_option linter.unusedSimpArgs false
attribute [local go_sem ↓] run_skip run_region run_draw run_seq run_block run_exit run_ret run_cond atN_app seqC_normal seqC_exit seqC_ret seqQ_normal seqQ_exit seqQ_ret blkQ_normal blkQ_exit blkQ_ret runOps_nil runOps_cons runD_nil runD_cons grdO_true grdO_false grdD_true grdD_false ifC_true ifC_false opS_val opS_call opS_two opK_app dS_val dS_call dS_two dK_app kUp_same kUp_ne
attribute [local go_sem] rechks_nil rechks_cons rechk gcase_true gcase_false ex_val ex_val0 gd_none gd_some ev_t ev_c evs_nil evs_cons evo_some evo_none hget_at hget_first hsetB_at hsetB_first hsetL_at hsetL_first ofOpt_some aop aload astore aslice aappend aiaddr aiaddrA afaddr alen alenS acopy amm acall alookup amupdate alenM comma keyEq apick binV binVB binVS isSh intOp strOp boolOp shOp eqC eqF and2 cellsOf setFrom fillA fillS rd rdI elems mk bounds AV.cell List.all_cons List.all_nil Bool.and_true Bool.true_and Bool.and_self List.length_cons List.length_nil List.length_append Nat.reduceAdd Nat.reduceSub Nat.reduceMul Nat.zero_add Nat.add_zero List.cons_append List.nil_append List.append_assoc List.append_nil List.getElem?_cons_zero List.getElem?_cons_succ List.getElem?_nil List.set_cons_zero List.set_cons_succ List.drop_zero List.drop_succ_cons List.take_zero List.take_succ_cons List.take_nil List.drop_nil List.map_cons List.map_nil Option.map_some if_true if_false Bool.false_eq_true and_self true_and and_true Nat.reduceLeDiff Nat.reduceLT Nat.le_refl Nat.reduceEqDiff ite_true ite_false beq_self_eq_true beq_true beq_false Bool.not_true Bool.not_false Bool.true_beq Bool.false_beq map_vs vs_len vs_get vs_take vs_drop vs_snoc1 vs_snoc2 vs_snoc3 vs_snoc5 vs_set1 vs_set2 vs_rep wrap_id le_T lt_T le_F lt_F leI_T ltI_T leI_F ltI_F geI gtI get_T decide_true decide_false room List.getElem?_map List.length_map List.length_take Int.toNat_natCast Nat.min_def Nat.min_self nth_kOf put_kOf put_kNo kOv_cons kOv_nil KHas KArgs List.getElem_cons_zero List.getElem_cons_succ
def a_rLatest : AFunc := ⟨3,38,[.tmp 6],(.seq (.region [⟨some 3,.box (.t 0),none⟩,⟨some 5,.box (.t 2),none⟩,⟨some 6,.mv (.c (.v (.int .i64 0))),none⟩]) (.seq (.region [⟨some 10,.load (some 1) (.t 3),none⟩,⟨some 11,.load (some 2) (.t 5),none⟩,⟨some 12,.call (.c (.fn 83 [])) [(.t 10),(.t 11)],none⟩,⟨some 7,.mv (.t 12),none⟩]) (.seq (.region [⟨some 8,.mv (.c (.v (.int .i64 0))),none⟩]) (.seq (.seq (.region [⟨some 9,.mv (.c (.v (.int .i64 0))),none⟩]) (.block 0 (.loop (.seq (.seq (.region [⟨some 13,.mv (.t 9),none⟩,⟨some 14,.mv (.t 7),none⟩,⟨some 15,.len (.t 14),none⟩,⟨some 16,.bin .lss (.t 13) (.t 15),none⟩]) (.cond (.t 16) .skip (.exit 0))) (.seq (.block 1 (.draw [⟨0,⟨some 19,.mv (.t 8),none⟩,[]⟩,⟨1,⟨some 20,.mv (.t 1),none⟩,[]⟩,⟨2,⟨some 21,.mv (.t 7),none⟩,[]⟩,⟨3,⟨some 22,.mv (.t 9),none⟩,[]⟩,⟨4,⟨some 23,.iaddr 2 (.t 21) (.t 22),none⟩,[]⟩,⟨5,⟨some 24,.faddr 0 (.t 23),none⟩,[]⟩,⟨6,⟨some 25,.load none (.t 24),none⟩,[]⟩,⟨7,⟨some 26,.iaddr 1 (.t 20) (.t 25),none⟩,[]⟩,⟨8,⟨some 27,.load none (.t 26),none⟩,[]⟩,⟨9,⟨some 28,.mv (.t 7),none⟩,[]⟩,⟨10,⟨some 29,.mv (.t 9),none⟩,[]⟩,⟨11,⟨some 30,.iaddr 2 (.t 28) (.t 29),none⟩,[]⟩,⟨12,⟨some 31,.faddr 1 (.t 30),none⟩,[]⟩,⟨13,⟨some 32,.load none (.t 31),none⟩,[]⟩,⟨14,⟨some 33,.bin .sub (.t 32) (.c (.v (.int .i64 1))),none⟩,[]⟩,⟨15,⟨some 34,.iaddr 1 (.t 27) (.t 33),none⟩,[]⟩,⟨16,⟨some 35,.load none (.t 34),none⟩,[]⟩,⟨17,⟨some 36,.mm true (.t 19) (.t 35),none⟩,[]⟩,⟨18,⟨some 8,.mv (.t 36),none⟩,[]⟩])) (.region [⟨some 17,.mv (.t 9),none⟩,⟨some 18,.bin .add (.t 17) (.c (.v (.int .i64 1))),none⟩,⟨some 9,.mv (.t 18),none⟩])))))) (.seq (.region [⟨some 37,.mv (.t 8),none⟩,⟨some 6,.mv (.t 37),none⟩]) .ret)))))⟩
theorem a_rLatest_ok : cFunc Try.prog 170 = some a_rLatest := by kernel_rfl
def r_rLatest0 : List (Nat × Nat) := [(8, 9), (13, 36)]
def a_rSt14 : AFunc := ⟨1,71,[.tmp 2],(.seq (.region [⟨some 1,.box (.t 0),none⟩,⟨some 2,.mv (.c (.v .zsl)),none⟩]) (.seq (.region [⟨some 3,.mv (.c (.v .zsl)),none⟩]) (.seq (.seq (.region [⟨some 4,.mv (.c (.v (.int .i64 0))),none⟩]) (.block 0 (.loop (.seq (.seq (.region [⟨some 9,.mv (.t 4),none⟩,⟨some 10,.faddr 0 (.t 1),none⟩,⟨some 11,.load none (.t 10),none⟩,⟨some 12,.len (.t 11),none⟩,⟨some 13,.bin .lss (.t 9) (.t 12),none⟩]) (.cond (.t 13) .skip (.exit 0))) (.seq (.block 1 (.region [⟨some 16,.mv (.t 3),none⟩,⟨some 17,.faddr 0 (.t 1),none⟩,⟨some 18,.load none (.t 17),none⟩,⟨some 19,.mv (.t 4),none⟩,⟨some 20,.iaddr 3 (.t 18) (.t 19),none⟩,⟨some 21,.faddr 2 (.t 20),none⟩,⟨some 22,.load none (.t 21),none⟩,⟨some 23,.len (.t 22),none⟩,⟨some 24,.mkslice 1 [(.v (.int .i64 0))] 8 (.t 23) (.t 23),none⟩,⟨some 25,.bslice 1 [(.v .zsl)] 1 [(0,(.t 24))],none⟩,⟨some 26,.append 1 24 (.t 16) (.t 25),none⟩,⟨some 3,.mv (.t 26),none⟩])) (.region [⟨some 14,.mv (.t 4),none⟩,⟨some 15,.bin .add (.t 14) (.c (.v (.int .i64 1))),none⟩,⟨some 4,.mv (.t 15),none⟩])))))) (.seq (.seq (.region [⟨some 5,.mv (.c (.v (.bool true))),none⟩]) (.block 2 (.loop (.seq (.seq (.region [⟨some 27,.mv (.t 5),none⟩]) (.cond (.t 27) .skip (.exit 2))) (.block 3 (.seq (.region [⟨some 5,.mv (.c (.v (.bool false))),none⟩]) (.seq (.region [⟨some 6,.mv (.c (.v (.int .i64 0))),none⟩]) (.block 4 (.loop (.seq (.seq (.region [⟨some 28,.mv (.t 6),none⟩,⟨some 29,.faddr 0 (.t 1),none⟩,⟨some 30,.load none (.t 29),none⟩,⟨some 31,.len (.t 30),none⟩,⟨some 32,.bin .lss (.t 28) (.t 31),none⟩]) (.cond (.t 32) .skip (.exit 4))) (.seq (.block 5 (.seq (.region [⟨some 7,.mv (.c (.v (.int .i64 0))),none⟩]) (.block 6 (.loop (.seq (.seq (.region [⟨some 35,.mv (.t 7),none⟩,⟨some 36,.faddr 0 (.t 1),none⟩,⟨some 37,.load none (.t 36),none⟩,⟨some 38,.mv (.t 6),none⟩,⟨some 39,.iaddr 3 (.t 37) (.t 38),none⟩,⟨some 40,.faddr 2 (.t 39),none⟩,⟨some 41,.load none (.t 40),none⟩,⟨some 42,.len (.t 41),none⟩,⟨some 43,.bin .lss (.t 35) (.t 42),none⟩]) (.cond (.t 43) .skip (.exit 6))) (.seq (.block 7 (.seq (.region [⟨some 46,.load (some 1) (.t 1),none⟩,⟨some 47,.mv (.t 3),none⟩,⟨some 48,.mv (.t 6),none⟩,⟨some 49,.mv (.t 7),none⟩,⟨some 50,.bin .add (.t 49) (.c (.v (.int .i64 1))),none⟩,⟨some 51,.build [(.v (.int .i64 0)),(.v (.int .i64 0))] [(0,1,(.t 48)),(1,1,(.t 50))],none⟩,⟨some 52,.call (.c (.fn 170 [])) [(.t 46),(.t 47),(.t 51)],none⟩,⟨some 53,.bin .add (.c (.v (.int .i64 1))) (.t 52),none⟩,⟨some 8,.mv (.t 53),none⟩]) (.seq (.region [⟨some 54,.mv (.t 8),none⟩,⟨some 55,.mv (.t 3),none⟩,⟨some 56,.mv (.t 6),none⟩,⟨some 57,.iaddr 1 (.t 55) (.t 56),none⟩,⟨some 58,.load none (.t 57),none⟩,⟨some 59,.mv (.t 7),none⟩,⟨some 60,.iaddr 1 (.t 58) (.t 59),none⟩,⟨some 61,.load none (.t 60),none⟩,⟨some 62,.bin .gtr (.t 54) (.t 61),none⟩]) (.cond (.t 62) (.seq (.region [⟨some 63,.mv (.t 3),none⟩,⟨some 64,.mv (.t 6),none⟩,⟨some 65,.iaddr 1 (.t 63) (.t 64),none⟩,⟨some 66,.load none (.t 65),none⟩,⟨some 67,.mv (.t 7),none⟩,⟨some 68,.mv (.t 8),none⟩,⟨some 69,.iaddr 1 (.t 66) (.t 67),none⟩,⟨none,.store 1 (.t 69) (.t 68),none⟩]) (.region [⟨some 5,.mv (.c (.v (.bool true))),none⟩])) .skip)))) (.region [⟨some 44,.mv (.t 7),none⟩,⟨some 45,.bin .add (.t 44) (.c (.v (.int .i64 1))),none⟩,⟨some 7,.mv (.t 45),none⟩]))))))) (.region [⟨some 33,.mv (.t 6),none⟩,⟨some 34,.bin .add (.t 33) (.c (.v (.int .i64 1))),none⟩,⟨some 6,.mv (.t 34),none⟩])))))))))))) (.seq (.region [⟨some 70,.mv (.t 3),none⟩,⟨some 2,.mv (.t 70),none⟩]) .ret)))))⟩
theorem a_rSt14_ok : cFunc Try.prog 139 = some a_rSt14 := by kernel_rfl
def r_rSt140 : List (Nat × Nat) := [(3, 4), (9, 26)]
def r_rSt141 : List (Nat × Nat) := [(5, 8), (27, 69)]
def r_rSt142 : List (Nat × Nat) := [(5, 8), (28, 69)]
def r_rSt143 : List (Nat × Nat) := [(5, 5), (7, 8), (35, 69)]

noncomputable def mxTo (M : Nat → Nat → Nat) (L : List (Nat × Nat)) : Nat → Nat
 | 0 => 0
 | i + 1 => max (mxTo M L i) (M (L.getD i (0, 0)).1 (L.getD i (0, 0)).2)
theorem mxTo_back {t : Tr} {M : Nat → Nat → Nat} {x : Nat × Nat} : mxTo M (backL t x) (backL t x).length = lat t M x := by
 unfold lat latP latR backL sndr
 by_cases h1 : 1 < x.2
 ·by_cases h2 : (evAt t x).kind = 3
  ·have hb : ((evAt t x).kind == 3) = true := by rw [h2]; rfl
   rw [if_pos h1, if_pos hb, if_pos h1, if_pos h2]
   simp [mxTo]
  ·have hb : ¬ ((evAt t x).kind == 3) = true := by simpa using h2
   rw [if_pos h1, if_neg hb, if_pos h1, if_neg h2]
   simp [mxTo]
 ·by_cases h2 : (evAt t x).kind = 3
  ·have hb : ((evAt t x).kind == 3) = true := by rw [h2]; rfl
   rw [if_neg h1, if_pos hb, if_neg h1, if_pos h2]
   simp [mxTo]
  ·have hb : ¬ ((evAt t x).kind == 3) = true := by simpa using h2
   rw [if_neg h1, if_neg hb, if_neg h1, if_neg h2]
   simp [mxTo]
noncomputable def lsRow (t : Tr) (M : Nat → Nat → Nat) (q : Nat) : List (List IV) := fl (evsOf t q).length fun i => [.int .i64 (M q (i + 1) : Nat)]
noncomputable def lsC (t : Tr) (M : Nat → Nat → Nat) (q : Nat) : Row := .live 0 1 (vs (lsRow t M q))
noncomputable def lsT (t : Tr) (n v m : Nat) : Row := .live v 1 (fl m fun q => [.sl (n + (q + 1 + 1)) 0 0 (evsOf t q).length])
noncomputable def lsR (t : Tr) (n v m : Nat) (M : Nat → Nat → Nat) : List Row := .live 0 1 [[.v (.isl 3 (t.map ePr))]] :: lsT t n v m :: fl m (lsC t M)
theorem lsR_len {t : Tr} {n v m : Nat} {M : Nat → Nat → Nat} : (lsR t n v m M).length = m + 2 := by simp [lsR, fl_len]
theorem lsRow_len {t : Tr} {M : Nat → Nat → Nat} {q : Nat} : (lsRow t M q).length = (evsOf t q).length := fl_len
theorem lsRow_set {t : Tr} {M : Nat → Nat → Nat} {p i v : Nat} : (lsRow t M p).set i [.int .i64 (v : Nat)] = lsRow t (mUp M (p, i + 1) v) p := by
 unfold lsRow
 rw [fl_set]
 refine fl_congr (fun j _ => ?_)
 unfold mUp
 by_cases hj : j = i
 ·subst hj; rw [fUp_same, if_pos ⟨rfl, rfl⟩]
 ·rw [fUp_ne hj, if_neg (by simp only; omega)]
theorem lsC_put {t : Tr} {M : Nat → Nat → Nat} {m p i v : Nat} : fl m (fUp (lsC t M) p (.live 0 1 (vs (lsRow t (mUp M (p, i + 1) v) p)))) = fl m (lsC t (mUp M (p, i + 1) v)) := by
 refine fl_congr (fun q _ => ?_)
 by_cases hq : q = p
 ·subst hq; rw [fUp_same]; rfl
 ·rw [fUp_ne hq]
  unfold lsC lsRow
  congr 2
  refine fl_congr (fun j _ => ?_)
  unfold mUp
  rw [if_neg (by simp only; omega)]
theorem lsR_lt {t : Tr} {n v m k : Nat} {M : Nat → Nat → Nat} (h : n + (m + 2) ≤ k) : RowsLt k (lsR t n v m M) := by
 intro id ver sz els hr row hrow c hc
 match id, hr with
 | 0, hr => cases hr; simp at hrow; subst hrow; simp at hc; subst hc; exact .v _
 | 1, hr =>
   cases hr
   obtain ⟨a, ha, rfl⟩ := List.mem_map.1 hrow
   simp only [List.mem_singleton] at hc
   subst hc
   have := List.mem_range.1 ha
   exact .sl _ _ _ _ oM
 | id + 2, hr =>
   have hr : (fl m (lsC t M))[id]? = some (.live ver sz els) := hr
   by_cases hid : id < m
   ·rw [fl_get hid] at hr
    cases hr
    obtain ⟨r0, _, rfl⟩ := List.mem_map.1 hrow
    obtain ⟨x0, _, rfl⟩ := List.mem_map.1 hc
    exact .v _
   ·rw [fl_none oM] at hr; cases hr
set_option maxRecDepth 20000 in
set_option maxHeartbeats 4000000 in
theorem rLatest_spec (t : Tr) (hv : Vok t) (hS : Small t) (hN : Nm t) (v : Nat) (M : Nat → Nat → Nat) (hM : ∀ x ∈ ids t, M x.1 x.2 ≤ 1000000) (p i : Nat) (hp : p < t.length) (hi : i < t[p].evs.length) (b l : List Row) (hl : l = lsR t b.length v t.length M) :
  ACalls Try.prog 170 [.agg [.v (eT t)], .sl (b.length + 1) v 0 t.length, idA (p, i + 1)] b l (fun r b' l' => r = .v (.int .i64 (lat t M (p, i + 1) : Nat)) ∧ b' = b ∧ l' = l) := by
 refine calls_kept a_rLatest_ok rfl (by decide) ?_
 intro B g hB hR hE hA
 simp only [KArgs] at hA
 have hT8 := hv.hi
 have hx : (p, i + 1) ∈ ids t := mem_ids2.2 ⟨hp, by rw [evsOf_lt hp]; exact hi⟩
 have gB1 : B[b.length + 1]? = some (lsT t b.length v t.length) := by rw [hB, List.getElem?_append_right oM, Nat.add_sub_cancel_left, hl]; rfl
 have gBr : ∀ q, q < t.length → B[b.length + (q + 1 + 1)]? = some (lsC t M q) := fun q hq => by
  rw [hB, List.getElem?_append_right oM, Nat.add_sub_cancel_left, hl]
  unfold lsR
  simp only [List.getElem?_cons_succ]
  exact fl_get hq
 have g1 := hget_low gB1
 have gr := fun q hq => hget_low (gBr q hq)
 unfold lsT at g1
 unfold lsC at gr
 have gT : ∀ q, q < t.length → (fl t.length fun q => [AV.sl (b.length + (q + 1 + 1)) 0 0 (evsOf t q).length])[q]? = some [.sl (b.length + (q + 1 + 1)) 0 0 (evsOf t q).length] := fun q hq => fl_get hq
 have hdi := fun b l => rDirectly_spec t hS hN p i hp hi b l
 simp only [idA, eT] at hdi
 have hb2 := backL_len (t := t) (x := (p, i + 1))
 have hmb := mxTo_back (t := t) (M := M) (x := (p, i + 1))
 have hmm : ∀ y ∈ backL t (p, i + 1), y ∈ ids t := fun y hy => (back_mem hv hx hy).1
 obtain ⟨LB, hLB⟩ : ∃ LB, backL t (p, i + 1) = LB := ⟨_, rfl⟩
 rw [hLB] at hdi hb2 hmb hmm
 obtain ⟨LL, hLL⟩ : ∃ LL, LB.map eId = LL := ⟨_, rfl⟩
 have hll : LL.length = LB.length := by rw [← hLL, List.length_map]
 rw [hLL] at hdi
 have h0 : ((mxTo M LB 0 : Nat) : Int) = 0 := rfl
 rw [← hmb]
 simp (disch := (first | decide | omega)) only [a_rLatest, hA, idA, eT, go_sem]
 refine ACalls.nxt (hdi _ _) ?_
 simp (disch := (first | decide | omega)) only [hA, go_sem]
 refine loop_kept (ι := Nat) r_rLatest0 (fun j => [(9, .v (.int .i64 j)), (8, .v (.int .i64 (mxTo M LB j : Nat)))]) 2 (fun _ => [.live 0 1 [[.v (.isl 3 (t.map ePr))]], .live 0 2 [[.v (.int .i64 p), .v (.int .i64 ((i + 1 : Nat) : Int))]]])
  (fun j => j ≤ LB.length) (fun j => LB.length - j) 0 (Nat.zero_le _) (by (repeat (first | exact hE.mono oM | refine KLt.up ?_ kL))) (by ((try simp (disch := decide) only [hA, h0, go_sem]) <;> exact kH)) (fun e => Weak.refl _ _ _) ?_
 intro g2 hE2 hEE2 hg2 j hj
 by_cases hjl : j < LB.length
 ·have hy := hmm _ (List.getElem_mem hjl)
  obtain ⟨⟨q, jj⟩, hyj⟩ : ∃ y, LB[j] = y := ⟨_, rfl⟩
  rw [hyj] at hy
  obtain ⟨jj, rfl⟩ : ∃ k, jj = k + 1 := ⟨jj - 1, by have := mem_pos hy; simp only at this; omega⟩
  obtain ⟨hq, hjq⟩ := mem_ids2.1 hy
  have hgL : LL[j]? = some [.int .i64 q, .int .i64 ((jj + 1 : Nat) : Int)] := by
   rw [← hLL, List.getElem?_map, List.getElem?_eq_getElem hjl, hyj]; rfl
  have hci : ((jj + 1 : Nat) : Int) - 1 = (jj : Int) := by omega
  have gTq := gT q hq
  have grq := gr q hq
  have hrl := lsRow_len (t := t) (M := M) (q := q)
  have hrg : (lsRow t M q)[jj]? = some [.int .i64 (M q (jj + 1) : Nat)] := fl_get hjq
  have hbig := hM _ hy
  simp only at hbig
  have hne := hS.ne _ (List.getElem_mem hq)
  rw [← evsOf_lt hq] at hne
  have hmx : mxTo M LB (j + 1) = max (mxTo M LB j) (M q (jj + 1)) := by rw [mxTo, getD_at hjl, hyj]
  have hm : (if (mxTo M LB j : Int) < (M q (jj + 1) : Int) then (M q (jj + 1) : Int) else (mxTo M LB j : Int)) = ((mxTo M LB (j + 1) : Nat) : Int) := by rw [hmx]; split <;> omega
  simp (disch := (first | decide | omega)) only [hA, hg2, hll, hgL, hci, g1, gTq, grq, hrl, hrg, hm, fl_len, go_sem]
  refine ⟨j + 1, hjl, by simp only; omega, ?_⟩
  exact Weak.kround (p := r_rLatest0) (k := 2) (by ((repeat refine (kAny_up rfl).trans ?_); exact hEE2)) (by ((try simp (disch := decide) only [hA, go_sem]) <;> exact kH)) rfl hE2 (by simp) kV hR kL
 ·obtain rfl : j = LB.length := by omega
  simp (disch := (first | decide | omega)) only [hA, hg2, hll, go_sem]
  exact leave_pure (xs := [.v (.int .i64 (mxTo M LB LB.length : Nat))]) (.inr rfl) (by simp (disch := (first | decide | omega)) only [resVs, resV, go_sem, hA, hg2]) kO hR hB ⟨rfl, rfl, rfl⟩
structure Swr (t : Tr) (M0 : Nat → Nat → Nat) (p i : Nat) (M : Nat → Nat → Nat) (ag : Bool) : Prop where
 le : Mle t M
 no : ag = false → M = M0 ∧ ∀ x ∈ ids t, (x.1 < p ∨ x.1 = p ∧ x.2 ≤ i) → lat t M x + 1 ≤ M x.1 x.2
 yes : ag = true → remS t M < remS t M0
noncomputable def lamM (t : Tr) : Nat → Nat → Nat := fun p i => lam t (p, i)
noncomputable def lamAll (t : Tr) : List (List IV) := fl t.length fun q => [.isl 1 (lsRow t (lamM t) q)]
set_option maxRecDepth 20000 in
set_option maxHeartbeats 4000000 in
theorem rSt14_spec (t : Tr) (hv : Vok t) (hS : Small t) (hN : Nm t) (hC : (ids t).length ≤ 1000000) (b l : List Row) :
  ACalls Try.prog 139 [.agg [.v (eT t)]] b l (fun r b' l' => r = .v (.isl 1 (lamAll t)) ∧ b' = b ∧ l' = l) := by
 refine calls_kept a_rSt14_ok rfl (by decide) ?_
 intro B g hB hR hE hA
 simp only [KArgs] at hA
 have hT8 := hv.hi
 simp (disch := (first | decide | omega)) only [a_rSt14, hA, eT, go_sem]
 refine loop_kept_nil (ι := Nat) 3 1 r_rSt140 (fun q => [(3, .sl (B.length + 1) q 0 q), (4, .v (.int .i64 q))]) 2 (fun q => lsR t B.length q q (fun _ _ => 0))
  (fun q => q ≤ t.length) (fun q => t.length - q) 0 (Nat.zero_le _) (by simp (disch := decide) only [hA, go_sem]) (by decide) rfl (by (repeat (first | exact hE.mono oM | refine KLt.up ?_ kL))) (by ((try simp (disch := decide) only [hA, go_sem]) <;> exact kH)) (fun e => Weak.refl _ _ _) ?_
 intro g1 hE1 hEE1 hg1 q hq
 by_cases hql : q < t.length
 ·have hne := hS.ne _ (List.getElem_mem hql)
  have heo := evsOf_lt hql
  have hz : List.replicate t[q].evs.length [IV.int .i64 0] = lsRow t (fun _ _ => 0) q := by unfold lsRow; rw [fl_const, heo]; rfl
  have tl : (fl q fun q => [AV.sl (B.length + (q + 1 + 1)) 0 0 (evsOf t q).length]).length = q := fl_len
  have tk : List.take q (fl q fun q => [AV.sl (B.length + (q + 1 + 1)) 0 0 (evsOf t q).length]) = fl q fun q => [AV.sl (B.length + (q + 1 + 1)) 0 0 (evsOf t q).length] := List.take_of_length_le oM
  have hnx : (fl q fun q => [AV.sl (B.length + (q + 1 + 1)) 0 0 (evsOf t q).length]) ++ [[AV.sl (B.length + (q + 1 + 1)) 0 0 t[q].evs.length]] = fl (q + 1) fun q => [AV.sl (B.length + (q + 1 + 1)) 0 0 (evsOf t q).length] := fl_next (by rw [heo])
  have hnr : ∀ T : List Row, fl q (lsC t fun _ _ => 0) ++ .live 0 1 (vs (lsRow t (fun _ _ => 0) q)) :: T = fl (q + 1) (lsC t fun _ _ => 0) ++ T := fun T => by rw [← fl_next (n := q) (f := lsC t fun _ _ => 0) (x := .live 0 1 (vs (lsRow t (fun _ _ => 0) q))) rfl, List.append_assoc]; rfl
  simp (disch := (first | decide | omega)) only [hA, hg1, lsR, lsT, ePr, hz, tl, tk, hnx, hnr, fl_len, fa_tail0, List.length_map, List.replicate_succ, List.replicate_zero, reduceCtorEq, setFrom, cellsOf, go_sem]
  refine ⟨q + 1, hql, by simp only; omega, ?_⟩
  exact Weak.kround (l1 := lsR t B.length (q + 1) (q + 1) (fun _ _ => 0)) (junk := [_]) (p := r_rSt140) (k := 2) (by ((repeat refine (kAny_up rfl).trans ?_); exact hEE1)) (by ((try simp (disch := decide) only [hA, go_sem]) <;> exact kH)) rfl hE1 (by simp [lsR]) (by rw [lsR_len]; simp (disch := omega) only [KOvLt, lts.down, Nat.reduceLT, Nat.reduceAdd]) hR (lsR_lt (Nat.le_of_eq (by rw [lsR_len])))
 obtain rfl : q = t.length := by omega
 simp (disch := (first | decide | omega)) only [hA, hg1, lsR, List.length_map, go_sem]
 refine loop_kept (ι := (Nat → Nat → Nat) × Bool) r_rSt141 (fun s => [(5, .v (.bool s.2))]) (t.length + 2) (fun s => lsR t B.length t.length t.length s.1)
  (fun s => Mle t s.1 ∧ (s.2 = false → ∀ x ∈ ids t, lat t s.1 x + 1 ≤ s.1 x.1 x.2)) (fun s => 2 * remS t s.1 + cond s.2 1 0) (fun _ _ => 0, true) ⟨fun x _ => Nat.zero_le _, fun h => by cases h⟩ (by (repeat (first | exact hE1.mono oM | refine KLt.up ?_ kL))) (by ((try simp (disch := decide) only [hA, hg1, go_sem]) <;> exact kH)) (fun e => Weak.refl _ _ _) ?_
 rintro g2 hE2 hEE2 hg2 ⟨M1, ag1⟩ ⟨hM1, hd1⟩
 simp only at hM1 hd1
 cases ag1 with
 | false =>
   have hall := fun x hx => lam_done hv hM1 (hd1 rfl) _ x hx rk_max
   simp (disch := (first | decide | omega)) only [hA, hg1, hg2, go_sem]
   have he : lamAll t = mV t.length 1 (lsRow t M1) := by
    unfold lamAll mV
    refine fl_congr (fun q hq => ?_)
    congr 2
    unfold lsRow
    refine fl_congr (fun i hi => ?_)
    have := hall (q, i + 1) (mem_ids2.2 ⟨hq, hi⟩)
    simp only at this
    rw [this]; rfl
   rw [he]
   refine leave_matP (n := t.length) (m := 1) (v0 := t.length) (sz := 1) (ver := fun _ => 0) (R := lsRow t M1) (pre := [.live 0 1 [[.v (.isl 3 (t.map ePr))]]]) (junk := []) (.inr rfl) (by simp (disch := (first | decide | omega)) only [resVs, resV, hA, hg1, hg2, go_sem]) rfl ?_ kN hR hB ⟨rfl, rfl, rfl⟩
   unfold mR lsR lsT
   simp only [List.append_nil, List.cons_append, List.nil_append]
   congr 3
   refine fl_congr (fun j hj => ?_)
   unfold mC
   rw [if_neg oM, lsRow_len, show B.length + 1 + (j + 1) = B.length + (j + 1 + 1) by omega]
 | true =>
   simp (disch := (first | decide | omega)) only [hA, hg1, hg2, lsR, List.length_map, go_sem]
   refine loop_kept (ι := Nat × (Nat → Nat → Nat) × Bool) r_rSt142 (fun s => [(5, .v (.bool s.2.2)), (6, .v (.int .i64 s.1))]) (t.length + 2) (fun s => lsR t B.length t.length t.length s.2.1)
    (fun s => s.1 ≤ t.length ∧ Swr t M1 s.1 0 s.2.1 s.2.2) (fun s => t.length - s.1) (0, M1, false) ⟨Nat.zero_le _, hM1, fun _ => ⟨rfl, fun x hx h => by have := mem_pos hx; omega⟩, fun h => by cases h⟩ (by (repeat (first | exact hE2.mono oM | refine KLt.up ?_ kL))) (by ((try simp (disch := decide) only [hA, hg1, hg2, go_sem]) <;> exact kH)) (fun e => Weak.refl _ _ _) ?_
   rintro g3 hE3 hEE3 hg3 ⟨p, M2, ag2⟩ ⟨hp, hw2⟩
   simp only at hp hw2
   by_cases hpl : p < t.length
   ·have heo := evsOf_lt hpl
    have hne := hS.ne _ (List.getElem_mem hpl)
    simp (disch := (first | decide | omega)) only [hA, hg1, hg2, hg3, lsR, List.length_map, go_sem]
    refine loop_kept (ι := Nat × (Nat → Nat → Nat) × Bool) r_rSt143 (fun s => [(5, .v (.bool s.2.2)), (7, .v (.int .i64 s.1))]) (t.length + 2) (fun s => lsR t B.length t.length t.length s.2.1)
     (fun s => s.1 ≤ t[p].evs.length ∧ Swr t M1 p s.1 s.2.1 s.2.2) (fun s => t[p].evs.length - s.1) (0, M2, ag2) ⟨Nat.zero_le _, hw2⟩ (by (repeat (first | exact hE3.mono oM | refine KLt.up ?_ kL))) (by ((try simp (disch := decide) only [hA, hg1, hg2, hg3, go_sem]) <;> exact kH)) (fun e => Weak.refl _ _ _) ?_
    rintro g4 hE4 hEE4 hg4 ⟨i, M, ag⟩ ⟨hi, hw⟩
    simp only at hi hw
    obtain ⟨FR, hFR⟩ : ∃ FR, FR = (lsT t B.length t.length t.length :: fl t.length (lsC t M)) := ⟨_, rfl⟩
    have hFR2 : lsR t B.length t.length t.length M = .live 0 1 [[.v (.isl 3 (t.map ePr))]] :: FR := by rw [hFR]; rfl
    by_cases hil : i < t[p].evs.length
    ·have hx : (p, i + 1) ∈ ids t := mem_ids2.2 ⟨hpl, by rw [heo]; exact hil⟩
     have hMb : ∀ x ∈ ids t, M x.1 x.2 ≤ 1000000 := fun x hx => by have := hw.le x hx; have := lam_le hv hx; omega
     have hlt := rLatest_spec t hv hS hN t.length M hMb p i hpl hil B _ hFR2.symm
     simp only [idA, eT] at hlt
     have hlam := lat_le hv hw.le hx
     have hlm := lam_le hv hx
     obtain ⟨s, hs⟩ : ∃ s, lat t M (p, i + 1) = s := ⟨_, rfl⟩
     rw [hs] at hlt hlam
     have hc1 : (i : Int) + 1 = ((i + 1 : Nat) : Int) := by omega
     have hs1 : (1 : Int) + (s : Int) = ((s + 1 : Nat) : Int) := by omega
     have hrl := lsRow_len (t := t) (M := M) (q := p)
     have hrg : (lsRow t M p)[i]? = some [.int .i64 (M p (i + 1) : Nat)] := fl_get (by rw [heo]; exact hil)
     have hMx := hMb _ hx
     simp only at hMx
     simp (disch := (first | decide | omega)) only [hA, hg1, hg2, hg3, hg4, hFR2, hc1, ePr, List.length_map, go_sem]
     refine ACalls.nxt hlt ?_
     by_cases hgt : M p (i + 1) < s + 1
     ·have hd : decide (((s + 1 : Nat) : Int) > (M p (i + 1) : Int)) = true := decide_eq_true oM
      have hd' : decide ((M p (i + 1) : Int) < ((s + 1 : Nat) : Int)) = true := hd
      have hset := lsRow_set (t := t) (M := M) (p := p) (i := i) (v := s + 1)
      have hput := lsC_put (t := t) (M := M) (m := t.length) (p := p) (i := i) (v := s + 1)
      have hlc : lsC t M p = .live 0 1 (vs (lsRow t M p)) := rfl
      simp (disch := (first | decide | omega)) only [hA, hg1, hg2, hg3, hg4, hFR, hs1, lsT, hlc, heo, hrl, hrg, hd, hd', hset, hput, fl_len, fl_get, fl_set, setFrom, cellsOf, go_sem]
      refine ⟨(i + 1, mUp M (p, i + 1) (s + 1), true), ⟨hil, hw.le.up hlam, fun h => absurd h (by simp), fun _ => ?_⟩, by simp only; omega, ?_⟩
      ·have hr := remS_up hw.le hx (v := s + 1) hgt hlam
       cases ag with
       | true => exact Nat.lt_trans hr (hw.yes rfl)
       | false => rw [← (hw.no rfl).1]; exact hr
      ·exact Weak.kround (l1 := lsR t B.length t.length t.length (mUp M (p, i + 1) (s + 1))) (junk := []) (p := r_rSt143) (k := t.length + 2) (by ((repeat refine (kAny_up rfl).trans ?_); exact hEE4)) (by ((try simp (disch := decide) only [hA, go_sem]) <;> exact kH)) (List.append_nil _).symm hE4 (by rw [lsR_len]; omega) (by rw [lsR_len]; simp (disch := omega) only [KOvLt, lts.down, Nat.reduceLT, Nat.reduceAdd]) hR (lsR_lt (Nat.le_of_eq (by rw [lsR_len])))
     ·have hd : decide (((s + 1 : Nat) : Int) > (M p (i + 1) : Int)) = false := decide_eq_false oM
      have hd' : decide ((M p (i + 1) : Int) < ((s + 1 : Nat) : Int)) = false := hd
      have hlc : lsC t M p = .live 0 1 (vs (lsRow t M p)) := rfl
      simp (disch := (first | decide | omega)) only [hA, hg1, hg2, hg3, hg4, hFR, hs1, lsT, hlc, heo, hrl, hrg, hd, hd', fl_len, fl_get, setFrom, cellsOf, go_sem]
      refine ⟨(i + 1, M, ag), ⟨hil, hw.le, fun h => ⟨(hw.no h).1, fun x hx2 hxx => ?_⟩, hw.yes⟩, by simp only; omega, ?_⟩
      ·by_cases he : x = (p, i + 1)
       ·subst he; rw [hs]; simp only; omega
       ·refine (hw.no h).2 x hx2 ?_
        rcases hxx with h1 | ⟨h1, h2⟩
        ·exact .inl h1
        ·refine .inr ⟨h1, ?_⟩
         have : x.2 ≠ i + 1 := fun h3 => he (Prod.ext h1 h3)
         omega
      ·exact Weak.kround (l1 := lsR t B.length t.length t.length M) (junk := []) (p := r_rSt143) (k := t.length + 2) (by ((repeat refine (kAny_up rfl).trans ?_); exact hEE4)) (by ((try simp (disch := decide) only [hA, go_sem]) <;> exact kH)) (List.append_nil _).symm hE4 (by rw [lsR_len]; omega) (by rw [lsR_len]; simp (disch := omega) only [KOvLt, lts.down, Nat.reduceLT, Nat.reduceAdd]) hR (lsR_lt (Nat.le_of_eq (by rw [lsR_len])))
    ·obtain rfl : i = t[p].evs.length := by omega
     simp (disch := (first | decide | omega)) only [hA, hg1, hg2, hg3, hg4, hFR2, ePr, List.length_map, go_sem]
     rw [← hFR2]
     refine ⟨(p + 1, M, ag), ⟨hpl, hw.le, fun h => ⟨(hw.no h).1, fun x hx2 hxx => (hw.no h).2 x hx2 ?_⟩, hw.yes⟩, by simp only; omega, ?_⟩
     ·have hxp := (mem_ids.1 hx2).1
      have hx3 := (mem_ids.1 hx2).2.2
      have hx0 := mem_pos hx2
      by_cases h1 : x.1 = p
      ·refine .inr ⟨h1, ?_⟩
       obtain ⟨xp, xi⟩ := x
       simp only at h1 hx3
       subst h1
       exact hx3
      ·exact .inl oM
     ·exact Weak.kround (l1 := lsR t B.length t.length t.length M) (junk := []) (p := r_rSt142) (k := t.length + 2) (by ((repeat refine (kAny_up rfl).trans ?_); refine (kAny_sub hg4 (kIn_sub rfl)).trans ?_; (repeat refine (kAny_up rfl).trans ?_); exact hEE3)) (by ((try simp (disch := decide) only [hA, hg1, hg2, go_sem]) <;> exact kH)) (List.append_nil _).symm hE3 (by rw [lsR_len]; omega) (by rw [lsR_len]; simp (disch := omega) only [KOvLt, lts.down, Nat.reduceLT, Nat.reduceAdd]) hR (lsR_lt (Nat.le_of_eq (by rw [lsR_len])))
   ·obtain rfl : p = t.length := by omega
    obtain ⟨FR, hFR⟩ : ∃ FR, FR = (lsT t B.length t.length t.length :: fl t.length (lsC t M2)) := ⟨_, rfl⟩
    have hFR2 : lsR t B.length t.length t.length M2 = .live 0 1 [[.v (.isl 3 (t.map ePr))]] :: FR := by rw [hFR]; rfl
    simp (disch := (first | decide | omega)) only [hA, hg1, hg2, hg3, hFR2, List.length_map, go_sem]
    rw [← hFR2]
    refine ⟨(M2, ag2), ⟨hw2.le, fun h x hx => (hw2.no h).2 x hx (.inl (mem_ids.1 hx).1)⟩, ?_, ?_⟩
    ·cases ag2 with
     | true => have := hw2.yes rfl; simp only [cond]; omega
     | false => rw [(hw2.no rfl).1]; simp only [cond]; omega
    ·exact Weak.kround (l1 := lsR t B.length t.length t.length M2) (junk := []) (p := r_rSt141) (k := t.length + 2) (by ((repeat refine (kAny_up rfl).trans ?_); refine (kAny_sub hg3 (kIn_sub rfl)).trans ?_; (repeat refine (kAny_up rfl).trans ?_); exact hEE2)) (by ((try simp (disch := decide) only [hA, hg1, go_sem]) <;> exact kH)) (List.append_nil _).symm hE2 (by rw [lsR_len]; omega) (by rw [lsR_len]; simp (disch := omega) only [KOvLt, lts.down, Nat.reduceLT, Nat.reduceAdd]) hR (lsR_lt (Nat.le_of_eq (by rw [lsR_len])))
def a_rTotal : AFunc := ⟨1,49,[.tmp 2],(.seq (.region [⟨some 1,.box (.t 0),none⟩,⟨some 2,.mv (.c (.v .zsl)),none⟩]) (.seq (.region [⟨some 8,.load (some 1) (.t 1),none⟩,⟨some 9,.call (.c (.fn 139 [])) [(.t 8)],none⟩,⟨some 3,.mv (.t 9),none⟩]) (.seq (.region [⟨some 4,.mv (.c (.v .zsl)),none⟩]) (.seq (.seq (.region [⟨some 5,.mv (.c (.v (.int .i64 1))),none⟩]) (.block 0 (.loop (.seq (.seq (.region [⟨some 10,.mv (.t 4),none⟩,⟨some 11,.len (.t 10),none⟩,⟨some 12,.load (some 1) (.t 1),none⟩,⟨some 13,.call (.c (.fn 140 [])) [(.t 12)],none⟩,⟨some 14,.bin .lss (.t 11) (.t 13),none⟩]) (.cond (.t 14) .skip (.exit 0))) (.seq (.block 1 (.seq (.region [⟨some 6,.mv (.c (.v (.int .i64 0))),none⟩]) (.block 2 (.loop (.seq (.seq (.region [⟨some 17,.mv (.t 6),none⟩,⟨some 18,.mv (.t 3),none⟩,⟨some 19,.len (.t 18),none⟩,⟨some 20,.bin .lss (.t 17) (.t 19),none⟩]) (.cond (.t 20) .skip (.exit 2))) (.seq (.block 3 (.seq (.region [⟨some 7,.mv (.c (.v (.int .i64 0))),none⟩]) (.block 4 (.loop (.seq (.seq (.region [⟨some 23,.mv (.t 7),none⟩,⟨some 24,.mv (.t 3),none⟩,⟨some 25,.mv (.t 6),none⟩,⟨some 26,.iaddr 1 (.t 24) (.t 25),none⟩,⟨some 27,.load none (.t 26),none⟩,⟨some 28,.len (.t 27),none⟩,⟨some 29,.bin .lss (.t 23) (.t 28),none⟩]) (.cond (.t 29) .skip (.exit 4))) (.seq (.block 5 (.seq (.region [⟨some 32,.mv (.t 3),none⟩,⟨some 33,.mv (.t 6),none⟩,⟨some 34,.iaddr 1 (.t 32) (.t 33),none⟩,⟨some 35,.load none (.t 34),none⟩,⟨some 36,.mv (.t 7),none⟩,⟨some 37,.iaddr 1 (.t 35) (.t 36),none⟩,⟨some 38,.load none (.t 37),none⟩,⟨some 39,.mv (.t 5),none⟩,⟨some 40,.bin .eql (.t 38) (.t 39),none⟩]) (.cond (.t 40) (.region [⟨some 41,.mv (.t 4),none⟩,⟨some 42,.mv (.t 6),none⟩,⟨some 43,.mv (.t 7),none⟩,⟨some 44,.bin .add (.t 43) (.c (.v (.int .i64 1))),none⟩,⟨some 45,.build [(.v (.int .i64 0)),(.v (.int .i64 0))] [(0,1,(.t 42)),(1,1,(.t 44))],none⟩,⟨some 46,.bslice 2 [(.v (.int .i64 0)),(.v (.int .i64 0))] 1 [(0,(.t 45))],none⟩,⟨some 47,.append 2 16 (.t 41) (.t 46),none⟩,⟨some 4,.mv (.t 47),none⟩]) .skip))) (.region [⟨some 30,.mv (.t 7),none⟩,⟨some 31,.bin .add (.t 30) (.c (.v (.int .i64 1))),none⟩,⟨some 7,.mv (.t 31),none⟩]))))))) (.region [⟨some 21,.mv (.t 6),none⟩,⟨some 22,.bin .add (.t 21) (.c (.v (.int .i64 1))),none⟩,⟨some 6,.mv (.t 22),none⟩]))))))) (.region [⟨some 15,.mv (.t 5),none⟩,⟨some 16,.bin .add (.t 15) (.c (.v (.int .i64 1))),none⟩,⟨some 5,.mv (.t 16),none⟩])))))) (.seq (.region [⟨some 48,.mv (.t 4),none⟩,⟨some 2,.mv (.t 48),none⟩]) .ret)))))⟩
theorem a_rTotal_ok : cFunc Try.prog 82 = some a_rTotal := by kernel_rfl
def r_rTotal0 : List (Nat × Nat) := [(4, 7), (10, 47)]
def r_rTotal1 : List (Nat × Nat) := [(4, 4), (6, 7), (17, 47)]
def r_rTotal2 : List (Nat × Nat) := [(4, 4), (7, 7), (23, 47)]
def a_rSt18 : AFunc := ⟨2,116,[.tmp 4],(.seq (.region [⟨some 2,.box (.t 0),none⟩,⟨some 4,.mv (.c (.v .zsl)),none⟩]) (.seq (.region [⟨some 5,.mv (.c (.v .zsl)),none⟩]) (.seq (.seq (.region [⟨some 6,.mv (.c (.v (.int .i64 0))),none⟩]) (.block 0 (.loop (.seq (.seq (.region [⟨some 14,.mv (.t 6),none⟩,⟨some 15,.faddr 0 (.t 2),none⟩,⟨some 16,.load none (.t 15),none⟩,⟨some 17,.len (.t 16),none⟩,⟨some 18,.bin .lss (.t 14) (.t 17),none⟩]) (.cond (.t 18) .skip (.exit 0))) (.seq (.block 1 (.region [⟨some 21,.mv (.t 5),none⟩,⟨some 22,.faddr 0 (.t 2),none⟩,⟨some 23,.load none (.t 22),none⟩,⟨some 24,.mv (.t 6),none⟩,⟨some 25,.iaddr 3 (.t 23) (.t 24),none⟩,⟨some 26,.faddr 2 (.t 25),none⟩,⟨some 27,.load none (.t 26),none⟩,⟨some 28,.len (.t 27),none⟩,⟨some 29,.mkslice 1 [(.v .zsl)] 24 (.t 28) (.t 28),none⟩,⟨some 30,.bslice 1 [(.v .zsl)] 1 [(0,(.t 29))],none⟩,⟨some 31,.append 1 24 (.t 21) (.t 30),none⟩,⟨some 5,.mv (.t 31),none⟩])) (.region [⟨some 19,.mv (.t 6),none⟩,⟨some 20,.bin .add (.t 19) (.c (.v (.int .i64 1))),none⟩,⟨some 6,.mv (.t 20),none⟩])))))) (.seq (.region [⟨some 32,.load (some 1) (.t 2),none⟩,⟨some 33,.call (.c (.fn 82 [])) [(.t 32)],none⟩,⟨some 7,.mv (.t 33),none⟩]) (.seq (.seq (.region [⟨some 8,.mv (.c (.v (.int .i64 0))),none⟩]) (.block 2 (.loop (.seq (.seq (.region [⟨some 34,.mv (.t 8),none⟩,⟨some 35,.mv (.t 7),none⟩,⟨some 36,.len (.t 35),none⟩,⟨some 37,.bin .lss (.t 34) (.t 36),none⟩]) (.cond (.t 37) .skip (.exit 2))) (.seq (.block 3 (.seq (.region [⟨some 40,.mv (.t 1),none⟩,⟨some 41,.mkslice 1 [(.v (.int .i64 0))] 8 (.t 40) (.t 40),none⟩,⟨some 9,.mv (.t 41),none⟩]) (.seq (.draw [⟨0,⟨some 42,.load (some 1) (.t 2),none⟩,[]⟩,⟨1,⟨some 43,.mv (.t 7),none⟩,[]⟩,⟨2,⟨some 44,.mv (.t 8),none⟩,[]⟩,⟨3,⟨some 45,.iaddr 2 (.t 43) (.t 44),none⟩,[]⟩,⟨4,⟨some 46,.load (some 2) (.t 45),none⟩,[]⟩,⟨5,⟨some 47,.call (.c (.fn 83 [])) [(.t 42),(.t 46)],none⟩,[]⟩,⟨6,⟨some 10,.mv (.t 47),none⟩,[]⟩]) (.seq (.seq (.region [⟨some 11,.mv (.c (.v (.int .i64 0))),none⟩]) (.block 4 (.loop (.seq (.seq (.region [⟨some 48,.mv (.t 11),none⟩,⟨some 49,.mv (.t 10),none⟩,⟨some 50,.len (.t 49),none⟩,⟨some 51,.bin .lss (.t 48) (.t 50),none⟩]) (.cond (.t 51) .skip (.exit 4))) (.seq (.block 5 (.seq (.draw [⟨0,⟨some 54,.mv (.t 5),none⟩,[]⟩,⟨1,⟨some 55,.mv (.t 10),none⟩,[]⟩,⟨2,⟨some 56,.mv (.t 11),none⟩,[]⟩,⟨3,⟨some 57,.iaddr 2 (.t 55) (.t 56),none⟩,[]⟩,⟨4,⟨some 58,.faddr 0 (.t 57),none⟩,[]⟩,⟨5,⟨some 59,.load none (.t 58),none⟩,[]⟩,⟨6,⟨some 60,.iaddr 1 (.t 54) (.t 59),none⟩,[]⟩,⟨7,⟨some 61,.load none (.t 60),none⟩,[]⟩,⟨8,⟨some 62,.mv (.t 10),none⟩,[]⟩,⟨9,⟨some 63,.mv (.t 11),none⟩,[]⟩,⟨10,⟨some 64,.iaddr 2 (.t 62) (.t 63),none⟩,[]⟩,⟨11,⟨some 65,.faddr 1 (.t 64),none⟩,[]⟩,⟨12,⟨some 66,.load none (.t 65),none⟩,[]⟩,⟨13,⟨some 67,.bin .sub (.t 66) (.c (.v (.int .i64 1))),none⟩,[]⟩,⟨14,⟨some 68,.iaddr 1 (.t 61) (.t 67),none⟩,[]⟩,⟨15,⟨some 69,.load none (.t 68),none⟩,[]⟩,⟨16,⟨some 12,.mv (.t 69),none⟩,[]⟩]) (.seq (.region [⟨some 13,.mv (.c (.v (.int .i64 0))),none⟩]) (.block 6 (.loop (.seq (.seq (.region [⟨some 70,.mv (.t 13),none⟩,⟨some 71,.mv (.t 1),none⟩,⟨some 72,.bin .lss (.t 70) (.t 71),none⟩]) (.cond (.t 72) .skip (.exit 6))) (.seq (.block 7 (.draw [⟨0,⟨some 75,.mv (.t 9),none⟩,[]⟩,⟨1,⟨some 76,.mv (.t 13),none⟩,[]⟩,⟨2,⟨some 77,.mv (.t 9),none⟩,[]⟩,⟨3,⟨some 78,.mv (.t 13),none⟩,[]⟩,⟨4,⟨some 79,.iaddr 1 (.t 77) (.t 78),none⟩,[]⟩,⟨5,⟨some 80,.load none (.t 79),none⟩,[]⟩,⟨6,⟨some 81,.mv (.t 12),none⟩,[]⟩,⟨7,⟨some 82,.mv (.t 13),none⟩,[]⟩,⟨8,⟨some 83,.iaddr 1 (.t 81) (.t 82),none⟩,[]⟩,⟨9,⟨some 84,.load none (.t 83),none⟩,[]⟩,⟨10,⟨some 85,.mm true (.t 80) (.t 84),none⟩,[]⟩,⟨11,⟨some 86,.iaddr 1 (.t 75) (.t 76),none⟩,[]⟩,⟨12,⟨none,.store 1 (.t 86) (.t 85),none⟩,[]⟩])) (.region [⟨some 73,.mv (.t 13),none⟩,⟨some 74,.bin .add (.t 73) (.c (.v (.int .i64 1))),none⟩,⟨some 13,.mv (.t 74),none⟩])))))))) (.region [⟨some 52,.mv (.t 11),none⟩,⟨some 53,.bin .add (.t 52) (.c (.v (.int .i64 1))),none⟩,⟨some 11,.mv (.t 53),none⟩])))))) (.seq (.region [⟨some 87,.mv (.t 9),none⟩,⟨some 88,.mv (.t 7),none⟩,⟨some 89,.mv (.t 8),none⟩,⟨some 90,.iaddr 2 (.t 88) (.t 89),none⟩,⟨some 91,.faddr 0 (.t 90),none⟩,⟨some 92,.load none (.t 91),none⟩,⟨some 93,.mv (.t 1),none⟩,⟨some 94,.bin .rem (.t 92) (.t 93),none⟩,⟨some 95,.iaddr 1 (.t 87) (.t 94),none⟩,⟨some 96,.load none (.t 95),none⟩,⟨some 97,.bin .add (.t 96) (.c (.v (.int .i64 1))),none⟩,⟨some 98,.iaddr 1 (.t 87) (.t 94),none⟩,⟨none,.store 1 (.t 98) (.t 97),none⟩]) (.draw [⟨0,⟨some 99,.mv (.t 5),none⟩,[]⟩,⟨1,⟨some 100,.mv (.t 7),none⟩,[]⟩,⟨2,⟨some 101,.mv (.t 8),none⟩,[]⟩,⟨3,⟨some 102,.iaddr 2 (.t 100) (.t 101),none⟩,[]⟩,⟨4,⟨some 103,.faddr 0 (.t 102),none⟩,[]⟩,⟨5,⟨some 104,.load none (.t 103),none⟩,[]⟩,⟨6,⟨some 105,.iaddr 1 (.t 99) (.t 104),none⟩,[]⟩,⟨7,⟨some 106,.load none (.t 105),none⟩,[]⟩,⟨8,⟨some 107,.mv (.t 7),none⟩,[]⟩,⟨9,⟨some 108,.mv (.t 8),none⟩,[]⟩,⟨10,⟨some 109,.iaddr 2 (.t 107) (.t 108),none⟩,[]⟩,⟨11,⟨some 110,.faddr 1 (.t 109),none⟩,[]⟩,⟨12,⟨some 111,.load none (.t 110),none⟩,[]⟩,⟨13,⟨some 112,.bin .sub (.t 111) (.c (.v (.int .i64 1))),none⟩,[]⟩,⟨14,⟨some 113,.mv (.t 9),none⟩,[]⟩,⟨15,⟨some 114,.iaddr 1 (.t 106) (.t 112),none⟩,[]⟩,⟨16,⟨none,.store 1 (.t 114) (.t 113),none⟩,[]⟩])))))) (.region [⟨some 38,.mv (.t 8),none⟩,⟨some 39,.bin .add (.t 38) (.c (.v (.int .i64 1))),none⟩,⟨some 8,.mv (.t 39),none⟩])))))) (.seq (.region [⟨some 115,.mv (.t 5),none⟩,⟨some 4,.mv (.t 115),none⟩]) .ret))))))⟩
theorem a_rSt18_ok : cFunc Try.prog 21 = some a_rSt18 := by kernel_rfl
def r_rSt180 : List (Nat × Nat) := [(5, 6), (14, 31)]
def r_rSt181 : List (Nat × Nat) := [(8, 13), (34, 114)]
def r_rSt182 : List (Nat × Nat) := [(11, 13), (48, 86)]
def r_rSt183 : List (Nat × Nat) := [(13, 13), (70, 86)]

noncomputable def tkL (t : Tr) (k p i : Nat) : List (Nat × Nat) := totK t k ++ (idsTo t p i).filter (isK t (k + 1))
noncomputable def tkN (t : Tr) (k p i : Nat) : Nat := (tkL t k p i).length
theorem tkL_zero {t : Tr} {k : Nat} : tkL t k 0 0 = totK t k := by unfold tkL; rw [idsTo_zero]; simp
theorem tkL_all {t : Tr} {k : Nat} : tkL t k t.length 0 = totK t (k + 1) := by unfold tkL; rw [idsTo_all]; rfl
theorem tkL_yes {t : Tr} {k p i : Nat} (h : isK t (k + 1) (p, i + 1) = true) : tkL t k p (i + 1) = tkL t k p i ++ [(p, i + 1)] := by
 unfold tkL
 rw [idsTo_succ, List.filter_append, List.append_assoc]
 simp [h]
theorem tkL_no {t : Tr} {k p i : Nat} (h : isK t (k + 1) (p, i + 1) = false) : tkL t k p (i + 1) = tkL t k p i := by
 unfold tkL
 rw [idsTo_succ, List.filter_append]
 simp [h]
theorem tkN_le {t : Tr} (hv : Vok t) {k p i : Nat} (hp : p < t.length) (hi : i ≤ t[p].evs.length) : tkN t k p i ≤ (ids t).length := by
 have h1 : tkN t k p i ≤ (totK t (k + 1)).length := by
  unfold tkN tkL
  rw [totK, List.length_append, List.length_append]
  have := ((idsTo_prefix t p i hp hi).sublist.filter (isK t (k + 1))).length_le
  omega
 have := totK_le hv (k := k + 1)
 omega
theorem totK_stop {t : Tr} (hv : Vok t) {k : Nat} (h : (ids t).length ≤ (totK t k).length) : ∀ m, totK t (k + m) = totK t k
 | 0 => rfl
 | m + 1 => by
   have ih := totK_stop hv h m
   have hl := totK_le hv (k := k + m + 1)
   rw [totK, List.length_append, ih] at hl
   have h0 : ((ids t).filter (isK t (k + m + 1))) = [] := List.eq_nil_of_length_eq_zero oM
   show totK t (k + m + 1) = _
   rw [totK, h0, ih, List.append_nil]
noncomputable def totL (t : Tr) : List (Nat × Nat) := totK t (ids t).length
theorem totK_all {t : Tr} (hv : Vok t) : (ids t).length ≤ (totK t (ids t).length).length := by
 rcases Nat.lt_or_ge (totK t (ids t).length).length (ids t).length with h | h
 ·have := totK_more hv h; omega
 ·exact h
theorem tot_L {t : Tr} (hv : Vok t) : Tot t (totL t) := tot_of hv (totK_all hv)
theorem totL_len {t : Tr} (hv : Vok t) : (totL t).length = (ids t).length := Nat.le_antisymm (totK_le hv) (totK_all hv)
set_option maxRecDepth 20000 in
set_option maxHeartbeats 4000000 in
theorem rTotal_spec (t : Tr) (hv : Vok t) (hval : validL t = true) (hS : Small t) (hN : Nm t) (hC : (ids t).length ≤ 1000000) (b l : List Row) :
  ACalls Try.prog 82 [.agg [.v (eT t)]] b l (fun r b' l' => r = .v (.isl 2 ((totL t).map eId)) ∧ b' = b ∧ l' = l) := by
 refine calls_kept a_rTotal_ok rfl (by decide) ?_
 intro B g hB hR hE hA
 simp only [KArgs] at hA
 have hT8 := hv.hi
 have hst := fun b l => rSt14_spec t hv hS hN hC b l
 have hco := fun b l => rCount12_spec t hS hN hval hC b l
 simp only [eT] at hst hco
 have hal : (lamAll t).length = t.length := fl_len
 have e0 : (totK t 0).length = 0 := rfl
 simp (disch := (first | decide | omega)) only [a_rTotal, hA, eT, go_sem]
 refine ACalls.nxt (hst _ _) ?_
 obtain ⟨LA, hLA⟩ : ∃ LA, lamAll t = LA := ⟨_, rfl⟩
 rw [hLA] at hal
 rw [hLA]
 have hgA : ∀ q, q < t.length → LA[q]? = some [.isl 1 (lsRow t (lamM t) q)] := fun q hq => by rw [← hLA]; exact fl_get hq
 simp (disch := (first | decide | omega)) only [hA, go_sem]
 refine loop_kept_nil (ι := Nat) 4 2 r_rTotal0 (fun k => [(5, .v (.int .i64 (k + 1 : Nat))), (4, .sl (B.length + 1) (totK t k).length 0 (totK t k).length)]) 2 (fun k => [.live 0 1 [[.v (.isl 3 (t.map ePr))]], .live (totK t k).length 2 (vs ((totK t k).map eId))])
  (fun k => k ≤ (ids t).length) (fun k => (ids t).length - k) 0 (Nat.zero_le _) (by simp (disch := decide) only [hA, go_sem]) (by decide) rfl (by (repeat (first | exact hE.mono oM | refine KLt.up ?_ kL))) (by ((try simp (disch := decide) only [hA, e0, go_sem]) <;> exact kH)) (fun e => Weak.refl _ _ _) ?_
 intro g1 hE1 hEE1 hg1 k hk
 have htl := totK_le hv (k := k)
 by_cases hlt : (totK t k).length < (ids t).length
 ·have hkl := totK_more hv hlt
  have hd : decide (((totK t k).length : Int) < ((ids t).length : Int)) = true := decide_eq_true oM
  have ez : (tkL t k 0 0).length = (totK t k).length := by rw [tkL_zero]
  simp (disch := (first | decide | omega)) only [hA, hg1, go_sem]
  refine ACalls.nxt (hco _ _) ?_
  simp (disch := (first | decide | omega)) only [hA, hg1, hd, go_sem]
  rw [← tkL_zero]
  refine loop_kept (ι := Nat) r_rTotal1 (fun p => [(6, .v (.int .i64 p)), (4, .sl (B.length + 1) (tkN t k p 0) 0 (tkN t k p 0))]) 2 (fun p => [.live 0 1 [[.v (.isl 3 (t.map ePr))]], .live (tkN t k p 0) 2 (vs ((tkL t k p 0).map eId))])
   (fun p => p ≤ t.length) (fun p => t.length - p) 0 (Nat.zero_le _) (by (repeat (first | exact hE1.mono oM | refine KLt.up ?_ kL))) (by unfold tkN; ((try simp (disch := decide) only [hA, hg1, go_sem]) <;> exact kH)) (fun e => Weak.refl _ _ _) ?_
  intro g2 hE2 hEE2 hg2 p hp
  by_cases hpl : p < t.length
  ·have heo := evsOf_lt hpl
   have hgp := hgA p hpl
   have hrl : (lsRow t (lamM t) p).length = t[p].evs.length := by rw [lsRow_len, heo]
   have hne := hS.ne _ (List.getElem_mem hpl)
   simp (disch := (first | decide | omega)) only [hA, hg1, hg2, hal, go_sem]
   refine loop_kept (ι := Nat) r_rTotal2 (fun i => [(7, .v (.int .i64 i)), (4, .sl (B.length + 1) (tkN t k p i) 0 (tkN t k p i))]) 2 (fun i => [.live 0 1 [[.v (.isl 3 (t.map ePr))]], .live (tkN t k p i) 2 (vs ((tkL t k p i).map eId))])
    (fun i => i ≤ t[p].evs.length) (fun i => t[p].evs.length - i) 0 (Nat.zero_le _) (by (repeat (first | exact hE2.mono oM | refine KLt.up ?_ kL))) (by ((try simp (disch := decide) only [hA, hg1, hg2, go_sem]) <;> exact kH)) (fun e => Weak.refl _ _ _) ?_
   intro g3 hE3 hEE3 hg3 i hi
   by_cases hil : i < t[p].evs.length
   ·have hle := tkN_le hv (k := k) hpl (show i + 1 ≤ t[p].evs.length by omega)
    have hle0 := tkN_le hv (k := k) hpl (show i ≤ t[p].evs.length by omega)
    have hrg : (lsRow t (lamM t) p)[i]? = some [.int .i64 (lam t (p, i + 1) : Nat)] := fl_get (by rw [heo]; exact hil)
    have hlm := lam_le hv (mem_ids2.2 ⟨hpl, by rw [heo]; exact hil⟩ : (p, i + 1) ∈ ids t)
    have hck : (i : Int) + 1 = ((i + 1 : Nat) : Int) := by omega
    have hvl : (tkL t k p i).length = tkN t k p i := rfl
    by_cases hK : lam t (p, i + 1) = k + 1
    ·have hb : ((lam t (p, i + 1) : Int) == ((k + 1 : Nat) : Int)) = true := by simp; omega
     have hyes := tkL_yes (t := t) (k := k) (p := p) (i := i) (by unfold isK; exact decide_eq_true hK)
     have hn1 : tkN t k p (i + 1) = tkN t k p i + 1 := by unfold tkN; rw [hyes, List.length_append]; rfl
     obtain ⟨TV, hTV⟩ : ∃ TV, (tkL t k p i).map eId = TV := ⟨_, rfl⟩
     have hTl : TV.length = tkN t k p i := by rw [← hTV, List.length_map]; rfl
     have tk : List.take (tkN t k p i) TV = TV := List.take_of_length_le oM
     have hsn : TV ++ [[.int .i64 p, .int .i64 ((i + 1 : Nat) : Int)]] = (tkL t k p (i + 1)).map eId := by rw [hyes, List.map_append, hTV]; rfl
     rw [hTV]
     simp (disch := (first | decide | omega)) only [hA, hg1, hg2, hg3, hal, hgp, hrl, hrg, hb, hck, hTl, tk, hsn, List.replicate_succ, List.replicate_zero, reduceCtorEq, setFrom, cellsOf, go_sem]
     rw [← hn1]
     refine ⟨i + 1, hil, by simp only; omega, ?_⟩
     exact Weak.kround (p := r_rTotal2) (k := 2) (by ((repeat refine (kAny_up rfl).trans ?_); exact hEE3)) (by ((try simp (disch := decide) only [hA, go_sem]) <;> exact kH)) rfl hE3 (by simp) kV hR kL
    ·have hb : ((lam t (p, i + 1) : Int) == ((k + 1 : Nat) : Int)) = false := by rw [beq_eq_false_iff_ne]; omega
     have hno := tkL_no (t := t) (k := k) (p := p) (i := i) (by unfold isK; exact decide_eq_false hK)
     have hn1 : tkN t k p (i + 1) = tkN t k p i := by unfold tkN; rw [hno]
     simp (disch := (first | decide | omega)) only [hA, hg1, hg2, hg3, hal, hgp, hrl, hrg, hb, hck, go_sem]
     refine ⟨i + 1, hil, by simp only; omega, ?_⟩
     simp only [hn1, hno]
     exact Weak.kround (p := r_rTotal2) (k := 2) (by ((repeat refine (kAny_up rfl).trans ?_); exact hEE3)) (by ((try simp (disch := decide) only [hA, go_sem]) <;> exact kH)) rfl hE3 (by simp) kV hR kL
   ·obtain rfl : i = t[p].evs.length := by omega
    have hnl : tkL t k p t[p].evs.length = tkL t k (p + 1) 0 := by unfold tkL; rw [idsTo_next t p hpl]
    have hnn : tkN t k p t[p].evs.length = tkN t k (p + 1) 0 := by unfold tkN; rw [hnl]
    simp (disch := (first | decide | omega)) only [hA, hg1, hg2, hg3, hal, hgp, hrl, go_sem]
    rw [hnl, hnn]
    refine ⟨p + 1, hpl, by simp only; omega, ?_⟩
    exact Weak.kround (p := r_rTotal1) (k := 2) (by ((repeat refine (kAny_up rfl).trans ?_); refine (kAny_sub hg3 (kIn_sub rfl)).trans ?_; (repeat refine (kAny_up rfl).trans ?_); exact hEE2)) (by ((try simp (disch := decide) only [hA, hg1, go_sem]) <;> exact kH)) rfl hE2 (by simp) kV hR kL
  ·obtain rfl : p = t.length := by omega
   have hnl : tkL t k t.length 0 = totK t (k + 1) := tkL_all
   have hnn : tkN t k t.length 0 = (totK t (k + 1)).length := by unfold tkN; rw [hnl]
   have hck : ((k + 1 : Nat) : Int) + 1 = ((k + 1 + 1 : Nat) : Int) := by omega
   simp (disch := (first | decide | omega)) only [hA, hg1, hg2, hal, hck, go_sem]
   rw [hnl, hnn]
   refine ⟨k + 1, hkl, by simp only; omega, ?_⟩
   exact Weak.kround (p := r_rTotal0) (k := 2) (by ((repeat refine (kAny_up rfl).trans ?_); refine (kAny_sub hg2 (kIn_sub rfl)).trans ?_; (repeat refine (kAny_up rfl).trans ?_); exact hEE1)) (by ((try simp (disch := decide) only [hA, go_sem]) <;> exact kH)) rfl hE1 (by simp) kV hR kL
 ·have hd : decide (((totK t k).length : Int) < ((ids t).length : Int)) = false := decide_eq_false oM
  have hfin : totL t = totK t k := by
   have := totK_stop hv (k := k) oM ((ids t).length - k)
   rw [show k + ((ids t).length - k) = (ids t).length by omega] at this
   exact this
  rw [hfin]
  simp (disch := (first | decide | omega)) only [hA, hg1, go_sem]
  refine ACalls.nxt (hco _ _) ?_
  simp (disch := (first | decide | omega)) only [hA, hg1, hd, go_sem]
  exact leave_frz (i := 1) (ver := (totK t k).length) (sz := 2) (n := (totK t k).length) (rows := (totK t k).map eId) (.inr rfl) (by simp (disch := (first | decide | omega)) only [resVs, resV, hA, hg1, go_sem]) rfl (by simp) hR hB ⟨rfl, rfl, rfl⟩
noncomputable def jnF (t : Tr) (k : Nat) (L : List (Nat × Nat)) : Nat → List Int
 | 0 => List.replicate k 0
 | i + 1 => joinV (jnF t k L i) (fcs t k (L.getD i (0, 0)))
theorem jnF_len {t : Tr} {k : Nat} {L : List (Nat × Nat)} : ∀ {i : Nat}, (jnF t k L i).length = k
 | 0 => List.length_replicate
 | i + 1 => by rw [jnF, joinV_len (by rw [jnF_len, fcs_len]), jnF_len]
theorem join_zero {t : Tr} {k : Nat} {x : Nat × Nat} : joinV (List.replicate k 0) (fcs t k x) = fcs t k x := by
 refine ext_getD (by rw [joinV_len (by rw [List.length_replicate, fcs_len]), List.length_replicate, fcs_len]) (fun c hc => ?_)
 rw [joinV_len (by rw [List.length_replicate, fcs_len]), List.length_replicate] at hc
 rw [joinV_get (by rw [List.length_replicate, fcs_len]) (by rw [List.length_replicate]; exact hc)]
 rw [getD_at (by rw [List.length_replicate]; exact hc), List.getElem_replicate]
 unfold fcs
 rw [fl_getD hc]
 omega
theorem jnF_back {t : Tr} {k p m : Nat} : jnF t k (backL t (p, m + 1)) (backL t (p, m + 1)).length = rvF t k p m := by
 unfold rvF pvF backL
 by_cases h1 : 1 < (p, m + 1).2
 ·have hm : ¬ m = 0 := fun h => by subst h; exact absurd h1 (by simp)
  by_cases h2 : (evAt t (p, m + 1)).kind = 3
  ·have hb : ((evAt t (p, m + 1)).kind == 3) = true := by rw [h2]; rfl
   rw [if_pos h1, if_pos hb, if_pos h2, if_neg hm]
   simp [jnF, join_zero, sndr]
  ·have hb : ¬ ((evAt t (p, m + 1)).kind == 3) = true := by simpa using h2
   rw [if_pos h1, if_neg hb, if_neg h2, if_neg hm]
   simp [jnF, join_zero]
 ·have hm : m = 0 := Classical.byContradiction fun h => h1 (by show 1 < m + 1; omega)
  by_cases h2 : (evAt t (p, m + 1)).kind = 3
  ·have hb : ((evAt t (p, m + 1)).kind == 3) = true := by rw [h2]; rfl
   rw [if_neg h1, if_pos hb, if_pos h2, if_pos hm]
   simp [jnF, sndr]
  ·have hb : ¬ ((evAt t (p, m + 1)).kind == 3) = true := by simpa using h2
   rw [if_neg h1, if_neg hb, if_neg h2, if_pos hm]
   simp [jnF]
open Classical in
noncomputable def mdV (t : Tr) (k : Nat) (S : List (Nat × Nat)) (x : Nat × Nat) : IV := if x ∈ S then .isl 1 ((fcs t k x).map eI) else .zsl
noncomputable def mdRow (t : Tr) (k : Nat) (S : List (Nat × Nat)) (q : Nat) : List (List IV) := fl (evsOf t q).length fun i => [mdV t k S (q, i + 1)]
noncomputable def mdC (t : Tr) (k : Nat) (S : List (Nat × Nat)) (q : Nat) : Row := .live 0 1 (vs (mdRow t k S q))
noncomputable def mdR (t : Tr) (k n v m : Nat) (S : List (Nat × Nat)) : List Row := .live 0 1 [[.v (.isl 3 (t.map ePr))]] :: lsT t n v m :: fl m (mdC t k S)
theorem mdR_len {t : Tr} {k n v m : Nat} {S : List (Nat × Nat)} : (mdR t k n v m S).length = m + 2 := by simp [mdR, fl_len]
theorem mdRow_len {t : Tr} {k : Nat} {S : List (Nat × Nat)} {q : Nat} : (mdRow t k S q).length = (evsOf t q).length := fl_len
theorem mdR_lt {t : Tr} {k n v m j : Nat} {S : List (Nat × Nat)} (h : n + (m + 2) ≤ j) : RowsLt j (mdR t k n v m S) := by
 intro id ver sz els hr row hrow c hc
 match id, hr with
 | 0, hr => cases hr; simp at hrow; subst hrow; simp at hc; subst hc; exact .v _
 | 1, hr =>
   cases hr
   obtain ⟨a, ha, rfl⟩ := List.mem_map.1 hrow
   simp only [List.mem_singleton] at hc
   subst hc
   have := List.mem_range.1 ha
   exact .sl _ _ _ _ oM
 | id + 2, hr =>
   have hr : (fl m (mdC t k S))[id]? = some (.live ver sz els) := hr
   by_cases hid : id < m
   ·rw [fl_get hid] at hr
    cases hr
    obtain ⟨r0, _, rfl⟩ := List.mem_map.1 hrow
    obtain ⟨x0, _, rfl⟩ := List.mem_map.1 hc
    exact .v _
   ·rw [fl_none oM] at hr; cases hr
theorem mdR_ltx {t : Tr} {k n v j : Nat} {S : List (Nat × Nat)} {T : List Row} (h : n + (t.length + 2) ≤ j) (hT : RowsLt j T) : RowsLt j (.live 0 1 [[.v (.isl 3 (t.map ePr))]] :: lsT t n v t.length :: (fl t.length (mdC t k S) ++ T)) :=
 rowsLt_app (a := mdR t k n v t.length S) (mdR_lt h) hT
theorem mdRow_add {t : Tr} {k p i id : Nat} {S : List (Nat × Nat)} :
  ((vs (mdRow t k S p)).set i [AV.sl id 0 0 k]).map (List.map (frz0 id 0 1 ((fcs t k (p, i + 1)).map eI))) = vs (mdRow t k (S ++ [(p, i + 1)]) p) := by
 unfold mdRow vs
 rw [fl_map, fl_set, fl_map, fl_map]
 refine fl_congr (fun j _ => ?_)
 by_cases hj : j = i
 ·subst hj
  rw [fUp_same]
  simp only [List.map_cons, List.map_nil, frz0]
  rw [if_pos ⟨trivial, trivial, by simp [fcs_len]⟩]
  unfold mdV
  rw [if_pos (by simp), List.drop_zero, List.take_of_length_le (by simp [fcs_len])]
 ·rw [fUp_ne hj]
  simp only [List.map_cons, List.map_nil, frz0]
  unfold mdV
  congr 2
  by_cases hm : (p, j + 1) ∈ S
  ·rw [if_pos hm, if_pos (by simp [hm])]
  ·rw [if_neg hm, if_neg (by simp [hm, hj])]
theorem md_frz {t : Tr} {k n v p i : Nat} {S : List (Nat × Nat)} {T : List Row} (hp : p < t.length) :
  ((.live 0 1 [[.v (.isl 3 (t.map ePr))]] :: lsT t n v t.length :: (fl t.length (fUp (mdC t k S) p (.live 0 1 ((vs (mdRow t k S p)).set i [.sl (n + (t.length + 1 + 1)) 0 0 k]))) ++ (.live 0 1 (vs ((fcs t k (p, i + 1)).map eI)) :: T))).set (t.length + 1 + 1) (.dead 0)).map (rowMap (frz0 (n + (t.length + 1 + 1)) 0 1 ((fcs t k (p, i + 1)).map eI)))
    = mdR t k n v t.length (S ++ [(p, i + 1)]) ++ (.dead 0 :: T.map (rowMap (frz0 (n + (t.length + 1 + 1)) 0 1 ((fcs t k (p, i + 1)).map eI)))) := by
 unfold mdR lsT
 simp only [List.set_cons_succ, fa_settail0, List.set_cons_zero, List.map_cons, List.map_append, List.map_nil, rowMap, List.cons_append]
 refine congr (congrArg _ ?_) (congr (congrArg _ ?_) (congr (congrArg _ ?_) rfl))
 ·simp [frz0]
 ·congr 1
  rw [fl_map]
  refine fl_congr (fun q hq => ?_)
  simp only [List.map_cons, List.map_nil, frz0]
  rw [if_neg oM]
 ·rw [fl_map]
  refine fl_congr (fun q hq => ?_)
  by_cases hqp : q = p
  ·subst hqp
   rw [fUp_same]
   simp only [rowMap]
   rw [mdRow_add]; rfl
  ·rw [fUp_ne hqp]
   unfold mdC
   simp only [rowMap, vs_frz0]
   congr 2
   unfold mdRow
   refine fl_congr (fun j _ => ?_)
   unfold mdV
   congr 1
   by_cases hm : (q, j + 1) ∈ S
   ·rw [if_pos hm, if_pos (by simp [hm])]
   ·rw [if_neg hm, if_neg (by simp [hm, hqp])]
set_option maxRecDepth 20000 in
set_option maxHeartbeats 4000000 in
theorem rSt18_spec (t : Tr) (hv : Vok t) (hval : validL t = true) (hS : Small t) (hN : Nm t) (hC : (ids t).length ≤ 1000000) (k : Nat) (h1k : 1 ≤ k) (hk8 : k ≤ 8) (b l : List Row) :
  ACalls Try.prog 21 [.agg [.v (eT t)], .v (.int .i64 k)] b l (fun r b' l' => r = .v (.isl 1 (fsAll t k)) ∧ b' = b ∧ l' = l) := by
 refine calls_kept a_rSt18_ok rfl (by decide) ?_
 intro B g hB hR hE hA
 simp only [KArgs] at hA
 have hT8 := hv.hi
 have hto := fun b l => rTotal_spec t hv hval hS hN hC b l
 simp only [eT] at hto
 simp (disch := (first | decide | omega)) only [a_rSt18, hA, eT, go_sem]
 refine loop_kept_nil (ι := Nat) 5 1 r_rSt180 (fun q => [(5, .sl (B.length + 1) q 0 q), (6, .v (.int .i64 q))]) 2 (fun q => mdR t k B.length q q [])
  (fun q => q ≤ t.length) (fun q => t.length - q) 0 (Nat.zero_le _) (by simp (disch := decide) only [hA, go_sem]) (by decide) rfl (by (repeat (first | exact hE.mono oM | refine KLt.up ?_ kL))) (by ((try simp (disch := decide) only [hA, go_sem]) <;> exact kH)) (fun e => Weak.refl _ _ _) ?_
 intro g1 hE1 hEE1 hg1 q hq
 by_cases hql : q < t.length
 ·have hne := hS.ne _ (List.getElem_mem hql)
  have heo := evsOf_lt hql
  have hz : List.replicate t[q].evs.length [IV.zsl] = mdRow t k [] q := by unfold mdRow; rw [← fl_const, heo]; exact fl_congr (fun i _ => by unfold mdV; rw [if_neg (by simp)])
  have tl : (fl q fun q => [AV.sl (B.length + (q + 1 + 1)) 0 0 (evsOf t q).length]).length = q := fl_len
  have tk : List.take q (fl q fun q => [AV.sl (B.length + (q + 1 + 1)) 0 0 (evsOf t q).length]) = fl q fun q => [AV.sl (B.length + (q + 1 + 1)) 0 0 (evsOf t q).length] := List.take_of_length_le oM
  have hnx : (fl q fun q => [AV.sl (B.length + (q + 1 + 1)) 0 0 (evsOf t q).length]) ++ [[AV.sl (B.length + (q + 1 + 1)) 0 0 t[q].evs.length]] = fl (q + 1) fun q => [AV.sl (B.length + (q + 1 + 1)) 0 0 (evsOf t q).length] := fl_next (by rw [heo])
  have hnr : ∀ T : List Row, fl q (mdC t k []) ++ .live 0 1 (vs (mdRow t k [] q)) :: T = fl (q + 1) (mdC t k []) ++ T := fun T => by rw [← fl_next (n := q) (f := mdC t k []) (x := .live 0 1 (vs (mdRow t k [] q))) rfl, List.append_assoc]; rfl
  simp (disch := (first | decide | omega)) only [hA, hg1, mdR, lsT, ePr, hz, tl, tk, hnx, hnr, fl_len, fa_tail0, List.length_map, List.replicate_succ, List.replicate_zero, reduceCtorEq, setFrom, cellsOf, go_sem]
  refine ⟨q + 1, hql, by simp only; omega, ?_⟩
  exact Weak.kround (l1 := mdR t k B.length (q + 1) (q + 1) []) (junk := [_]) (p := r_rSt180) (k := 2) (by ((repeat refine (kAny_up rfl).trans ?_); exact hEE1)) (by ((try simp (disch := decide) only [hA, go_sem]) <;> exact kH)) rfl hE1 (by simp [mdR]) (by rw [mdR_len]; simp (disch := omega) only [KOvLt, lts.down, Nat.reduceLT, Nat.reduceAdd]) hR (mdR_lt (Nat.le_of_eq (by rw [mdR_len])))
 obtain rfl : q = t.length := by omega
 simp (disch := (first | decide | omega)) only [hA, hg1, mdR, List.length_map, go_sem]
 refine ACalls.nxt (hto _ _) ?_
 have hTot := tot_L hv
 have htl := totL_len hv
 obtain ⟨LT, hLT⟩ : ∃ LT, totL t = LT := ⟨_, rfl⟩
 rw [hLT] at hTot htl
 rw [hLT]
 obtain ⟨LV, hLV⟩ : ∃ LV, LT.map eId = LV := ⟨_, rfl⟩
 have hll : LV.length = LT.length := by rw [← hLV, List.length_map]
 rw [hLV]
 simp (disch := (first | decide | omega)) only [hA, hg1, go_sem]
 refine loop_kept (ι := Nat) r_rSt181 (fun m => [(8, .v (.int .i64 m))]) (t.length + 2) (fun m => mdR t k B.length t.length t.length (LT.take m))
  (fun m => m ≤ LT.length) (fun m => LT.length - m) 0 (Nat.zero_le _) (by (repeat (first | exact hE1.mono oM | refine KLt.up ?_ kL))) (by ((try simp (disch := decide) only [hA, hg1, go_sem]) <;> exact kH)) (fun e => Weak.refl _ _ _) ?_
 intro g2 hE2 hEE2 hg2 m hm
 by_cases hml : m < LT.length
 ·have hx := (hTot.mem _).1 (List.getElem_mem hml)
  have hbk := hTot.back m hml
  have htk1 : LT.take m ++ [LT[m]] = LT.take (m + 1) := by rw [List.take_add_one, List.getElem?_eq_getElem hml]; rfl
  obtain ⟨⟨p, i⟩, hpi⟩ : ∃ y, LT[m] = y := ⟨_, rfl⟩
  rw [hpi] at hx hbk htk1
  obtain ⟨i, rfl⟩ : ∃ j, i = j + 1 := ⟨i - 1, by have := mem_pos hx; simp only at this; omega⟩
  obtain ⟨hp, hi⟩ := mem_ids2.1 hx
  have heo := evsOf_lt hp
  have hie : i < t[p].evs.length := by rw [← heo]; exact hi
  have hne := hS.ne _ (List.getElem_mem hp)
  have hgL : LV[m]? = some [.int .i64 p, .int .i64 ((i + 1 : Nat) : Int)] := by
   rw [← hLV, List.getElem?_map, List.getElem?_eq_getElem hml, hpi]; rfl
  have hdi := fun b l => rDirectly_spec t hS hN p i hp hie b l
  simp only [idA, eT] at hdi
  have hb2 := backL_len (t := t) (x := (p, i + 1))
  have hjb := jnF_back (t := t) (k := k) (p := p) (m := i)
  have hmm : ∀ y ∈ backL t (p, i + 1), y ∈ ids t ∧ y ∈ LT.take m := fun y hy => by
   obtain ⟨h1, h2⟩ := back_mem hv hx hy
   exact ⟨h1, hbk y h2 h1⟩
  obtain ⟨LB, hLB⟩ : ∃ LB, backL t (p, i + 1) = LB := ⟨_, rfl⟩
  rw [hLB] at hdi hb2 hjb hmm
  obtain ⟨LL, hLL⟩ : ∃ LL, LB.map eId = LL := ⟨_, rfl⟩
  have hl2 : LL.length = LB.length := by rw [← hLL, List.length_map]
  rw [hLL] at hdi
  obtain ⟨S, hS0⟩ : ∃ S, LT.take m = S := ⟨_, rfl⟩
  rw [hS0] at hmm htk1
  simp only [hS0]
  have hz : List.replicate k [IV.int .i64 0] = (jnF t k LB 0).map eI := by unfold jnF; simp [eI]
  simp (disch := (first | decide | omega)) only [hA, hg1, hg2, mdR, hll, hgL, hz, fl_len, fa_at, fa_tail, fa_tail0, fa_set, fa_settail, fa_settail0, fl_get, go_sem]
  refine ACalls.nxt (hdi _ _) ?_
  simp (disch := (first | decide | omega)) only [hA, hg1, hg2, fl_len, go_sem]
  refine loop_kept (ι := Nat) r_rSt182 (fun j => [(11, .v (.int .i64 j))]) (t.length + 3) (fun j => .live 0 1 [[.v (.isl 3 (t.map ePr))]] :: lsT t B.length t.length t.length :: (fl t.length (mdC t k S) ++ [.live 0 1 (vs ((jnF t k LB j).map eI))]))
   (fun j => j ≤ LB.length) (fun j => LB.length - j) 0 (Nat.zero_le _) (by (repeat (first | exact hE2.mono oM | refine KLt.up ?_ kL))) (by ((try simp (disch := decide) only [hA, hg1, hg2, go_sem]) <;> exact kH)) (fun e => Weak.refl _ _ _) ?_
  intro g3 hE3 hEE3 hg3 j hj
  by_cases hjl : j < LB.length
  ·obtain ⟨hy, hyS⟩ := hmm _ (List.getElem_mem hjl)
   obtain ⟨⟨qq, jj⟩, hyj⟩ : ∃ y, LB[j] = y := ⟨_, rfl⟩
   rw [hyj] at hy hyS
   obtain ⟨jj, rfl⟩ : ∃ k, jj = k + 1 := ⟨jj - 1, by have := mem_pos hy; simp only at this; omega⟩
   obtain ⟨hqq, hjq⟩ := mem_ids2.1 hy
   have hgL2 : LL[j]? = some [.int .i64 qq, .int .i64 ((jj + 1 : Nat) : Int)] := by
    rw [← hLL, List.getElem?_map, List.getElem?_eq_getElem hjl, hyj]; rfl
   have hci : ((jj + 1 : Nat) : Int) - 1 = (jj : Int) := by omega
   have hne2 := hS.ne _ (List.getElem_mem hqq)
   rw [← evsOf_lt hqq] at hne2
   have hmd : mdC t k S qq = .live 0 1 (vs (mdRow t k S qq)) := rfl
   have hrl := mdRow_len (t := t) (k := k) (S := S) (q := qq)
   have hrg : (mdRow t k S qq)[jj]? = some [.isl 1 ((fcs t k (qq, jj + 1)).map eI)] := by
    unfold mdRow; rw [fl_get hjq]; unfold mdV; rw [if_pos hyS]
   have hgT : (fl t.length fun q => [AV.sl (B.length + (q + 1 + 1)) 0 0 (evsOf t q).length])[qq]? = some [.sl (B.length + (qq + 1 + 1)) 0 0 (evsOf t qq).length] := fl_get hqq
   have hjn : jnF t k LB (j + 1) = joinV (jnF t k LB j) (fcs t k (qq, jj + 1)) := by rw [jnF, getD_at hjl, hyj]
   have hpl : (jnF t k LB j).length = k := jnF_len
   have hcl : (fcs t k (qq, jj + 1)).length = k := fcs_len
   have hjl2 : (jnF t k LB j).length = (fcs t k (qq, jj + 1)).length := by rw [hpl, hcl]
   have j0 := joTo_zero (jnF t k LB j) (fcs t k (qq, jj + 1))
   simp (disch := (first | decide | omega)) only [hA, hg1, hg2, hg3, lsT, hl2, hgL2, hci, hgT, hmd, hrl, hrg, fl_len, fa_at, fa_tail, fa_tail0, fa_set, fa_settail, fa_settail0, go_sem]
   refine loop_kept (ι := Nat) r_rSt183 (fun c => [(13, .v (.int .i64 c))]) (t.length + 3) (fun c => .live 0 1 [[.v (.isl 3 (t.map ePr))]] :: lsT t B.length t.length t.length :: (fl t.length (mdC t k S) ++ [.live 0 1 (vs ((joTo (jnF t k LB j) (fcs t k (qq, jj + 1)) c).map eI))]))
    (fun c => c ≤ k) (fun c => k - c) 0 (Nat.zero_le _) (by (repeat (first | exact hE3.mono oM | refine KLt.up ?_ kL))) (by ((try simp (disch := decide) only [hA, hg1, hg2, hg3, go_sem]) <;> exact kH)) (fun e => by rw [j0]; exact Weak.refl _ _ _) ?_
   intro g4 hE4 hEE4 hg4 c hc
   by_cases hck : c < k
   ·have hip : c < (jnF t k LB j).length := by omega
    have hiw : c < (fcs t k (qq, jj + 1)).length := by rw [hcl]; exact hck
    have jl := joTo_len hjl2 c oM
    have jg := joTo_get hjl2 hip oM
    have js := joTo_set hjl2 hip hiw
    have hmx : (if (jnF t k LB j)[c] < (fcs t k (qq, jj + 1))[c] then (fcs t k (qq, jj + 1))[c] else (jnF t k LB j)[c]) = max (jnF t k LB j)[c] (fcs t k (qq, jj + 1))[c] := by split <;> omega
    simp (disch := (first | decide | omega)) only [hA, hg1, hg2, hg3, hg4, lsT, eI, jg, hmx, js, jl, hpl, hcl, setFrom, cellsOf, List.length_map, fl_len, fa_at, fa_tail, fa_tail0, fa_set, fa_settail, fa_settail0, go_sem]
    refine ⟨c + 1, hck, by simp only; omega, ?_⟩
    exact Weak.kround (junk := []) (p := r_rSt183) (k := t.length + 3) (by ((repeat refine (kAny_up rfl).trans ?_); exact hEE4)) (by ((try simp (disch := decide) only [hA, go_sem]) <;> exact kH)) (List.append_nil _).symm hE4 (by simp only [List.length_cons, List.length_append, fl_len, List.length_nil]; omega) (by simp (disch := omega) only [KOvLt, fl_len, List.length_append, lts.down, Nat.reduceLT, Nat.reduceAdd]) hR (mdR_ltx (by simp only [List.length_cons, List.length_append, fl_len, List.length_nil]; omega) kN)
   ·obtain rfl : c = k := by omega
    have ja := joTo_all hjl2
    rw [hpl] at ja
    simp (disch := (first | decide | omega)) only [hA, hg1, hg2, hg3, hg4, ja, go_sem]
    refine ⟨j + 1, hjl, by simp only; omega, ?_⟩
    simp only [hjn]
    exact Weak.kround (junk := []) (p := r_rSt182) (k := t.length + 3) (by ((repeat refine (kAny_up rfl).trans ?_); refine (kAny_sub hg4 (kIn_sub rfl)).trans ?_; (repeat refine (kAny_up rfl).trans ?_); exact hEE3)) (by ((try simp (disch := decide) only [hA, hg1, hg2, go_sem]) <;> exact kH)) (List.append_nil _).symm hE3 (by simp only [List.length_cons, List.length_append, fl_len, List.length_nil]; omega) (by simp (disch := omega) only [KOvLt, fl_len, List.length_append, lts.down, Nat.reduceLT, Nat.reduceAdd]) hR (mdR_ltx (by simp only [List.length_cons, List.length_append, fl_len, List.length_nil]; omega) kN)
  ·obtain rfl : j = LB.length := by omega
   rw [hjb]
   have hrl : (rvF t k p i).length = k := rvF_len
   have hpk : p % k < k := Nat.mod_lt _ oM
   have hrem : Int.tmod (p : Int) (k : Int) = ((p % k : Nat) : Int) := rfl
   have hk0 : ((k : Int) = 0) = False := by simp; omega
   have hownv : (rvF t k p i).getD (p % k) 0 + 1 = (fc t k (p, i + 1) (p % k) : Int) := by
    have h1 : ((rvF t k p i).set (p % k) ((rvF t k p i).getD (p % k) 0 + 1)).getD (p % k) 0 = (fcs t k (p, i + 1)).getD (p % k) 0 := by rw [fcs_set hv h1k hx]
    rw [getD_at (by rw [List.length_set, hrl]; exact hpk), List.getElem_set_self] at h1
    unfold fcs at h1
    rw [fl_getD hpk] at h1
    exact h1
   have hbig := fc_le hv k hx (p % k)
   have hge0 : 0 ≤ (rvF t k p i).getD (p % k) 0 := by rw [rvF_get hpk]; omega
   have hrg : ((rvF t k p i).map eI)[p % k]? = some [.int .i64 ((rvF t k p i).getD (p % k) 0)] := by
    rw [List.getElem?_map, List.getElem?_eq_getElem (by rw [hrl]; exact hpk), getD_at (by rw [hrl]; exact hpk)]; rfl
   have hrs2 : ((rvF t k p i).map eI).set (p % k) [.int .i64 (fc t k (p, i + 1) (p % k) : Int)] = (fcs t k (p, i + 1)).map eI := by
    rw [← hownv, ← fcs_set hv h1k hx, List.map_set]; rfl
   obtain ⟨RV, hRV⟩ : ∃ RV, (rvF t k p i).map eI = RV := ⟨_, rfl⟩
   have hRl : RV.length = k := by rw [← hRV, List.length_map, hrl]
   rw [hRV] at hrg hrs2
   rw [hRV]
   have hci : ((i + 1 : Nat) : Int) - 1 = (i : Int) := by omega
   have hmd : mdC t k S p = .live 0 1 (vs (mdRow t k S p)) := rfl
   have hml2 := mdRow_len (t := t) (k := k) (S := S) (q := p)
   have hgT : (fl t.length fun q => [AV.sl (B.length + (q + 1 + 1)) 0 0 (evsOf t q).length])[p]? = some [.sl (B.length + (p + 1 + 1)) 0 0 (evsOf t p).length] := fl_get hp
   have hmg : (mdRow t k S p)[i]? = some [mdV t k S (p, i + 1)] := fl_get hi
   simp (disch := (first | decide | omega)) only [hA, hg1, hg2, hg3, lsT, hll, hl2, hgL, hci, hgT, hmd, hml2, hmg, heo, hrem, hk0, hrg, hRl, hownv, hrs2, if_false, fl_len, fa_at, fa_tail, fa_tail0, fa_set, fa_settail, fa_settail0, setFrom, cellsOf, go_sem]
   refine ⟨m + 1, hml, by simp only; omega, ?_⟩
   simp only [← htk1]
   have hfz := md_frz (t := t) (k := k) (n := B.length) (v := t.length) (p := p) (i := i) (S := S) (T := []) hp
   unfold lsT at hfz
   exact Weak.kroundF (p := r_rSt181) (i := t.length + 1 + 1) (ver := 0) (sz := 1) (rows := (fcs t k (p, i + 1)).map eI) (k := t.length + 2) (l1 := mdR t k B.length t.length t.length (S ++ [(p, i + 1)])) (by simp only [List.getElem?_cons_succ]; rw [fa_tail0]; rfl) (by ((repeat refine (kAny_up rfl).trans ?_); refine (kAny_sub hg3 (kIn_sub rfl)).trans ?_; (repeat refine (kAny_up rfl).trans ?_); exact hEE2)) (by ((try simp (disch := decide) only [hA, hg1, go_sem]) <;> exact kH)) hfz hE2 (by rw [mdR_len]; omega) (by rw [mdR_len]; omega) (by rw [mdR_len]; simp (disch := omega) only [KOvLt, lts.down, Nat.reduceLT, Nat.reduceAdd]) hR (mdR_lt (Nat.le_of_eq (by rw [mdR_len])))
 ·obtain rfl : m = LT.length := by omega
  simp (disch := (first | decide | omega)) only [hA, hg1, hg2, hll, go_sem]
  have he : fsAll t k = mV t.length 1 (mdRow t k (LT.take LT.length)) := by
   unfold fsAll mV
   refine fl_congr (fun q hq => ?_)
   congr 2
   unfold fsRow mdRow
   refine fl_congr (fun i hi => ?_)
   unfold mdV
   rw [if_pos (by rw [List.take_length]; exact (hTot.mem _).2 (mem_ids2.2 ⟨hq, hi⟩))]
  rw [he]
  refine leave_matP (n := t.length) (m := 1) (v0 := t.length) (sz := 1) (ver := fun _ => 0) (R := mdRow t k (LT.take LT.length)) (pre := [.live 0 1 [[.v (.isl 3 (t.map ePr))]]]) (junk := []) (.inr rfl) (by simp (disch := (first | decide | omega)) only [resVs, resV, hA, hg1, hg2, go_sem]) rfl ?_ kN hR hB ⟨rfl, rfl, rfl⟩
  unfold mR mdR lsT
  simp only [List.append_nil, List.cons_append, List.nil_append]
  congr 3
  refine fl_congr (fun j hj => ?_)
  unfold mC
  rw [if_neg oM, mdRow_len, show B.length + 1 + (j + 1) = B.length + (j + 1 + 1) by omega]
def a_rEv18 : AFunc := ⟨1,32,[.tmp 2],(.seq (.region [⟨some 1,.box (.t 0),none⟩,⟨some 2,.mv (.c (.v .zsl)),none⟩]) (.seq (.region [⟨some 3,.mv (.c (.v .zsl)),none⟩]) (.seq (.seq (.region [⟨some 4,.mv (.c (.v (.int .i64 0))),none⟩]) (.block 0 (.loop (.seq (.seq (.region [⟨some 6,.mv (.t 4),none⟩,⟨some 7,.faddr 0 (.t 1),none⟩,⟨some 8,.load none (.t 7),none⟩,⟨some 9,.len (.t 8),none⟩,⟨some 10,.bin .lss (.t 6) (.t 9),none⟩]) (.cond (.t 10) .skip (.exit 0))) (.seq (.block 1 (.seq (.region [⟨some 5,.mv (.c (.v (.int .i64 0))),none⟩]) (.block 2 (.loop (.seq (.seq (.region [⟨some 13,.mv (.t 5),none⟩,⟨some 14,.faddr 0 (.t 1),none⟩,⟨some 15,.load none (.t 14),none⟩,⟨some 16,.mv (.t 4),none⟩,⟨some 17,.iaddr 3 (.t 15) (.t 16),none⟩,⟨some 18,.faddr 2 (.t 17),none⟩,⟨some 19,.load none (.t 18),none⟩,⟨some 20,.len (.t 19),none⟩,⟨some 21,.bin .lss (.t 13) (.t 20),none⟩]) (.cond (.t 21) .skip (.exit 2))) (.seq (.block 3 (.region [⟨some 24,.mv (.t 3),none⟩,⟨some 25,.mv (.t 4),none⟩,⟨some 26,.mv (.t 5),none⟩,⟨some 27,.bin .add (.t 26) (.c (.v (.int .i64 1))),none⟩,⟨some 28,.build [(.v (.int .i64 0)),(.v (.int .i64 0))] [(0,1,(.t 25)),(1,1,(.t 27))],none⟩,⟨some 29,.bslice 2 [(.v (.int .i64 0)),(.v (.int .i64 0))] 1 [(0,(.t 28))],none⟩,⟨some 30,.append 2 16 (.t 24) (.t 29),none⟩,⟨some 3,.mv (.t 30),none⟩])) (.region [⟨some 22,.mv (.t 5),none⟩,⟨some 23,.bin .add (.t 22) (.c (.v (.int .i64 1))),none⟩,⟨some 5,.mv (.t 23),none⟩]))))))) (.region [⟨some 11,.mv (.t 4),none⟩,⟨some 12,.bin .add (.t 11) (.c (.v (.int .i64 1))),none⟩,⟨some 4,.mv (.t 12),none⟩])))))) (.seq (.region [⟨some 31,.mv (.t 3),none⟩,⟨some 2,.mv (.t 31),none⟩]) .ret))))⟩
theorem a_rEv18_ok : cFunc Try.prog 93 = some a_rEv18 := by kernel_rfl
def r_rEv180 : List (Nat × Nat) := [(3, 30)]
def r_rEv181 : List (Nat × Nat) := [(3, 3), (5, 5), (13, 30)]
def a_rOrd18 : AFunc := ⟨1,63,[.tmp 2],(.seq (.region [⟨some 1,.box (.t 0),none⟩,⟨some 2,.mv (.c (.v .zsl)),none⟩]) (.seq (.region [⟨some 9,.load (some 1) (.t 1),none⟩,⟨some 10,.call (.c (.fn 93 [])) [(.t 9)],none⟩,⟨some 3,.mv (.t 10),none⟩]) (.seq (.region [⟨some 4,.mv (.c (.v .zsl)),none⟩]) (.seq (.seq (.region [⟨some 5,.mv (.c (.v (.int .i64 0))),none⟩]) (.block 0 (.loop (.seq (.seq (.region [⟨some 11,.mv (.t 5),none⟩,⟨some 12,.mv (.t 3),none⟩,⟨some 13,.len (.t 12),none⟩,⟨some 14,.bin .lss (.t 11) (.t 13),none⟩]) (.cond (.t 14) .skip (.exit 0))) (.seq (.block 1 (.region [⟨some 17,.mv (.t 4),none⟩,⟨some 18,.mv (.t 3),none⟩,⟨some 19,.len (.t 18),none⟩,⟨some 20,.mkslice 1 [(.v (.bool false))] 1 (.t 19) (.t 19),none⟩,⟨some 21,.bslice 1 [(.v .zsl)] 1 [(0,(.t 20))],none⟩,⟨some 22,.append 1 24 (.t 17) (.t 21),none⟩,⟨some 4,.mv (.t 22),none⟩])) (.region [⟨some 15,.mv (.t 5),none⟩,⟨some 16,.bin .add (.t 15) (.c (.v (.int .i64 1))),none⟩,⟨some 5,.mv (.t 16),none⟩])))))) (.seq (.seq (.region [⟨some 6,.mv (.c (.v (.int .i64 0))),none⟩]) (.block 2 (.loop (.seq (.seq (.region [⟨some 23,.mv (.t 6),none⟩,⟨some 24,.mv (.t 3),none⟩,⟨some 25,.len (.t 24),none⟩,⟨some 26,.bin .lss (.t 23) (.t 25),none⟩]) (.cond (.t 26) .skip (.exit 2))) (.seq (.block 3 (.seq (.draw [⟨0,⟨some 29,.load (some 1) (.t 1),none⟩,[]⟩,⟨1,⟨some 30,.mv (.t 3),none⟩,[]⟩,⟨2,⟨some 31,.mv (.t 6),none⟩,[]⟩,⟨3,⟨some 32,.iaddr 2 (.t 30) (.t 31),none⟩,[]⟩,⟨4,⟨some 33,.load (some 2) (.t 32),none⟩,[]⟩,⟨5,⟨some 34,.call (.c (.fn 68 [])) [(.t 29),(.t 33)],none⟩,[]⟩,⟨6,⟨some 7,.mv (.t 34),none⟩,[]⟩]) (.seq (.region [⟨some 8,.mv (.c (.v (.int .i64 0))),none⟩]) (.block 4 (.loop (.seq (.seq (.region [⟨some 35,.mv (.t 8),none⟩,⟨some 36,.mv (.t 3),none⟩,⟨some 37,.len (.t 36),none⟩,⟨some 38,.bin .lss (.t 35) (.t 37),none⟩]) (.cond (.t 38) .skip (.exit 4))) (.seq (.block 5 (.draw [⟨0,⟨some 41,.mv (.t 4),none⟩,[]⟩,⟨1,⟨some 42,.mv (.t 8),none⟩,[]⟩,⟨2,⟨some 43,.iaddr 1 (.t 41) (.t 42),none⟩,[]⟩,⟨3,⟨some 44,.load none (.t 43),none⟩,[]⟩,⟨4,⟨some 45,.mv (.t 6),none⟩,[]⟩,⟨5,⟨some 46,.mv (.t 7),none⟩,[]⟩,⟨6,⟨some 47,.mv (.t 3),none⟩,[]⟩,⟨7,⟨some 48,.mv (.t 8),none⟩,[]⟩,⟨8,⟨some 49,.iaddr 2 (.t 47) (.t 48),none⟩,[]⟩,⟨9,⟨some 50,.faddr 0 (.t 49),none⟩,[]⟩,⟨10,⟨some 51,.load none (.t 50),none⟩,[]⟩,⟨11,⟨some 52,.iaddr 1 (.t 46) (.t 51),none⟩,[]⟩,⟨12,⟨some 53,.load none (.t 52),none⟩,[]⟩,⟨13,⟨some 54,.mv (.t 3),none⟩,[]⟩,⟨14,⟨some 55,.mv (.t 8),none⟩,[]⟩,⟨15,⟨some 56,.iaddr 2 (.t 54) (.t 55),none⟩,[]⟩,⟨16,⟨some 57,.faddr 1 (.t 56),none⟩,[]⟩,⟨17,⟨some 58,.load none (.t 57),none⟩,[]⟩,⟨18,⟨some 59,.iaddr 1 (.t 53) (.t 58),none⟩,[]⟩,⟨19,⟨some 60,.load none (.t 59),none⟩,[]⟩,⟨20,⟨some 61,.iaddr 1 (.t 44) (.t 45),none⟩,[]⟩,⟨21,⟨none,.store 1 (.t 61) (.t 60),none⟩,[]⟩])) (.region [⟨some 39,.mv (.t 8),none⟩,⟨some 40,.bin .add (.t 39) (.c (.v (.int .i64 1))),none⟩,⟨some 8,.mv (.t 40),none⟩])))))))) (.region [⟨some 27,.mv (.t 6),none⟩,⟨some 28,.bin .add (.t 27) (.c (.v (.int .i64 1))),none⟩,⟨some 6,.mv (.t 28),none⟩])))))) (.seq (.region [⟨some 62,.mv (.t 4),none⟩,⟨some 2,.mv (.t 62),none⟩]) .ret))))))⟩
theorem a_rOrd18_ok : cFunc Try.prog 92 = some a_rOrd18 := by kernel_rfl
def r_rOrd180 : List (Nat × Nat) := [(4, 5), (11, 22)]
def r_rOrd181 : List (Nat × Nat) := [(6, 8), (23, 61)]
def r_rOrd182 : List (Nat × Nat) := [(8, 8), (35, 61)]
def a_rSize18 : AFunc := ⟨1,9,[.tmp 2],(.seq (.region [⟨some 2,.mv (.c (.v (.bool false))),none⟩]) (.seq (.region [⟨some 3,.mv (.t 0),none⟩,⟨some 4,.bin .geq (.t 3) (.c (.v (.int .i64 1))),none⟩,⟨some 5,.mv (.t 4),none⟩,⟨some 6,.mv (.t 0),some (5,true)⟩,⟨some 7,.bin .leq (.t 6) (.c (.v (.int .i64 8))),some (5,true)⟩,⟨some 8,.pick (.t 5) (.t 7) (.c (.v (.bool false))),none⟩,⟨some 2,.mv (.t 8),none⟩]) .ret))⟩
theorem a_rSize18_ok : cFunc Try.prog 19 = some a_rSize18 := by kernel_rfl

theorem rSize18_spec (k : Int) (b l : List Row) : ACalls Try.prog 19 [.v (.int .i64 k)] b l (fun r b' l' => r = .v (.bool (decide (1 ≤ k ∧ k ≤ 8))) ∧ b' = b ∧ l' = l) := by
 refine calls_kept a_rSize18_ok rfl (by decide) ?_
 intro B g hB hR hE hA
 simp only [KArgs] at hA
 by_cases h1 : 1 ≤ k
 ·have d1 : decide (k ≥ 1) = true := decide_eq_true h1
  have d1' : decide (1 ≤ k) = true := d1
  by_cases h2 : k ≤ 8
  ·have d2 : decide (k ≤ 8) = true := decide_eq_true h2
   have hq : decide (1 ≤ k ∧ k ≤ 8) = true := decide_eq_true ⟨h1, h2⟩
   rw [hq]
   simp (disch := (first | decide | omega)) only [a_rSize18, hA, d1, d1', d2, go_sem]
   exact leave_pure (xs := [.v (.bool true)]) (.inr rfl) (by simp (disch := (first | decide | omega)) only [resVs, resV, go_sem, hA]) kO hR hB ⟨rfl, rfl, rfl⟩
  ·have d2 : decide (k ≤ 8) = false := decide_eq_false h2
   have hq : decide (1 ≤ k ∧ k ≤ 8) = false := decide_eq_false (fun h => h2 h.2)
   rw [hq]
   simp (disch := (first | decide | omega)) only [a_rSize18, hA, d1, d1', d2, go_sem]
   exact leave_pure (xs := [.v (.bool false)]) (.inr rfl) (by simp (disch := (first | decide | omega)) only [resVs, resV, go_sem, hA]) kO hR hB ⟨rfl, rfl, rfl⟩
 ·have d1 : decide (k ≥ 1) = false := decide_eq_false h1
  have d1' : decide (1 ≤ k) = false := d1
  have hq : decide (1 ≤ k ∧ k ≤ 8) = false := decide_eq_false (fun h => h1 h.1)
  rw [hq]
  simp (disch := (first | decide | omega)) only [a_rSize18, hA, d1, d1', go_sem]
  exact leave_pure (xs := [.v (.bool false)]) (.inr rfl) (by simp (disch := (first | decide | omega)) only [resVs, resV, go_sem, hA]) kO hR hB ⟨rfl, rfl, rfl⟩
theorem rEv18_spec (t : Tr) (hS : Small t) (hC : (ids t).length ≤ 1000000) (b l : List Row) :
  ACalls Try.prog 93 [.agg [.v (eT t)]] b l (fun r b' l' => r = .v (.isl 2 ((ids t).map eId)) ∧ b' = b ∧ l' = l) := by
 refine calls_kept a_rEv18_ok rfl (by decide) ?_
 intro B g hB hR hE hA
 simp only [KArgs] at hA
 have hnp := hS.np
 have l0 : evL t 0 0 = 0 := rfl
 simp (disch := (first | decide | omega)) only [a_rEv18, hA, eT, List.length_map, go_sem]
 refine loop_kept_nil (ι := Nat) 3 2 r_rEv180 (fun p => [(4, .v (.int .i64 p)), (3, .sl (B.length + 1) (evL t p 0) 0 (evL t p 0))]) 2 (fun p => [.live 0 1 [[.v (.isl 3 (t.map ePr))]], .live (evL t p 0) 2 (vs (evV t p 0))])
  (fun p => p ≤ t.length) (fun p => t.length - p) 0 (Nat.zero_le _) (by simp (disch := decide) only [hA, go_sem]) (by decide) (by decide) (by (repeat (first | exact hE.mono oM | refine KLt.up ?_ kL))) (by ((try simp (disch := decide) only [hA, l0, go_sem]) <;> exact kH)) (fun e => Weak.refl _ _ _) ?_
 intro g1 hE1 hEE1 hg1 p hp
 by_cases hpl : p < t.length
 ·have hne := hS.ne _ (List.getElem_mem hpl)
  simp (disch := (first | decide | omega)) only [hA, hg1, ePr, List.length_map, go_sem]
  refine loop_kept (ι := Nat) r_rEv181 (fun i => [(5, .v (.int .i64 i)), (3, .sl (B.length + 1) (evL t p i) 0 (evL t p i))]) 2 (fun i => [.live 0 1 [[.v (.isl 3 (t.map ePr))]], .live (evL t p i) 2 (vs (evV t p i))])
   (fun i => i ≤ t[p].evs.length) (fun i => t[p].evs.length - i) 0 (Nat.zero_le _) (by (repeat (first | exact hE1.mono oM | refine KLt.up ?_ kL))) (by ((try simp (disch := decide) only [hA, hg1, go_sem]) <;> exact kH)) (fun e => Weak.refl _ _ _) ?_
  intro g2 hE2 hEE2 hg2 i hi
  by_cases hil : i < t[p].evs.length
  ·have hle := evL_le hpl (show i + 1 ≤ t[p].evs.length by omega)
   have hsl : evL t p (i + 1) = evL t p i + 1 := by unfold evL; rw [idsTo_succ, List.length_append]; rfl
   have hvl : (evV t p i).length = evL t p i := by unfold evV evL; rw [List.length_map]
   have tk : List.take (evL t p i) (evV t p i) = evV t p i := List.take_of_length_le oM
   have hck : (i : Int) + 1 = ((i + 1 : Nat) : Int) := by omega
   have hsn : evV t p i ++ [[.int .i64 p, .int .i64 ((i + 1 : Nat) : Int)]] = evV t p (i + 1) := by unfold evV; rw [idsTo_succ, List.map_append]; rfl
   simp (disch := (first | decide | omega)) only [hA, hg1, hg2, ePr, hvl, tk, List.length_map, List.replicate_succ, List.replicate_zero, reduceCtorEq, hck, hsn, setFrom, cellsOf, go_sem]
   rw [← hsl]
   refine ⟨i + 1, hil, by simp only; omega, ?_⟩
   exact Weak.kround (p := r_rEv181) (k := 2) (by ((repeat refine (kAny_up rfl).trans ?_); exact hEE2)) (by ((try simp (disch := decide) only [hA, hg1, go_sem]) <;> exact kH)) rfl hE2 (by simp) kV hR kL
  ·obtain rfl : i = t[p].evs.length := by omega
   have hnl : evL t p t[p].evs.length = evL t (p + 1) 0 := by unfold evL; rw [idsTo_next t p hpl]
   have hnv : evV t p t[p].evs.length = evV t (p + 1) 0 := by unfold evV; rw [idsTo_next t p hpl]
   simp (disch := (first | decide | omega)) only [hA, hg1, hg2, ePr, List.length_map, go_sem]
   rw [hnl, hnv]
   refine ⟨p + 1, hpl, by simp only; omega, ?_⟩
   exact Weak.kround (p := r_rEv180) (k := 2) (by ((repeat refine (kAny_up rfl).trans ?_); refine (kAny_sub hg2 (kIn_sub rfl)).trans ?_; (repeat refine (kAny_up rfl).trans ?_); exact hEE1)) (by ((try simp (disch := decide) only [hA, hg1, go_sem]) <;> exact kH)) rfl hE1 (by simp) kV hR kL
 ·obtain rfl : p = t.length := by omega
  have hv : evV t t.length 0 = (ids t).map eId := by unfold evV; rw [idsTo_all]
  have hl2 : evL t t.length 0 = (ids t).length := by unfold evL; rw [idsTo_all]
  simp (disch := (first | decide | omega)) only [hA, hg1, List.length_map, go_sem]
  rw [hv, hl2]
  exact leave_frz (i := 1) (ver := (ids t).length) (sz := 2) (n := (ids t).length) (rows := (ids t).map eId) (.inr rfl) (by simp (disch := (first | decide | omega)) only [resVs, resV, hA, hg1, go_sem]) rfl (by simp) hR hB ⟨rfl, rfl, rfl⟩
def obT (n v m N : Nat) : Row := .live v 1 (fl m fun q => [.sl (n + (q + 1 + 1)) 0 0 N])
noncomputable def obR (t : Tr) (n v m : Nat) (R : Nat → Nat → Bool) : List Row := .live 0 1 [[.v (eT t)]] :: obT n v m (ids t).length :: fl m (tbW (ids t).length R)
theorem obR_len {t : Tr} {n v m : Nat} {R : Nat → Nat → Bool} : (obR t n v m R).length = m + 2 := by simp [obR, fl_len]
theorem obR_lt {t : Tr} {n v m j : Nat} {R : Nat → Nat → Bool} (h : n + (m + 2) ≤ j) : RowsLt j (obR t n v m R) := by
 intro id ver sz els hr row hrow c hc
 match id, hr with
 | 0, hr => cases hr; simp at hrow; subst hrow; simp at hc; subst hc; exact .v _
 | 1, hr =>
   cases hr
   obtain ⟨a, ha, rfl⟩ := List.mem_map.1 hrow
   simp only [List.mem_singleton] at hc
   subst hc
   have := List.mem_range.1 ha
   exact .sl _ _ _ _ oM
 | id + 2, hr =>
   have hr : (fl m (tbW (ids t).length R))[id]? = some (.live ver sz els) := hr
   by_cases hid : id < m
   ·rw [fl_get hid] at hr
    cases hr
    obtain ⟨r0, _, rfl⟩ := List.mem_map.1 hrow
    obtain ⟨x0, _, rfl⟩ := List.mem_map.1 hc
    exact .v _
   ·rw [fl_none oM] at hr; cases hr
noncomputable def tO (t : Tr) (j i a c : Nat) : Bool := if c < j ∨ (c = j ∧ a < i) then hpB t a c else false
theorem tO_put {t : Tr} {j i : Nat} (a c : Nat) : tO t j (i + 1) a c = if a = i ∧ c = j then hpB t i j else tO t j i a c := by
 unfold tO
 by_cases h : a = i ∧ c = j
 ·rw [if_pos h, if_pos (.inr ⟨h.2, by omega⟩), h.1, h.2]
 ·rw [if_neg h]
  by_cases h2 : c < j ∨ (c = j ∧ a < i)
  ·rw [if_pos h2, if_pos oM]
  ·rw [if_neg h2, if_neg oM]
noncomputable def hbV (t : Tr) : List (List IV) := fl (ids t).length fun i => [.isl 1 (bR (ids t).length (hpB t i))]
set_option maxRecDepth 20000 in
set_option maxHeartbeats 4000000 in
theorem rOrd18_spec (t : Tr) (hv : Vok t) (hS : Small t) (hN : Nm t) (hC : (ids t).length ≤ 1000000) (b l : List Row) :
  ACalls Try.prog 92 [.agg [.v (eT t)]] b l (fun r b' l' => r = .v (.isl 1 (hbV t)) ∧ b' = b ∧ l' = l) := by
 refine calls_kept a_rOrd18_ok rfl (by decide) ?_
 intro B g hB hR hE hA
 simp only [KArgs] at hA
 have hev := fun b l => rEv18_spec t hS hC b l
 have hT8 := hv.hi
 obtain ⟨LV, hLV⟩ : ∃ LV, (ids t).map eId = LV := ⟨_, rfl⟩
 have hll : LV.length = (ids t).length := by rw [← hLV, List.length_map]
 rw [hLV] at hev
 simp (disch := (first | decide | omega)) only [a_rOrd18, hA, go_sem]
 refine ACalls.nxt (hev _ _) ?_
 simp (disch := (first | decide | omega)) only [hA, go_sem]
 refine loop_kept_nil (ι := Nat) 4 1 r_rOrd180 (fun q => [(4, .sl (B.length + 1) q 0 q), (5, .v (.int .i64 q))]) 2 (fun q => obR t B.length q q (fun _ _ => false))
  (fun q => q ≤ (ids t).length) (fun q => (ids t).length - q) 0 (Nat.zero_le _) (by simp (disch := decide) only [hA, go_sem]) (by decide) rfl (by (repeat (first | exact hE.mono oM | refine KLt.up ?_ kL))) (by ((try simp (disch := decide) only [hA, go_sem]) <;> exact kH)) (fun e => Weak.refl _ _ _) ?_
 intro g1 hE1 hEE1 hg1 q hq
 by_cases hql : q < (ids t).length
 ·have hz := bR_zero (n := (ids t).length)
  have tl : (fl q fun q => [AV.sl (B.length + (q + 1 + 1)) 0 0 (ids t).length]).length = q := fl_len
  have tk : List.take q (fl q fun q => [AV.sl (B.length + (q + 1 + 1)) 0 0 (ids t).length]) = fl q fun q => [AV.sl (B.length + (q + 1 + 1)) 0 0 (ids t).length] := List.take_of_length_le oM
  have hnx : (fl q fun q => [AV.sl (B.length + (q + 1 + 1)) 0 0 (ids t).length]) ++ [[AV.sl (B.length + (q + 1 + 1)) 0 0 (ids t).length]] = fl (q + 1) fun q => [AV.sl (B.length + (q + 1 + 1)) 0 0 (ids t).length] := fl_next rfl
  have hnr : ∀ T : List Row, fl q (tbW (ids t).length fun _ _ => false) ++ .live 0 1 (vs (bR (ids t).length fun _ => false)) :: T = fl (q + 1) (tbW (ids t).length fun _ _ => false) ++ T := fun T => by rw [← fl_next (n := q) (f := tbW (ids t).length fun _ _ => false) (x := .live 0 1 (vs (bR (ids t).length fun _ => false))) rfl, List.append_assoc]; rfl
  simp (disch := (first | decide | omega)) only [hA, hg1, obR, obT, hll, hz, tl, tk, hnx, hnr, fl_len, fa_tail0, List.replicate_succ, List.replicate_zero, reduceCtorEq, setFrom, cellsOf, go_sem]
  refine ⟨q + 1, hql, by simp only; omega, ?_⟩
  exact Weak.kround (l1 := obR t B.length (q + 1) (q + 1) (fun _ _ => false)) (junk := [_]) (p := r_rOrd180) (k := 2) (by ((repeat refine (kAny_up rfl).trans ?_); exact hEE1)) (by ((try simp (disch := decide) only [hA, go_sem]) <;> exact kH)) rfl hE1 (by simp [obR]) (by rw [obR_len]; simp (disch := omega) only [KOvLt, lts.down, Nat.reduceLT, Nat.reduceAdd]) hR (obR_lt (Nat.le_of_eq (by rw [obR_len])))
 obtain rfl : q = (ids t).length := by omega
 have hz0 : fl (ids t).length (tbW (ids t).length fun _ _ => false) = fl (ids t).length (tbW (ids t).length (tO t 0 0)) := tW_end (fun a c _ _ => by unfold tO; rw [if_neg oM])
 simp (disch := (first | decide | omega)) only [hA, hg1, hll, obR, hz0, go_sem]
 refine loop_kept (ι := Nat) r_rOrd181 (fun j => [(6, .v (.int .i64 j))]) ((ids t).length + 2) (fun j => obR t B.length (ids t).length (ids t).length (tO t j 0))
  (fun j => j ≤ (ids t).length) (fun j => (ids t).length - j) 0 (Nat.zero_le _) (by (repeat (first | exact hE1.mono oM | refine KLt.up ?_ kL))) (by ((try simp (disch := decide) only [hA, hg1, go_sem]) <;> exact kH)) (fun e => Weak.refl _ _ _) ?_
 intro g2 hE2 hEE2 hg2 j hj
 by_cases hjl : j < (ids t).length
 ·have hx := List.getElem_mem hjl
  have hxj : idN t j = (ids t)[j] := by unfold idN; rw [getD_at hjl]
  obtain ⟨⟨p, i⟩, hpi⟩ : ∃ y, (ids t)[j] = y := ⟨_, rfl⟩
  rw [hpi] at hx hxj
  have hgL : LV[j]? = some [.int .i64 p, .int .i64 i] := by
   rw [← hLV, List.getElem?_map, List.getElem?_eq_getElem hjl, hpi]; rfl
  have hpa := fun b l => past_spec t hv hS hN (p, i) hx hC b l
  simp only [idA] at hpa
  simp (disch := (first | decide | omega)) only [hA, hg1, hg2, obR, hll, hgL, go_sem]
  refine ACalls_mono _ _ _ _ _ _ (hpa _ _) ?_
  rintro r0 b0 l0 ⟨S, hSS, rfl, rfl, rfl⟩
  simp only [tabV]
  obtain ⟨TB, hTB⟩ : ∃ TB, (fl t.length fun p => [IV.isl 1 (tabRow S p ((evsOf t p).length + 1))]) = TB := ⟨_, rfl⟩
  have htl : TB.length = t.length := by rw [← hTB, fl_len]
  rw [hTB]
  simp (disch := (first | decide | omega)) only [hA, hg1, hg2, go_sem]
  refine loop_kept (ι := Nat) r_rOrd182 (fun a => [(8, .v (.int .i64 a))]) ((ids t).length + 2) (fun a => obR t b0.length (ids t).length (ids t).length (tO t j a))
   (fun a => a ≤ (ids t).length) (fun a => (ids t).length - a) 0 (Nat.zero_le _) (by (repeat (first | exact hE2.mono oM | refine KLt.up ?_ kL))) (by ((try simp (disch := decide) only [hA, hg1, hg2, go_sem]) <;> exact kH)) (fun e => Weak.refl _ _ _) ?_
  intro g3 hE3 hEE3 hg3 a ha
  by_cases hal : a < (ids t).length
  ·have hy := List.getElem_mem hal
   have hya : idN t a = (ids t)[a] := by unfold idN; rw [getD_at hal]
   obtain ⟨⟨ap, ai⟩, hai⟩ : ∃ y, (ids t)[a] = y := ⟨_, rfl⟩
   rw [hai] at hy hya
   obtain ⟨ai, rfl⟩ : ∃ k, ai = k + 1 := ⟨ai - 1, by have := mem_pos hy; simp only at this; omega⟩
   obtain ⟨hap, hae⟩ := mem_ids2.1 hy
   have hne := hS.ne _ (List.getElem_mem hap)
   rw [← evsOf_lt hap] at hne
   have hgA : LV[a]? = some [.int .i64 ap, .int .i64 ((ai + 1 : Nat) : Int)] := by
    rw [← hLV, List.getElem?_map, List.getElem?_eq_getElem hal, hai]; rfl
   have hval : decide ((ap, ai + 1) ∈ S) = hpB t a j := by
    unfold hpB
    rw [hxj, hya, Bool.eq_iff_iff, decide_eq_true_iff, befB_iff hv hy hx]
    exact hSS _ hy
   have hgt : TB[ap]? = some [.isl 1 (tabRow S ap ((evsOf t ap).length + 1))] := by rw [← hTB]; exact fl_get hap
   have hgl : (tabRow S ap ((evsOf t ap).length + 1)).length = (evsOf t ap).length + 1 := fl_len
   have hgr : (tabRow S ap ((evsOf t ap).length + 1))[ai + 1]? = some [.bool (hpB t a j)] := by
    unfold tabRow; rw [fl_get oM, hval]
   have hwi : tbW (ids t).length (tO t j a) a = .live 0 1 (vs (bR (ids t).length (tO t j a a))) := rfl
   have hbs := bR_set (n := (ids t).length) (c := j) (f := tO t j a a) (v := hpB t a j)
   have hput := tbW_put (n := (ids t).length) (m := (ids t).length) (i := a) (c := j) (R := tO t j a) (R' := tO t j (a + 1)) (v := hpB t a j) (fun x c => tO_put x c)
   have hbc := bR_get (n := (ids t).length) (f := tO t j a a) hjl
   have hgT : (fl (ids t).length fun q => [AV.sl (b0.length + (q + 1 + 1)) 0 0 (ids t).length])[a]? = some [.sl (b0.length + (a + 1 + 1)) 0 0 (ids t).length] := fl_get hal
   have haii : ((ai + 1 : Nat) : Int).toNat = ai + 1 := by omega
   simp (disch := (first | decide | omega)) only [hA, hg1, hg2, hg3, obR, obT, hll, hgA, htl, hgt, hgl, hgr, hgT, hwi, bR_len, hbc, hbs, hput, fl_len, fl_get, fl_set, setFrom, cellsOf, go_sem]
   refine ⟨a + 1, hal, by simp only; omega, ?_⟩
   exact Weak.kround (l1 := obR t b0.length (ids t).length (ids t).length (tO t j (a + 1))) (junk := []) (p := r_rOrd182) (k := (ids t).length + 2) (by ((repeat refine (kAny_up rfl).trans ?_); exact hEE3)) (by ((try simp (disch := decide) only [hA, go_sem]) <;> exact kH)) (List.append_nil _).symm hE3 (by rw [obR_len]; omega) (by rw [obR_len]; simp (disch := omega) only [KOvLt, lts.down, Nat.reduceLT, Nat.reduceAdd]) hR (obR_lt (Nat.le_of_eq (by rw [obR_len])))
  ·obtain rfl : a = (ids t).length := by omega
   have hend : fl (ids t).length (tbW (ids t).length (tO t j (ids t).length)) = fl (ids t).length (tbW (ids t).length (tO t (j + 1) 0)) := tW_end (fun x c hx hc => by
    unfold tO
    by_cases h1 : c < j + 1
    ·rw [if_pos oM, if_pos (.inl h1)]
    ·rw [if_neg oM, if_neg oM])
   simp (disch := (first | decide | omega)) only [hA, hg1, hg2, hg3, obR, hll, hend, go_sem]
   refine ⟨j + 1, hjl, by simp only; omega, ?_⟩
   exact Weak.kround (l1 := obR t b0.length (ids t).length (ids t).length (tO t (j + 1) 0)) (junk := []) (p := r_rOrd181) (k := (ids t).length + 2) (by ((repeat refine (kAny_up rfl).trans ?_); refine (kAny_sub hg3 (kIn_sub rfl)).trans ?_; (repeat refine (kAny_up rfl).trans ?_); exact hEE2)) (by ((try simp (disch := decide) only [hA, hg1, go_sem]) <;> exact kH)) (List.append_nil _).symm hE2 (by rw [obR_len]; omega) (by rw [obR_len]; simp (disch := omega) only [KOvLt, lts.down, Nat.reduceLT, Nat.reduceAdd]) hR (obR_lt (Nat.le_of_eq (by rw [obR_len])))
 ·obtain rfl : j = (ids t).length := by omega
  simp (disch := (first | decide | omega)) only [hA, hg1, hg2, hll, go_sem]
  have he : hbV t = mV (ids t).length 1 (fun i => bR (ids t).length (tO t (ids t).length 0 i)) := by
   unfold hbV mV
   refine fl_congr (fun i hi => ?_)
   congr 2
   unfold bR
   refine fl_congr (fun c hc => ?_)
   unfold tO; rw [if_pos (.inl hc)]
  rw [he]
  refine leave_matP (n := (ids t).length) (m := 1) (v0 := (ids t).length) (sz := 1) (ver := fun _ => 0) (R := fun i => bR (ids t).length (tO t (ids t).length 0 i)) (pre := [.live 0 1 [[.v (eT t)]]]) (junk := []) (.inr rfl) (by simp (disch := (first | decide | omega)) only [resVs, resV, hA, hg1, hg2, go_sem]) rfl ?_ kN hR hB ⟨rfl, rfl, rfl⟩
  unfold mR obR obT
  simp only [List.append_nil, List.cons_append, List.nil_append]
  congr 3
  refine fl_congr (fun j hj => ?_)
  unfold mC
  rw [if_neg oM, bR_len, show B.length + 1 + (j + 1) = B.length + (j + 1 + 1) by omega]
end Go.Proofs.Ytcemoeigegkmoaa
