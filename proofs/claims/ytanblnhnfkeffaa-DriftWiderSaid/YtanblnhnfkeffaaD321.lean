/- Texts of one proof, laid together: YE. No condition. -/
import Derived.Test.YtanblnhnfkeffaaD320
import Derived.Test.YtanblnhnfkeffaaD318
import Derived.Test.YtanblnhnfkeffaaD312
import Derived.Test.YtanblnhnfkeffaaD313
namespace Go.Proofs.Ytanblnhnfkeffaa
set_option linter.unusedVariables false
set_option linter.unusedSimpArgs false
attribute [local go_sem ↓] run_skip run_region run_draw run_both run_seq run_block run_exit run_ret run_cond atN_app seqC_normal seqC_exit seqC_ret seqQ_normal seqQ_exit seqQ_ret blkQ_normal blkQ_exit blkQ_ret runOps_nil runOps_cons runD_nil runD_cons grdO_true grdO_false grdD_true grdD_false ifC_true ifC_false opS_val opS_call opS_two opK_app dS_val dS_call dS_two dK_app kUp_same kUp_ne
attribute [local go_sem] rechks_nil rechks_cons rechk gcase_true gcase_false ex_val ex_val0 gd_none gd_some ev_t ev_c evs_nil evs_cons evo_some evo_none hget_at hget_first hsetB_at hsetB_first hsetL_at hsetL_first ofOpt_some aop aload astore aslice aappend aiaddr aiaddrA afaddr alen alenS acopy amm acall alookup amupdate alenM atostr comma keyEq apick binV binVB binVS isSh intOp strOp boolOp shOp eqC eqF and2 cellsOf setFrom fillA fillS rd rdI elems mk bounds AV.cell List.all_cons List.all_nil Bool.and_true Bool.true_and Bool.and_self List.length_cons List.length_nil List.length_append Nat.reduceAdd Nat.reduceSub Nat.reduceMul Nat.zero_add Nat.add_zero List.cons_append List.nil_append List.append_assoc List.append_nil List.getElem?_cons_zero List.getElem?_cons_succ List.getElem?_nil List.set_cons_zero List.set_cons_succ List.drop_zero List.drop_succ_cons List.take_zero List.take_succ_cons List.take_nil List.drop_nil List.map_cons List.map_nil Option.map_some if_true if_false Bool.false_eq_true and_self true_and and_true Nat.reduceLeDiff Nat.reduceLT Nat.le_refl Nat.reduceEqDiff ite_true ite_false beq_self_eq_true beq_true beq_false Bool.not_true Bool.not_false Bool.true_beq Bool.false_beq map_vs vs_len vs_get vs_take vs_drop vs_snoc1 vs_snoc2 vs_snoc3 vs_snoc5 vs_set1 vs_set2 vs_rep wrap_id le_T lt_T le_F lt_F leI_T ltI_T leI_F ltI_F geI gtI get_T decide_true decide_false room List.getElem?_map List.length_map List.length_take Int.toNat_natCast Nat.min_def Nat.min_self nth_kOf put_kOf put_kNo kOv_cons kOv_nil KHas KArgs List.getElem_cons_zero List.getElem_cons_succ
def a_rEnds19 : AFunc := ⟨2,41,[.tmp 4],(.seq (.region [⟨some 4,.mv (.c (.v .zsl)),none⟩]) (.seq (.region [⟨some 5,.mv (.c (.v .zsl)),none⟩]) (.seq (.seq (.region [⟨some 6,.mv (.c (.v (.int .i64 0))),none⟩]) (.block 0 (.loop (.seq (.seq (.region [⟨some 9,.mv (.t 6),none⟩,⟨some 10,.mv (.t 0),none⟩,⟨some 11,.len (.t 10),none⟩,⟨some 12,.bin .lss (.t 9) (.t 11),none⟩]) (.cond (.t 12) .skip (.exit 0))) (.seq (.block 1 (.seq (.region [⟨some 7,.mv (.c (.v .zsl)),none⟩]) (.seq (.seq (.region [⟨some 8,.mv (.c (.v (.int .i64 0))),none⟩]) (.block 2 (.loop (.seq (.seq (.region [⟨some 15,.mv (.t 8),none⟩,⟨some 16,.mv (.t 0),none⟩,⟨some 17,.mv (.t 6),none⟩,⟨some 18,.iaddr 1 (.t 16) (.t 17),none⟩,⟨some 19,.load none (.t 18),none⟩,⟨some 20,.len (.t 19),none⟩,⟨some 21,.bin .lss (.t 15) (.t 20),none⟩]) (.cond (.t 21) .skip (.exit 2))) (.seq (.block 3 (.region [⟨some 24,.mv (.t 7),none⟩,⟨some 25,.mv (.t 0),none⟩,⟨some 26,.mv (.t 6),none⟩,⟨some 27,.iaddr 1 (.t 25) (.t 26),none⟩,⟨some 28,.load none (.t 27),none⟩,⟨some 29,.mv (.t 8),none⟩,⟨some 30,.mv (.t 1),none⟩,⟨some 31,.iaddr 2 (.t 28) (.t 29),none⟩,⟨some 32,.iaddrA 2 1 (.t 31) (.t 30),none⟩,⟨some 33,.load none (.t 32),none⟩,⟨some 34,.bslice 1 [(.v (.int .i64 0))] 1 [(0,(.t 33))],none⟩,⟨some 35,.append 1 8 (.t 24) (.t 34),none⟩,⟨some 7,.mv (.t 35),none⟩])) (.region [⟨some 22,.mv (.t 8),none⟩,⟨some 23,.bin .add (.t 22) (.c (.v (.int .i64 1))),none⟩,⟨some 8,.mv (.t 23),none⟩])))))) (.region [⟨some 36,.mv (.t 5),none⟩,⟨some 37,.mv (.t 7),none⟩,⟨some 38,.bslice 1 [(.v .zsl)] 1 [(0,(.t 37))],none⟩,⟨some 39,.append 1 24 (.t 36) (.t 38),none⟩,⟨some 5,.mv (.t 39),none⟩])))) (.region [⟨some 13,.mv (.t 6),none⟩,⟨some 14,.bin .add (.t 13) (.c (.v (.int .i64 1))),none⟩,⟨some 6,.mv (.t 14),none⟩])))))) (.seq (.region [⟨some 40,.mv (.t 5),none⟩,⟨some 4,.mv (.t 40),none⟩]) .ret))))⟩
theorem a_rEnds19_ok : cFunc Try.prog 63 = some a_rEnds19 := by kernel_rfl
def r_rEnds190 : List (Nat × Nat) := [(5, 39)]
def r_rEnds191 : List (Nat × Nat) := [(7, 8), (15, 35)]
def a_Eq22 : AFunc := ⟨2,26,[.tmp 4],(.seq (.region [⟨some 4,.mv (.c (.v (.bool false))),none⟩]) (.seq (.seq (.region [⟨some 6,.mv (.t 0),none⟩,⟨some 7,.len (.t 6),none⟩,⟨some 8,.mv (.t 1),none⟩,⟨some 9,.len (.t 8),none⟩,⟨some 10,.bin .neq (.t 7) (.t 9),none⟩]) (.cond (.t 10) (.seq (.region [⟨some 4,.mv (.c (.v (.bool false))),none⟩]) .ret) .skip)) (.seq (.seq (.region [⟨some 11,.mv (.t 0),none⟩,⟨some 12,.len (.t 11),none⟩,⟨some 13,.mv (.c (.v (.int .i64 0))),none⟩]) (.block 0 (.loop (.seq (.region [⟨some 14,.bin .lss (.t 13) (.t 12),none⟩]) (.seq (.cond (.t 14) .skip (.exit 0)) (.seq (.block 1 (.seq (.region [⟨some 15,.mv (.t 13),none⟩,⟨some 5,.mv (.t 15),none⟩]) (.seq (.draw [⟨0,⟨some 16,.mv (.t 0),none⟩,[]⟩,⟨1,⟨some 17,.mv (.t 5),none⟩,[]⟩,⟨2,⟨some 18,.iaddr 2 (.t 16) (.t 17),none⟩,[]⟩,⟨3,⟨some 19,.load (some 2) (.t 18),none⟩,[]⟩,⟨4,⟨some 20,.mv (.t 1),none⟩,[]⟩,⟨5,⟨some 21,.mv (.t 5),none⟩,[]⟩,⟨6,⟨some 22,.iaddr 2 (.t 20) (.t 21),none⟩,[]⟩,⟨7,⟨some 23,.load (some 2) (.t 22),none⟩,[]⟩,⟨8,⟨some 24,.eqs true [.i,.i] (.t 19) (.t 23),none⟩,[]⟩]) (.cond (.t 24) (.seq (.region [⟨some 4,.mv (.c (.v (.bool false))),none⟩]) .ret) .skip)))) (.region [⟨some 25,.bin .add (.t 13) (.c (.v (.int .i64 1))),none⟩,⟨some 13,.mv (.t 25),none⟩]))))))) (.seq (.region [⟨some 4,.mv (.c (.v (.bool true))),none⟩]) .ret))))⟩
theorem a_Eq22_ok : cFunc Try.prog 118 = some a_Eq22 := by kernel_rfl
def r_Eq220 : List (Nat × Nat) := [(4, 5), (13, 25)]

noncomputable def enF (t : Tr) (bn : Bn) (w v : Nat) : Int := if w = 0 then loN t bn v else hiN t bn v
noncomputable def enRow (t : Tr) (bn : Bn) (w p n : Nat) : List Int := fl n fun i => enF t bn w (evN t p + i)
noncomputable def enAll (t : Tr) (bn : Bn) (w n : Nat) : List (List Int) := fl n fun p => enRow t bn w p (evsOf t p).length
theorem en_zero {t : Tr} {bn : Bn} {n : Nat} : enAll t bn 0 n = eaAll t bn n := rfl
theorem enR_next {t : Tr} {bn : Bn} {w p n : Nat} : (enRow t bn w p n).map eI ++ [[.int .i64 (enF t bn w (evN t p + n))]] = (enRow t bn w p (n + 1)).map eI := by
 unfold enRow
 rw [fl_map, fl_map]
 exact fl_next rfl
theorem enAll_next {t : Tr} {bn : Bn} {w n : Nat} : (enAll t bn w n).map eRw ++ [[.isl 1 ((enRow t bn w n (evsOf t n).length).map eI)]] = (enAll t bn w (n + 1)).map eRw := by
 unfold enAll
 rw [fl_map, fl_map]
 exact fl_next rfl
set_option maxRecDepth 20000 in
set_option maxHeartbeats 8000000 in
theorem rEnds19_spec (t : Tr) (hS : Small t) (bn : Bn) (w : Nat) (hw : w < 2) (b l : List Row) :
  ACalls Try.prog 63 [.v (.isl 1 (tiAll t bn t.length)), .v (.int .i64 w)] b l (fun r b' l' => r = .v (.isl 1 ((enAll t bn w t.length).map eRw)) ∧ b' = b ∧ l' = l) := by
 refine calls_kept a_rEnds19_ok rfl (by decide) ?_
 intro B g hB hR hE hA
 simp only [KArgs] at hA
 have htl : (tiAll t bn t.length).length = t.length := fl_len
 have hnp := hS.np
 simp (disch := (first | decide | omega)) only [a_rEnds19, hA, go_sem]
 refine loop_kept_nil (ι := Nat) 5 1 r_rEnds190 (fun q => [(5, .sl (B.length + 0) q 0 q), (6, .v (.int .i64 q))]) 1 (fun q => [.live q 1 (vs ((enAll t bn w q).map eRw))])
  (fun q => q ≤ t.length) (fun q => t.length - q) 0 (Nat.zero_le _) (by simp (disch := decide) only [hA, go_sem]) (by decide) rfl (by (repeat (first | exact hE.mono oM | refine KLt.up ?_ kL))) (by ((try simp (disch := decide) only [hA, go_sem]) <;> exact kH)) (fun e => Weak.refl _ _ _) ?_
 intro g1 hE1 hEE1 hg1 q hq
 by_cases hlt : q < t.length
 ·have heq := evsOf_lt hlt
  have hne := hS.ne _ (List.getElem_mem hlt)
  have hgr : (tiAll t bn t.length)[q]? = some [.isl 2 (tiR t bn q t[q].evs.length)] := by rw [← heq]; exact fl_get hlt
  have trl : (tiR t bn q t[q].evs.length).length = t[q].evs.length := fl_len
  simp (disch := (first | decide | omega)) only [hA, hg1, hgr, htl, go_sem]
  refine loop_kept_nil (ι := Nat) 7 1 r_rEnds191 (fun j => [(7, .sl (B.length + 1) j 0 j), (8, .v (.int .i64 j))]) 2 (fun j => [.live q 1 (vs ((enAll t bn w q).map eRw)), .live j 1 (vs ((enRow t bn w q j).map eI))])
   (fun j => j ≤ t[q].evs.length) (fun j => t[q].evs.length - j) 0 (Nat.zero_le _) (by simp (disch := decide) only [hA, go_sem]) (by decide) rfl (by (repeat (first | exact hE1.mono oM | refine KLt.up ?_ kL))) (by ((try simp (disch := decide) only [hA, hg1, go_sem]) <;> exact kH)) (fun e => Weak.refl _ _ _) ?_
  intro g2 hE2 hEE2 hg2 j hj
  by_cases hjl : j < t[q].evs.length
  ·have tl : (enRow t bn w q j).length = j := fl_len
   have tk : List.take j ((enRow t bn w q j).map eI) = (enRow t bn w q j).map eI := List.take_of_length_le (by rw [List.length_map, tl]; exact Nat.le_refl _)
   have gl : (tiR t bn q t[q].evs.length)[j]? = some [.int .i64 (loN t bn (evN t q + j)), .int .i64 (hiN t bn (evN t q + j))] := fl_get hjl
   have gw : ([IV.int .i64 (loN t bn (evN t q + j)), .int .i64 (hiN t bn (evN t q + j))])[w]? = some (.int .i64 (enF t bn w (evN t q + j))) := by
    have : w = 0 ∨ w = 1 := by omega
    rcases this with rfl | rfl <;> rfl
   simp (disch := (first | decide | omega)) only [hA, hg1, hg2, hgr, htl, gl, trl, Nat.mul_one, gw, List.length_map, List.replicate_succ, List.replicate_zero, setFrom, cellsOf, tk, tl, enR_next, go_sem]
   refine ⟨j + 1, hjl, by simp only; omega, ?_⟩
   exact Weak.kround (p := r_rEnds191) (k := 2) (by ((repeat refine (kAny_up rfl).trans ?_); exact hEE2)) (by ((try simp (disch := decide) only [hA, go_sem]) <;> exact kH)) rfl hE2 (by simp) kV hR kL
  ·obtain rfl : j = t[q].evs.length := by omega
   have tl : (enAll t bn w q).length = q := fl_len
   have tk : List.take q ((enAll t bn w q).map eRw) = (enAll t bn w q).map eRw := List.take_of_length_le (by rw [List.length_map, tl]; exact Nat.le_refl _)
   simp (disch := (first | decide | omega)) only [hA, hg1, hg2, hgr, htl, trl, List.length_map, List.replicate_succ, List.replicate_zero, setFrom, cellsOf, tk, tl, go_sem]
   refine ⟨q + 1, hlt, by simp only; omega, ?_⟩
   refine Weak.kroundF (p := r_rEnds190) (i := 1) (ver := t[q].evs.length) (sz := 1) (rows := (enRow t bn w q t[q].evs.length).map eI) (k := 1) (l1 := [.live (q + 1) 1 (vs ((enAll t bn w (q + 1)).map eRw))]) (junk := [.dead t[q].evs.length, .live 0 1 [[.v (.isl 1 ((enRow t bn w q t[q].evs.length).map eI))]]]) rfl (by ((repeat refine (kAny_up rfl).trans ?_); refine (kAny_sub hg2 (kIn_sub rfl)).trans ?_; (repeat refine (kAny_up rfl).trans ?_); exact hEE1)) (by ((try simp (disch := decide) only [hA, hg1, go_sem]) <;> exact kH)) ?_ (by (repeat (first | exact hE1.mono oM | refine KLt.up ?_ kL))) (by simp) (by simp) kV hR kL
   have tl2 : (enRow t bn w q t[q].evs.length).length = t[q].evs.length := fl_len
   simp [rowMap, frz0, vs, frz0_v, ← enAll_next, heq, tl2]
   exact List.take_of_length_le (by simp [tl2])
 ·obtain rfl : q = t.length := by omega
  simp (disch := (first | decide | omega)) only [hA, hg1, htl, go_sem]
  refine leave_deep (.inr rfl) (xs := [.sl (B.length + 0) t.length 0 t.length]) (by simp (disch := (first | decide | omega)) only [resVs, resV, hA, hg1, go_sem]) (y := .v (.isl 1 ((enAll t bn w t.length).map eRw))) (Dv.slV (i := 0) rfl (by simp [enAll, fl_len])) hR hB ⟨rfl, rfl, rfl⟩
theorem eq22_refl (t : Tr) (bn : Bn) (p n : Nat) (hn : n ≤ 1000000) (b l : List Row) : ACalls Try.prog 118 [.v (.isl 2 (tiR t bn p n)), .v (.isl 2 (tiR t bn p n))] b l (fun r b' l' => r = .v (.bool true) ∧ b' = b ∧ l' = l) := by
 refine calls_kept a_Eq22_ok rfl (by decide) ?_
 intro B g hB hR hE hA
 simp only [KArgs] at hA
 have trl : (tiR t bn p n).length = n := fl_len
 have hd : ((n : Int) != (n : Int)) = false := by simp
 simp (disch := (first | decide | omega)) only [a_Eq22, hA, trl, hd, go_sem]
 refine loop_kept (ι := Nat) r_Eq220 (fun i => [(13, .v (.int .i64 i))]) 0 (fun _ => [])
  (fun i => i ≤ n) (fun i => n - i) 0 (Nat.zero_le _) (by (repeat (first | exact hE.mono oM | refine KLt.up ?_ kL))) (by ((try simp (disch := decide) only [hA, go_sem]) <;> exact kH)) (fun e => Weak.refl _ _ _) ?_
 intro g1 hE1 hEE1 hg1 i hi
 by_cases hlt : i < n
 ·have gl : (tiR t bn p n)[i]? = some [.int .i64 (loN t bn (evN t p + i)), .int .i64 (hiN t bn (evN t p + i))] := fl_get hlt
  have hd2 : ((loN t bn (evN t p + i) == loN t bn (evN t p + i)) && (hiN t bn (evN t p + i) == hiN t bn (evN t p + i))) = true := by simp
  simp (disch := (first | decide | omega)) only [hA, hg1, trl, gl, hd2, go_sem]
  refine ⟨i + 1, hlt, by simp only; omega, ?_⟩
  exact Weak.kround (p := r_Eq220) (k := 0) (by ((repeat refine (kAny_up rfl).trans ?_); exact hEE1)) (by ((try simp (disch := decide) only [hA, go_sem]) <;> exact kH)) rfl hE1 (by simp) kV hR kL
 ·obtain rfl : i = n := by omega
  simp (disch := (first | decide | omega)) only [hA, hg1, trl, go_sem]
  exact leave_pure (xs := [.v (.bool true)]) (.inr rfl) (by simp (disch := (first | decide | omega)) only [resVs, resV, go_sem, hA, hg1]) kO hR hB ⟨rfl, rfl, rfl⟩
end Go.Proofs.Ytanblnhnfkeffaa
