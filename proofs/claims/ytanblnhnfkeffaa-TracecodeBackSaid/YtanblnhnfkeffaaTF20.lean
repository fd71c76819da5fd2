/- Texts of one proof, laid together: ZH, ZI. No condition. -/
import Derived.Test.YtanblnhnfkeffaaTF19
namespace Go.Proofs.Ytanblnhnfkeffaa
set_option linter.unusedVariables false
set_option linter.unusedSimpArgs false
attribute [local go_sem ↓] run_skip run_region run_draw run_both run_seq run_block run_exit run_ret run_cond atN_app seqC_normal seqC_exit seqC_ret seqQ_normal seqQ_exit seqQ_ret blkQ_normal blkQ_exit blkQ_ret runOps_nil runOps_cons runD_nil runD_cons grdO_true grdO_false grdD_true grdD_false ifC_true ifC_false opS_val opS_call opS_two opK_app dS_val dS_call dS_two dK_app kUp_same kUp_ne
attribute [local go_sem] rechks_nil rechks_cons rechk gcase_true gcase_false ex_val ex_val0 gd_none gd_some ev_t ev_c evs_nil evs_cons evo_some evo_none hget_at hget_first hsetB_at hsetB_first hsetL_at hsetL_first ofOpt_some aop aload astore aslice aappend aiaddr aiaddrA afaddr alen alenS acopy amm acall alookup amupdate alenM atostr aappz comma keyEq apick binV binVB binVS isSh intOp strOp boolOp shOp eqC eqF and2 cellsOf setFrom fillA fillS rd rdI elems mk bounds AV.cell List.all_cons List.all_nil Bool.and_true Bool.true_and Bool.and_self List.length_cons List.length_nil List.length_append Nat.reduceAdd Nat.reduceSub Nat.reduceMul Nat.zero_add Nat.add_zero List.cons_append List.nil_append List.append_assoc List.append_nil List.getElem?_cons_zero List.getElem?_cons_succ List.getElem?_nil List.set_cons_zero List.set_cons_succ List.drop_zero List.drop_succ_cons List.take_zero List.take_succ_cons List.take_nil List.drop_nil List.map_cons List.map_nil Option.map_some if_true if_false Bool.false_eq_true and_self true_and and_true Nat.reduceLeDiff Nat.reduceLT Nat.le_refl Nat.reduceEqDiff ite_true ite_false beq_self_eq_true beq_true beq_false Bool.not_true Bool.not_false Bool.true_beq Bool.false_beq map_vs vs_len vs_get vs_take vs_drop vs_snoc1 vs_snoc2 vs_snoc3 vs_snoc5 vs_set1 vs_set2 vs_rep wrap_id le_T lt_T le_F lt_F leI_T ltI_T leI_F ltI_F geI gtI get_T decide_true decide_false room List.getElem?_map List.length_map List.length_take Int.toNat_natCast Nat.min_def Nat.min_self nth_kOf put_kOf put_kNo kOv_cons kOv_nil KHas KArgs List.getElem_cons_zero List.getElem_cons_succ
def a_tproc : AFunc := ⟨1,53,[.cell 2 (some 3)],(.seq (.region [⟨some 2,.alloc [(.v (.str ⟨#[]⟩)),(.v .zsl),(.v .zsl)],none⟩]) (.seq (.region [⟨some 7,.mv (.t 0),none⟩,⟨some 8,.call (.c (.fn 169 [])) [(.t 7)],none⟩,⟨some 9,.build [(.v (.str ⟨#[]⟩)),(.v .zsl),(.v .zsl)] [(0,1,(.t 8))],none⟩,⟨some 3,.alloc [(.v (.str ⟨#[]⟩)),(.v .zsl),(.v .zsl)],none⟩,⟨none,.store 3 (.t 3) (.t 9),none⟩]) (.seq (.seq (.region [⟨some 10,.mv (.t 0),none⟩,⟨some 11,.call (.c (.fn 111 [])) [(.t 10)],none⟩,⟨some 12,.mv (.c (.v (.int .i64 0))),none⟩]) (.block 0 (.loop (.seq (.region [⟨some 13,.bin .lss (.t 12) (.t 11),none⟩]) (.seq (.cond (.t 13) .skip (.exit 0)) (.seq (.block 1 (.seq (.region [⟨some 14,.mv (.t 0),none⟩,⟨some 15,.call (.c (.fn 169 [])) [(.t 14)],none⟩,⟨some 16,.mv (.t 0),none⟩,⟨some 17,.call (.c (.fn 168 [])) [(.t 16)],none⟩,⟨some 18,.build [(.v (.str ⟨#[]⟩)),(.v (.int .i64 0))] [(0,1,(.t 15)),(1,1,(.t 17))],none⟩,⟨some 4,.alloc [(.v (.str ⟨#[]⟩)),(.v (.int .i64 0))],none⟩,⟨none,.store 2 (.t 4) (.t 18),none⟩]) (.seq (.seq (.region [⟨some 19,.mv (.t 0),none⟩,⟨some 20,.nilck (.t 19),none⟩,⟨some 21,.faddr 1 (.t 20),none⟩,⟨some 22,.load none (.t 21),none⟩]) (.cond (.t 22) (.seq (.region [⟨some 23,.load (some 3) (.t 3),none⟩,⟨none,.store 3 (.t 2) (.t 23),none⟩]) .ret) .skip)) (.region [⟨some 24,.faddr 1 (.t 3),none⟩,⟨some 25,.load none (.t 24),none⟩,⟨some 26,.load (some 2) (.t 4),none⟩,⟨some 27,.bslice 2 [(.v (.str ⟨#[]⟩)),(.v (.int .i64 0))] 1 [(0,(.t 26))],none⟩,⟨some 28,.append 2 24 (.t 25) (.t 27),none⟩,⟨some 29,.faddr 1 (.t 3),none⟩,⟨none,.store 1 (.t 29) (.t 28),none⟩])))) (.region [⟨some 30,.bin .add (.t 12) (.c (.v (.int .i64 1))),none⟩,⟨some 12,.mv (.t 30),none⟩]))))))) (.seq (.region [⟨some 5,.mv (.c (.v (.int .i64 0))),none⟩]) (.seq (.seq (.region [⟨some 31,.mv (.t 0),none⟩,⟨some 32,.call (.c (.fn 111 [])) [(.t 31)],none⟩,⟨some 33,.mv (.c (.v (.int .i64 0))),none⟩]) (.block 2 (.loop (.seq (.region [⟨some 34,.bin .lss (.t 33) (.t 32),none⟩]) (.seq (.cond (.t 34) .skip (.exit 2)) (.seq (.block 3 (.seq (.region [⟨some 35,.mv (.t 0),none⟩,⟨some 36,.mv (.t 5),none⟩,⟨some 37,.call (.c (.fn 170 [])) [(.t 35),(.t 36)],none⟩,⟨some 6,.alloc [(.v (.int .i64 0)),(.v (.int .i64 0)),(.v (.int .i64 0)),(.v (.int .i64 0)),(.v .zsl)],none⟩,⟨none,.store 5 (.t 6) (.t 37),none⟩]) (.seq (.seq (.region [⟨some 38,.mv (.t 0),none⟩,⟨some 39,.nilck (.t 38),none⟩,⟨some 40,.faddr 1 (.t 39),none⟩,⟨some 41,.load none (.t 40),none⟩]) (.cond (.t 41) (.seq (.region [⟨some 42,.load (some 3) (.t 3),none⟩,⟨none,.store 3 (.t 2) (.t 42),none⟩]) .ret) .skip)) (.draw [⟨0,⟨some 43,.faddr 2 (.t 3),none⟩,[]⟩,⟨1,⟨some 44,.load none (.t 43),none⟩,[]⟩,⟨2,⟨some 45,.load (some 5) (.t 6),none⟩,[]⟩,⟨5,⟨some 48,.faddr 3 (.t 6),none⟩,[]⟩,⟨6,⟨some 49,.load none (.t 48),none⟩,[]⟩,⟨3,⟨some 46,.bslice 5 [(.v (.int .i64 0)),(.v (.int .i64 0)),(.v (.int .i64 0)),(.v (.int .i64 0)),(.v .zsl)] 1 [(0,(.t 45))],none⟩,[⟨some 43,.faddr 2 (.t 3),none⟩,⟨some 44,.load none (.t 43),none⟩,⟨some 48,.faddr 3 (.t 6),none⟩,⟨some 49,.load none (.t 48),none⟩]⟩,⟨4,⟨some 47,.append 5 56 (.t 44) (.t 46),none⟩,[⟨some 48,.faddr 3 (.t 6),none⟩,⟨some 49,.load none (.t 48),none⟩]⟩,⟨7,⟨some 50,.faddr 2 (.t 3),none⟩,[]⟩,⟨8,⟨none,.store 1 (.t 50) (.t 47),none⟩,[⟨some 48,.faddr 3 (.t 6),none⟩,⟨some 49,.load none (.t 48),none⟩]⟩,⟨9,⟨some 5,.mv (.t 49),none⟩,[]⟩])))) (.region [⟨some 51,.bin .add (.t 33) (.c (.v (.int .i64 1))),none⟩,⟨some 33,.mv (.t 51),none⟩]))))))) (.seq (.region [⟨some 52,.load (some 3) (.t 3),none⟩,⟨none,.store 3 (.t 2) (.t 52),none⟩]) .ret))))))⟩
theorem a_tproc_ok : cFunc Try.prog 112 = some a_tproc := by kernel_rfl
def r_tproc0 : List (Nat × Nat) := [(4, 4), (12, 30)]
def r_tproc1 : List (Nat × Nat) := [(5, 6), (33, 51)]

def prA (p : Pr) : AV := .agg [.v (.str p.name), .v (.isl 2 (p.vars.map eVr)), .v (.isl 5 (p.evs.map eEv))]
theorem takeV {i : Nat} {L : List Vr} (h : L.length = i) : List.take i (L.map eVr) = L.map eVr := List.take_of_length_le (by rw [List.length_map]; omega)
theorem catV {L : List Vr} {a : ByteArray} {c : Int} : vs (L.map eVr) ++ [[AV.v (.str a), AV.v (.int .i64 c)]] = vs ((L ++ [(⟨a, c⟩ : Vr)]).map eVr) := by unfold vs eVr; simp
theorem takeE {i : Nat} {L : List Ev} (h : L.length = i) : List.take i (L.map eEv) = L.map eEv := List.take_of_length_le (by rw [List.length_map]; omega)
theorem catE {L : List Ev} {e : Ev} : vs (L.map eEv) ++ [[AV.v (.int .i64 e.kind), AV.v (.int .i64 e.peer), AV.v (.int .i64 e.msg), AV.v (.int .i64 e.time), AV.v (.isl 2 (e.asg.map eAsg))]] = vs ((L ++ [e]).map eEv) := by unfold vs eEv; simp
theorem rdPr_eq (s : RS) : rdPr s = (⟨baOf (rdP0 s).1, (rdP2 s).1, (rdP4 s).1⟩, (rdP4 s).2) := by
 unfold rdPr
 split
 ·rename_i h
  have h4 : rdP4 s = ([], (rdP2 s).2) := by
   unfold rdP4 rdP3
   rw [rdCnt_bad h]
   rfl
  rw [h4]
 ·rfl
theorem rdEv_time {last : Int} {s : RS} : last - 1125899906842624 ≤ (rdEv last s).1.time ∧ (rdEv last s).1.time ≤ last + 1125899906842624 := by
 have h := rdNum_far (s := (rd3 s).2)
 show last - 1125899906842624 ≤ last + (rd4 s).1 ∧ last + (rd4 s).1 ≤ last + 1125899906842624
 unfold rd4
 omega
theorem rdEv_len {last : Int} {s : RS} : (rdEv last s).2.1.length ≤ s.1.length := by
 have h1 := rdNum_len (s := s)
 have h2 := rdNum_len (s := (rd1 s).2)
 have h3 := rdNum_len (s := (rd2 s).2)
 have h4 := rdNum_len (s := (rd3 s).2)
 have h5 := rdCnt_len (s := (rd4 s).2)
 have key : ∀ (f : List Asg → RS → Asg × RS), (∀ l q, (f l q).2.1.length ≤ q.1.length) → ∀ n q, (rdRep f n q).2.1.length ≤ q.1.length := fun f hf n q => by
  induction n with
  | zero => exact Nat.le_refl _
  | succ n ih =>
    rw [rdRep]
    split
    ·exact ih
    split
    ·exact Nat.le_trans (hf _ _) ih
    ·exact Nat.le_trans (hf _ _) ih
 have h6 := key (fun _ => rdAsg) (fun l q => Nat.le_trans (rdNum_len (s := (rdNum q).2)) (rdNum_len (s := q))) (rd5 s).1 (rd5 s).2
 show (rdRep (fun _ => rdAsg) (rd5 s).1 (rd5 s).2).2.1.length ≤ s.1.length
 unfold rd5 rd4 rd3 rd2 rd1 at *
 omega
theorem rdEv_use {last : Int} {s : RS} {e : Ev} {r : List UInt8} (h : rdEv last s = (e, (r, false))) : r.length + 4 ≤ s.1.length := by
 obtain ⟨_, h2⟩ := rdEv_canon h
 rw [h2, List.length_append]
 unfold bodyEv
 simp only [List.length_append]
 have h3 := putL_pos e.kind
 have h4 := putL_pos e.peer
 have h5 := putL_pos e.msg
 have h6 := putL_pos (e.time - last)
 omega
def evF (l : List Ev) (s : RS) : Ev × RS := rdEv (lastE l) s
set_option maxRecDepth 20000 in
set_option maxHeartbeats 16000000 in
theorem proc_run (id : Nat) (s : RS) (hl : s.1.length ≤ 16384) (b l : List Row) (hg : hget b l id = some (rRow s)) :
  ACalls Try.prog 112 [.ptr id 0 0 0] b l (fun r b' l' => r = prA (rdPr s).1 ∧ b' = hsetB b id (rRow (rdPr s).2) ∧ l' = hsetL b l id (rRow (rdPr s).2)) := by
 refine calls_kept a_tproc_ok rfl (by decide) ?_
 intro B g hB hR hE hA
 simp only [KArgs] at hA
 have hBi : B[id]? = some (rRow s) := by rw [hB, ← hget_eq]; exact hg
 have hidB : id < B.length := (List.getElem?_eq_some_iff.1 hBi).1
 have hgB := hgetLo hBi
 obtain ⟨gS, sB, sL, sB0, sL0, sN⟩ := low_facts hidB
 obtain ⟨gN, gN0, bN, bN0, lN, lN0⟩ := low_facts2 B id
 obtain ⟨⟨nm, s1⟩, h1⟩ : ∃ z, rdName s = z := ⟨_, rfl⟩
 obtain ⟨⟨n1, s2⟩, h2⟩ : ∃ z, rdCnt s1 = z := ⟨_, rfl⟩
 have l1 := rdName_len (s := s)
 have l2 := rdCnt_len (s := s1)
 have lc := rdCnt_le (s := s1)
 have cp := rdCnt_pos (s := s1)
 rw [h1] at l1
 rw [h2] at l2 lc cp
 simp only at l1 l2 lc cp
 have c1 := fun b l h => nam_run id s oM b l h
 have c2 := fun b l h => cnt_run id s1 oM b l h
 simp only [h1] at c1
 simp only [h2] at c2
 have e0 : rdP0 s = (nm, s1) := h1
 have e1 : rdP1 s = (n1, s2) := by unfold rdP1; rw [e0]; exact h2
 have e2 : rdP2 s = rdRep (fun _ => rdVr) n1 s2 := by unfold rdP2; rw [e1]
 simp (disch := (first | decide | omega)) only [a_tproc, hA, go_sem]
 refine ACalls.nxt (c1 _ _ (hgB _)) ?_
 simp (disch := (first | decide | omega)) only [hA, sN, gN, gN0, bN, bN0, lN, lN0, sB0, sL0, sB, sL, gS, setFrom, cellsOf, go_sem]
 refine ACalls.nxt (c2 _ _ (gS _ _)) ?_
 simp (disch := (first | decide | omega)) only [hA, sN, gN, gN0, bN, bN0, lN, lN0, sB0, sL0, sB, sL, gS, setFrom, cellsOf, go_sem]
 refine loop_keptB (ι := Nat) r_tproc0 (fun i => [(12, .v (.int .i64 i))]) 3 (fun i => B.set id (rRow (rdRep (fun _ => rdVr) i s2).2)) (fun i => [.live 0 3 [[.v (.str ⟨#[]⟩), .v .zsl, .v .zsl]], .live 0 3 [[.v (.str (baOf nm)), .sl (B.length + 2) i 0 i, .v .zsl]], .live i 2 (vs ((rdRep (fun _ => rdVr) i s2).1.map eVr))])
  (fun i => i ≤ n1 ∧ (rdRep (fun _ => rdVr) i s2).1.length = i ∧ (i < n1 → (rdRep (fun _ => rdVr) i s2).2.2 = false) ∧ (rdRep (fun _ => rdVr) i s2).2.1.length ≤ s2.1.length) (fun i => n1 - i) 0 ⟨Nat.zero_le _, rfl, cp, Nat.le_refl _⟩ (by rw [sN]; (repeat (first | exact hE.mono oM | refine KLt.up ?_ kL))) (by ((try simp (disch := decide) only [hA, go_sem]) <;> exact kH)) rfl (fun e => ?_) ?_
 ·have h := Weak.nilcell (e := e) (b := B.set id (rRow s2)) (l := [.live 0 3 [[.v (.str ⟨#[]⟩), .v .zsl, .v .zsl]], .live 0 3 [[.v (.str (baOf nm)), .v .zsl, .v .zsl]]]) (i := 1) (k := 0) (j := 1) (sz := 2) rfl rfl rfl
  rw [sN] at h
  exact h
 intro g1 hE1 hEE1 hg1 i hi
 obtain ⟨i1, i2, i3, i4⟩ := hi
 obtain ⟨⟨L, S⟩, hLS⟩ : ∃ z, rdRep (fun _ => rdVr) i s2 = z := ⟨_, rfl⟩
 rw [hLS] at i2 i3 i4
 simp only at i2 i3 i4
 simp only [hLS]
 by_cases hin : i < n1
 ·have hgd := i3 hin
  have ho := rdRep_one hLS hgd
  obtain ⟨⟨x1, S1⟩, ha1⟩ : ∃ z, rdName S = z := ⟨_, rfl⟩
  obtain ⟨⟨a2, y2, w2⟩, ha2⟩ : ∃ z, rdNum S1 = z := ⟨_, rfl⟩
  have hf : rdVr S = (⟨baOf x1, a2⟩, (y2, w2)) := by unfold rdVr; rw [ha1]; simp only; rw [ha2]
  rw [hf] at ho
  simp only at ho
  have l6 := rdName_len (s := S)
  have l7 := rdNum_len (s := S1)
  rw [ha1] at l6
  rw [ha2] at l7
  simp only at l6 l7
  have c6 := fun b l h => nam_run id S oM b l h
  have c7 := fun b l h => num_run id S1 oM b l h
  simp only [ha1] at c6
  simp only [ha2] at c7
  simp (disch := (first | decide | omega)) only [hA, hg1, go_sem]
  refine ACalls.nxt (c6 _ _ (gS _ _)) ?_
  simp (disch := (first | decide | omega)) only [hA, hg1, sN, gN, gN0, bN, bN0, lN, lN0, sB0, sL0, sB, sL, gS, go_sem]
  refine ACalls.nxt (c7 _ _ (gS _ _)) ?_
  cases w2 with
  | true =>
    rw [if_pos rfl] at ho
    have hst := rdRep_stop (f := fun _ => rdVr) (s := s2) (i := i + 1) (n := n1) (by rw [ho]) oM
    have hres : rdPr s = (⟨baOf nm, L, []⟩, (y2, true)) := by
     unfold rdPr
     rw [e2, hst, ho, e0, if_pos rfl]
    rw [hres]
    simp (disch := (first | decide | omega)) only [hA, hg1, sN, gN, gN0, bN, bN0, lN, lN0, sB0, sL0, sB, sL, gS, setFrom, cellsOf, rRow, go_sem]
    exact leave_lowD (R := rRow (y2, true)) (xs := [.agg [.v (.str (baOf nm)), .sl (B.length + 2) i 0 i, .v .zsl]]) (.inr rfl) hB (by simp (disch := (first | decide | omega)) only [resVs, resV, hA, hg1, gN, gN0, go_sem]) (by rw [sN]; exact Dv.aggL (.cons (.v _) (.cons (Dv.slV (i := 2) rfl (by simp [i2])) (.cons (.z 5) .nil)))) hR.rset
  | false =>
    rw [if_neg (by decide)] at ho
    have htk := takeV i2
    have hct := catV (L := L) (a := baOf x1) (c := a2)
    simp (disch := (first | decide | omega)) only [hA, hg1, sN, gN, gN0, bN, bN0, lN, lN0, sB0, sL0, sB, sL, gS, setFrom, cellsOf, rRow, htk, hct, List.length_map, List.replicate_succ, List.replicate_zero, i2, go_sem]
    refine ⟨i + 1, ⟨hin, by rw [ho]; simp [i2], fun _ => by rw [ho], by rw [ho]; simp only; omega⟩, by simp only; omega, ?_⟩
    simp only [ho]
    exact Weak.kround (p := r_tproc0) (k := 3) (b := B.set id (rRow (y2, false))) (by ((repeat refine (kAny_up rfl).trans ?_); exact hEE1)) (by ((try simp (disch := decide) only [hA, go_sem]) <;> exact kH)) rfl (by rw [sN]; rw [sN] at hE1; exact hE1) (by simp) (by rw [sN]; simp (disch := omega) only [KOvLt, lts.down, Nat.reduceLT, Nat.reduceAdd]) hR.rset (by rw [sN]; simp (disch := omega) only [lts.down, Nat.reduceLT, Nat.reduceAdd])
 ·obtain rfl : n1 = i := by omega
  obtain ⟨⟨n2, s6⟩, h6⟩ : ∃ z, rdCnt S = z := ⟨_, rfl⟩
  have l6 := rdCnt_len (s := S)
  have cp6 := rdCnt_pos (s := S)
  rw [h6] at l6 cp6
  simp only at l6 cp6
  have c6 := fun b l h => cnt_run id S oM b l h
  simp only [h6] at c6
  have hres : rdPr s = (⟨baOf nm, L, (rdRep evF n2 s6).1⟩, (rdRep evF n2 s6).2) := by
   have e3 : rdP3 s = (n2, s6) := by unfold rdP3; rw [e2, hLS]; exact h6
   rw [rdPr_eq, e0, e2, hLS]
   unfold rdP4
   rw [e3]
   rfl
  rw [hres]
  simp (disch := (first | decide | omega)) only [hA, hg1, sN, gN, gN0, bN, bN0, lN, lN0, sB0, sL0, sB, sL, gS, go_sem]
  refine ACalls.nxt (c6 _ _ (gS _ _)) ?_
  simp (disch := (first | decide | omega)) only [hA, hg1, sN, gN, gN0, bN, bN0, lN, lN0, sB0, sL0, sB, sL, gS, go_sem]
  refine loop_keptB (ι := Nat) r_tproc1 (fun i => [(5, .v (.int .i64 (lastE (rdRep evF i s6).1))), (33, .v (.int .i64 i))]) 4 (fun i => B.set id (rRow (rdRep evF i s6).2)) (fun i => [.live 0 3 [[.v (.str ⟨#[]⟩), .v .zsl, .v .zsl]], .live 0 3 [[.v (.str (baOf nm)), .sl (B.length + 2) n1 0 n1, .sl (B.length + 3) i 0 i]], .live n1 2 (vs (L.map eVr)), .live i 5 (vs ((rdRep evF i s6).1.map eEv))])
   (fun i => i ≤ n2 ∧ (rdRep evF i s6).1.length = i ∧ (i < n2 → (rdRep evF i s6).2.2 = false) ∧ ((rdRep evF i s6).2.2 = false → (rdRep evF i s6).2.1.length + 4 * i ≤ s6.1.length) ∧ (rdRep evF i s6).2.1.length ≤ s6.1.length ∧ -(1125899906842624 * (i : Int)) ≤ lastE (rdRep evF i s6).1 ∧ lastE (rdRep evF i s6).1 ≤ 1125899906842624 * (i : Int)) (fun i => n2 - i) 0
   ⟨Nat.zero_le _, rfl, cp6, fun _ => Nat.le_refl _, Nat.le_refl _, by show -(1125899906842624 * ((0 : Nat) : Int)) ≤ 0; omega, by show (0 : Int) ≤ 1125899906842624 * ((0 : Nat) : Int); omega⟩ (by rw [sN]; rw [sN] at hE1; (repeat (first | exact hE1.mono oM | refine KLt.up ?_ kL))) (by ((try simp (disch := decide) only [hA, hg1, go_sem]) <;> exact kH)) rfl (fun e => ?_) ?_
  ·have h := Weak.nilcell (e := e) (b := B.set id (rRow s6)) (l := [.live 0 3 [[.v (.str ⟨#[]⟩), .v .zsl, .v .zsl]], .live 0 3 [[.v (.str (baOf nm)), .sl (B.length + 2) n1 0 n1, .v .zsl]], .live n1 2 (vs (L.map eVr))]) (i := 1) (k := 0) (j := 2) (sz := 5) rfl rfl rfl
   rw [sN] at h
   exact h
  intro g2 hE2 hEE2 hg2 j hj
  obtain ⟨j1, j2, j3, j4, j5, j6, j7⟩ := hj
  obtain ⟨⟨M, T⟩, hMT⟩ : ∃ z, rdRep evF j s6 = z := ⟨_, rfl⟩
  rw [hMT] at j2 j3 j4 j5 j6 j7
  simp only at j2 j3 j4 j5 j6 j7
  simp only [hMT]
  by_cases hjn : j < n2
  ·have hgd := j3 hjn
   have j4 := j4 hgd
   have ho := rdRep_one hMT hgd
   obtain ⟨la, hla⟩ : ∃ z, lastE M = z := ⟨_, rfl⟩
   rw [hla] at j6 j7
   obtain ⟨⟨e, y2, w2⟩, he⟩ : ∃ z, rdEv la T = z := ⟨_, rfl⟩
   have hf : evF M T = (e, (y2, w2)) := by unfold evF; rw [hla]; exact he
   rw [hf] at ho
   simp only at ho
   have ht := rdEv_time (last := la) (s := T)
   have hul := rdEv_len (last := la) (s := T)
   have hus : w2 = false → y2.length + 4 ≤ T.1.length := fun h => rdEv_use (e := e) (r := y2) (by rw [he, h])
   rw [he] at ht hul
   simp only at ht hul
   have c7 := fun b l h => evt_run id T oM la oM b l h
   simp only [he] at c7
   simp (disch := (first | decide | omega)) only [hA, hg1, hg2, hla, go_sem]
   refine ACalls.nxt (c7 _ _ (gS _ _)) ?_
   cases w2 with
   | true =>
     rw [if_pos rfl] at ho
     have hst := rdRep_stop (f := evF) (s := s6) (i := j + 1) (n := n2) (by rw [ho]) oM
     rw [hst, ho]
     simp (disch := (first | decide | omega)) only [hA, hg1, hg2, sN, gN, gN0, bN, bN0, lN, lN0, sB0, sL0, sB, sL, gS, setFrom, cellsOf, rRow, evA, go_sem]
     exact leave_lowD (R := rRow (y2, true)) (xs := [.agg [.v (.str (baOf nm)), .sl (B.length + 2) n1 0 n1, .sl (B.length + 3) j 0 j]]) (.inr rfl) hB (by simp (disch := (first | decide | omega)) only [resVs, resV, hA, hg1, hg2, gN, gN0, go_sem]) (by rw [sN]; exact Dv.aggL (.cons (.v _) (.cons (Dv.slV (i := 2) rfl (by simp [i2])) (.cons (Dv.slV (i := 3) rfl (by simp [j2])) .nil)))) hR.rset
   | false =>
     rw [if_neg (by decide)] at ho
     have hus := hus rfl
     have htk := takeE j2
     have hct := catE (L := M) (e := e)
     have hls : lastE (M ++ [e]) = e.time := lastE_snoc M e
     simp (disch := (first | decide | omega)) only [hA, hg1, hg2, sN, gN, gN0, bN, bN0, lN, lN0, sB0, sL0, sB, sL, gS, setFrom, cellsOf, rRow, evA, htk, hct, List.length_map, List.replicate_succ, List.replicate_zero, j2, go_sem]
     refine ⟨j + 1, ⟨hjn, by rw [ho]; simp [j2], fun _ => by rw [ho], fun _ => by rw [ho]; simp only; omega, by rw [ho]; simp only; omega, by rw [ho]; simp only [hls]; omega, by rw [ho]; simp only [hls]; omega⟩, by simp only; omega, ?_⟩
     simp only [ho, hls]
     exact Weak.kround (p := r_tproc1) (k := 4) (b := B.set id (rRow (y2, false))) (by ((repeat refine (kAny_up rfl).trans ?_); exact hEE2)) (by ((try simp (disch := decide) only [hA, hg1, hg2, go_sem]) <;> exact kH)) rfl (by rw [sN]; rw [sN] at hE2; exact hE2) (by simp) (by rw [sN]; simp (disch := omega) only [KOvLt, lts.down, Nat.reduceLT, Nat.reduceAdd]) hR.rset (by rw [sN]; simp (disch := omega) only [lts.down, Nat.reduceLT, Nat.reduceAdd])
  ·obtain rfl : j = n2 := by omega
   rw [hMT]
   obtain ⟨y2, w2⟩ := T
   simp (disch := (first | decide | omega)) only [hA, hg1, hg2, sN, gN, gN0, bN, bN0, lN, lN0, sB0, sL0, sB, sL, gS, setFrom, cellsOf, go_sem]
   exact leave_lowD (R := rRow (y2, w2)) (xs := [.agg [.v (.str (baOf nm)), .sl (B.length + 2) n1 0 n1, .sl (B.length + 3) j 0 j]]) (.inr rfl) hB (by simp (disch := (first | decide | omega)) only [resVs, resV, hA, hg1, hg2, gN, gN0, go_sem]) (by rw [sN]; exact Dv.aggL (.cons (.v _) (.cons (Dv.slV (i := 2) rfl (by simp [i2])) (.cons (Dv.slV (i := 3) rfl (by simp [j2])) .nil)))) hR.rset
def a_rtproc : AFunc := ⟨1,65,[.cell 2 (some 3)],(.seq (.region [⟨some 2,.alloc [(.v (.str ⟨#[]⟩)),(.v .zsl),(.v .zsl)],none⟩]) (.seq (.region [⟨some 10,.mv (.t 0),none⟩,⟨some 11,.call (.c (.fn 172 [])) [(.t 10)],none⟩,⟨some 12,.build [(.v (.str ⟨#[]⟩)),(.v .zsl),(.v .zsl)] [(0,1,(.t 11))],none⟩,⟨some 3,.alloc [(.v (.str ⟨#[]⟩)),(.v .zsl),(.v .zsl)],none⟩,⟨none,.store 3 (.t 3) (.t 12),none⟩]) (.seq (.region [⟨some 13,.mv (.t 0),none⟩,⟨some 14,.call (.c (.fn 114 [])) [(.t 13)],none⟩,⟨some 4,.mv (.t 14),none⟩]) (.seq (.seq (.region [⟨some 5,.mv (.c (.v (.int .i64 0))),none⟩]) (.block 0 (.loop (.seq (.seq (.region [⟨some 15,.mv (.t 5),none⟩,⟨some 16,.mv (.t 4),none⟩,⟨some 17,.bin .lss (.t 15) (.t 16),none⟩,⟨some 18,.mv (.t 17),none⟩,⟨some 19,.mv (.t 0),some (18,true)⟩,⟨some 20,.nilck (.t 19),some (18,true)⟩,⟨some 21,.faddr 1 (.t 20),some (18,true)⟩,⟨some 22,.load none (.t 21),some (18,true)⟩,⟨some 23,.not (.t 22),some (18,true)⟩,⟨some 24,.pick (.t 18) (.t 23) (.c (.v (.bool false))),none⟩]) (.cond (.t 24) .skip (.exit 0))) (.seq (.block 1 (.seq (.region [⟨some 27,.mv (.t 0),none⟩,⟨some 28,.call (.c (.fn 172 [])) [(.t 27)],none⟩,⟨some 29,.build [(.v (.str ⟨#[]⟩)),(.v (.int .i64 0))] [(0,1,(.t 28))],none⟩,⟨some 6,.alloc [(.v (.str ⟨#[]⟩)),(.v (.int .i64 0))],none⟩,⟨none,.store 2 (.t 6) (.t 29),none⟩]) (.seq (.region [⟨some 30,.mv (.t 0),none⟩,⟨some 31,.call (.c (.fn 171 [])) [(.t 30)],none⟩,⟨some 32,.faddr 1 (.t 6),none⟩,⟨none,.store 1 (.t 32) (.t 31),none⟩]) (.region [⟨some 33,.faddr 1 (.t 3),none⟩,⟨some 34,.load none (.t 33),none⟩,⟨some 35,.load (some 2) (.t 6),none⟩,⟨some 36,.bslice 2 [(.v (.str ⟨#[]⟩)),(.v (.int .i64 0))] 1 [(0,(.t 35))],none⟩,⟨some 37,.append 2 24 (.t 34) (.t 36),none⟩,⟨some 38,.faddr 1 (.t 3),none⟩,⟨none,.store 1 (.t 38) (.t 37),none⟩])))) (.region [⟨some 25,.mv (.t 5),none⟩,⟨some 26,.bin .add (.t 25) (.c (.v (.int .i64 1))),none⟩,⟨some 5,.mv (.t 26),none⟩])))))) (.seq (.region [⟨some 39,.mv (.t 0),none⟩,⟨some 40,.call (.c (.fn 114 [])) [(.t 39)],none⟩,⟨some 4,.mv (.t 40),none⟩]) (.seq (.region [⟨some 7,.mv (.c (.v (.int .i64 0))),none⟩]) (.seq (.seq (.region [⟨some 8,.mv (.c (.v (.int .i64 0))),none⟩]) (.block 2 (.loop (.seq (.seq (.region [⟨some 41,.mv (.t 8),none⟩,⟨some 42,.mv (.t 4),none⟩,⟨some 43,.bin .lss (.t 41) (.t 42),none⟩,⟨some 44,.mv (.t 43),none⟩,⟨some 45,.mv (.t 0),some (44,true)⟩,⟨some 46,.nilck (.t 45),some (44,true)⟩,⟨some 47,.faddr 1 (.t 46),some (44,true)⟩,⟨some 48,.load none (.t 47),some (44,true)⟩,⟨some 49,.not (.t 48),some (44,true)⟩,⟨some 50,.pick (.t 44) (.t 49) (.c (.v (.bool false))),none⟩]) (.cond (.t 50) .skip (.exit 2))) (.seq (.block 3 (.seq (.region [⟨some 53,.mv (.t 0),none⟩,⟨some 54,.mv (.t 7),none⟩,⟨some 55,.call (.c (.fn 173 [])) [(.t 53),(.t 54)],none⟩,⟨some 9,.alloc [(.v (.int .i64 0)),(.v (.int .i64 0)),(.v (.int .i64 0)),(.v (.int .i64 0)),(.v .zsl)],none⟩,⟨none,.store 5 (.t 9) (.t 55),none⟩]) (.seq (.region [⟨some 56,.faddr 3 (.t 9),none⟩,⟨some 57,.load none (.t 56),none⟩,⟨some 7,.mv (.t 57),none⟩]) (.region [⟨some 58,.faddr 2 (.t 3),none⟩,⟨some 59,.load none (.t 58),none⟩,⟨some 60,.load (some 5) (.t 9),none⟩,⟨some 61,.bslice 5 [(.v (.int .i64 0)),(.v (.int .i64 0)),(.v (.int .i64 0)),(.v (.int .i64 0)),(.v .zsl)] 1 [(0,(.t 60))],none⟩,⟨some 62,.append 5 56 (.t 59) (.t 61),none⟩,⟨some 63,.faddr 2 (.t 3),none⟩,⟨none,.store 1 (.t 63) (.t 62),none⟩])))) (.region [⟨some 51,.mv (.t 8),none⟩,⟨some 52,.bin .add (.t 51) (.c (.v (.int .i64 1))),none⟩,⟨some 8,.mv (.t 52),none⟩])))))) (.seq (.region [⟨some 64,.load (some 3) (.t 3),none⟩,⟨none,.store 3 (.t 2) (.t 64),none⟩]) .ret))))))))⟩
theorem a_rtproc_ok : cFunc Try.prog 115 = some a_rtproc := by kernel_rfl
def r_rtproc0 : List (Nat × Nat) := [(5, 6), (15, 38)]
def r_rtproc1 : List (Nat × Nat) := [(7, 9), (41, 63)]

theorem rdEvR_st {last : Int} {s : RS} : (rdEvR last s).2 = (rdEv last s).2 := (ev_alike last s).1.symm
theorem rdEvR_time {last : Int} {s : RS} : last - 1125899906842624 ≤ (rdEvR last s).1.time ∧ (rdEvR last s).1.time ≤ last + 1125899906842624 := rdEv_time (last := last) (s := s)
theorem rdEvR_len {last : Int} {s : RS} : (rdEvR last s).2.1.length ≤ s.1.length := by rw [rdEvR_st]; exact rdEv_len
theorem rdEvR_use {last : Int} {s : RS} (h : (rdEvR last s).2.2 = false) : (rdEvR last s).2.1.length + 4 ≤ s.1.length := by
 rw [rdEvR_st] at h ⊢
 exact rdEv_use (last := last) (e := (rdEv last s).1) (r := (rdEv last s).2.1) (Prod.ext rfl (Prod.ext rfl h))
def evFR (l : List Ev) (s : RS) : Ev × RS := rdEvR (lastE l) s
set_option maxRecDepth 20000 in
set_option maxHeartbeats 16000000 in
theorem rproc_run (id : Nat) (s : RS) (hl : s.1.length ≤ 16384) (b l : List Row) (hg : hget b l id = some (rRow s)) :
  ACalls Try.prog 115 [.ptr id 0 0 0] b l (fun r b' l' => r = prA (rdPrR s).1 ∧ b' = hsetB b id (rRow (rdPrR s).2) ∧ l' = hsetL b l id (rRow (rdPrR s).2)) := by
 refine calls_kept a_rtproc_ok rfl (by decide) ?_
 intro B g hB hR hE hA
 simp only [KArgs] at hA
 have hBi : B[id]? = some (rRow s) := by rw [hB, ← hget_eq]; exact hg
 have hidB : id < B.length := (List.getElem?_eq_some_iff.1 hBi).1
 have hgB := hgetLo hBi
 obtain ⟨gS, sB, sL, sB0, sL0, sN⟩ := low_facts hidB
 obtain ⟨gN, gN0, bN, bN0, lN, lN0⟩ := low_facts2 B id
 have gS0 : ∀ (q : RS) l', hget (B.set id (.live 0 2 [[.v (.isl 1 (q.1.map eB)), .v (.bool q.2)]])) l' id = some (rRow q) := fun q l' => gS _ _
 obtain ⟨⟨nm, s1⟩, h1⟩ : ∃ z, rdName s = z := ⟨_, rfl⟩
 obtain ⟨⟨n1, s2⟩, h2⟩ : ∃ z, rdCnt s1 = z := ⟨_, rfl⟩
 have l1 := rdName_len (s := s)
 have l2 := rdCnt_len (s := s1)
 have lc := rdCnt_le (s := s1)
 rw [h1] at l1
 rw [h2] at l2 lc
 simp only at l1 l2 lc
 have c1 := fun b l h => rnam_run id s oM b l h
 have c2 := fun b l h => rcnt_run id s1 oM b l h
 simp only [h1] at c1
 simp only [h2] at c2
 have e0 : rdP0 s = (nm, s1) := h1
 have e1 : rdP1 s = (n1, s2) := by unfold rdP1; rw [e0]; exact h2
 have e2 : rdQ2 s = rdRepR (fun _ => rdVr) n1 s2 := by unfold rdQ2; rw [e1]
 obtain ⟨⟨VL, S⟩, hVS⟩ : ∃ z, rdRepR (fun _ => rdVr) n1 s2 = z := ⟨_, rfl⟩
 obtain ⟨⟨n2, s6⟩, h6⟩ : ∃ z, rdCnt S = z := ⟨_, rfl⟩
 have hres : rdPrR s = (⟨baOf nm, VL, (rdRepR evFR n2 s6).1⟩, (rdRepR evFR n2 s6).2) := by
  have e3 : rdQ3 s = (n2, s6) := by unfold rdQ3; rw [e2, hVS]; exact h6
  unfold rdPrR rdQ4
  rw [e0, e2, hVS, e3]
  rfl
 rw [hres]
 simp (disch := (first | decide | omega)) only [a_rtproc, hA, go_sem]
 refine ACalls.nxt (c1 _ _ (hgB _)) ?_
 simp (disch := (first | decide | omega)) only [hA, sN, gN, gN0, bN, bN0, lN, lN0, sB0, sL0, sB, sL, gS, setFrom, cellsOf, go_sem]
 refine ACalls.nxt (c2 _ _ (gS _ _)) ?_
 simp (disch := (first | decide | omega)) only [hA, sN, gN, gN0, bN, bN0, lN, lN0, sB0, sL0, sB, sL, gS, setFrom, cellsOf, go_sem]
 refine loop_keptB (ι := Nat) r_rtproc0 (fun i => [(5, .v (.int .i64 i))]) 3 (fun i => B.set id (rRow (rdRepR (fun _ => rdVr) i s2).2)) (fun i => [.live 0 3 [[.v (.str ⟨#[]⟩), .v .zsl, .v .zsl]], .live 0 3 [[.v (.str (baOf nm)), .sl (B.length + 2) i 0 i, .v .zsl]], .live i 2 (vs ((rdRepR (fun _ => rdVr) i s2).1.map eVr))])
  (fun i => i ≤ n1 ∧ (rdRepR (fun _ => rdVr) i s2).1.length = i ∧ (rdRepR (fun _ => rdVr) i s2).2.1.length ≤ s2.1.length) (fun i => n1 - i) 0 ⟨Nat.zero_le _, rfl, Nat.le_refl _⟩ (by rw [sN]; (repeat (first | exact hE.mono oM | refine KLt.up ?_ kL))) (by ((try simp (disch := decide) only [hA, go_sem]) <;> exact kH)) rfl (fun e => ?_) ?_
 ·have h := Weak.nilcell (e := e) (b := B.set id (rRow s2)) (l := [.live 0 3 [[.v (.str ⟨#[]⟩), .v .zsl, .v .zsl]], .live 0 3 [[.v (.str (baOf nm)), .v .zsl, .v .zsl]]]) (i := 1) (k := 0) (j := 1) (sz := 2) rfl rfl rfl
  rw [sN] at h
  exact h
 intro g1 hE1 hEE1 hg1 i hi
 obtain ⟨i1, i2, i4⟩ := hi
 obtain ⟨⟨L, y, w⟩, hLS⟩ : ∃ z, rdRepR (fun _ => rdVr) i s2 = z := ⟨_, rfl⟩
 rw [hLS] at i2 i4
 simp only at i2 i4
 simp only [hLS]
 by_cases hin : i < n1 ∧ w = false
 ·obtain ⟨hin, rfl⟩ := hin
  have ho := rdRepR_one hLS rfl
  obtain ⟨⟨x1, S1⟩, ha1⟩ : ∃ z, rdName (y, false) = z := ⟨_, rfl⟩
  obtain ⟨⟨a2, y2, w2⟩, ha2⟩ : ∃ z, rdNum S1 = z := ⟨_, rfl⟩
  have hf : rdVr (y, false) = (⟨baOf x1, a2⟩, (y2, w2)) := by unfold rdVr; rw [ha1]; simp only; rw [ha2]
  rw [hf] at ho
  simp only at ho
  have l6 := rdName_len (s := (y, false))
  have l7 := rdNum_len (s := S1)
  rw [ha1] at l6
  rw [ha2] at l7
  simp only at l6 l7
  have c6 := fun b l h => rnam_run id (y, false) (by simp only; omega) b l h
  have c7 := fun b l h => rnum_run id S1 oM b l h
  simp only [ha1] at c6
  simp only [ha2] at c7
  simp (disch := (first | decide | omega)) only [hA, hg1, sN, gN, gN0, bN, bN0, lN, lN0, sB0, sL0, sB, sL, gS, rRow, go_sem]
  refine ACalls.nxt (c6 _ _ (gS0 (y, false) _)) ?_
  simp (disch := (first | decide | omega)) only [hA, hg1, sN, gN, gN0, bN, bN0, lN, lN0, sB0, sL0, sB, sL, gS, setFrom, cellsOf, go_sem]
  refine ACalls.nxt (c7 _ _ (gS _ _)) ?_
  have htk := takeV i2
  have hct := catV (L := L) (a := baOf x1) (c := a2)
  simp (disch := (first | decide | omega)) only [hA, hg1, sN, gN, gN0, bN, bN0, lN, lN0, sB0, sL0, sB, sL, gS, setFrom, cellsOf, rRow, htk, hct, List.length_map, List.replicate_succ, List.replicate_zero, i2, go_sem]
  refine ⟨i + 1, ⟨hin, by rw [ho]; simp [i2], by rw [ho]; simp only; omega⟩, by simp only; omega, ?_⟩
  simp only [ho]
  exact Weak.kround (p := r_rtproc0) (k := 3) (b := B.set id (rRow (y2, w2))) (by ((repeat refine (kAny_up rfl).trans ?_); exact hEE1)) (by ((try simp (disch := decide) only [hA, go_sem]) <;> exact kH)) rfl (by rw [sN]; rw [sN] at hE1; exact hE1) (by simp) (by rw [sN]; simp (disch := omega) only [KOvLt, lts.down, Nat.reduceLT, Nat.reduceAdd]) hR.rset (by rw [sN]; simp (disch := omega) only [lts.down, Nat.reduceLT, Nat.reduceAdd])
 ·have hLV : VL = L ∧ S = (y, w) := by
   by_cases hlt : i < n1
   ·have hw : w = true := by cases w with | true => rfl | false => exact absurd ⟨hlt, rfl⟩ hin
    have hst := rdRepR_stop (f := fun _ => rdVr) (s := s2) (i := i) (n := n1) (by rw [hLS]; exact hw) oM
    rw [hVS, hLS] at hst
    cases hst; exact ⟨rfl, rfl⟩
   ·obtain rfl : n1 = i := by omega
    rw [hVS] at hLS
    cases hLS; exact ⟨rfl, rfl⟩
  obtain ⟨rfl, rfl⟩ := hLV
  have hgd : (decide ((i : Int) < (n1 : Int)) && !w) = false := by
   by_cases hlt : i < n1
   ·have hw : w = true := by cases w with | true => rfl | false => exact absurd ⟨hlt, rfl⟩ hin
    simp [hw]
   ·rw [decide_eq_false oM]; rfl
  have l6 := rdCnt_len (s := (y, w))
  rw [h6] at l6
  simp only at l6
  have c6 := fun b l h => rcnt_run id (y, w) (by simp only; omega) b l h
  simp only [h6] at c6
  have hfork : (decide ((i : Int) < (n1 : Int)) = false) ∨ (decide ((i : Int) < (n1 : Int)) = true ∧ w = true) := by
   cases hd : decide ((i : Int) < (n1 : Int)) with
   | false => exact .inl rfl
   | true => rw [hd] at hgd; cases w with | true => exact .inr ⟨rfl, rfl⟩ | false => cases hgd
  rcases hfork with hd | ⟨hd, hw⟩
  case' inl => simp (disch := (first | decide | omega)) only [hA, hg1, sN, gN, gN0, bN, bN0, lN, lN0, sB0, sL0, sB, sL, gS, rRow, hd, go_sem]
  case' inr =>
   subst hw
   simp (disch := (first | decide | omega)) only [hA, hg1, sN, gN, gN0, bN, bN0, lN, lN0, sB0, sL0, sB, sL, gS, rRow, hd, go_sem]
  all_goals
   refine ACalls.nxt (c6 _ _ (by first | exact gS0 (y, w) _ | exact gS0 (y, true) _)) ?_
   simp (disch := (first | decide | omega)) only [hA, hg1, sN, gN, gN0, bN, bN0, lN, lN0, sB0, sL0, sB, sL, gS, go_sem]
   refine loop_keptB (ι := Nat) r_rtproc1 (fun i => [(7, .v (.int .i64 (lastE (rdRepR evFR i s6).1))), (8, .v (.int .i64 i))]) 4 (fun i => B.set id (rRow (rdRepR evFR i s6).2)) (fun j => [.live 0 3 [[.v (.str ⟨#[]⟩), .v .zsl, .v .zsl]], .live 0 3 [[.v (.str (baOf nm)), .sl (B.length + 2) i 0 i, .sl (B.length + 3) j 0 j]], .live i 2 (vs (VL.map eVr)), .live j 5 (vs ((rdRepR evFR j s6).1.map eEv))])
    (fun i => i ≤ n2 ∧ (rdRepR evFR i s6).1.length = i ∧ ((rdRepR evFR i s6).2.2 = false → (rdRepR evFR i s6).2.1.length + 4 * i ≤ s6.1.length ∧ -(1125899906842624 * (i : Int)) ≤ lastE (rdRepR evFR i s6).1 ∧ lastE (rdRepR evFR i s6).1 ≤ 1125899906842624 * (i : Int)) ∧ (rdRepR evFR i s6).2.1.length ≤ s6.1.length) (fun i => n2 - i) 0
    ⟨Nat.zero_le _, rfl, fun _ => ⟨Nat.le_refl _, by show -(1125899906842624 * ((0 : Nat) : Int)) ≤ 0; omega, by show (0 : Int) ≤ 1125899906842624 * ((0 : Nat) : Int); omega⟩, Nat.le_refl _⟩ (by rw [sN]; rw [sN] at hE1; (repeat (first | exact hE1.mono oM | refine KLt.up ?_ kL))) (by ((try simp (disch := decide) only [hA, hg1, go_sem]) <;> exact kH)) rfl (fun e => ?_) ?_
   ·have h := Weak.nilcell (e := e) (b := B.set id (rRow s6)) (l := [.live 0 3 [[.v (.str ⟨#[]⟩), .v .zsl, .v .zsl]], .live 0 3 [[.v (.str (baOf nm)), .sl (B.length + 2) i 0 i, .v .zsl]], .live i 2 (vs (VL.map eVr))]) (i := 1) (k := 0) (j := 2) (sz := 5) rfl rfl rfl
    rw [sN] at h
    exact h
   intro g2 hE2 hEE2 hg2 j hj
   obtain ⟨j1, j2, j4, j5⟩ := hj
   obtain ⟨⟨M, y6, w6⟩, hMT⟩ : ∃ z, rdRepR evFR j s6 = z := ⟨_, rfl⟩
   rw [hMT] at j2 j4 j5
   simp only at j2 j4 j5
   simp only [hMT]
   by_cases hjn : j < n2
   ·cases w6 with
    | true =>
      have hst := rdRepR_stop (f := evFR) (s := s6) (i := j) (n := n2) (by rw [hMT]) oM
      rw [hst, hMT]
      simp (disch := (first | decide | omega)) only [hA, hg1, hg2, sN, gN, gN0, bN, bN0, lN, lN0, sB0, sL0, sB, sL, gS, setFrom, cellsOf, rRow, go_sem]
      exact leave_lowD (R := rRow (y6, true)) (xs := [.agg [.v (.str (baOf nm)), .sl (B.length + 2) i 0 i, .sl (B.length + 3) j 0 j]]) (.inr rfl) hB (by simp (disch := (first | decide | omega)) only [resVs, resV, hA, hg1, hg2, gN, gN0, go_sem]) (by rw [sN]; exact Dv.aggL (.cons (.v _) (.cons (Dv.slV (i := 2) rfl (by simp [i2])) (.cons (Dv.slV (i := 3) rfl (by simp [j2])) .nil)))) hR.rset
    | false =>
      obtain ⟨j4, j6, j7⟩ := j4 rfl
      have ho := rdRepR_one hMT rfl
      obtain ⟨la, hla⟩ : ∃ z, lastE M = z := ⟨_, rfl⟩
      rw [hla] at j6 j7
      obtain ⟨⟨e, y2, w2⟩, he⟩ : ∃ z, rdEvR la (y6, false) = z := ⟨_, rfl⟩
      have hf : evFR M (y6, false) = (e, (y2, w2)) := by unfold evFR; rw [hla]; exact he
      rw [hf] at ho
      simp only at ho
      have ht := rdEvR_time (last := la) (s := (y6, false))
      have hul := rdEvR_len (last := la) (s := (y6, false))
      have hus := rdEvR_use (last := la) (s := (y6, false))
      rw [he] at ht hul hus
      simp only at ht hul hus
      have c7 := fun b l h => revt_run id (y6, false) (by simp only; omega) la oM b l h
      simp only [he] at c7
      have htk := takeE j2
      have hct := catE (L := M) (e := e)
      have hls : lastE (M ++ [e]) = e.time := lastE_snoc M e
      simp (disch := (first | decide | omega)) only [hA, hg1, hg2, sN, gN, gN0, bN, bN0, lN, lN0, sB0, sL0, sB, sL, gS, rRow, hla, go_sem]
      refine ACalls.nxt (c7 _ _ (gS0 (y6, false) _)) ?_
      simp (disch := (first | decide | omega)) only [hA, hg1, hg2, sN, gN, gN0, bN, bN0, lN, lN0, sB0, sL0, sB, sL, gS, setFrom, cellsOf, rRow, evA, htk, hct, List.length_map, List.replicate_succ, List.replicate_zero, j2, go_sem]
      refine ⟨j + 1, ⟨hjn, by rw [ho]; simp [j2], fun h => ?_, by rw [ho]; simp only; omega⟩, by simp only; omega, ?_⟩
      ·rw [ho] at h ⊢
       simp only [hls] at h ⊢
       have := hus h
       omega
      simp only [ho, hls]
      exact Weak.kround (p := r_rtproc1) (k := 4) (b := B.set id (rRow (y2, w2))) (by ((repeat refine (kAny_up rfl).trans ?_); exact hEE2)) (by ((try simp (disch := decide) only [hA, hg1, hg2, go_sem]) <;> exact kH)) rfl (by rw [sN]; rw [sN] at hE2; exact hE2) (by simp) (by rw [sN]; simp (disch := omega) only [KOvLt, lts.down, Nat.reduceLT, Nat.reduceAdd]) hR.rset (by rw [sN]; simp (disch := omega) only [lts.down, Nat.reduceLT, Nat.reduceAdd])
   ·obtain rfl : j = n2 := by omega
    rw [hMT]
    simp (disch := (first | decide | omega)) only [hA, hg1, hg2, sN, gN, gN0, bN, bN0, lN, lN0, sB0, sL0, sB, sL, gS, setFrom, cellsOf, go_sem]
    exact leave_lowD (R := rRow (y6, w6)) (xs := [.agg [.v (.str (baOf nm)), .sl (B.length + 2) i 0 i, .sl (B.length + 3) j 0 j]]) (.inr rfl) hB (by simp (disch := (first | decide | omega)) only [resVs, resV, hA, hg1, hg2, gN, gN0, go_sem]) (by rw [sN]; exact Dv.aggL (.cons (.v _) (.cons (Dv.slV (i := 2) rfl (by simp [i2])) (.cons (Dv.slV (i := 3) rfl (by simp [j2])) .nil)))) hR.rset
end Go.Proofs.Ytanblnhnfkeffaa
