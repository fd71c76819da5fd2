/- Texts of one proof, laid together: ZE, ZF, ZG. No condition. -/
import Derived.Test.YtanblnhnfkeffaaTF16
namespace Go.Proofs.Ytanblnhnfkeffaa
set_option linter.unusedVariables false
set_option linter.unusedSimpArgs false
attribute [local go_sem ↓] run_skip run_region run_draw run_both run_seq run_block run_exit run_ret run_cond atN_app seqC_normal seqC_exit seqC_ret seqQ_normal seqQ_exit seqQ_ret blkQ_normal blkQ_exit blkQ_ret runOps_nil runOps_cons runD_nil runD_cons grdO_true grdO_false grdD_true grdD_false ifC_true ifC_false opS_val opS_call opS_two opK_app dS_val dS_call dS_two dK_app kUp_same kUp_ne
attribute [local go_sem] rechks_nil rechks_cons rechk gcase_true gcase_false ex_val ex_val0 gd_none gd_some ev_t ev_c evs_nil evs_cons evo_some evo_none hget_at hget_first hsetB_at hsetB_first hsetL_at hsetL_first ofOpt_some aop aload astore aslice aappend aiaddr aiaddrA afaddr alen alenS acopy amm acall alookup amupdate alenM atostr aappz comma keyEq apick binV binVB binVS isSh intOp strOp boolOp shOp eqC eqF and2 cellsOf setFrom fillA fillS rd rdI elems mk bounds AV.cell List.all_cons List.all_nil Bool.and_true Bool.true_and Bool.and_self List.length_cons List.length_nil List.length_append Nat.reduceAdd Nat.reduceSub Nat.reduceMul Nat.zero_add Nat.add_zero List.cons_append List.nil_append List.append_assoc List.append_nil List.getElem?_cons_zero List.getElem?_cons_succ List.getElem?_nil List.set_cons_zero List.set_cons_succ List.drop_zero List.drop_succ_cons List.take_zero List.take_succ_cons List.take_nil List.drop_nil List.map_cons List.map_nil Option.map_some if_true if_false Bool.false_eq_true and_self true_and and_true Nat.reduceLeDiff Nat.reduceLT Nat.le_refl Nat.reduceEqDiff ite_true ite_false beq_self_eq_true beq_true beq_false Bool.not_true Bool.not_false Bool.true_beq Bool.false_beq map_vs vs_len vs_get vs_take vs_drop vs_snoc1 vs_snoc2 vs_snoc3 vs_snoc5 vs_set1 vs_set2 vs_rep wrap_id le_T lt_T le_F lt_F leI_T ltI_T leI_F ltI_F geI gtI get_T decide_true decide_false room List.getElem?_map List.length_map List.length_take Int.toNat_natCast Nat.min_def Nat.min_self nth_kOf put_kOf put_kNo kOv_cons kOv_nil KHas KArgs List.getElem_cons_zero List.getElem_cons_succ
def a_tnum : AFunc := ⟨1,36,[.tmp 2],(.seq (.region [⟨some 2,.mv (.c (.v (.int .i64 0))),none⟩]) (.seq (.region [⟨some 7,.mv (.t 0),none⟩,⟨some 8,.nilck (.t 7),none⟩,⟨some 9,.faddr 0 (.t 8),none⟩,⟨some 10,.load none (.t 9),none⟩,⟨some 11,.call (.c (.fn 45 [])) [(.t 10)],none⟩,⟨some 6,.mv (.t 11),none⟩,⟨some 12,.extract 0 (.t 6),none⟩,⟨some 13,.extract 1 (.t 6),none⟩,⟨some 14,.extract 2 (.t 6),none⟩,⟨some 3,.mv (.t 12),none⟩,⟨some 4,.mv (.t 13),none⟩,⟨some 5,.mv (.t 14),none⟩]) (.seq (.seq (.region [⟨some 15,.mv (.t 0),none⟩,⟨some 16,.nilck (.t 15),none⟩,⟨some 17,.faddr 1 (.t 16),none⟩,⟨some 18,.load none (.t 17),none⟩,⟨some 19,.mv (.t 18),none⟩,⟨some 20,.mv (.t 5),some (19,false)⟩,⟨some 21,.bin .neq (.t 20) (.c (.v (.int .i64 0))),some (19,false)⟩,⟨some 22,.pick (.t 19) (.c (.v (.bool true))) (.t 21),none⟩]) (.cond (.t 22) (.seq (.region [⟨some 23,.mv (.t 0),none⟩,⟨some 24,.nilck (.t 23),none⟩,⟨some 25,.faddr 1 (.t 24),none⟩,⟨none,.store 1 (.t 25) (.c (.v (.bool true))),none⟩]) (.seq (.region [⟨some 2,.mv (.c (.v (.int .i64 0))),none⟩]) .ret)) .skip)) (.seq (.region [⟨some 26,.mv (.t 0),none⟩,⟨some 27,.mv (.t 0),none⟩,⟨some 28,.nilck (.t 27),none⟩,⟨some 29,.faddr 0 (.t 28),none⟩,⟨some 30,.load none (.t 29),none⟩,⟨some 31,.mv (.t 4),none⟩,⟨some 32,.slice 1 (.t 30) (some (.t 31)) none,none⟩,⟨some 33,.nilck (.t 26),none⟩,⟨some 34,.faddr 0 (.t 33),none⟩,⟨none,.store 1 (.t 34) (.t 32),none⟩]) (.seq (.region [⟨some 35,.mv (.t 3),none⟩,⟨some 2,.mv (.t 35),none⟩]) .ret)))))⟩
theorem a_tnum_ok : cFunc Try.prog 168 = some a_tnum := by kernel_rfl
def a_tcnt : AFunc := ⟨1,21,[.tmp 2],(.seq (.region [⟨some 2,.mv (.c (.v (.int .i64 0))),none⟩]) (.seq (.region [⟨some 4,.mv (.t 0),none⟩,⟨some 5,.call (.c (.fn 168 [])) [(.t 4)],none⟩,⟨some 3,.mv (.t 5),none⟩]) (.seq (.seq (.region [⟨some 6,.mv (.t 3),none⟩,⟨some 7,.bin .lss (.t 6) (.c (.v (.int .i64 0))),none⟩,⟨some 8,.mv (.t 7),none⟩,⟨some 9,.mv (.t 3),some (8,false)⟩,⟨some 10,.mv (.t 0),some (8,false)⟩,⟨some 11,.nilck (.t 10),some (8,false)⟩,⟨some 12,.faddr 0 (.t 11),some (8,false)⟩,⟨some 13,.load none (.t 12),some (8,false)⟩,⟨some 14,.len (.t 13),some (8,false)⟩,⟨some 15,.bin .gtr (.t 9) (.t 14),some (8,false)⟩,⟨some 16,.pick (.t 8) (.c (.v (.bool true))) (.t 15),none⟩]) (.cond (.t 16) (.seq (.region [⟨some 17,.mv (.t 0),none⟩,⟨some 18,.nilck (.t 17),none⟩,⟨some 19,.faddr 1 (.t 18),none⟩,⟨none,.store 1 (.t 19) (.c (.v (.bool true))),none⟩]) (.seq (.region [⟨some 2,.mv (.c (.v (.int .i64 0))),none⟩]) .ret)) .skip)) (.seq (.region [⟨some 20,.mv (.t 3),none⟩,⟨some 2,.mv (.t 20),none⟩]) .ret))))⟩
theorem a_tcnt_ok : cFunc Try.prog 111 = some a_tcnt := by kernel_rfl
def a_tnam : AFunc := ⟨1,24,[.tmp 2],(.seq (.region [⟨some 2,.mv (.c (.v (.str ⟨#[]⟩))),none⟩]) (.seq (.region [⟨some 5,.mv (.t 0),none⟩,⟨some 6,.call (.c (.fn 111 [])) [(.t 5)],none⟩,⟨some 3,.mv (.t 6),none⟩]) (.seq (.region [⟨some 7,.mv (.t 0),none⟩,⟨some 8,.nilck (.t 7),none⟩,⟨some 9,.faddr 0 (.t 8),none⟩,⟨some 10,.load none (.t 9),none⟩,⟨some 11,.mv (.t 3),none⟩,⟨some 12,.slice 1 (.t 10) none (some (.t 11)),none⟩,⟨some 13,.tostr (.t 12),none⟩,⟨some 4,.mv (.t 13),none⟩]) (.seq (.region [⟨some 14,.mv (.t 0),none⟩,⟨some 15,.mv (.t 0),none⟩,⟨some 16,.nilck (.t 15),none⟩,⟨some 17,.faddr 0 (.t 16),none⟩,⟨some 18,.load none (.t 17),none⟩,⟨some 19,.mv (.t 3),none⟩,⟨some 20,.slice 1 (.t 18) (some (.t 19)) none,none⟩,⟨some 21,.nilck (.t 14),none⟩,⟨some 22,.faddr 0 (.t 21),none⟩,⟨none,.store 1 (.t 22) (.t 20),none⟩]) (.seq (.region [⟨some 23,.mv (.t 4),none⟩,⟨some 2,.mv (.t 23),none⟩]) .ret)))))⟩
theorem a_tnam_ok : cFunc Try.prog 169 = some a_tnam := by kernel_rfl
def a_rtnum : AFunc := ⟨1,34,[.tmp 2],(.seq (.region [⟨some 2,.mv (.c (.v (.int .i64 0))),none⟩]) (.seq (.seq (.region [⟨some 6,.mv (.t 0),none⟩,⟨some 7,.nilck (.t 6),none⟩,⟨some 8,.faddr 1 (.t 7),none⟩,⟨some 9,.load none (.t 8),none⟩]) (.cond (.t 9) (.seq (.region [⟨some 2,.mv (.c (.v (.int .i64 0))),none⟩]) .ret) .skip)) (.seq (.region [⟨some 11,.mv (.t 0),none⟩,⟨some 12,.nilck (.t 11),none⟩,⟨some 13,.faddr 0 (.t 12),none⟩,⟨some 14,.load none (.t 13),none⟩,⟨some 15,.call (.c (.fn 194 [])) [(.t 14)],none⟩,⟨some 10,.mv (.t 15),none⟩,⟨some 16,.extract 0 (.t 10),none⟩,⟨some 17,.extract 1 (.t 10),none⟩,⟨some 18,.extract 2 (.t 10),none⟩,⟨some 3,.mv (.t 16),none⟩,⟨some 4,.mv (.t 17),none⟩,⟨some 5,.mv (.t 18),none⟩]) (.seq (.seq (.region [⟨some 19,.mv (.t 5),none⟩,⟨some 20,.bin .neq (.t 19) (.c (.v (.int .i64 0))),none⟩]) (.cond (.t 20) (.seq (.region [⟨some 21,.mv (.t 0),none⟩,⟨some 22,.nilck (.t 21),none⟩,⟨some 23,.faddr 1 (.t 22),none⟩,⟨none,.store 1 (.t 23) (.c (.v (.bool true))),none⟩]) (.seq (.region [⟨some 2,.mv (.c (.v (.int .i64 0))),none⟩]) .ret)) .skip)) (.seq (.region [⟨some 24,.mv (.t 0),none⟩,⟨some 25,.mv (.t 0),none⟩,⟨some 26,.nilck (.t 25),none⟩,⟨some 27,.faddr 0 (.t 26),none⟩,⟨some 28,.load none (.t 27),none⟩,⟨some 29,.mv (.t 4),none⟩,⟨some 30,.slice 1 (.t 28) (some (.t 29)) none,none⟩,⟨some 31,.nilck (.t 24),none⟩,⟨some 32,.faddr 0 (.t 31),none⟩,⟨none,.store 1 (.t 32) (.t 30),none⟩]) (.seq (.region [⟨some 33,.mv (.t 3),none⟩,⟨some 2,.mv (.t 33),none⟩]) .ret))))))⟩
theorem a_rtnum_ok : cFunc Try.prog 171 = some a_rtnum := by kernel_rfl
def a_rtcnt : AFunc := ⟨1,21,[.tmp 2],(.seq (.region [⟨some 2,.mv (.c (.v (.int .i64 0))),none⟩]) (.seq (.region [⟨some 4,.mv (.t 0),none⟩,⟨some 5,.call (.c (.fn 171 [])) [(.t 4)],none⟩,⟨some 3,.mv (.t 5),none⟩]) (.seq (.seq (.region [⟨some 6,.mv (.t 3),none⟩,⟨some 7,.bin .lss (.t 6) (.c (.v (.int .i64 0))),none⟩,⟨some 8,.mv (.t 7),none⟩,⟨some 9,.mv (.t 3),some (8,false)⟩,⟨some 10,.mv (.t 0),some (8,false)⟩,⟨some 11,.nilck (.t 10),some (8,false)⟩,⟨some 12,.faddr 0 (.t 11),some (8,false)⟩,⟨some 13,.load none (.t 12),some (8,false)⟩,⟨some 14,.len (.t 13),some (8,false)⟩,⟨some 15,.bin .gtr (.t 9) (.t 14),some (8,false)⟩,⟨some 16,.pick (.t 8) (.c (.v (.bool true))) (.t 15),none⟩]) (.cond (.t 16) (.seq (.region [⟨some 17,.mv (.t 0),none⟩,⟨some 18,.nilck (.t 17),none⟩,⟨some 19,.faddr 1 (.t 18),none⟩,⟨none,.store 1 (.t 19) (.c (.v (.bool true))),none⟩]) (.seq (.region [⟨some 2,.mv (.c (.v (.int .i64 0))),none⟩]) .ret)) .skip)) (.seq (.region [⟨some 20,.mv (.t 3),none⟩,⟨some 2,.mv (.t 20),none⟩]) .ret))))⟩
theorem a_rtcnt_ok : cFunc Try.prog 114 = some a_rtcnt := by kernel_rfl
def a_rtnam : AFunc := ⟨1,24,[.tmp 2],(.seq (.region [⟨some 2,.mv (.c (.v (.str ⟨#[]⟩))),none⟩]) (.seq (.region [⟨some 5,.mv (.t 0),none⟩,⟨some 6,.call (.c (.fn 114 [])) [(.t 5)],none⟩,⟨some 3,.mv (.t 6),none⟩]) (.seq (.region [⟨some 7,.mv (.t 0),none⟩,⟨some 8,.nilck (.t 7),none⟩,⟨some 9,.faddr 0 (.t 8),none⟩,⟨some 10,.load none (.t 9),none⟩,⟨some 11,.mv (.t 3),none⟩,⟨some 12,.slice 1 (.t 10) none (some (.t 11)),none⟩,⟨some 13,.tostr (.t 12),none⟩,⟨some 4,.mv (.t 13),none⟩]) (.seq (.region [⟨some 14,.mv (.t 0),none⟩,⟨some 15,.mv (.t 0),none⟩,⟨some 16,.nilck (.t 15),none⟩,⟨some 17,.faddr 0 (.t 16),none⟩,⟨some 18,.load none (.t 17),none⟩,⟨some 19,.mv (.t 3),none⟩,⟨some 20,.slice 1 (.t 18) (some (.t 19)) none,none⟩,⟨some 21,.nilck (.t 14),none⟩,⟨some 22,.faddr 0 (.t 21),none⟩,⟨none,.store 1 (.t 22) (.t 20),none⟩]) (.seq (.region [⟨some 23,.mv (.t 4),none⟩,⟨some 2,.mv (.t 23),none⟩]) .ret)))))⟩
theorem a_rtnam_ok : cFunc Try.prog 172 = some a_rtnam := by kernel_rfl

def rRow (s : RS) : Row := .live 0 2 [[.v (.isl 1 (s.1.map eB)), .v (.bool s.2)]]
theorem RowsLt.rset {B : List Row} {id : Nat} {s : RS} (h : RowsLt B.length B) : RowsLt (B.set id (rRow s)).length (B.set id (rRow s)) := by
 rw [List.length_set]
 have := RowsLt.setVs (id := id) (v := 0) (sz := 2) (rows := [[IV.isl 1 (s.1.map eB), .bool s.2]]) h
 exact this
theorem rdNum_len {s : RS} : (rdNum s).2.1.length ≤ s.1.length := by
 unfold rdNum
 split
 ·exact Nat.le_refl _
 ·simp
theorem getL_size {xs : List UInt8} (h : (getL xs).2.2 = 0) : ∃ k : Nat, (getL xs).2.1 = k ∧ k ≤ xs.length := by
 obtain ⟨k, h1, _, h3, _⟩ := get_canon (l := xs) (m := (getL xs).1) (s := (getL xs).2.1) (by rw [← h])
 exact ⟨k, h1, h3⟩
theorem rdCnt_le {s : RS} : (rdCnt s).1 ≤ (rdCnt s).2.1.length := by
 unfold rdCnt cntOf
 split
 ·simp
 ·rename_i h
  simp only
  omega
theorem rdCnt_len {s : RS} : (rdCnt s).2.1.length ≤ s.1.length := by
 have := rdNum_len (s := s)
 unfold rdCnt cntOf
 split <;> exact this
theorem rdName_len {s : RS} : (rdName s).2.1.length ≤ s.1.length := by
 have := rdCnt_len (s := s)
 unfold rdName nameOf
 simp only [List.length_drop]
 omega
theorem numsB (ys : List UInt8) : numsOf (vs (ys.map eB)) = some (ys.map fun c => (c.toNat : Int)) := by
 induction ys with
 | nil => rfl
 | cons c ys ih =>
   show (numsOf (vs (ys.map eB))).map (_ :: ·) = _
   rw [ih]; rfl
theorem strB (ys : List UInt8) : strOf (ys.map fun c => (c.toNat : Int)) = baOf ys := by
 unfold strOf baOf
 rw [List.map_map]
 congr 2
 induction ys with
 | nil => rfl
 | cons c ys ih =>
   rw [List.map_cons, ih]
   congr 1
   exact UInt8.toNat_inj.1 (byte_toNat c.toNat_lt)
theorem dropB (k : Nat) (xs : List UInt8) : List.drop k (xs.map eB) = (xs.drop k).map eB := List.map_drop.symm
theorem takeBk (k : Nat) (xs : List UInt8) : List.take k (xs.map eB) = (xs.take k).map eB := List.map_take.symm
set_option maxHeartbeats 4000000 in
theorem num_run (id : Nat) (s : RS) (hl : s.1.length ≤ 1000000000) (b l : List Row) (hg : hget b l id = some (rRow s)) :
  ACalls Try.prog 168 [.ptr id 0 0 0] b l (fun r b' l' => r = .v (.int .i64 (rdNum s).1) ∧ b' = hsetB b id (rRow (rdNum s).2) ∧ l' = hsetL b l id (rRow (rdNum s).2)) := by
 refine calls_kept a_tnum_ok rfl (by decide) ?_
 intro B g hB hR hE hA
 simp only [KArgs] at hA
 have hBi : B[id]? = some (rRow s) := by rw [hB, ← hget_eq]; exact hg
 have hidB : id < B.length := (List.getElem?_eq_some_iff.1 hBi).1
 have hgB := hgetLo hBi
 obtain ⟨gS, sB, sL, sB0, sL0, sN⟩ := low_facts hidB
 obtain ⟨xs, w⟩ := s
 simp only at hl
 unfold rRow at hgB
 simp only at hgB
 have cg := fun b l => get_spec xs hl b l
 obtain ⟨m, hm⟩ : ∃ m, getL xs = m := ⟨_, rfl⟩
 obtain ⟨m1, m2, m3⟩ := m
 simp only [getR, hm] at cg
 cases w with
 | true =>
   have hr : rdNum (xs, true) = (0, (xs, true)) := by unfold rdNum; rw [if_pos (.inl rfl)]
   rw [hr]
   simp (disch := (first | decide | omega)) only [a_tnum, hA, hgB, go_sem]
   refine ACalls.nxt (cg _ _) ?_
   simp (disch := (first | decide | omega)) only [hA, hgB, sB0, sL0, setFrom, cellsOf, go_sem]
   exact leave_low (R := rRow (xs, true)) (xs := [.v (.int .i64 0)]) (.inr rfl) hB (by simp (disch := (first | decide | omega)) only [resVs, resV, hA, go_sem]) rfl (by simp (disch := omega) only [sN, lts.down, Nat.reduceLT, Nat.reduceAdd]) hR.rset
 | false =>
   by_cases hbad : m3 = 0
   ·have hn : (m3 != 0) = false := by simp [hbad]
    obtain ⟨k, hk1, hk2⟩ := getL_size (xs := xs) (by rw [hm]; exact hbad)
    rw [hm] at hk1
    simp only at hk1
    have hr : rdNum (xs, false) = (m1, (xs.drop k, false)) := by unfold rdNum; rw [if_neg (by rw [hm]; simp [hbad]), hm]; simp only [hk1, Int.toNat_natCast]
    rw [hr]
    simp (disch := (first | decide | omega)) only [a_tnum, hA, hgB, go_sem]
    refine ACalls.nxt (cg _ _) ?_
    simp (disch := (first | decide | omega)) only [hA, hgB, hn, hk1, takeBk, List.take_length, dropB, sB0, sL0, sB, sL, gS, setFrom, cellsOf, List.length_map, go_sem]
    exact leave_low (R := rRow (xs.drop k, false)) (xs := [.v (.int .i64 m1)]) (.inr rfl) hB (by simp (disch := (first | decide | omega)) only [resVs, resV, hA, go_sem]) rfl (by simp (disch := omega) only [sN, lts.down, Nat.reduceLT, Nat.reduceAdd]) hR.rset
   ·have hn : (m3 != 0) = true := by simp [hbad]
    have hr : rdNum (xs, false) = (0, (xs, true)) := by unfold rdNum; rw [if_pos (.inr (by rw [hm]; exact hbad))]
    rw [hr]
    simp (disch := (first | decide | omega)) only [a_tnum, hA, hgB, go_sem]
    refine ACalls.nxt (cg _ _) ?_
    simp (disch := (first | decide | omega)) only [hA, hgB, hn, sB0, sL0, sB, sL, gS, setFrom, cellsOf, go_sem]
    exact leave_low (R := rRow (xs, true)) (xs := [.v (.int .i64 0)]) (.inr rfl) hB (by simp (disch := (first | decide | omega)) only [resVs, resV, hA, go_sem]) rfl (by simp (disch := omega) only [sN, lts.down, Nat.reduceLT, Nat.reduceAdd]) hR.rset
set_option maxHeartbeats 4000000 in
theorem rnum_run (id : Nat) (s : RS) (hl : s.1.length ≤ 1000000000) (b l : List Row) (hg : hget b l id = some (rRow s)) :
  ACalls Try.prog 171 [.ptr id 0 0 0] b l (fun r b' l' => r = .v (.int .i64 (rdNum s).1) ∧ b' = hsetB b id (rRow (rdNum s).2) ∧ l' = hsetL b l id (rRow (rdNum s).2)) := by
 refine calls_kept a_rtnum_ok rfl (by decide) ?_
 intro B g hB hR hE hA
 simp only [KArgs] at hA
 have hBi : B[id]? = some (rRow s) := by rw [hB, ← hget_eq]; exact hg
 have hidB : id < B.length := (List.getElem?_eq_some_iff.1 hBi).1
 have hgB := hgetLo hBi
 obtain ⟨gS, sB, sL, sB0, sL0, sN⟩ := low_facts hidB
 obtain ⟨xs, w⟩ := s
 simp only at hl
 unfold rRow at hgB
 simp only at hgB
 have cg := fun b l => rget_spec xs hl b l
 obtain ⟨m, hm⟩ : ∃ m, getL xs = m := ⟨_, rfl⟩
 obtain ⟨m1, m2, m3⟩ := m
 simp only [getR, hm] at cg
 cases w with
 | true =>
   have hr : rdNum (xs, true) = (0, (xs, true)) := by unfold rdNum; rw [if_pos (.inl rfl)]
   rw [hr]
   have hBs : B.set id (.live 0 2 [[.v (.isl 1 (xs.map eB)), .v (.bool true)]]) = B := by
    apply List.ext_getElem?
    intro j
    by_cases hj : id = j
    ·subst hj; rw [List.getElem?_set_self hidB, hBi]; rfl
    ·rw [List.getElem?_set_ne hj]
   have hBe : B = hsetB b id (rRow (xs, true)) ++ hsetL b l id (rRow (xs, true)) := by
    rw [hset_eq, ← hB]; exact hBs.symm
   simp (disch := (first | decide | omega)) only [a_rtnum, hA, hgB, go_sem]
   rw [← hsetB_len b id (rRow (xs, true))]
   exact leave_pure (xs := [.v (.int .i64 0)]) (.inr rfl) (by simp (disch := (first | decide | omega)) only [resVs, resV, hA, go_sem]) kO hR hBe ⟨rfl, rfl, rfl⟩
 | false =>
   by_cases hbad : m3 = 0
   ·have hn : (m3 != 0) = false := by simp [hbad]
    obtain ⟨k, hk1, hk2⟩ := getL_size (xs := xs) (by rw [hm]; exact hbad)
    rw [hm] at hk1
    simp only at hk1
    have hr : rdNum (xs, false) = (m1, (xs.drop k, false)) := by unfold rdNum; rw [if_neg (by rw [hm]; simp [hbad]), hm]; simp only [hk1, Int.toNat_natCast]
    rw [hr]
    simp (disch := (first | decide | omega)) only [a_rtnum, hA, hgB, go_sem]
    refine ACalls.nxt (cg _ _) ?_
    simp (disch := (first | decide | omega)) only [hA, hgB, hn, hk1, takeBk, List.take_length, dropB, sB0, sL0, sB, sL, gS, setFrom, cellsOf, List.length_map, go_sem]
    exact leave_low (R := rRow (xs.drop k, false)) (xs := [.v (.int .i64 m1)]) (.inr rfl) hB (by simp (disch := (first | decide | omega)) only [resVs, resV, hA, go_sem]) rfl (by simp (disch := omega) only [sN, lts.down, Nat.reduceLT, Nat.reduceAdd]) hR.rset
   ·have hn : (m3 != 0) = true := by simp [hbad]
    have hr : rdNum (xs, false) = (0, (xs, true)) := by unfold rdNum; rw [if_pos (.inr (by rw [hm]; exact hbad))]
    rw [hr]
    simp (disch := (first | decide | omega)) only [a_rtnum, hA, hgB, go_sem]
    refine ACalls.nxt (cg _ _) ?_
    simp (disch := (first | decide | omega)) only [hA, hgB, hn, sB0, sL0, sB, sL, gS, setFrom, cellsOf, go_sem]
    exact leave_low (R := rRow (xs, true)) (xs := [.v (.int .i64 0)]) (.inr rfl) hB (by simp (disch := (first | decide | omega)) only [resVs, resV, hA, go_sem]) rfl (by simp (disch := omega) only [sN, lts.down, Nat.reduceLT, Nat.reduceAdd]) hR.rset
set_option maxHeartbeats 4000000 in
theorem cnt_run (id : Nat) (s : RS) (hl : s.1.length ≤ 1000000000) (b l : List Row) (hg : hget b l id = some (rRow s)) :
  ACalls Try.prog 111 [.ptr id 0 0 0] b l (fun r b' l' => r = .v (.int .i64 ((rdCnt s).1 : Nat)) ∧ b' = hsetB b id (rRow (rdCnt s).2) ∧ l' = hsetL b l id (rRow (rdCnt s).2)) := by
 refine calls_kept a_tcnt_ok rfl (by decide) ?_
 intro B g hB hR hE hA
 simp only [KArgs] at hA
 have hBi : B[id]? = some (rRow s) := by rw [hB, ← hget_eq]; exact hg
 have hidB : id < B.length := (List.getElem?_eq_some_iff.1 hBi).1
 have hgB := hgetLo hBi
 obtain ⟨gS, sB, sL, sB0, sL0, sN⟩ := low_facts hidB
 have hnl := rdNum_len (s := s)
 have cn := fun b l h => num_run id s hl b l h
 obtain ⟨z, hz⟩ : ∃ z, rdNum s = z := ⟨_, rfl⟩
 obtain ⟨n, xs, w⟩ := z
 have hc : rdCnt s = cntOf (n, (xs, w)) := by unfold rdCnt; rw [hz]
 rw [hz] at hnl
 simp only at hnl
 simp only [hz] at cn
 rw [hc]
 simp (disch := (first | decide | omega)) only [a_tcnt, hA, go_sem]
 refine ACalls.nxt (cn _ _ (hgB _)) ?_
 by_cases h1 : n < 0
 ·have d1 : decide (n < 0) = true := decide_eq_true h1
  have hr : cntOf (n, (xs, w)) = (0, (xs, true)) := by unfold cntOf; rw [if_pos (.inl h1)]
  rw [hr]
  simp (disch := (first | decide | omega)) only [hA, rRow, d1, sB0, sL0, sB, sL, gS, setFrom, cellsOf, go_sem]
  exact leave_low (R := rRow (xs, true)) (xs := [.v (.int .i64 0)]) (.inr rfl) hB (by simp (disch := (first | decide | omega)) only [resVs, resV, hA, go_sem]) rfl (by simp (disch := omega) only [sN, lts.down, Nat.reduceLT, Nat.reduceAdd]) hR.rset
 have d1 : decide (n < 0) = false := decide_eq_false h1
 by_cases h2 : (xs.length : Int) < n
 ·have d2 : decide (n > (xs.length : Int)) = true := decide_eq_true h2
  have hr : cntOf (n, (xs, w)) = (0, (xs, true)) := by unfold cntOf; rw [if_pos (.inr h2)]
  rw [hr]
  simp (disch := (first | decide | omega)) only [hA, rRow, d1, d2, sB0, sL0, sB, sL, gS, setFrom, cellsOf, List.length_map, go_sem]
  exact leave_low (R := rRow (xs, true)) (xs := [.v (.int .i64 0)]) (.inr rfl) hB (by simp (disch := (first | decide | omega)) only [resVs, resV, hA, go_sem]) rfl (by simp (disch := omega) only [sN, lts.down, Nat.reduceLT, Nat.reduceAdd]) hR.rset
 ·have d2 : decide (n > (xs.length : Int)) = false := decide_eq_false h2
  have hr : cntOf (n, (xs, w)) = (n.toNat, (xs, w)) := by unfold cntOf; rw [if_neg (by simp only; omega)]
  have hn : ((n.toNat : Nat) : Int) = n := by omega
  rw [hr]
  simp only [hn]
  simp (disch := (first | decide | omega)) only [hA, rRow, d1, d2, sB0, sL0, sB, sL, gS, setFrom, cellsOf, List.length_map, go_sem]
  exact leave_low (R := rRow (xs, w)) (xs := [.v (.int .i64 n)]) (.inr rfl) hB (by simp (disch := (first | decide | omega)) only [resVs, resV, hA, go_sem]) rfl (by simp (disch := omega) only [sN, lts.down, Nat.reduceLT, Nat.reduceAdd]) hR.rset
set_option maxHeartbeats 4000000 in
theorem rcnt_run (id : Nat) (s : RS) (hl : s.1.length ≤ 1000000000) (b l : List Row) (hg : hget b l id = some (rRow s)) :
  ACalls Try.prog 114 [.ptr id 0 0 0] b l (fun r b' l' => r = .v (.int .i64 ((rdCnt s).1 : Nat)) ∧ b' = hsetB b id (rRow (rdCnt s).2) ∧ l' = hsetL b l id (rRow (rdCnt s).2)) := by
 refine calls_kept a_rtcnt_ok rfl (by decide) ?_
 intro B g hB hR hE hA
 simp only [KArgs] at hA
 have hBi : B[id]? = some (rRow s) := by rw [hB, ← hget_eq]; exact hg
 have hidB : id < B.length := (List.getElem?_eq_some_iff.1 hBi).1
 have hgB := hgetLo hBi
 obtain ⟨gS, sB, sL, sB0, sL0, sN⟩ := low_facts hidB
 have hnl := rdNum_len (s := s)
 have cn := fun b l h => rnum_run id s hl b l h
 obtain ⟨z, hz⟩ : ∃ z, rdNum s = z := ⟨_, rfl⟩
 obtain ⟨n, xs, w⟩ := z
 have hc : rdCnt s = cntOf (n, (xs, w)) := by unfold rdCnt; rw [hz]
 rw [hz] at hnl
 simp only at hnl
 simp only [hz] at cn
 rw [hc]
 simp (disch := (first | decide | omega)) only [a_rtcnt, hA, go_sem]
 refine ACalls.nxt (cn _ _ (hgB _)) ?_
 by_cases h1 : n < 0
 ·have d1 : decide (n < 0) = true := decide_eq_true h1
  have hr : cntOf (n, (xs, w)) = (0, (xs, true)) := by unfold cntOf; rw [if_pos (.inl h1)]
  rw [hr]
  simp (disch := (first | decide | omega)) only [hA, rRow, d1, sB0, sL0, sB, sL, gS, setFrom, cellsOf, go_sem]
  exact leave_low (R := rRow (xs, true)) (xs := [.v (.int .i64 0)]) (.inr rfl) hB (by simp (disch := (first | decide | omega)) only [resVs, resV, hA, go_sem]) rfl (by simp (disch := omega) only [sN, lts.down, Nat.reduceLT, Nat.reduceAdd]) hR.rset
 have d1 : decide (n < 0) = false := decide_eq_false h1
 by_cases h2 : (xs.length : Int) < n
 ·have d2 : decide (n > (xs.length : Int)) = true := decide_eq_true h2
  have hr : cntOf (n, (xs, w)) = (0, (xs, true)) := by unfold cntOf; rw [if_pos (.inr h2)]
  rw [hr]
  simp (disch := (first | decide | omega)) only [hA, rRow, d1, d2, sB0, sL0, sB, sL, gS, setFrom, cellsOf, List.length_map, go_sem]
  exact leave_low (R := rRow (xs, true)) (xs := [.v (.int .i64 0)]) (.inr rfl) hB (by simp (disch := (first | decide | omega)) only [resVs, resV, hA, go_sem]) rfl (by simp (disch := omega) only [sN, lts.down, Nat.reduceLT, Nat.reduceAdd]) hR.rset
 ·have d2 : decide (n > (xs.length : Int)) = false := decide_eq_false h2
  have hr : cntOf (n, (xs, w)) = (n.toNat, (xs, w)) := by unfold cntOf; rw [if_neg (by simp only; omega)]
  have hn : ((n.toNat : Nat) : Int) = n := by omega
  rw [hr]
  simp only [hn]
  simp (disch := (first | decide | omega)) only [hA, rRow, d1, d2, sB0, sL0, sB, sL, gS, setFrom, cellsOf, List.length_map, go_sem]
  exact leave_low (R := rRow (xs, w)) (xs := [.v (.int .i64 n)]) (.inr rfl) hB (by simp (disch := (first | decide | omega)) only [resVs, resV, hA, go_sem]) rfl (by simp (disch := omega) only [sN, lts.down, Nat.reduceLT, Nat.reduceAdd]) hR.rset
set_option maxHeartbeats 4000000 in
theorem nam_run (id : Nat) (s : RS) (hl : s.1.length ≤ 1000000000) (b l : List Row) (hg : hget b l id = some (rRow s)) :
  ACalls Try.prog 169 [.ptr id 0 0 0] b l (fun r b' l' => r = .v (.str (baOf (rdName s).1)) ∧ b' = hsetB b id (rRow (rdName s).2) ∧ l' = hsetL b l id (rRow (rdName s).2)) := by
 refine calls_kept a_tnam_ok rfl (by decide) ?_
 intro B g hB hR hE hA
 simp only [KArgs] at hA
 have hBi : B[id]? = some (rRow s) := by rw [hB, ← hget_eq]; exact hg
 have hidB : id < B.length := (List.getElem?_eq_some_iff.1 hBi).1
 have hgB := hgetLo hBi
 obtain ⟨gS, sB, sL, sB0, sL0, sN⟩ := low_facts hidB
 have hcl := rdCnt_len (s := s)
 have hce := rdCnt_le (s := s)
 have cn := fun b l h => cnt_run id s hl b l h
 have hc : rdName s = nameOf (rdCnt s) := rfl
 obtain ⟨z, hz⟩ : ∃ z, rdCnt s = z := ⟨_, rfl⟩
 obtain ⟨n, xs, w⟩ := z
 rw [hz] at hcl hce hc
 simp only at hcl hce
 simp only [hz] at cn
 have hr : rdName s = (xs.take n, (xs.drop n, w)) := hc
 rw [hr]
 simp (disch := (first | decide | omega)) only [a_tnam, hA, go_sem]
 refine ACalls.nxt (cn _ _ (hgB _)) ?_
 simp (disch := (first | decide | omega)) only [hA, rRow, takeBk, List.take_length, dropB, numsB, strB, sB0, sL0, sB, sL, gS, setFrom, cellsOf, List.length_map, go_sem]
 exact leave_low (R := rRow (xs.drop n, w)) (xs := [.v (.str (baOf (xs.take n)))]) (.inr rfl) hB (by simp (disch := (first | decide | omega)) only [resVs, resV, hA, go_sem]) rfl (by simp (disch := omega) only [sN, lts.down, Nat.reduceLT, Nat.reduceAdd]) hR.rset
set_option maxHeartbeats 4000000 in
theorem rnam_run (id : Nat) (s : RS) (hl : s.1.length ≤ 1000000000) (b l : List Row) (hg : hget b l id = some (rRow s)) :
  ACalls Try.prog 172 [.ptr id 0 0 0] b l (fun r b' l' => r = .v (.str (baOf (rdName s).1)) ∧ b' = hsetB b id (rRow (rdName s).2) ∧ l' = hsetL b l id (rRow (rdName s).2)) := by
 refine calls_kept a_rtnam_ok rfl (by decide) ?_
 intro B g hB hR hE hA
 simp only [KArgs] at hA
 have hBi : B[id]? = some (rRow s) := by rw [hB, ← hget_eq]; exact hg
 have hidB : id < B.length := (List.getElem?_eq_some_iff.1 hBi).1
 have hgB := hgetLo hBi
 obtain ⟨gS, sB, sL, sB0, sL0, sN⟩ := low_facts hidB
 have hcl := rdCnt_len (s := s)
 have hce := rdCnt_le (s := s)
 have cn := fun b l h => rcnt_run id s hl b l h
 have hc : rdName s = nameOf (rdCnt s) := rfl
 obtain ⟨z, hz⟩ : ∃ z, rdCnt s = z := ⟨_, rfl⟩
 obtain ⟨n, xs, w⟩ := z
 rw [hz] at hcl hce hc
 simp only at hcl hce
 simp only [hz] at cn
 have hr : rdName s = (xs.take n, (xs.drop n, w)) := hc
 rw [hr]
 simp (disch := (first | decide | omega)) only [a_rtnam, hA, go_sem]
 refine ACalls.nxt (cn _ _ (hgB _)) ?_
 simp (disch := (first | decide | omega)) only [hA, rRow, takeBk, List.take_length, dropB, numsB, strB, sB0, sL0, sB, sL, gS, setFrom, cellsOf, List.length_map, go_sem]
 exact leave_low (R := rRow (xs.drop n, w)) (xs := [.v (.str (baOf (xs.take n)))]) (.inr rfl) hB (by simp (disch := (first | decide | omega)) only [resVs, resV, hA, go_sem]) rfl (by simp (disch := omega) only [sN, lts.down, Nat.reduceLT, Nat.reduceAdd]) hR.rset
def a_tevt : AFunc := ⟨2,39,[.cell 4 (some 5)],(.seq (.region [⟨some 4,.alloc [(.v (.int .i64 0)),(.v (.int .i64 0)),(.v (.int .i64 0)),(.v (.int .i64 0)),(.v .zsl)],none⟩]) (.seq (.region [⟨some 7,.mv (.t 0),none⟩,⟨some 8,.call (.c (.fn 168 [])) [(.t 7)],none⟩,⟨some 9,.mv (.t 0),none⟩,⟨some 10,.call (.c (.fn 168 [])) [(.t 9)],none⟩,⟨some 11,.mv (.t 0),none⟩,⟨some 12,.call (.c (.fn 168 [])) [(.t 11)],none⟩,⟨some 13,.mv (.t 1),none⟩,⟨some 14,.mv (.t 0),none⟩,⟨some 15,.call (.c (.fn 168 [])) [(.t 14)],none⟩,⟨some 16,.bin .add (.t 13) (.t 15),none⟩,⟨some 17,.build [(.v (.int .i64 0)),(.v (.int .i64 0)),(.v (.int .i64 0)),(.v (.int .i64 0)),(.v .zsl)] [(0,1,(.t 8)),(1,1,(.t 10)),(2,1,(.t 12)),(3,1,(.t 16))],none⟩,⟨some 5,.alloc [(.v (.int .i64 0)),(.v (.int .i64 0)),(.v (.int .i64 0)),(.v (.int .i64 0)),(.v .zsl)],none⟩,⟨none,.store 5 (.t 5) (.t 17),none⟩]) (.seq (.seq (.region [⟨some 18,.mv (.t 0),none⟩,⟨some 19,.call (.c (.fn 111 [])) [(.t 18)],none⟩,⟨some 20,.mv (.c (.v (.int .i64 0))),none⟩]) (.block 0 (.loop (.seq (.region [⟨some 21,.bin .lss (.t 20) (.t 19),none⟩]) (.seq (.cond (.t 21) .skip (.exit 0)) (.seq (.block 1 (.seq (.region [⟨some 22,.mv (.t 0),none⟩,⟨some 23,.call (.c (.fn 168 [])) [(.t 22)],none⟩,⟨some 24,.mv (.t 0),none⟩,⟨some 25,.call (.c (.fn 168 [])) [(.t 24)],none⟩,⟨some 26,.build [(.v (.int .i64 0)),(.v (.int .i64 0))] [(0,1,(.t 23)),(1,1,(.t 25))],none⟩,⟨some 6,.alloc [(.v (.int .i64 0)),(.v (.int .i64 0))],none⟩,⟨none,.store 2 (.t 6) (.t 26),none⟩]) (.seq (.seq (.region [⟨some 27,.mv (.t 0),none⟩,⟨some 28,.nilck (.t 27),none⟩,⟨some 29,.faddr 1 (.t 28),none⟩,⟨some 30,.load none (.t 29),none⟩]) (.cond (.t 30) (.exit 0) .skip)) (.region [⟨some 31,.faddr 4 (.t 5),none⟩,⟨some 32,.load none (.t 31),none⟩,⟨some 33,.load (some 2) (.t 6),none⟩,⟨some 34,.bslice 2 [(.v (.int .i64 0)),(.v (.int .i64 0))] 1 [(0,(.t 33))],none⟩,⟨some 35,.append 2 16 (.t 32) (.t 34),none⟩,⟨some 36,.faddr 4 (.t 5),none⟩,⟨none,.store 1 (.t 36) (.t 35),none⟩])))) (.region [⟨some 37,.bin .add (.t 20) (.c (.v (.int .i64 1))),none⟩,⟨some 20,.mv (.t 37),none⟩]))))))) (.seq (.region [⟨some 38,.load (some 5) (.t 5),none⟩,⟨none,.store 5 (.t 4) (.t 38),none⟩]) .ret))))⟩
theorem a_tevt_ok : cFunc Try.prog 170 = some a_tevt := by kernel_rfl
def r_tevt0 : List (Nat × Nat) := [(6, 6), (20, 37)]

theorem rdNum_far {s : RS} : -1125899906842624 ≤ (rdNum s).1 ∧ (rdNum s).1 ≤ 1125899906842624 := by
 cases h : (rdNum s).2.2 with
 | false => exact far_false.1 (rdNum_canon (s := s) (n := (rdNum s).1) (r := (rdNum s).2.1) (Prod.ext rfl (Prod.ext rfl h))).2.2
 | true =>
   have : (rdNum s).1 = 0 := by
    unfold rdNum at h ⊢
    split
    ·rfl
    ·rename_i hc; rw [if_neg hc] at h; cases h
   rw [this]; omega
theorem rdCnt_pos {s : RS} (h : 0 < (rdCnt s).1) : (rdCnt s).2.2 = false := by
 unfold rdCnt cntOf at h ⊢
 split
 ·rename_i hc; rw [if_pos hc] at h; simp at h
 ·rename_i hc
  rw [if_neg hc] at h
  simp only at h ⊢
  cases hb : (rdNum s).2.2 with
  | false => rfl
  | true =>
    have : (rdNum s).1 = 0 := by
     unfold rdNum at hb ⊢
     split
     ·rfl
     ·rename_i hd; rw [if_neg hd] at hb; cases hb
    rw [this] at h; simp at h
section
variable {α : Type} {f : List α → RS → α × RS} {s : RS}
theorem rdRep_stop {i n : Nat} (h : (rdRep f i s).2.2 = true) (hi : i ≤ n) : rdRep f n s = rdRep f i s := by
 obtain ⟨k, rfl⟩ : ∃ k, n = i + k := ⟨n - i, by omega⟩
 induction k with
 | zero => rfl
 | succ k ih =>
   have e := ih oM
   rw [show i + (k + 1) = (i + k) + 1 from rfl, rdRep, e, if_pos h]
theorem rdRepR_stop {i n : Nat} (h : (rdRepR f i s).2.2 = true) (hi : i ≤ n) : rdRepR f n s = rdRepR f i s := by
 obtain ⟨k, rfl⟩ : ∃ k, n = i + k := ⟨n - i, by omega⟩
 induction k with
 | zero => rfl
 | succ k ih =>
   have e := ih oM
   rw [show i + (k + 1) = (i + k) + 1 from rfl, rdRepR, e, if_pos h]
theorem rdRep_one {i : Nat} {L : List α} {S : RS} (h : rdRep f i s = (L, S)) (hg : S.2 = false) : rdRep f (i + 1) s = if (f L S).2.2 = true then (L, (f L S).2) else (L ++ [(f L S).1], (f L S).2) := by
 rw [rdRep, h]
 simp only
 rw [if_neg (by rw [hg]; decide)]
theorem rdRepR_one {i : Nat} {L : List α} {S : RS} (h : rdRepR f i s = (L, S)) (hg : S.2 = false) : rdRepR f (i + 1) s = (L ++ [(f L S).1], (f L S).2) := by
 rw [rdRepR, h]
 simp only
 rw [if_neg (by rw [hg]; decide)]
end
theorem low_facts2 (B : List Row) (id : Nat) : (∀ q l' i, hget (B.set id q) l' (B.length + i) = l'[i]?) ∧ (∀ q l', hget (B.set id q) l' B.length = l'[0]?) ∧ (∀ q i r, hsetB (B.set id q) (B.length + i) r = B.set id q) ∧ (∀ q r, hsetB (B.set id q) B.length r = B.set id q) ∧
  (∀ q l' i r, hsetL (B.set id q) l' (B.length + i) r = l'.set i r) ∧ ∀ q l' r, hsetL (B.set id q) l' B.length r = l'.set 0 r := by
 have hn : ∀ q, (B.set id q).length = B.length := fun q => List.length_set
 refine ⟨fun q l' i => ?_, fun q l' => ?_, fun q i r => ?_, fun q r => ?_, fun q l' i r => ?_, fun q l' r => ?_⟩
 ·rw [← hn q]; exact hget_at
 ·rw [← hn q]; exact hget_first
 ·rw [← hn q]; exact hsetB_at
 ·rw [← hn q]; exact hsetB_first
 ·rw [← hn q]; exact hsetL_at
 ·rw [← hn q]; exact hsetL_first
theorem leave_lowD {rs : List ARes} {B b l : List Row} {e : List AV} {L : List Row} {ex : AExit} (hex : ex = .normal ∨ ex = .ret) {id : Nat} {R : Row} (hB : B = b ++ l) {xs : List AV} (hx : resVs e (B.set id R) L rs = some xs) {y : AV} (hd : Dv (B.set id R).length L (one xs) y) (hR : RowsLt (B.set id R).length (B.set id R)) :
  Leaves rs (fun r b' l' => r = y ∧ b' = hsetB b id R ∧ l' = hsetL b l id R) b.length ex e (B.set id R) L := by
 have hBe : B.set id R = hsetB b id R ++ hsetL b l id R := by rw [hset_eq, ← hB]
 rw [← hsetB_len b id R]
 exact leave_deep hex hx hd hR hBe ⟨rfl, rfl, rfl⟩
theorem takeA {i : Nat} {L : List Asg} (h : L.length = i) : List.take i (L.map eAsg) = L.map eAsg := List.take_of_length_le (by rw [List.length_map]; omega)
theorem catA {L : List Asg} {a c : Int} : vs (L.map eAsg) ++ [[AV.v (.int .i64 a), AV.v (.int .i64 c)]] = vs ((L ++ [(⟨a, c⟩ : Asg)]).map eAsg) := by unfold vs eAsg; simp
def evA (e : Ev) : AV := .agg [.v (.int .i64 e.kind), .v (.int .i64 e.peer), .v (.int .i64 e.msg), .v (.int .i64 e.time), .v (.isl 2 (e.asg.map eAsg))]
set_option maxRecDepth 20000 in
set_option maxHeartbeats 8000000 in
theorem evt_run (id : Nat) (s : RS) (hl : s.1.length ≤ 1000000000) (last : Int) (hlast : -4611686018427387904 ≤ last ∧ last ≤ 4611686018427387904) (b l : List Row) (hg : hget b l id = some (rRow s)) :
  ACalls Try.prog 170 [.ptr id 0 0 0, .v (.int .i64 last)] b l (fun r b' l' => r = evA (rdEv last s).1 ∧ b' = hsetB b id (rRow (rdEv last s).2) ∧ l' = hsetL b l id (rRow (rdEv last s).2)) := by
 refine calls_kept a_tevt_ok rfl (by decide) ?_
 intro B g hB hR hE hA
 simp only [KArgs] at hA
 have hBi : B[id]? = some (rRow s) := by rw [hB, ← hget_eq]; exact hg
 have hidB : id < B.length := (List.getElem?_eq_some_iff.1 hBi).1
 have hgB := hgetLo hBi
 obtain ⟨gS, sB, sL, sB0, sL0, sN⟩ := low_facts hidB
 obtain ⟨gN, gN0, bN, bN0, lN, lN0⟩ := low_facts2 B id
 obtain ⟨⟨k1, s1⟩, h1⟩ : ∃ z, rdNum s = z := ⟨_, rfl⟩
 obtain ⟨⟨k2, s2⟩, h2⟩ : ∃ z, rdNum s1 = z := ⟨_, rfl⟩
 obtain ⟨⟨k3, s3⟩, h3⟩ : ∃ z, rdNum s2 = z := ⟨_, rfl⟩
 obtain ⟨⟨k4, s4⟩, h4⟩ : ∃ z, rdNum s3 = z := ⟨_, rfl⟩
 obtain ⟨⟨n, s5⟩, h5⟩ : ∃ z, rdCnt s4 = z := ⟨_, rfl⟩
 have l1 := rdNum_len (s := s)
 have l2 := rdNum_len (s := s1)
 have l3 := rdNum_len (s := s2)
 have l4 := rdNum_len (s := s3)
 have l5 := rdCnt_len (s := s4)
 have f4 := rdNum_far (s := s3)
 have lc := rdCnt_le (s := s4)
 have cp := rdCnt_pos (s := s4)
 rw [h1] at l1
 rw [h2] at l2
 rw [h3] at l3
 rw [h4] at l4 f4
 rw [h5] at l5 lc cp
 simp only at l1 l2 l3 l4 l5 f4 lc cp
 have c1 := fun b l h => num_run id s hl b l h
 have c2 := fun b l h => num_run id s1 oM b l h
 have c3 := fun b l h => num_run id s2 oM b l h
 have c4 := fun b l h => num_run id s3 oM b l h
 have c5 := fun b l h => cnt_run id s4 oM b l h
 simp only [h1] at c1
 simp only [h2] at c2
 simp only [h3] at c3
 simp only [h4] at c4
 simp only [h5] at c5
 have hres : rdEv last s = (⟨k1, k2, k3, last + k4, (rdRep (fun _ => rdAsg) n s5).1⟩, (rdRep (fun _ => rdAsg) n s5).2) := by
  have e1 : rd1 s = (k1, s1) := h1
  have e2 : rd2 s = (k2, s2) := by unfold rd2; rw [e1]; exact h2
  have e3 : rd3 s = (k3, s3) := by unfold rd3; rw [e2]; exact h3
  have e4 : rd4 s = (k4, s4) := by unfold rd4; rw [e3]; exact h4
  have e5 : rd5 s = (n, s5) := by unfold rd5; rw [e4]; exact h5
  unfold rdEv rdEvG
  rw [e1, e2, e3, e4, e5]
 rw [hres]
 simp (disch := (first | decide | omega)) only [a_tevt, hA, go_sem]
 refine ACalls.nxt (c1 _ _ (hgB _)) ?_
 simp (disch := (first | decide | omega)) only [hA, sN, gN, gN0, bN, bN0, lN, lN0, sB0, sL0, sB, sL, gS, go_sem]
 refine ACalls.nxt (c2 _ _ (gS _ _)) ?_
 simp (disch := (first | decide | omega)) only [hA, sN, gN, gN0, bN, bN0, lN, lN0, sB0, sL0, sB, sL, gS, go_sem]
 refine ACalls.nxt (c3 _ _ (gS _ _)) ?_
 simp (disch := (first | decide | omega)) only [hA, sN, gN, gN0, bN, bN0, lN, lN0, sB0, sL0, sB, sL, gS, go_sem]
 refine ACalls.nxt (c4 _ _ (gS _ _)) ?_
 simp (disch := (first | decide | omega)) only [hA, sN, gN, gN0, bN, bN0, lN, lN0, sB0, sL0, sB, sL, gS, setFrom, cellsOf, go_sem]
 refine ACalls.nxt (c5 _ _ (gS _ _)) ?_
 simp (disch := (first | decide | omega)) only [hA, sN, gN, gN0, bN, bN0, lN, lN0, sB0, sL0, sB, sL, gS, setFrom, cellsOf, go_sem]
 refine loop_keptB (ι := Nat) r_tevt0 (fun i => [(20, .v (.int .i64 i))]) 3 (fun i => B.set id (rRow (rdRep (fun _ => rdAsg) i s5).2)) (fun i => [.live 0 5 [[.v (.int .i64 0), .v (.int .i64 0), .v (.int .i64 0), .v (.int .i64 0), .v .zsl]], .live 0 5 [[.v (.int .i64 k1), .v (.int .i64 k2), .v (.int .i64 k3), .v (.int .i64 (last + k4)), .sl (B.length + 2) i 0 i]], .live i 2 (vs ((rdRep (fun _ => rdAsg) i s5).1.map eAsg))])
  (fun i => i ≤ n ∧ (rdRep (fun _ => rdAsg) i s5).1.length = i ∧ (i < n → (rdRep (fun _ => rdAsg) i s5).2.2 = false) ∧ (rdRep (fun _ => rdAsg) i s5).2.1.length ≤ s5.1.length) (fun i => n - i) 0 ⟨Nat.zero_le _, rfl, cp, Nat.le_refl _⟩ (by rw [sN]; (repeat (first | exact hE.mono oM | refine KLt.up ?_ kL))) (by ((try simp (disch := decide) only [hA, go_sem]) <;> exact kH)) rfl (fun e => ?_) ?_
 ·have h := Weak.nilcell (e := e) (b := B.set id (rRow s5)) (l := [.live 0 5 [[.v (.int .i64 0), .v (.int .i64 0), .v (.int .i64 0), .v (.int .i64 0), .v .zsl]], .live 0 5 [[.v (.int .i64 k1), .v (.int .i64 k2), .v (.int .i64 k3), .v (.int .i64 (last + k4)), .v .zsl]]]) (i := 1) (k := 0) (j := 4) (sz := 2) rfl rfl rfl
  rw [sN] at h
  exact h
 intro g1 hE1 hEE1 hg1 i hi
 obtain ⟨i1, i2, i3, i4⟩ := hi
 obtain ⟨⟨L, S⟩, hLS⟩ : ∃ z, rdRep (fun _ => rdAsg) i s5 = z := ⟨_, rfl⟩
 rw [hLS] at i2 i3 i4
 simp only at i2 i3 i4
 simp only [hLS]
 by_cases hin : i < n
 ·have hgd := i3 hin
  have ho := rdRep_one hLS hgd
  obtain ⟨⟨a1, S1⟩, ha1⟩ : ∃ z, rdNum S = z := ⟨_, rfl⟩
  obtain ⟨⟨a2, y2, w2⟩, ha2⟩ : ∃ z, rdNum S1 = z := ⟨_, rfl⟩
  have hf : rdAsg S = (⟨a1, a2⟩, (y2, w2)) := by unfold rdAsg; rw [ha1]; simp only; rw [ha2]
  rw [hf] at ho
  simp only at ho
  have l6 := rdNum_len (s := S)
  have l7 := rdNum_len (s := S1)
  rw [ha1] at l6
  rw [ha2] at l7
  simp only at l6 l7
  have c6 := fun b l h => num_run id S oM b l h
  have c7 := fun b l h => num_run id S1 oM b l h
  simp only [ha1] at c6
  simp only [ha2] at c7
  simp (disch := (first | decide | omega)) only [hA, hg1, go_sem]
  refine ACalls.nxt (c6 _ _ (gS _ _)) ?_
  simp (disch := (first | decide | omega)) only [hA, hg1, sN, gN, gN0, bN, bN0, lN, lN0, sB0, sL0, sB, sL, gS, go_sem]
  refine ACalls.nxt (c7 _ _ (gS _ _)) ?_
  cases w2 with
  | true =>
    rw [if_pos rfl] at ho
    have hst := rdRep_stop (f := fun _ => rdAsg) (s := s5) (i := i + 1) (n := n) (by rw [ho]) oM
    rw [hst, ho]
    simp (disch := (first | decide | omega)) only [hA, hg1, sN, gN, gN0, bN, bN0, lN, lN0, sB0, sL0, sB, sL, gS, setFrom, cellsOf, rRow, go_sem]
    exact leave_lowD (R := rRow (y2, true)) (xs := [.agg [.v (.int .i64 k1), .v (.int .i64 k2), .v (.int .i64 k3), .v (.int .i64 (last + k4)), .sl (B.length + 2) i 0 i]]) (.inr rfl) hB (by simp (disch := (first | decide | omega)) only [resVs, resV, hA, hg1, gN, gN0, go_sem]) (by rw [sN]; exact Dv.aggL (.cons (.v _) (.cons (.v _) (.cons (.v _) (.cons (.v _) (.cons (Dv.slV (i := 2) rfl (by simp [i2])) .nil)))))) hR.rset
  | false =>
    rw [if_neg (by decide)] at ho
    have htk := takeA i2
    have hct := catA (L := L) (a := a1) (c := a2)
    simp (disch := (first | decide | omega)) only [hA, hg1, sN, gN, gN0, bN, bN0, lN, lN0, sB0, sL0, sB, sL, gS, setFrom, cellsOf, rRow, htk, hct, List.length_map, List.replicate_succ, List.replicate_zero, i2, go_sem]
    refine ⟨i + 1, ⟨hin, by rw [ho]; simp [i2], fun _ => by rw [ho], by rw [ho]; simp only; omega⟩, by simp only; omega, ?_⟩
    simp only [ho]
    exact Weak.kround (p := r_tevt0) (k := 3) (b := B.set id (rRow (y2, false))) (by ((repeat refine (kAny_up rfl).trans ?_); exact hEE1)) (by ((try simp (disch := decide) only [hA, go_sem]) <;> exact kH)) rfl (by rw [sN]; rw [sN] at hE1; exact hE1) (by simp) (by rw [sN]; simp (disch := omega) only [KOvLt, lts.down, Nat.reduceLT, Nat.reduceAdd]) hR.rset (by rw [sN]; simp (disch := omega) only [lts.down, Nat.reduceLT, Nat.reduceAdd])
 ·obtain rfl : i = n := by omega
  rw [hLS]
  obtain ⟨y2, w2⟩ := S
  simp (disch := (first | decide | omega)) only [hA, hg1, sN, gN, gN0, bN, bN0, lN, lN0, sB0, sL0, sB, sL, gS, setFrom, cellsOf, go_sem]
  exact leave_lowD (R := rRow (y2, w2)) (xs := [.agg [.v (.int .i64 k1), .v (.int .i64 k2), .v (.int .i64 k3), .v (.int .i64 (last + k4)), .sl (B.length + 2) i 0 i]]) (.inr rfl) hB (by simp (disch := (first | decide | omega)) only [resVs, resV, hA, hg1, gN, gN0, go_sem]) (by rw [sN]; exact Dv.aggL (.cons (.v _) (.cons (.v _) (.cons (.v _) (.cons (.v _) (.cons (Dv.slV (i := 2) rfl (by simp [i2])) .nil)))))) hR.rset
def a_rtevt : AFunc := ⟨2,48,[.cell 4 (some 5)],(.seq (.region [⟨some 4,.alloc [(.v (.int .i64 0)),(.v (.int .i64 0)),(.v (.int .i64 0)),(.v (.int .i64 0)),(.v .zsl)],none⟩]) (.seq (.region [⟨some 9,.mv (.t 0),none⟩,⟨some 10,.call (.c (.fn 171 [])) [(.t 9)],none⟩,⟨some 11,.mv (.t 0),none⟩,⟨some 12,.call (.c (.fn 171 [])) [(.t 11)],none⟩,⟨some 13,.mv (.t 0),none⟩,⟨some 14,.call (.c (.fn 171 [])) [(.t 13)],none⟩,⟨some 15,.build [(.v (.int .i64 0)),(.v (.int .i64 0)),(.v (.int .i64 0)),(.v (.int .i64 0)),(.v .zsl)] [(0,1,(.t 10)),(1,1,(.t 12)),(2,1,(.t 14))],none⟩,⟨some 5,.alloc [(.v (.int .i64 0)),(.v (.int .i64 0)),(.v (.int .i64 0)),(.v (.int .i64 0)),(.v .zsl)],none⟩,⟨none,.store 5 (.t 5) (.t 15),none⟩]) (.seq (.region [⟨some 16,.mv (.t 1),none⟩,⟨some 17,.mv (.t 0),none⟩,⟨some 18,.call (.c (.fn 171 [])) [(.t 17)],none⟩,⟨some 19,.bin .add (.t 16) (.t 18),none⟩,⟨some 20,.faddr 3 (.t 5),none⟩,⟨none,.store 1 (.t 20) (.t 19),none⟩]) (.seq (.region [⟨some 21,.mv (.t 0),none⟩,⟨some 22,.call (.c (.fn 114 [])) [(.t 21)],none⟩,⟨some 6,.mv (.t 22),none⟩]) (.seq (.seq (.region [⟨some 7,.mv (.c (.v (.int .i64 0))),none⟩]) (.block 0 (.loop (.seq (.seq (.region [⟨some 23,.mv (.t 7),none⟩,⟨some 24,.mv (.t 6),none⟩,⟨some 25,.bin .lss (.t 23) (.t 24),none⟩,⟨some 26,.mv (.t 25),none⟩,⟨some 27,.mv (.t 0),some (26,true)⟩,⟨some 28,.nilck (.t 27),some (26,true)⟩,⟨some 29,.faddr 1 (.t 28),some (26,true)⟩,⟨some 30,.load none (.t 29),some (26,true)⟩,⟨some 31,.not (.t 30),some (26,true)⟩,⟨some 32,.pick (.t 26) (.t 31) (.c (.v (.bool false))),none⟩]) (.cond (.t 32) .skip (.exit 0))) (.seq (.block 1 (.seq (.region [⟨some 35,.mv (.t 0),none⟩,⟨some 36,.call (.c (.fn 171 [])) [(.t 35)],none⟩,⟨some 37,.build [(.v (.int .i64 0)),(.v (.int .i64 0))] [(0,1,(.t 36))],none⟩,⟨some 8,.alloc [(.v (.int .i64 0)),(.v (.int .i64 0))],none⟩,⟨none,.store 2 (.t 8) (.t 37),none⟩]) (.seq (.region [⟨some 38,.mv (.t 0),none⟩,⟨some 39,.call (.c (.fn 171 [])) [(.t 38)],none⟩,⟨some 40,.faddr 1 (.t 8),none⟩,⟨none,.store 1 (.t 40) (.t 39),none⟩]) (.region [⟨some 41,.faddr 4 (.t 5),none⟩,⟨some 42,.load none (.t 41),none⟩,⟨some 43,.load (some 2) (.t 8),none⟩,⟨some 44,.bslice 2 [(.v (.int .i64 0)),(.v (.int .i64 0))] 1 [(0,(.t 43))],none⟩,⟨some 45,.append 2 16 (.t 42) (.t 44),none⟩,⟨some 46,.faddr 4 (.t 5),none⟩,⟨none,.store 1 (.t 46) (.t 45),none⟩])))) (.region [⟨some 33,.mv (.t 7),none⟩,⟨some 34,.bin .add (.t 33) (.c (.v (.int .i64 1))),none⟩,⟨some 7,.mv (.t 34),none⟩])))))) (.seq (.region [⟨some 47,.load (some 5) (.t 5),none⟩,⟨none,.store 5 (.t 4) (.t 47),none⟩]) .ret))))))⟩
theorem a_rtevt_ok : cFunc Try.prog 173 = some a_rtevt := by kernel_rfl
def r_rtevt0 : List (Nat × Nat) := [(7, 8), (23, 46)]

set_option maxRecDepth 20000 in
set_option maxHeartbeats 8000000 in
theorem revt_run (id : Nat) (s : RS) (hl : s.1.length ≤ 1000000000) (last : Int) (hlast : -4611686018427387904 ≤ last ∧ last ≤ 4611686018427387904) (b l : List Row) (hg : hget b l id = some (rRow s)) :
  ACalls Try.prog 173 [.ptr id 0 0 0, .v (.int .i64 last)] b l (fun r b' l' => r = evA (rdEvR last s).1 ∧ b' = hsetB b id (rRow (rdEvR last s).2) ∧ l' = hsetL b l id (rRow (rdEvR last s).2)) := by
 refine calls_kept a_rtevt_ok rfl (by decide) ?_
 intro B g hB hR hE hA
 simp only [KArgs] at hA
 have hBi : B[id]? = some (rRow s) := by rw [hB, ← hget_eq]; exact hg
 have hidB : id < B.length := (List.getElem?_eq_some_iff.1 hBi).1
 have hgB := hgetLo hBi
 obtain ⟨gS, sB, sL, sB0, sL0, sN⟩ := low_facts hidB
 obtain ⟨gN, gN0, bN, bN0, lN, lN0⟩ := low_facts2 B id
 obtain ⟨⟨k1, s1⟩, h1⟩ : ∃ z, rdNum s = z := ⟨_, rfl⟩
 obtain ⟨⟨k2, s2⟩, h2⟩ : ∃ z, rdNum s1 = z := ⟨_, rfl⟩
 obtain ⟨⟨k3, s3⟩, h3⟩ : ∃ z, rdNum s2 = z := ⟨_, rfl⟩
 obtain ⟨⟨k4, s4⟩, h4⟩ : ∃ z, rdNum s3 = z := ⟨_, rfl⟩
 obtain ⟨⟨n, s5⟩, h5⟩ : ∃ z, rdCnt s4 = z := ⟨_, rfl⟩
 have l1 := rdNum_len (s := s)
 have l2 := rdNum_len (s := s1)
 have l3 := rdNum_len (s := s2)
 have l4 := rdNum_len (s := s3)
 have l5 := rdCnt_len (s := s4)
 have f4 := rdNum_far (s := s3)
 have lc := rdCnt_le (s := s4)
 have cp := rdCnt_pos (s := s4)
 rw [h1] at l1
 rw [h2] at l2
 rw [h3] at l3
 rw [h4] at l4 f4
 rw [h5] at l5 lc cp
 simp only at l1 l2 l3 l4 l5 f4 lc cp
 have c1 := fun b l h => rnum_run id s hl b l h
 have c2 := fun b l h => rnum_run id s1 oM b l h
 have c3 := fun b l h => rnum_run id s2 oM b l h
 have c4 := fun b l h => rnum_run id s3 oM b l h
 have c5 := fun b l h => rcnt_run id s4 oM b l h
 simp only [h1] at c1
 simp only [h2] at c2
 simp only [h3] at c3
 simp only [h4] at c4
 simp only [h5] at c5
 have hres : rdEvR last s = (⟨k1, k2, k3, last + k4, (rdRepR (fun _ => rdAsg) n s5).1⟩, (rdRepR (fun _ => rdAsg) n s5).2) := by
  have e1 : rd1 s = (k1, s1) := h1
  have e2 : rd2 s = (k2, s2) := by unfold rd2; rw [e1]; exact h2
  have e3 : rd3 s = (k3, s3) := by unfold rd3; rw [e2]; exact h3
  have e4 : rd4 s = (k4, s4) := by unfold rd4; rw [e3]; exact h4
  have e5 : rd5 s = (n, s5) := by unfold rd5; rw [e4]; exact h5
  unfold rdEvR rdEvG
  rw [e1, e2, e3, e4, e5]
 rw [hres]
 simp (disch := (first | decide | omega)) only [a_rtevt, hA, go_sem]
 refine ACalls.nxt (c1 _ _ (hgB _)) ?_
 simp (disch := (first | decide | omega)) only [hA, sN, gN, gN0, bN, bN0, lN, lN0, sB0, sL0, sB, sL, gS, go_sem]
 refine ACalls.nxt (c2 _ _ (gS _ _)) ?_
 simp (disch := (first | decide | omega)) only [hA, sN, gN, gN0, bN, bN0, lN, lN0, sB0, sL0, sB, sL, gS, go_sem]
 refine ACalls.nxt (c3 _ _ (gS _ _)) ?_
 simp (disch := (first | decide | omega)) only [hA, sN, gN, gN0, bN, bN0, lN, lN0, sB0, sL0, sB, sL, gS, setFrom, cellsOf, go_sem]
 refine ACalls.nxt (c4 _ _ (gS _ _)) ?_
 simp (disch := (first | decide | omega)) only [hA, sN, gN, gN0, bN, bN0, lN, lN0, sB0, sL0, sB, sL, gS, setFrom, cellsOf, go_sem]
 refine ACalls.nxt (c5 _ _ (gS _ _)) ?_
 simp (disch := (first | decide | omega)) only [hA, sN, gN, gN0, bN, bN0, lN, lN0, sB0, sL0, sB, sL, gS, setFrom, cellsOf, go_sem]
 refine loop_keptB (ι := Nat) r_rtevt0 (fun i => [(7, .v (.int .i64 i))]) 3 (fun i => B.set id (rRow (rdRepR (fun _ => rdAsg) i s5).2)) (fun i => [.live 0 5 [[.v (.int .i64 0), .v (.int .i64 0), .v (.int .i64 0), .v (.int .i64 0), .v .zsl]], .live 0 5 [[.v (.int .i64 k1), .v (.int .i64 k2), .v (.int .i64 k3), .v (.int .i64 (last + k4)), .sl (B.length + 2) i 0 i]], .live i 2 (vs ((rdRepR (fun _ => rdAsg) i s5).1.map eAsg))])
  (fun i => i ≤ n ∧ (rdRepR (fun _ => rdAsg) i s5).1.length = i ∧ (rdRepR (fun _ => rdAsg) i s5).2.1.length ≤ s5.1.length) (fun i => n - i) 0 ⟨Nat.zero_le _, rfl, Nat.le_refl _⟩ (by rw [sN]; (repeat (first | exact hE.mono oM | refine KLt.up ?_ kL))) (by ((try simp (disch := decide) only [hA, go_sem]) <;> exact kH)) rfl (fun e => ?_) ?_
 ·have h := Weak.nilcell (e := e) (b := B.set id (rRow s5)) (l := [.live 0 5 [[.v (.int .i64 0), .v (.int .i64 0), .v (.int .i64 0), .v (.int .i64 0), .v .zsl]], .live 0 5 [[.v (.int .i64 k1), .v (.int .i64 k2), .v (.int .i64 k3), .v (.int .i64 (last + k4)), .v .zsl]]]) (i := 1) (k := 0) (j := 4) (sz := 2) rfl rfl rfl
  rw [sN] at h
  exact h
 intro g1 hE1 hEE1 hg1 i hi
 obtain ⟨i1, i2, i4⟩ := hi
 obtain ⟨⟨L, y, w⟩, hLS⟩ : ∃ z, rdRepR (fun _ => rdAsg) i s5 = z := ⟨_, rfl⟩
 rw [hLS] at i2 i4
 simp only at i2 i4
 simp only [hLS]
 by_cases hin : i < n
 ·cases w with
  | true =>
    have hst := rdRepR_stop (f := fun _ => rdAsg) (s := s5) (i := i) (n := n) (by rw [hLS]) oM
    rw [hst, hLS]
    simp (disch := (first | decide | omega)) only [hA, hg1, sN, gN, gN0, bN, bN0, lN, lN0, sB0, sL0, sB, sL, gS, setFrom, cellsOf, rRow, go_sem]
    exact leave_lowD (R := rRow (y, true)) (xs := [.agg [.v (.int .i64 k1), .v (.int .i64 k2), .v (.int .i64 k3), .v (.int .i64 (last + k4)), .sl (B.length + 2) i 0 i]]) (.inr rfl) hB (by simp (disch := (first | decide | omega)) only [resVs, resV, hA, hg1, gN, gN0, go_sem]) (by rw [sN]; exact Dv.aggL (.cons (.v _) (.cons (.v _) (.cons (.v _) (.cons (.v _) (.cons (Dv.slV (i := 2) rfl (by simp [i2])) .nil)))))) hR.rset
  | false =>
    have ho := rdRepR_one hLS rfl
    obtain ⟨⟨a1, S1⟩, ha1⟩ : ∃ z, rdNum (y, false) = z := ⟨_, rfl⟩
    obtain ⟨⟨a2, y2, w2⟩, ha2⟩ : ∃ z, rdNum S1 = z := ⟨_, rfl⟩
    have hf : rdAsg (y, false) = (⟨a1, a2⟩, (y2, w2)) := by unfold rdAsg; rw [ha1]; simp only; rw [ha2]
    rw [hf] at ho
    simp only at ho
    have l6 := rdNum_len (s := (y, false))
    have l7 := rdNum_len (s := S1)
    rw [ha1] at l6
    rw [ha2] at l7
    simp only at l6 l7
    have c6 := fun b l h => rnum_run id (y, false) (by simp only; omega) b l h
    have c7 := fun b l h => rnum_run id S1 oM b l h
    simp only [ha1] at c6
    simp only [ha2] at c7
    have gS0 : ∀ (q : RS) l', hget (B.set id (.live 0 2 [[.v (.isl 1 (q.1.map eB)), .v (.bool q.2)]])) l' id = some (rRow q) := fun q l' => gS _ _
    simp (disch := (first | decide | omega)) only [hA, hg1, sN, gN, gN0, bN, bN0, lN, lN0, sB0, sL0, sB, sL, gS, rRow, go_sem]
    refine ACalls.nxt (c6 _ _ (gS0 (y, false) _)) ?_
    simp (disch := (first | decide | omega)) only [hA, hg1, sN, gN, gN0, bN, bN0, lN, lN0, sB0, sL0, sB, sL, gS, setFrom, cellsOf, go_sem]
    refine ACalls.nxt (c7 _ _ (gS _ _)) ?_
    have htk := takeA i2
    have hct := catA (L := L) (a := a1) (c := a2)
    simp (disch := (first | decide | omega)) only [hA, hg1, sN, gN, gN0, bN, bN0, lN, lN0, sB0, sL0, sB, sL, gS, setFrom, cellsOf, rRow, htk, hct, List.length_map, List.replicate_succ, List.replicate_zero, i2, go_sem]
    refine ⟨i + 1, ⟨hin, by rw [ho]; simp [i2], by rw [ho]; simp only; omega⟩, by simp only; omega, ?_⟩
    simp only [ho]
    exact Weak.kround (p := r_rtevt0) (k := 3) (b := B.set id (rRow (y2, w2))) (by ((repeat refine (kAny_up rfl).trans ?_); exact hEE1)) (by ((try simp (disch := decide) only [hA, go_sem]) <;> exact kH)) rfl (by rw [sN]; rw [sN] at hE1; exact hE1) (by simp) (by rw [sN]; simp (disch := omega) only [KOvLt, lts.down, Nat.reduceLT, Nat.reduceAdd]) hR.rset (by rw [sN]; simp (disch := omega) only [lts.down, Nat.reduceLT, Nat.reduceAdd])
 ·obtain rfl : i = n := by omega
  rw [hLS]
  simp (disch := (first | decide | omega)) only [hA, hg1, sN, gN, gN0, bN, bN0, lN, lN0, sB0, sL0, sB, sL, gS, setFrom, cellsOf, go_sem]
  exact leave_lowD (R := rRow (y, w)) (xs := [.agg [.v (.int .i64 k1), .v (.int .i64 k2), .v (.int .i64 k3), .v (.int .i64 (last + k4)), .sl (B.length + 2) i 0 i]]) (.inr rfl) hB (by simp (disch := (first | decide | omega)) only [resVs, resV, hA, hg1, gN, gN0, go_sem]) (by rw [sN]; exact Dv.aggL (.cons (.v _) (.cons (.v _) (.cons (.v _) (.cons (.v _) (.cons (Dv.slV (i := 2) rfl (by simp [i2])) .nil)))))) hR.rset
end Go.Proofs.Ytanblnhnfkeffaa
