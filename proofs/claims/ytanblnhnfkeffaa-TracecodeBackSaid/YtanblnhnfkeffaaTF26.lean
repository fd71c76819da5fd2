/- Texts of one proof, laid together: ZP. No condition. -/
import Derived.Test.YtanblnhnfkeffaaTF23
import Derived.Test.YtanblnhnfkeffaaTF25
namespace Go.Proofs.Ytanblnhnfkeffaa
set_option linter.unusedVariables false
set_option linter.unusedSimpArgs false
attribute [local go_sem ↓] run_skip run_region run_draw run_both run_seq run_block run_exit run_ret run_cond atN_app seqC_normal seqC_exit seqC_ret seqQ_normal seqQ_exit seqQ_ret blkQ_normal blkQ_exit blkQ_ret runOps_nil runOps_cons runD_nil runD_cons grdO_true grdO_false grdD_true grdD_false ifC_true ifC_false opS_val opS_call opS_two opK_app dS_val dS_call dS_two dK_app kUp_same kUp_ne
attribute [local go_sem] rechks_nil rechks_cons rechk gcase_true gcase_false ex_val ex_val0 gd_none gd_some ev_t ev_c evs_nil evs_cons evo_some evo_none hget_at hget_first hsetB_at hsetB_first hsetL_at hsetL_first ofOpt_some aop aload astore aslice aappend aiaddr aiaddrA afaddr alen alenS acopy amm acall alookup amupdate alenM atostr aappz comma keyEq apick binV binVB binVS isSh intOp strOp boolOp shOp eqC eqF and2 cellsOf setFrom fillA fillS rd rdI elems mk bounds AV.cell List.all_cons List.all_nil Bool.and_true Bool.true_and Bool.and_self List.length_cons List.length_nil List.length_append Nat.reduceAdd Nat.reduceSub Nat.reduceMul Nat.zero_add Nat.add_zero List.cons_append List.nil_append List.append_assoc List.append_nil List.getElem?_cons_zero List.getElem?_cons_succ List.getElem?_nil List.set_cons_zero List.set_cons_succ List.drop_zero List.drop_succ_cons List.take_zero List.take_succ_cons List.take_nil List.drop_nil List.map_cons List.map_nil Option.map_some if_true if_false Bool.false_eq_true and_self true_and and_true Nat.reduceLeDiff Nat.reduceLT Nat.le_refl Nat.reduceEqDiff ite_true ite_false beq_self_eq_true beq_true beq_false Bool.not_true Bool.not_false Bool.true_beq Bool.false_beq map_vs vs_len vs_get vs_take vs_drop vs_snoc1 vs_snoc2 vs_snoc3 vs_snoc5 vs_set1 vs_set2 vs_rep wrap_id le_T lt_T le_F lt_F leI_T ltI_T leI_F ltI_F geI gtI get_T decide_true decide_false room List.getElem?_map List.length_map List.length_take Int.toNat_natCast Nat.min_def Nat.min_self nth_kOf put_kOf put_kNo kOv_cons kOv_nil KHas KArgs List.getElem_cons_zero List.getElem_cons_succ
def a_tcBack : AFunc := ⟨3,141,[.tmp 6],(.seq (.region [⟨some 3,.box (.t 0),none⟩,⟨some 6,.mv (.c (.v (.bool false))),none⟩]) (.seq (.seq (.region [⟨some 25,.call (.c (.fn 33 [])) [],none⟩,⟨some 26,.not (.t 25),none⟩]) (.cond (.t 26) (.seq (.region [⟨some 6,.mv (.c (.v (.bool false))),none⟩]) .ret) .skip)) (.seq (.seq (.region [⟨some 27,.load (some 1) (.t 3),none⟩,⟨some 28,.call (.c (.fn 34 [])) [(.t 27)],none⟩,⟨some 29,.mv (.t 28),none⟩,⟨some 30,.mv (.t 2),some (29,false)⟩,⟨some 31,.len (.t 30),some (29,false)⟩,⟨some 32,.bin .gtr (.t 31) (.c (.v (.int .i64 20000))),some (29,false)⟩,⟨some 33,.pick (.t 29) (.c (.v (.bool true))) (.t 32),none⟩]) (.cond (.t 33) (.seq (.region [⟨some 6,.mv (.c (.v (.bool true))),none⟩]) .ret) .skip)) (.seq (.seq (.region [⟨some 35,.load (some 1) (.t 3),none⟩,⟨some 36,.call (.c (.fn 35 [])) [(.t 35)],none⟩,⟨some 34,.mv (.t 36),none⟩,⟨some 37,.extract 0 (.t 34),none⟩,⟨some 38,.extract 1 (.t 34),none⟩,⟨some 7,.mv (.t 37),none⟩,⟨some 8,.mv (.t 38),none⟩]) (.seq (.region [⟨some 39,.mv (.t 8),none⟩,⟨some 40,.bin .eql (.t 39) (.c (.v (.int .i64 0))),none⟩]) (.cond (.t 40) (.seq (.region [⟨some 42,.mv (.t 7),none⟩,⟨some 43,.call (.c (.fn 39 [])) [(.t 42)],none⟩,⟨some 41,.mv (.t 43),none⟩,⟨some 44,.extract 0 (.t 41),none⟩,⟨some 45,.extract 1 (.t 41),none⟩,⟨some 9,.alloc [(.v .zsl)],none⟩,⟨none,.store 1 (.t 9) (.t 44),none⟩,⟨some 10,.mv (.t 45),none⟩]) (.seq (.region [⟨some 46,.mv (.t 10),none⟩,⟨some 47,.bin .neq (.t 46) (.c (.v (.int .i64 0))),none⟩,⟨some 48,.mv (.t 47),none⟩,⟨some 49,.load (some 1) (.t 3),some (48,false)⟩,⟨some 50,.load (some 1) (.t 9),some (48,false)⟩,⟨some 51,.call (.c (.fn 20 [])) [(.t 49),(.t 50)],some (48,false)⟩,⟨some 52,.not (.t 51),some (48,false)⟩,⟨some 53,.pick (.t 48) (.c (.v (.bool true))) (.t 52),none⟩]) (.cond (.t 53) (.seq (.region [⟨some 6,.mv (.c (.v (.bool false))),none⟩]) .ret) .skip))) .skip))) (.seq (.seq (.region [⟨some 55,.mv (.t 2),none⟩,⟨some 56,.call (.c (.fn 39 [])) [(.t 55)],none⟩,⟨some 54,.mv (.t 56),none⟩,⟨some 57,.extract 0 (.t 54),none⟩,⟨some 58,.extract 1 (.t 54),none⟩,⟨some 11,.alloc [(.v .zsl)],none⟩,⟨none,.store 1 (.t 11) (.t 57),none⟩,⟨some 12,.mv (.t 58),none⟩]) (.seq (.region [⟨some 59,.mv (.t 12),none⟩,⟨some 60,.bin .eql (.t 59) (.c (.v (.int .i64 0))),none⟩]) (.cond (.t 60) (.seq (.region [⟨some 62,.load (some 1) (.t 11),none⟩,⟨some 63,.call (.c (.fn 35 [])) [(.t 62)],none⟩,⟨some 61,.mv (.t 63),none⟩,⟨some 64,.extract 0 (.t 61),none⟩,⟨some 65,.extract 1 (.t 61),none⟩,⟨some 13,.mv (.t 64),none⟩,⟨some 14,.mv (.t 65),none⟩]) (.seq (.region [⟨some 66,.mv (.t 14),none⟩,⟨some 67,.bin .neq (.t 66) (.c (.v (.int .i64 0))),none⟩,⟨some 68,.mv (.t 67),none⟩,⟨some 69,.mv (.t 13),some (68,false)⟩,⟨some 70,.mv (.t 2),some (68,false)⟩,⟨some 71,.call (.c (.fn 38 [])) [(.t 69),(.t 70)],some (68,false)⟩,⟨some 72,.not (.t 71),some (68,false)⟩,⟨some 73,.pick (.t 68) (.c (.v (.bool true))) (.t 72),none⟩]) (.cond (.t 73) (.seq (.region [⟨some 6,.mv (.c (.v (.bool false))),none⟩]) .ret) .skip))) .skip))) (.seq (.seq (.region [⟨some 75,.mv (.t 1),none⟩,⟨some 76,.call (.c (.fn 44 [])) [(.t 75)],none⟩,⟨some 74,.mv (.t 76),none⟩,⟨some 77,.extract 0 (.t 74),none⟩,⟨some 78,.extract 1 (.t 74),none⟩,⟨some 15,.mv (.t 77),none⟩,⟨some 16,.mv (.t 78),none⟩]) (.seq (.region [⟨some 79,.mv (.t 16),none⟩,⟨some 80,.bin .eql (.t 79) (.c (.v (.int .i64 0))),none⟩]) (.cond (.t 80) (.seq (.region [⟨some 82,.mv (.t 15),none⟩,⟨some 83,.mv (.t 2),none⟩,⟨some 84,.bslice 1 [(.v .zsl)] 2 [(0,(.t 82)),(1,(.t 83))],none⟩,⟨some 85,.call (.c (.fn 46 [])) [(.t 84)],none⟩,⟨some 86,.call (.c (.fn 45 [])) [(.t 85)],none⟩,⟨some 81,.mv (.t 86),none⟩,⟨some 87,.extract 0 (.t 81),none⟩,⟨some 88,.extract 1 (.t 81),none⟩,⟨some 89,.extract 2 (.t 81),none⟩,⟨some 17,.mv (.t 87),none⟩,⟨some 18,.mv (.t 88),none⟩,⟨some 19,.mv (.t 89),none⟩]) (.seq (.region [⟨some 90,.mv (.t 19),none⟩,⟨some 91,.bin .neq (.t 90) (.c (.v (.int .i64 0))),none⟩,⟨some 92,.mv (.t 91),none⟩,⟨some 93,.mv (.t 17),some (92,false)⟩,⟨some 94,.mv (.t 1),some (92,false)⟩,⟨some 95,.bin .neq (.t 93) (.t 94),some (92,false)⟩,⟨some 96,.pick (.t 92) (.c (.v (.bool true))) (.t 95),none⟩,⟨some 97,.mv (.t 96),none⟩,⟨some 98,.mv (.t 18),some (97,false)⟩,⟨some 99,.mv (.t 15),some (97,false)⟩,⟨some 100,.len (.t 99),some (97,false)⟩,⟨some 101,.bin .neq (.t 98) (.t 100),some (97,false)⟩,⟨some 102,.pick (.t 97) (.c (.v (.bool true))) (.t 101),none⟩]) (.cond (.t 102) (.seq (.region [⟨some 6,.mv (.c (.v (.bool false))),none⟩]) .ret) .skip))) .skip))) (.seq (.region [⟨some 104,.mv (.t 2),none⟩,⟨some 105,.call (.c (.fn 45 [])) [(.t 104)],none⟩,⟨some 103,.mv (.t 105),none⟩,⟨some 106,.extract 0 (.t 103),none⟩,⟨some 107,.extract 1 (.t 103),none⟩,⟨some 108,.extract 2 (.t 103),none⟩,⟨some 20,.mv (.t 106),none⟩,⟨some 21,.mv (.t 107),none⟩,⟨some 22,.mv (.t 108),none⟩]) (.seq (.seq (.region [⟨some 109,.mv (.t 22),none⟩,⟨some 110,.bin .neq (.t 109) (.c (.v (.int .i64 0))),none⟩]) (.cond (.t 110) (.seq (.region [⟨some 111,.mv (.t 20),none⟩,⟨some 112,.bin .eql (.t 111) (.c (.v (.int .i64 0))),none⟩,⟨some 113,.mv (.t 112),none⟩,⟨some 114,.mv (.t 21),some (113,true)⟩,⟨some 115,.bin .eql (.t 114) (.c (.v (.int .i64 0))),some (113,true)⟩,⟨some 116,.pick (.t 113) (.t 115) (.c (.v (.bool false))),none⟩,⟨some 6,.mv (.t 116),none⟩]) .ret) .skip)) (.seq (.region [⟨some 118,.mv (.t 20),none⟩,⟨some 119,.call (.c (.fn 44 [])) [(.t 118)],none⟩,⟨some 117,.mv (.t 119),none⟩,⟨some 120,.extract 0 (.t 117),none⟩,⟨some 121,.extract 1 (.t 117),none⟩,⟨some 23,.mv (.t 120),none⟩,⟨some 24,.mv (.t 121),none⟩]) (.seq (.region [⟨some 122,.mv (.t 24),none⟩,⟨some 123,.bin .eql (.t 122) (.c (.v (.int .i64 0))),none⟩,⟨some 124,.mv (.t 123),none⟩,⟨some 125,.mv (.t 21),some (124,true)⟩,⟨some 126,.bin .geq (.t 125) (.c (.v (.int .i64 1))),some (124,true)⟩,⟨some 127,.pick (.t 124) (.t 126) (.c (.v (.bool false))),none⟩,⟨some 128,.mv (.t 127),none⟩,⟨some 129,.mv (.t 21),some (128,true)⟩,⟨some 130,.mv (.t 2),some (128,true)⟩,⟨some 131,.len (.t 130),some (128,true)⟩,⟨some 132,.bin .leq (.t 129) (.t 131),some (128,true)⟩,⟨some 133,.pick (.t 128) (.t 132) (.c (.v (.bool false))),none⟩,⟨some 134,.mv (.t 133),none⟩,⟨some 135,.mv (.t 23),some (134,true)⟩,⟨some 136,.mv (.t 2),some (134,true)⟩,⟨some 137,.mv (.t 21),some (134,true)⟩,⟨some 138,.slice 1 (.t 136) none (some (.t 137)),some (134,true)⟩,⟨some 139,.call (.c (.fn 38 [])) [(.t 135),(.t 138)],some (134,true)⟩,⟨some 140,.pick (.t 134) (.t 139) (.c (.v (.bool false))),none⟩,⟨some 6,.mv (.t 140),none⟩]) .ret))))))))))⟩
theorem a_tcBack_ok : cFunc Try.prog 7 = some a_tcBack := by kernel_rfl

theorem getGo_err (l : List UInt8) : ∀ {i z : Nat}, (getGo i z l).2.2 ≠ 0 → (getGo i z l).1 = 0 ∧ (getGo i z l).2.1 = 0 := by
 induction l with
 | nil => intro i z h; rw [getGo] at h ⊢; exact ⟨rfl, rfl⟩
 | cons c r ih =>
   intro i z
   rw [getGo]
   (repeat' split) <;> intro h <;> first | exact ⟨rfl, rfl⟩ | exact ih h | exact absurd rfl h
theorem getL_err {l : List UInt8} (h : (getL l).2.2 ≠ 0) : getL l = (0, 0, (getL l).2.2) := by
 obtain ⟨h1, h2⟩ := getGo_err l (i := 0) (z := 0) h
 exact Prod.ext h1 (Prod.ext h2 rfl)
theorem enc_cases (t : Tr) : (∃ e : Int, encR t = .tup [.v .zsl, .v (.int .i64 e)] ∧ (e == 0) = false) ∨ (encR t = .tup [.v (.isl 1 ((codeL t).map eB)), .v (.int .i64 0)] ∧ decodeL (codeL t) = (t, 0) ∧ (codeL t).length ≤ 16384) := by
 unfold encR
 cases hv : validL t with
 | false => exact .inl ⟨1, by rw [if_pos rfl], rfl⟩
 | true =>
   rw [if_neg (by decide)]
   by_cases hb : 16384 < (codeL t).length
   ·exact .inl ⟨5, by rw [if_pos hb], rfl⟩
   ·have e : encodeL t = (codeL t, 0) := by unfold encodeL; rw [if_neg (by rw [hv]; decide), if_neg hb]
    have := decode_encode (t := t) (by rw [e])
    rw [e] at this
    exact .inr ⟨by rw [if_neg hb], this, by omega⟩
theorem dec_cases (bs : List UInt8) : (∃ (u : Tr) (e : Int), decR bs = .tup [.agg [.v (eT u)], .v (.int .i64 e)] ∧ (e == 0) = false) ∨ (∃ u : Tr, decR bs = .tup [.agg [.v (eT u)], .v (.int .i64 0)] ∧ Small u ∧ Nm u ∧ encR u = .tup [.v (.isl 1 (bs.map eB)), .v (.int .i64 0)]) := by
 obtain ⟨s1, s2⟩ := dec_small bs
 unfold decR
 by_cases h : (decodeL bs).2 = 0
 ·refine .inr ⟨(decodeL bs).1, by rw [h], s1, s2, ?_⟩
  have e := encode_decode h
  unfold encodeL at e
  unfold encR
  split at e
  ·cases e
  rename_i h1
  split at e
  ·cases e
  rename_i h2
  rw [if_neg h1, if_neg h2, show codeL (decodeL bs).1 = bs from congrArg Prod.fst e]
 ·exact .inl ⟨_, _, rfl, by simpa using h⟩
theorem put_cases (n : Int) : (PutR n = .tup [.v .zsl, .v (.int .i64 2)]) ∨ (PutR n = .tup [.v (.isl 1 ((putL n).map eB)), .v (.int .i64 0)] ∧ far n = false ∧ 0 < (putL n).length ∧ (putL n).length ≤ 11) := by
 unfold PutR
 cases h : far n with
 | true => exact .inl (by rw [if_pos rfl])
 | false => exact .inr ⟨by rw [if_neg (by decide)], rfl, putL_pos n, (putN_len 10 (zig n)).2⟩
theorem getB_cases (bs : List UInt8) : (∃ e : Int, getR bs = .tup [.v (.int .i64 0), .v (.int .i64 0), .v (.int .i64 e)] ∧ (e != 0) = true) ∨ (∃ (m : Int) (k : Nat), getR bs = .tup [.v (.int .i64 m), .v (.int .i64 (k : Int)), .v (.int .i64 0)] ∧ 1 ≤ k ∧ k ≤ bs.length ∧ far m = false ∧ putL m = bs.take k) := by
 by_cases h : (getL bs).2.2 = 0
 ·obtain ⟨k, k1, k2, k3, _, k5, k6⟩ := get_canon (l := bs) (m := (getL bs).1) (s := (getL bs).2.1) (Prod.ext rfl (Prod.ext rfl h))
  exact .inr ⟨(getL bs).1, k, by unfold getR; rw [k1, h], k2, k3, k5, k6⟩
 ·exact .inl ⟨(getL bs).2.2, by unfold getR; rw [getL_err h], by simpa using h⟩
def tcBackD : ACode := (.seq (.region [⟨(some 104), .mv (.t 2), none⟩, ⟨(some 105), .call (.c (.fn 45 [])) [(.t 104)], none⟩, ⟨(some 103), .mv (.t 105), none⟩, ⟨(some 106), .extract 0 (.t 103), none⟩, ⟨(some 107), .extract 1 (.t 103), none⟩, ⟨(some 108), .extract 2 (.t 103), none⟩, ⟨(some 20), .mv (.t 106), none⟩, ⟨(some 21), .mv (.t 107), none⟩, ⟨(some 22), .mv (.t 108), none⟩])
 (.seq (.seq (.region [⟨(some 109), .mv (.t 22), none⟩, ⟨(some 110), .bin .neq (.t 109) (.c (.v (.int .i64 0))), none⟩])
 (.cond (.t 110) (.seq (.region [⟨(some 111), .mv (.t 20), none⟩, ⟨(some 112), .bin .eql (.t 111) (.c (.v (.int .i64 0))), none⟩, ⟨(some 113), .mv (.t 112), none⟩, ⟨(some 114), .mv (.t 21), some (113, true)⟩, ⟨(some 115), .bin .eql (.t 114) (.c (.v (.int .i64 0))), some (113, true)⟩, ⟨(some 116), .pick (.t 113) (.t 115) (.c (.v (.bool false))), none⟩, ⟨(some 6), .mv (.t 116), none⟩])
 .ret)
 .skip))
 (.seq (.region [⟨(some 118), .mv (.t 20), none⟩, ⟨(some 119), .call (.c (.fn 44 [])) [(.t 118)], none⟩, ⟨(some 117), .mv (.t 119), none⟩, ⟨(some 120), .extract 0 (.t 117), none⟩, ⟨(some 121), .extract 1 (.t 117), none⟩, ⟨(some 23), .mv (.t 120), none⟩, ⟨(some 24), .mv (.t 121), none⟩])
 (.seq (.region [⟨(some 122), .mv (.t 24), none⟩, ⟨(some 123), .bin .eql (.t 122) (.c (.v (.int .i64 0))), none⟩, ⟨(some 124), .mv (.t 123), none⟩, ⟨(some 125), .mv (.t 21), some (124, true)⟩, ⟨(some 126), .bin .geq (.t 125) (.c (.v (.int .i64 1))), some (124, true)⟩, ⟨(some 127), .pick (.t 124) (.t 126) (.c (.v (.bool false))), none⟩, ⟨(some 128), .mv (.t 127), none⟩, ⟨(some 129), .mv (.t 21), some (128, true)⟩, ⟨(some 130), .mv (.t 2), some (128, true)⟩, ⟨(some 131), .len (.t 130), some (128, true)⟩, ⟨(some 132), .bin .leq (.t 129) (.t 131), some (128, true)⟩, ⟨(some 133), .pick (.t 128) (.t 132) (.c (.v (.bool false))), none⟩, ⟨(some 134), .mv (.t 133), none⟩, ⟨(some 135), .mv (.t 23), some (134, true)⟩, ⟨(some 136), .mv (.t 2), some (134, true)⟩, ⟨(some 137), .mv (.t 21), some (134, true)⟩, ⟨(some 138), .slice 1 (.t 136) none (some (.t 137)), some (134, true)⟩, ⟨(some 139), .call (.c (.fn 38 [])) [(.t 135), (.t 138)], some (134, true)⟩, ⟨(some 140), .pick (.t 134) (.t 139) (.c (.v (.bool false))), none⟩, ⟨(some 6), .mv (.t 140), none⟩])
 .ret))))
def tcBackC : ACode := (.seq (.seq (.region [⟨(some 75), .mv (.t 1), none⟩, ⟨(some 76), .call (.c (.fn 44 [])) [(.t 75)], none⟩, ⟨(some 74), .mv (.t 76), none⟩, ⟨(some 77), .extract 0 (.t 74), none⟩, ⟨(some 78), .extract 1 (.t 74), none⟩, ⟨(some 15), .mv (.t 77), none⟩, ⟨(some 16), .mv (.t 78), none⟩])
 (.seq (.region [⟨(some 79), .mv (.t 16), none⟩, ⟨(some 80), .bin .eql (.t 79) (.c (.v (.int .i64 0))), none⟩])
 (.cond (.t 80) (.seq (.region [⟨(some 82), .mv (.t 15), none⟩, ⟨(some 83), .mv (.t 2), none⟩, ⟨(some 84), .bslice 1 [(.v .zsl)] 2 [(0, (.t 82)), (1, (.t 83))], none⟩, ⟨(some 85), .call (.c (.fn 46 [])) [(.t 84)], none⟩, ⟨(some 86), .call (.c (.fn 45 [])) [(.t 85)], none⟩, ⟨(some 81), .mv (.t 86), none⟩, ⟨(some 87), .extract 0 (.t 81), none⟩, ⟨(some 88), .extract 1 (.t 81), none⟩, ⟨(some 89), .extract 2 (.t 81), none⟩, ⟨(some 17), .mv (.t 87), none⟩, ⟨(some 18), .mv (.t 88), none⟩, ⟨(some 19), .mv (.t 89), none⟩])
 (.seq (.region [⟨(some 90), .mv (.t 19), none⟩, ⟨(some 91), .bin .neq (.t 90) (.c (.v (.int .i64 0))), none⟩, ⟨(some 92), .mv (.t 91), none⟩, ⟨(some 93), .mv (.t 17), some (92, false)⟩, ⟨(some 94), .mv (.t 1), some (92, false)⟩, ⟨(some 95), .bin .neq (.t 93) (.t 94), some (92, false)⟩, ⟨(some 96), .pick (.t 92) (.c (.v (.bool true))) (.t 95), none⟩, ⟨(some 97), .mv (.t 96), none⟩, ⟨(some 98), .mv (.t 18), some (97, false)⟩, ⟨(some 99), .mv (.t 15), some (97, false)⟩, ⟨(some 100), .len (.t 99), some (97, false)⟩, ⟨(some 101), .bin .neq (.t 98) (.t 100), some (97, false)⟩, ⟨(some 102), .pick (.t 97) (.c (.v (.bool true))) (.t 101), none⟩])
 (.cond (.t 102) (.seq (.region [⟨(some 6), .mv (.c (.v (.bool false))), none⟩])
 .ret)
 .skip)))
 .skip)))
 tcBackD)
theorem a_tcBack_cut : a_tcBack = ⟨3, 141, [.tmp 6],
 (.seq (.region [⟨(some 3), .box (.t 0), none⟩, ⟨(some 6), .mv (.c (.v (.bool false))), none⟩])
 (.seq (.seq (.region [⟨(some 25), .call (.c (.fn 33 [])) [], none⟩, ⟨(some 26), .not (.t 25), none⟩])
 (.cond (.t 26) (.seq (.region [⟨(some 6), .mv (.c (.v (.bool false))), none⟩])
 .ret)
 .skip))
 (.seq (.seq (.region [⟨(some 27), .load (some 1) (.t 3), none⟩, ⟨(some 28), .call (.c (.fn 34 [])) [(.t 27)], none⟩, ⟨(some 29), .mv (.t 28), none⟩, ⟨(some 30), .mv (.t 2), some (29, false)⟩, ⟨(some 31), .len (.t 30), some (29, false)⟩, ⟨(some 32), .bin .gtr (.t 31) (.c (.v (.int .i64 20000))), some (29, false)⟩, ⟨(some 33), .pick (.t 29) (.c (.v (.bool true))) (.t 32), none⟩])
 (.cond (.t 33) (.seq (.region [⟨(some 6), .mv (.c (.v (.bool true))), none⟩])
 .ret)
 .skip))
 (.seq (.seq (.region [⟨(some 35), .load (some 1) (.t 3), none⟩, ⟨(some 36), .call (.c (.fn 35 [])) [(.t 35)], none⟩, ⟨(some 34), .mv (.t 36), none⟩, ⟨(some 37), .extract 0 (.t 34), none⟩, ⟨(some 38), .extract 1 (.t 34), none⟩, ⟨(some 7), .mv (.t 37), none⟩, ⟨(some 8), .mv (.t 38), none⟩])
 (.seq (.region [⟨(some 39), .mv (.t 8), none⟩, ⟨(some 40), .bin .eql (.t 39) (.c (.v (.int .i64 0))), none⟩])
 (.cond (.t 40) (.seq (.region [⟨(some 42), .mv (.t 7), none⟩, ⟨(some 43), .call (.c (.fn 39 [])) [(.t 42)], none⟩, ⟨(some 41), .mv (.t 43), none⟩, ⟨(some 44), .extract 0 (.t 41), none⟩, ⟨(some 45), .extract 1 (.t 41), none⟩, ⟨(some 9), .alloc [(.v .zsl)], none⟩, ⟨none, .store 1 (.t 9) (.t 44), none⟩, ⟨(some 10), .mv (.t 45), none⟩])
 (.seq (.region [⟨(some 46), .mv (.t 10), none⟩, ⟨(some 47), .bin .neq (.t 46) (.c (.v (.int .i64 0))), none⟩, ⟨(some 48), .mv (.t 47), none⟩, ⟨(some 49), .load (some 1) (.t 3), some (48, false)⟩, ⟨(some 50), .load (some 1) (.t 9), some (48, false)⟩, ⟨(some 51), .call (.c (.fn 20 [])) [(.t 49), (.t 50)], some (48, false)⟩, ⟨(some 52), .not (.t 51), some (48, false)⟩, ⟨(some 53), .pick (.t 48) (.c (.v (.bool true))) (.t 52), none⟩])
 (.cond (.t 53) (.seq (.region [⟨(some 6), .mv (.c (.v (.bool false))), none⟩])
 .ret)
 .skip)))
 .skip)))
 (.seq (.seq (.region [⟨(some 55), .mv (.t 2), none⟩, ⟨(some 56), .call (.c (.fn 39 [])) [(.t 55)], none⟩, ⟨(some 54), .mv (.t 56), none⟩, ⟨(some 57), .extract 0 (.t 54), none⟩, ⟨(some 58), .extract 1 (.t 54), none⟩, ⟨(some 11), .alloc [(.v .zsl)], none⟩, ⟨none, .store 1 (.t 11) (.t 57), none⟩, ⟨(some 12), .mv (.t 58), none⟩])
 (.seq (.region [⟨(some 59), .mv (.t 12), none⟩, ⟨(some 60), .bin .eql (.t 59) (.c (.v (.int .i64 0))), none⟩])
 (.cond (.t 60) (.seq (.region [⟨(some 62), .load (some 1) (.t 11), none⟩, ⟨(some 63), .call (.c (.fn 35 [])) [(.t 62)], none⟩, ⟨(some 61), .mv (.t 63), none⟩, ⟨(some 64), .extract 0 (.t 61), none⟩, ⟨(some 65), .extract 1 (.t 61), none⟩, ⟨(some 13), .mv (.t 64), none⟩, ⟨(some 14), .mv (.t 65), none⟩])
 (.seq (.region [⟨(some 66), .mv (.t 14), none⟩, ⟨(some 67), .bin .neq (.t 66) (.c (.v (.int .i64 0))), none⟩, ⟨(some 68), .mv (.t 67), none⟩, ⟨(some 69), .mv (.t 13), some (68, false)⟩, ⟨(some 70), .mv (.t 2), some (68, false)⟩, ⟨(some 71), .call (.c (.fn 38 [])) [(.t 69), (.t 70)], some (68, false)⟩, ⟨(some 72), .not (.t 71), some (68, false)⟩, ⟨(some 73), .pick (.t 68) (.c (.v (.bool true))) (.t 72), none⟩])
 (.cond (.t 73) (.seq (.region [⟨(some 6), .mv (.c (.v (.bool false))), none⟩])
 .ret)
 .skip)))
 .skip)))
 tcBackC)))))⟩ := rfl
set_option maxRecDepth 100000
set_option maxHeartbeats 16000000 in
theorem tcBackD_run (bs : List UInt8) (hl : bs.length ≤ 20000) (B L b l : List Row) (hB : B = b ++ l) (hR : RowsLt B.length B) (g : Nat → AV) (hA : g 2 = .v (.isl 1 (bs.map eB))) :
  run (ACalls Try.prog) Weak tcBackD (kOf 141 g) B L (Leaves [.tmp 6] (fun r b' l' => r = .v (.bool true) ∧ b' = b ∧ l' = l) b.length) := by
 have cG := fun b l => get_spec bs oM b l
 have hc := getB_cases bs
 obtain ⟨r, hr⟩ : ∃ r, getR bs = r := ⟨_, rfl⟩
 simp only [hr] at cG hc
 have z3 : ((0 : Int) != 0) = false := rfl
 simp (disch := (first | decide | omega)) only [tcBackD, hA, go_sem]
 refine ACalls.nxt (cG _ _) ?_
 refine hc.elim (fun h => Exists.elim h fun e3 h => ?_) (fun h => Exists.elim h fun m h => Exists.elim h fun k h => ?_)
 ·have d1 := h.1
  have d2 := h.2
  rw [d1]
  simp (disch := (first | decide | omega)) only [hA, d2, go_sem]
  exact leave_pure (xs := [.v (.bool true)]) (.inr rfl) (by simp (disch := (first | decide | omega)) only [resVs, resV, go_sem, hA]) kO hR hB ⟨rfl, rfl, rfl⟩
 ·have d1 := h.1
  have d2 := h.2.1
  have d3 := h.2.2.1
  have d4 := h.2.2.2.1
  have d5 := h.2.2.2.2
  rw [d1]
  have cM := fun b l => Put_spec m b l
  have e0 : PutR m = .tup [.v (.isl 1 ((bs.take k).map eB)), .v (.int .i64 0)] := by unfold PutR; rw [if_neg (by rw [d4]; decide), d5]
  rw [e0] at cM
  have y1 : decide ((k : Int) ≥ 1) = true := decide_eq_true oM
  have y2 : decide ((k : Int) ≤ (bs.length : Int)) = true := decide_eq_true oM
  have y3 : ((0 : Int) ≤ (k : Int)) = True := eq_true oM
  have y4 : ((k : Int) ≤ (bs.length : Int)) = True := eq_true oM
  have y5 : List.take k (bs.map eB) = (bs.take k).map eB := by rw [List.map_take]
  have cK := fun b l => bEq_spec (bs.take k) (bs.take k) b l
  simp only [decide_true] at cK
  simp (disch := (first | decide | omega)) only [hA, z3, go_sem]
  refine ACalls.nxt (cM _ _) ?_
  simp (disch := (first | decide | omega)) only [hA, y1, y2, y3, y4, y5, bounds, List.length_map, List.drop_zero, go_sem]
  refine ACalls.nxt (cK _ _) ?_
  simp (disch := (first | decide | omega)) only [hA, go_sem]
  exact leave_pure (xs := [.v (.bool true)]) (.inr rfl) (by simp (disch := (first | decide | omega)) only [resVs, resV, go_sem, hA]) kO hR hB ⟨rfl, rfl, rfl⟩
set_option maxHeartbeats 16000000 in
theorem tcBackC_run (n : Int) (bs : List UInt8) (hl : bs.length ≤ 20000) (B L b l : List Row) (hB : B = b ++ l) (hR : RowsLt B.length B) (g : Nat → AV) (h1 : g 1 = .v (.int .i64 n)) (hA : g 2 = .v (.isl 1 (bs.map eB))) :
  run (ACalls Try.prog) Weak tcBackC (kOf 141 g) B L (Leaves [.tmp 6] (fun r b' l' => r = .v (.bool true) ∧ b' = b ∧ l' = l) b.length) := by
 have cP := fun b l => Put_spec n b l
 have hc := put_cases n
 obtain ⟨rp, hrp⟩ : ∃ r, PutR n = r := ⟨_, rfl⟩
 simp only [hrp] at cP hc
 have z3 : ((0 : Int) != 0) = false := rfl
 have z4 : ((2 : Int) == 0) = false := rfl
 have z5 : ((2 : Int) != 0) = true := rfl
 have zn : (n != n) = false := by simp
 simp (disch := (first | decide | omega)) only [tcBackC, hA, h1, go_sem]
 refine ACalls.nxt (cP _ _) ?_
 refine hc.elim (fun c1 => ?_) (fun h => ?_)
 ·rw [c1]
  simp (disch := (first | decide | omega)) only [hA, z4, go_sem]
  exact tcBackD_run bs hl B _ b l hB hR _ (by simp (disch := (first | decide | omega)) only [hA, go_sem])
 ·have c1 := h.1
  have c2 := h.2.1
  have c3 := h.2.2.1
  have c4 := h.2.2.2
  rw [c1]
  have cH := fun b l => get_spec (putL n ++ bs) (by rw [List.length_append]; omega) b l
  simp only [getR, get_put c2] at cH
  have zl : (((putL n).length : Int) != ((putL n).length : Int)) = false := by simp
  simp (disch := (first | decide | omega)) only [hA, List.replicate_succ, List.replicate_zero, go_sem]
  refine ACalls.nxt (bCat_spec (putL n) bs c3 oM oM _ _ _ (by rw [hget_at, List.getElem?_append_right (Nat.le_refl _), Nat.sub_self]; rfl)) ?_
  simp (disch := (first | decide | omega)) only [hA, go_sem]
  refine ACalls.nxt (cH _ _) ?_
  simp (disch := (first | decide | omega)) only [hA, h1, z3, zn, zl, List.length_map, go_sem]
  exact tcBackD_run bs hl B _ b l hB hR _ (by simp (disch := (first | decide | omega)) only [hA, go_sem])
set_option maxHeartbeats 16000000 in
theorem tcBack_run (t : Tr) (n : Int) (bs : List UInt8) (hl : bs.length ≤ 9223372036854775807) (b l : List Row) :
  ACalls Try.prog 7 [.agg [.v (eT t)], .v (.int .i64 n), .v (.isl 1 (bs.map eB))] b l (fun r b' l' => r = .v (.bool true) ∧ b' = b ∧ l' = l) := by
 refine calls_kept a_tcBack_ok rfl (by decide) ?_
 intro B g hB hR hE hA
 simp only [KArgs] at hA
 rw [a_tcBack_cut]
 simp (disch := (first | decide | omega)) only [hA, go_sem]
 refine ACalls.nxt (awake21_spec _ _) ?_
 simp (disch := (first | decide | omega)) only [hA, go_sem]
 refine ACalls.nxt (great21_spec t _ _) ?_
 cases hg : great21B t with
 | true =>
   simp (disch := (first | decide | omega)) only [hA, go_sem]
   exact leave_pure (xs := [.v (.bool true)]) (.inr rfl) (by simp (disch := (first | decide | omega)) only [resVs, resV, go_sem, hA]) kO hR hB ⟨rfl, rfl, rfl⟩
 | false =>
 obtain ⟨hS, hN⟩ := great21_in hg
 by_cases h1 : 20000 < bs.length
 ·have hd : decide ((bs.length : Int) > 20000) = true := decide_eq_true oM
  simp (disch := (first | decide | omega)) only [hA, List.length_map, hd, go_sem]
  exact leave_pure (xs := [.v (.bool true)]) (.inr rfl) (by simp (disch := (first | decide | omega)) only [resVs, resV, go_sem, hA]) kO hR hB ⟨rfl, rfl, rfl⟩
 have hd : decide ((bs.length : Int) > 20000) = false := decide_eq_false oM
 have cE := fun b l => enc_spec t hS hN b l
 have cD := fun b l => dec_spec bs oM b l
 have hce := enc_cases t
 obtain ⟨re, hre⟩ : ∃ r, encR t = r := ⟨_, rfl⟩
 simp only [hre] at cE hce
 have hcd := dec_cases bs
 obtain ⟨rd, hrd⟩ : ∃ r, decR bs = r := ⟨_, rfl⟩
 simp only [hrd] at cD hcd
 have cS := fun b l => sTr_refl t hS b l
 have cQ := fun b l => bEq_spec bs bs b l
 simp only [decide_true] at cQ
 have z3 : ((0 : Int) != 0) = false := rfl
 simp (disch := (first | decide | omega)) only [hA, List.length_map, hd, go_sem]
 refine ACalls.nxt (cE _ _) ?_
 refine hce.elim (fun h => Exists.elim h fun e1 h => ?_) (fun h => ?_)
 ·have a1 := h.1
  have a2 := h.2
  rw [a1]
  simp (disch := (first | decide | omega)) only [hA, a2, go_sem]
  refine ACalls.nxt (cD _ _) ?_
  refine hcd.elim (fun h => Exists.elim h fun u h => Exists.elim h fun e2 h => ?_) (fun h => Exists.elim h fun u h => ?_)
  ·have b1 := h.1
   have b2 := h.2
   rw [b1]
   simp (disch := (first | decide | omega)) only [hA, b2, cellsOf, setFrom, go_sem]
   exact tcBackC_run n bs oM B _ b l hB hR _ (by simp (disch := (first | decide | omega)) only [hA, go_sem]) (by simp (disch := (first | decide | omega)) only [hA, go_sem])
  ·have b1 := h.1
   have b2 := h.2.1
   have b3 := h.2.2.1
   have b4 := h.2.2.2
   rw [b1]
   have cF := fun b l => enc_spec u b2 b3 b l
   rw [b4] at cF
   simp (disch := (first | decide | omega)) only [hA, cellsOf, setFrom, go_sem]
   refine ACalls.nxt (cF _ _) ?_
   simp (disch := (first | decide | omega)) only [hA, z3, go_sem]
   refine ACalls.nxt (cQ _ _) ?_
   simp (disch := (first | decide | omega)) only [hA, z3, go_sem]
   exact tcBackC_run n bs oM B _ b l hB hR _ (by simp (disch := (first | decide | omega)) only [hA, go_sem]) (by simp (disch := (first | decide | omega)) only [hA, go_sem])
 ·have a1 := h.1
  have a2 := h.2.1
  have a3 := h.2.2
  rw [a1]
  have cX := fun b l => dec_spec (codeL t) oM b l
  simp only [decR, a2] at cX
  simp (disch := (first | decide | omega)) only [hA, go_sem]
  refine ACalls.nxt (cX _ _) ?_
  simp (disch := (first | decide | omega)) only [hA, z3, cellsOf, setFrom, go_sem]
  refine ACalls.nxt (cS _ _) ?_
  simp (disch := (first | decide | omega)) only [hA, z3, go_sem]
  refine ACalls.nxt (cD _ _) ?_
  refine hcd.elim (fun h => Exists.elim h fun u h => Exists.elim h fun e2 h => ?_) (fun h => Exists.elim h fun u h => ?_)
  ·have b1 := h.1
   have b2 := h.2
   rw [b1]
   simp (disch := (first | decide | omega)) only [hA, b2, cellsOf, setFrom, go_sem]
   exact tcBackC_run n bs oM B _ b l hB hR _ (by simp (disch := (first | decide | omega)) only [hA, go_sem]) (by simp (disch := (first | decide | omega)) only [hA, go_sem])
  ·have b1 := h.1
   have b2 := h.2.1
   have b3 := h.2.2.1
   have b4 := h.2.2.2
   rw [b1]
   have cF := fun b l => enc_spec u b2 b3 b l
   rw [b4] at cF
   simp (disch := (first | decide | omega)) only [hA, cellsOf, setFrom, go_sem]
   refine ACalls.nxt (cF _ _) ?_
   simp (disch := (first | decide | omega)) only [hA, z3, go_sem]
   refine ACalls.nxt (cQ _ _) ?_
   simp (disch := (first | decide | omega)) only [hA, z3, go_sem]
   exact tcBackC_run n bs oM B _ b l hB hR _ (by simp (disch := (first | decide | omega)) only [hA, go_sem]) (by simp (disch := (first | decide | omega)) only [hA, go_sem])
end Go.Proofs.Ytanblnhnfkeffaa
