/- Texts of one proof, laid together: PZ, PL. No condition. -/
import Derived.Test.YtanblnhnfkeffaaBU13
import Derived.Test.YtanblnhnfkeffaaBU12
import Derived.Test.YtanblnhnfkeffaaBU2
import Derived.Test.YtanblnhnfkeffaaBU6
namespace Go.Proofs.Ytanblnhnfkeffaa
set_option linter.unusedVariables false
set_option linter.unusedSimpArgs false
attribute [local go_sem ↓] run_skip run_region run_draw run_both run_seq run_block run_exit run_ret run_cond atN_app seqC_normal seqC_exit seqC_ret seqQ_normal seqQ_exit seqQ_ret blkQ_normal blkQ_exit blkQ_ret runOps_nil runOps_cons runD_nil runD_cons grdO_true grdO_false grdD_true grdD_false ifC_true ifC_false opS_val opS_call opS_two opK_app dS_val dS_call dS_two dK_app kUp_same kUp_ne
attribute [local go_sem] rechks_nil rechks_cons rechk gcase_true gcase_false ex_val ex_val0 gd_none gd_some ev_t ev_c evs_nil evs_cons evo_some evo_none hget_at hget_first hsetB_at hsetB_first hsetL_at hsetL_first ofOpt_some aop aload astore aslice aappend aiaddr aiaddrA afaddr alen alenS acopy amm acall alookup amupdate alenM atostr comma keyEq apick binV binVB binVS isSh intOp strOp boolOp shOp eqC eqF and2 cellsOf setFrom fillA fillS rd rdI elems mk bounds AV.cell List.all_cons List.all_nil Bool.and_true Bool.true_and Bool.and_self List.length_cons List.length_nil List.length_append Nat.reduceAdd Nat.reduceSub Nat.reduceMul Nat.zero_add Nat.add_zero List.cons_append List.nil_append List.append_assoc List.append_nil List.getElem?_cons_zero List.getElem?_cons_succ List.getElem?_nil List.set_cons_zero List.set_cons_succ List.drop_zero List.drop_succ_cons List.take_zero List.take_succ_cons List.take_nil List.drop_nil List.map_cons List.map_nil Option.map_some if_true if_false Bool.false_eq_true and_self true_and and_true Nat.reduceLeDiff Nat.reduceLT Nat.le_refl Nat.reduceEqDiff ite_true ite_false beq_self_eq_true beq_true beq_false Bool.not_true Bool.not_false Bool.true_beq Bool.false_beq map_vs vs_len vs_get vs_take vs_drop vs_snoc1 vs_snoc2 vs_snoc3 vs_snoc5 vs_set1 vs_set2 vs_rep wrap_id le_T lt_T le_F lt_F leI_T ltI_T leI_F ltI_F geI gtI get_T decide_true decide_false room List.getElem?_map List.length_map List.length_take Int.toNat_natCast Nat.min_def Nat.min_self nth_kOf put_kOf put_kNo kOv_cons kOv_nil KHas KArgs List.getElem_cons_zero List.getElem_cons_succ
def a_TbS : AFunc := ⟨4,91,[.tmp 5],(.seq (.region [⟨some 5,.mv (.c (.v (.bool false))),none⟩]) (.seq (.draw [⟨0,⟨some 12,.faddr 0 (.t 1),none⟩,[]⟩,⟨1,⟨some 13,.load none (.t 12),none⟩,[]⟩,⟨2,⟨some 14,.mv (.t 0),none⟩,[]⟩,⟨3,⟨some 15,.iaddr 3 (.t 13) (.t 14),none⟩,[]⟩,⟨4,⟨some 16,.faddr 2 (.t 15),none⟩,[]⟩,⟨5,⟨some 17,.load none (.t 16),none⟩,[]⟩,⟨6,⟨some 18,.load none (.t 2),none⟩,[]⟩,⟨7,⟨some 19,.mv (.t 0),none⟩,[]⟩,⟨8,⟨some 20,.iaddr 1 (.t 18) (.t 19),none⟩,[]⟩,⟨9,⟨some 21,.load none (.t 20),none⟩,[]⟩,⟨10,⟨some 22,.iaddr 5 (.t 17) (.t 21),none⟩,[]⟩,⟨11,⟨some 23,.load (some 5) (.t 22),none⟩,[]⟩,⟨12,⟨some 6,.alloc [(.v (.int .i64 0)),(.v (.int .i64 0)),(.v (.int .i64 0)),(.v (.int .i64 0)),(.v .zsl)],none⟩,[⟨some 12,.faddr 0 (.t 1),none⟩,⟨some 13,.load none (.t 12),none⟩,⟨some 14,.mv (.t 0),none⟩,⟨some 15,.iaddr 3 (.t 13) (.t 14),none⟩,⟨some 16,.faddr 2 (.t 15),none⟩,⟨some 17,.load none (.t 16),none⟩,⟨some 18,.load none (.t 2),none⟩,⟨some 19,.mv (.t 0),none⟩,⟨some 20,.iaddr 1 (.t 18) (.t 19),none⟩,⟨some 21,.load none (.t 20),none⟩,⟨some 22,.iaddr 5 (.t 17) (.t 21),none⟩,⟨some 23,.load (some 5) (.t 22),none⟩]⟩,⟨13,⟨none,.store 5 (.t 6) (.t 23),none⟩,[]⟩]) (.seq (.region [⟨some 7,.mv (.c (.v (.bool true))),none⟩]) (.seq (.seq (.region [⟨some 24,.faddr 0 (.t 6),none⟩,⟨some 25,.load none (.t 24),none⟩,⟨some 26,.bin .eql (.t 25) (.c (.v (.int .i64 3))),none⟩]) (.cond (.t 26) (.seq (.region [⟨some 28,.load (some 1) (.t 1),none⟩,⟨some 29,.faddr 2 (.t 6),none⟩,⟨some 30,.load none (.t 29),none⟩,⟨some 31,.call (.c (.fn 18 [])) [(.t 28),(.t 30)],none⟩,⟨some 27,.mv (.t 31),none⟩,⟨some 32,.extract 0 (.t 27),none⟩,⟨some 33,.extract 1 (.t 27),none⟩,⟨some 8,.alloc [(.v (.int .i64 0)),(.v (.int .i64 0))],none⟩,⟨none,.store 2 (.t 8) (.t 32),none⟩,⟨some 9,.mv (.t 33),none⟩]) (.seq (.seq (.region [⟨some 34,.mv (.t 9),none⟩,⟨some 35,.not (.t 34),none⟩,⟨some 36,.mv (.t 35),none⟩,⟨some 37,.faddr 0 (.t 8),some (36,false)⟩,⟨some 38,.load none (.t 37),some (36,false)⟩,⟨some 39,.faddr 1 (.t 6),some (36,false)⟩,⟨some 40,.load none (.t 39),some (36,false)⟩,⟨some 41,.bin .neq (.t 38) (.t 40),some (36,false)⟩,⟨some 42,.pick (.t 36) (.c (.v (.bool true))) (.t 41),none⟩,⟨some 43,.mv (.t 42),none⟩,⟨some 44,.faddr 1 (.t 8),some (43,false)⟩,⟨some 45,.load none (.t 44),some (43,false)⟩,⟨some 46,.bin .lss (.t 45) (.c (.v (.int .i64 1))),some (43,false)⟩,⟨some 47,.pick (.t 43) (.c (.v (.bool true))) (.t 46),none⟩]) (.cond (.t 47) (.seq (.region [⟨some 5,.mv (.c (.v (.bool false))),none⟩]) .ret) .skip)) (.draw [⟨0,⟨some 48,.load none (.t 2),none⟩,[]⟩,⟨1,⟨some 49,.faddr 0 (.t 8),none⟩,[]⟩,⟨2,⟨some 50,.load none (.t 49),none⟩,[]⟩,⟨3,⟨some 51,.iaddr 1 (.t 48) (.t 50),none⟩,[]⟩,⟨4,⟨some 52,.load none (.t 51),none⟩,[]⟩,⟨5,⟨some 53,.faddr 1 (.t 8),none⟩,[]⟩,⟨6,⟨some 54,.load none (.t 53),none⟩,[]⟩,⟨7,⟨some 55,.bin .geq (.t 52) (.t 54),none⟩,[]⟩,⟨8,⟨some 7,.mv (.t 55),none⟩,[]⟩]))) .skip)) (.seq (.region [⟨some 57,.load (some 1) (.t 3),none⟩,⟨some 58,.mv (.t 0),none⟩,⟨some 59,.load (some 5) (.t 6),none⟩,⟨some 60,.call (.c (.fn 19 [])) [(.t 57),(.t 58),(.t 59)],none⟩,⟨some 56,.mv (.t 60),none⟩,⟨some 61,.extract 0 (.t 56),none⟩,⟨some 62,.extract 1 (.t 56),none⟩,⟨some 10,.alloc [(.v .zsl)],none⟩,⟨none,.store 1 (.t 10) (.t 61),none⟩,⟨some 11,.mv (.t 62),none⟩]) (.seq (.seq (.region [⟨some 63,.mv (.t 7),none⟩,⟨some 64,.not (.t 63),none⟩]) (.cond (.t 64) (.seq (.region [⟨some 65,.mv (.t 11),none⟩,⟨some 66,.bin .eql (.t 65) (.c (.v (.int .i64 7))),none⟩,⟨some 67,.mv (.t 66),none⟩,⟨some 68,.faddr 0 (.t 10),some (67,true)⟩,⟨some 69,.load none (.t 68),some (67,true)⟩,⟨some 70,.len (.t 69),some (67,true)⟩,⟨some 71,.bin .eql (.t 70) (.c (.v (.int .i64 0))),some (67,true)⟩,⟨some 72,.pick (.t 67) (.t 71) (.c (.v (.bool false))),none⟩,⟨some 5,.mv (.t 72),none⟩]) .ret) .skip)) (.seq (.seq (.region [⟨some 73,.mv (.t 11),none⟩,⟨some 74,.bin .neq (.t 73) (.c (.v (.int .i64 0))),none⟩,⟨some 75,.mv (.t 74),none⟩,⟨some 76,.faddr 0 (.t 10),some (75,false)⟩,⟨some 77,.load none (.t 76),some (75,false)⟩,⟨some 78,.len (.t 77),some (75,false)⟩,⟨some 79,.faddr 0 (.t 1),some (75,false)⟩,⟨some 80,.load none (.t 79),some (75,false)⟩,⟨some 81,.len (.t 80),some (75,false)⟩,⟨some 82,.bin .neq (.t 78) (.t 81),some (75,false)⟩,⟨some 83,.pick (.t 75) (.c (.v (.bool true))) (.t 82),none⟩]) (.cond (.t 83) (.seq (.region [⟨some 5,.mv (.c (.v (.bool false))),none⟩]) .ret) .skip)) (.seq (.region [⟨some 84,.load (some 1) (.t 10),none⟩,⟨none,.store 1 (.t 3) (.t 84),none⟩]) (.seq (.region [⟨some 85,.load none (.t 2),none⟩,⟨some 86,.mv (.t 0),none⟩,⟨some 87,.iaddr 1 (.t 85) (.t 86),none⟩,⟨some 88,.load none (.t 87),none⟩,⟨some 89,.bin .add (.t 88) (.c (.v (.int .i64 1))),none⟩,⟨some 90,.iaddr 1 (.t 85) (.t 86),none⟩,⟨none,.store 1 (.t 90) (.t 89),none⟩]) (.seq (.region [⟨some 5,.mv (.c (.v (.bool true))),none⟩]) .ret))))))))))⟩
theorem a_TbS_ok : cFunc Try.prog 17 = some a_TbS := by kernel_rfl

theorem RowsLt.setVb {m id v sz : Nat} {B : List Row} {rows : List (List IV)} (h : RowsLt m B) : RowsLt m (B.set id (.live v sz (vs rows))) := by
 intro i v' sz' els hr row hrow c hc
 by_cases hi : id = i
 ·subst hi
  rw [List.getElem?_set] at hr
  simp only [if_true] at hr
  split at hr
  ·cases hr
   obtain ⟨r0, _, rfl⟩ := List.mem_map.1 hrow
   obtain ⟨x0, _, rfl⟩ := List.mem_map.1 hc
   exact .v _
  ·cases hr
 ·rw [List.getElem?_set_ne hi] at hr
  exact h i v' sz' els hr row hrow c hc
def tbC (cs : List Int) : Row := .live 0 1 (vs (cs.map eI))
def tbA (t : Tr) (cs : List Int) : Row := .live 0 1 [[.v (.isl 3 ((firstL t cs).map ePr))]]
structure TbL (t : Tr) (cs : List Int) (nb jT jD jR jA : Nat) (l : List Row) : Prop where
 T : l[jT]? = some (.live 0 1 [[.v (.isl 3 (t.map ePr))]])
 D : l[jD]? = some (.live 0 1 [[.sl (nb + jR) 0 0 t.length]])
 R : l[jR]? = some (tbC cs)
 A : l[jA]? = some (tbA t cs)
 ne : jA ≠ jD ∧ jA ≠ jR ∧ jA ≠ jT ∧ jR ≠ jD ∧ jR ≠ jT
set_option maxRecDepth 20000 in
set_option maxHeartbeats 16000000 in
theorem tbStep_spec (t : Tr) (hval : validL t = true) (hS : Small t) (hN : Nm t) (cs : List Int) (hC : Cutt t cs) (p : Nat) (hp : p < t.length) (hc : cAt cs p < (evsOf t p).length) (jT jD jR jA : Nat) (b l : List Row) (hL : TbL t cs b.length jT jD jR jA l) :
  ACalls Try.prog 17 [.v (.int .i64 p), .ptr (b.length + jT) 0 0 0, .ptr (b.length + jD) 0 0 0, .ptr (b.length + jA) 0 0 0] b l (fun r b' l' => r = .v (.bool true) ∧ b' = b ∧ l' = (l.set jA (tbA t (stepC t cs p))).set jR (tbC (stepC t cs p))) := by
 refine calls_kept a_TbS_ok rfl (by decide) ?_
 intro B g hB hR hE hA
 simp only [KArgs] at hA
 have up : ∀ {j : Nat} {r : Row}, l[j]? = some r → B[b.length + j]? = some r := fun h => by
  rw [hB, List.getElem?_append_right oM, Nat.add_sub_cancel_left]; exact h
 have bT := up hL.T
 have bD := up hL.D
 have bR := up hL.R
 have bA := up hL.A
 unfold tbC at bR
 unfold tbA at bA
 have lD := (List.getElem?_eq_some_iff.1 bD).1
 have lR := (List.getElem?_eq_some_iff.1 bR).1
 have lA := (List.getElem?_eq_some_iff.1 bA).1
 have low : ∀ {i : Nat} {r : Row}, B[i]? = some r → ∀ l', hget B l' i = some r := fun h l' => by
  unfold hget; rw [if_pos (List.getElem?_eq_some_iff.1 h).1, h]
 have gT := low bT
 have gD := low bD
 have gR := low bR
 have gA := low bA
 have hv := hC.v
 have hpc : p < cs.length := by rw [hC.len]; exact hp
 obtain ⟨c, hcc⟩ : ∃ c : Nat, cs[p] = (c : Int) := ⟨(cs[p]).toNat, by have := hC.rng p hp; rw [← cw_at hC.w hp] at this; omega⟩
 have hci : (cs.map eI)[p]? = some [.int .i64 (c : Int)] := by rw [List.getElem?_map, List.getElem?_eq_getElem hpc, hcc]; rfl
 have hcA : cAt cs p = c := by rw [← cw_at hC.w hp, hcc]
 have hcn : c < t[p].evs.length := by rw [← cw_at hC.w hp, evsOf_lt hp, hcc] at hc; omega
 obtain ⟨x, hx⟩ : ∃ x, t[p].evs[c] = x := ⟨_, rfl⟩
 have hgx : (t[p].evs.map eEv)[c]? = some [.int .i64 x.kind, .int .i64 x.peer, .int .i64 x.msg, .int .i64 x.time, .isl 2 (x.asg.map eAsg)] := by rw [List.getElem?_map, List.getElem?_eq_getElem hcn, hx]; rfl
 have hne := hS.ne t[p] (List.getElem_mem hp)
 have htp : (t.map ePr)[p]? = some [.str t[p].name, .isl 2 (t[p].vars.map eVr), .isl 5 (t[p].evs.map eEv)] := by rw [List.getElem?_map, List.getElem?_eq_getElem hp]; rfl
 have sA : ∀ r : Row, hsetB B (b.length + jA) r = B.set (b.length + jA) r := fun r => by unfold hsetB; rw [if_pos lA]
 have sA' : ∀ (l' : List Row) (r : Row), hsetL B l' (b.length + jA) r = l' := fun l' r => by unfold hsetL; rw [if_pos lA]
 have sm : Small (firstL t cs) := first_small hS hC.len
 have nm : Nm (firstL t cs) := by
  intro p hp
  obtain ⟨i, hi, rfl⟩ := List.getElem_of_mem hp
  have hit : i < t.length := by rw [← cu_len hC]; exact hi
  rw [cu_get hC hit]
  have hq := hN t[i] (List.getElem_mem hit)
  exact hq
 have hxa : x.asg.length ≤ 1000000 := hS.na t[p] (List.getElem_mem hp) x (by rw [← hx]; exact List.getElem_mem hcn)
 have cAp := fun b l => append_spec (firstL t cs) (valid_of (cu_vok hC)) sm nm p (by rw [cu_len hC]; exact hp) x hxa b l
 have eTf : eT (firstL t cs) = .isl 3 ((firstL t cs).map ePr) := rfl
 rw [eTf] at cAp
 have hcN : cN cs p = c := by unfold cN; rw [← cw_at hC.w hp, hcc, Int.toNat_natCast]
 have hxe : (evsOf t p).getD (cN cs p) dfEv = x := by rw [hcN, evsOf_lt hp, getD_lt dfEv _ hcn, hx]
 have hev : evAt t (p, cN cs p + 1) = x := hxe
 have hidx : (p, cN cs p + 1) ∈ ids t := mem_ids2.2 ⟨hp, by rw [hcN, evsOf_lt hp]; exact hcn⟩
 have hap : apT (firstL t cs) p x = firstL t (cs.set p (cAt cs p + 1)) := by
  have := cw_ap hC.w hp hc
  rw [hxe] at this; exact this
 have good : Cutt t (cs.set p (cAt cs p + 1)) → apR (firstL t cs) p x = .tup [.agg [.v (.isl 3 ((firstL t (cs.set p (cAt cs p + 1))).map ePr))], .v (.int .i64 0)] := fun h => by
  have h1 := valid_of (cu_vok h)
  have h0 : (faultL (firstL t (cs.set p (cAt cs p + 1)))).2 = 0 := by unfold validL at h1; simpa using h1
  unfold apR
  rw [hap, h0, if_pos rfl]
  rfl
 have hbad : ∀ x0, Cutb t (cs.set p (cAt cs p + 1)) x0 → apR (firstL t cs) p x = .tup [.agg [.v .zsl], .v (.int .i64 7)] := fun x0 h => by
  unfold apR
  rw [hap, cb_fault h, if_neg (show ¬ (7 : Nat) = 0 by decide)]
  rfl
 have n0 : ((0 : Int) != 0) = false := rfl
 have nn : ((t.length : Int) != (t.length : Int)) = false := by simp
 have gD2 : ∀ (r : Row) (l' : List Row), hget (B.set (b.length + jA) r) l' (b.length + jD) = some (.live 0 1 [[.sl (b.length + jR) 0 0 t.length]]) := fun r l' => by
  unfold hget; rw [if_pos (by rw [List.length_set]; exact lD), List.getElem?_set_ne (by have := hL.ne.1; omega)]; exact bD
 have gR2 : ∀ (r : Row) (l' : List Row), hget (B.set (b.length + jA) r) l' (b.length + jR) = some (.live 0 1 (vs (cs.map eI))) := fun r l' => by
  unfold hget; rw [if_pos (by rw [List.length_set]; exact lR), List.getElem?_set_ne (by have := hL.ne.2.1; omega)]; exact bR
 have sR : ∀ r z : Row, hsetB (B.set (b.length + jA) r) (b.length + jR) z = (B.set (b.length + jA) r).set (b.length + jR) z := fun r z => by unfold hsetB; rw [if_pos (by rw [List.length_set]; exact lR)]
 have sR' : ∀ (r : Row) (l' : List Row) (z : Row), hsetL (B.set (b.length + jA) r) l' (b.length + jR) z = l' := fun r l' z => by unfold hsetL; rw [if_pos (by rw [List.length_set]; exact lR)]
 have hset : (cs.map eI).set p [.int .i64 ((c : Int) + 1)] = (cs.set p (cAt cs p + 1)).map eI := by rw [hcA, List.map_set]; rfl
 have two : ∀ r z : Row, (B.set (b.length + jA) r).set (b.length + jR) z = b ++ (l.set jA r).set jR z := fun r z => by
  rw [hB, List.set_append_right _ _ oM, Nat.add_sub_cancel_left, List.set_append_right _ _ oM, Nat.add_sub_cancel_left]
 have same : stepC t cs p = cs → (l.set jA (tbA t (stepC t cs p))).set jR (tbC (stepC t cs p)) = l := fun h => by
  rw [h]
  have e1 : l.set jA (tbA t cs) = l := by
   obtain ⟨h1, h2⟩ := List.getElem?_eq_some_iff.1 hL.A
   rw [← h2]; exact List.set_getElem_self h1
  have e2 : l.set jR (tbC cs) = l := by
   obtain ⟨h1, h2⟩ := List.getElem?_eq_some_iff.1 hL.R
   rw [← h2]; exact List.set_getElem_self h1
  rw [e1, e2]
 have hlt : ∀ (y : IV) (z : List (List IV)), RowsLt (b ++ (l.set jA (.live 0 1 [[.v y]])).set jR (.live 0 1 (vs z))).length (b ++ (l.set jA (.live 0 1 [[.v y]])).set jR (.live 0 1 (vs z))) := fun y z => by
  rw [← two]
  have e : ((B.set (b.length + jA) (.live 0 1 [[.v y]])).set (b.length + jR) (.live 0 1 (vs z))).length = B.length := by rw [List.length_set, List.length_set]
  rw [e]
  exact RowsLt.setVb (RowsLt.setVb (rows := [[y]]) hR)
 have hcA1 : cAt cs p + 1 = (c : Int) + 1 := by rw [hcA]
 have hfit : ((c : Int) + 1) = ((c + 1 : Nat) : Int) := by omega
 simp (disch := (first | decide | omega)) only [a_TbS, hA, gT, gD, gR, gA, htp, hci, hgx, setFrom, cellsOf, List.length_map, vs_get, go_sem]
 by_cases hk3 : x.kind = 3
 ·have hs := sndr_in hv hidx (by rw [hev]; exact hk3)
  obtain ⟨s1, s2, s3, s4⟩ := sndr_peer hv hidx (by rw [hev]; exact hk3)
  rw [hev] at s1
  obtain ⟨q, j, hqj⟩ : ∃ q j, sndr t (p, cN cs p + 1) = (q, j + 1) := ⟨_, (sndr t (p, cN cs p + 1)).2 - 1, Prod.ext rfl (by have := mem_pos hs.1; simp only; omega)⟩
  rw [hqj] at s1 hs
  simp only at s1
  obtain ⟨hq, hj⟩ := mem_ids2.1 hs.1
  have hfr : findR t 2 x.msg = (q, j + 1) := by
   unfold findR
   rw [hval, if_pos rfl, ← hqj]
   unfold sndr
   rw [hev]
  have cS := fun b l => sender_spec t hS hN b l x.msg
  rw [hfr] at cS
  simp only [eT, idA] at cS
  have hqc : q < cs.length := by rw [hC.len]; exact hq
  have hqr := hC.rng q hq
  obtain ⟨cq, hcq⟩ : ∃ c : Nat, cAt cs q = (c : Int) := ⟨(cAt cs q).toNat, by omega⟩
  have hciq : (cs.map eI)[q]? = some [.int .i64 (cq : Int)] := by rw [List.getElem?_map, List.getElem?_eq_getElem hqc, cu_at hC hq, hcq]; rfl
  have d3 : (x.kind == (3 : Int)) = true := by simpa using hk3
  have dp : ((q : Int) != x.peer) = false := by rw [s1]; simp
  have d1 : decide (((j + 1 : Nat) : Int) < 1) = false := decide_eq_false oM
  have dok : decide (0 < j + 1) = true := decide_eq_true oM
  simp (disch := (first | decide | omega)) only [hA, d3, gT, gD, gR, gA, setFrom, cellsOf, List.length_map, go_sem]
  refine ACalls.nxt (cS _ _) ?_
  by_cases hrd : ((j + 1 : Nat) : Int) ≤ (cq : Int)
  ·have dr : decide ((cq : Int) ≥ ((j + 1 : Nat) : Int)) = true := decide_eq_true hrd
   have dr' : decide (((j + 1 : Nat) : Int) ≤ (cq : Int)) = true := dr
   have hrr : (evAt t (p, cN cs p + 1)).kind = 3 → ((sndr t (p, cN cs p + 1)).2 : Int) ≤ cAt cs (sndr t (p, cN cs p + 1)).1 := fun _ => by rw [hqj]; simp only; rw [hcq]; exact hrd
   have hM : Cutt t (cs.set p (cAt cs p + 1)) := hC.more hp hc hrr
   have hst : stepC t cs p = cs.set p (cAt cs p + 1) := by
    unfold stepC
    rw [if_pos (rdy_of hrr)]
   have hgo := good hM
   rw [hgo] at cAp
   have hul : (firstL t (cs.set p (cAt cs p + 1))).length = t.length := cu_len hM
   simp (disch := (first | decide | omega)) only [hA, gT, gD, gR, gA, dp, d1, dok, hciq, dr, dr', setFrom, cellsOf, List.length_map, vs_get, go_sem]
   refine ACalls.nxt (cAp _ _) ?_
   simp (disch := (first | decide | omega)) only [hA, gT, gD, gR, gA, gD2, gR2, sR, sR', hci, n0, nn, hul, sA, sA', setFrom, cellsOf, List.length_map, vs_get, vs_len, go_sem]
   rw [hset, two]
   exact leave_pure (xs := [.v (.bool true)]) (.inr rfl) (by simp (disch := (first | decide | omega)) only [resVs, resV, go_sem, hA]) kO (hlt _ _) rfl ⟨rfl, rfl, by rw [hst]; rfl⟩
  ·have dr : decide ((cq : Int) ≥ ((j + 1 : Nat) : Int)) = false := decide_eq_false hrd
   have dr' : decide (((j + 1 : Nat) : Int) ≤ (cq : Int)) = false := dr
   have hnr : ¬ ((sndr t (p, cN cs p + 1)).2 : Int) ≤ cAt cs (sndr t (p, cN cs p + 1)).1 := by rw [hqj]; simp only; rw [hcq]; exact hrd
   have hst : stepC t cs p = cs := by
    unfold stepC
    cases hr : rdyB t cs p with
    | true => exact absurd (rdy_imp hr (by rw [hev]; exact hk3)) hnr
    | false => rfl
   have hb := hbad _ (hC.bad hp hc (by rw [hev]; exact hk3) hnr)
   rw [hb] at cAp
   have n7 : ((7 : Int) == 7) = true := rfl
   have n00 : ((0 : Int) == 0) = true := rfl
   simp (disch := (first | decide | omega)) only [hA, gT, gD, gR, gA, dp, d1, dok, hciq, dr, dr', setFrom, cellsOf, List.length_map, vs_get, go_sem]
   refine ACalls.nxt (cAp _ _) ?_
   simp (disch := (first | decide | omega)) only [hA, n7, n00, go_sem]
   exact leave_pure (xs := [.v (.bool true)]) (.inr rfl) (by simp (disch := (first | decide | omega)) only [resVs, resV, go_sem, hA]) kO hR hB ⟨rfl, rfl, (same hst).symm⟩
 ·have d3 : (x.kind == (3 : Int)) = false := by simpa using hk3
  have hM : Cutt t (cs.set p (cAt cs p + 1)) := hC.more hp hc (fun h => absurd (by rw [hev] at h; exact h) hk3)
  have hst : stepC t cs p = cs.set p (cAt cs p + 1) := by
   unfold stepC
   rw [if_pos (rdy_of (fun h => absurd (by rw [hev] at h; exact h) hk3))]
  have hgo := good hM
  rw [hgo] at cAp
  have hul : (firstL t (cs.set p (cAt cs p + 1))).length = t.length := cu_len hM
  simp (disch := (first | decide | omega)) only [hA, d3, gT, gD, gR, gA, setFrom, cellsOf, List.length_map, go_sem]
  refine ACalls.nxt (cAp _ _) ?_
  simp (disch := (first | decide | omega)) only [hA, gT, gD, gR, gA, gD2, gR2, sR, sR', hci, n0, nn, hul, sA, sA', setFrom, cellsOf, List.length_map, vs_get, vs_len, go_sem]
  rw [hset, two]
  exact leave_pure (xs := [.v (.bool true)]) (.inr rfl) (by simp (disch := (first | decide | omega)) only [resVs, resV, go_sem, hA]) kO (hlt _ _) rfl ⟨rfl, rfl, by rw [hst]; rfl⟩
def a_TBL : AFunc := ⟨2,109,[.tmp 4],(.seq (.region [⟨some 2,.box (.t 0),none⟩,⟨some 4,.mv (.c (.v (.bool false))),none⟩]) (.seq (.seq (.region [⟨some 15,.call (.c (.fn 13 [])) [],none⟩,⟨some 16,.not (.t 15),none⟩]) (.cond (.t 16) (.seq (.region [⟨some 4,.mv (.c (.v (.bool false))),none⟩]) .ret) .skip)) (.seq (.seq (.region [⟨some 17,.load (some 1) (.t 2),none⟩,⟨some 18,.call (.c (.fn 14 [])) [(.t 17)],none⟩,⟨some 19,.not (.t 18),none⟩,⟨some 20,.mv (.t 19),none⟩,⟨some 21,.mv (.t 1),some (20,false)⟩,⟨some 22,.len (.t 21),some (20,false)⟩,⟨some 23,.bin .gtr (.t 22) (.c (.v (.int .i64 300))),some (20,false)⟩,⟨some 24,.pick (.t 20) (.c (.v (.bool true))) (.t 23),none⟩,⟨some 25,.mv (.t 24),none⟩,⟨some 26,.load (some 1) (.t 2),some (25,false)⟩,⟨some 27,.call (.c (.fn 15 [])) [(.t 26)],some (25,false)⟩,⟨some 28,.not (.t 27),some (25,false)⟩,⟨some 29,.pick (.t 25) (.c (.v (.bool true))) (.t 28),none⟩]) (.cond (.t 29) (.seq (.region [⟨some 4,.mv (.c (.v (.bool true))),none⟩]) .ret) .skip)) (.seq (.region [⟨some 30,.faddr 0 (.t 2),none⟩,⟨some 31,.load none (.t 30),none⟩,⟨some 32,.len (.t 31),none⟩,⟨some 33,.mkslice 1 [(.v (.int .i64 0))] 8 (.t 32) (.t 32),none⟩,⟨some 5,.mv (.t 33),none⟩]) (.seq (.region [⟨some 35,.load (some 1) (.t 2),none⟩,⟨some 36,.mv (.t 5),none⟩,⟨some 37,.call (.c (.fn 16 [])) [(.t 35),(.t 36)],none⟩,⟨some 34,.mv (.t 37),none⟩,⟨some 38,.extract 0 (.t 34),none⟩,⟨some 39,.extract 1 (.t 34),none⟩,⟨some 6,.alloc [(.v .zsl)],none⟩,⟨none,.store 1 (.t 6) (.t 38),none⟩,⟨some 7,.mv (.t 39),none⟩]) (.seq (.seq (.region [⟨some 40,.mv (.t 7),none⟩,⟨some 41,.bin .neq (.t 40) (.c (.v (.int .i64 0))),none⟩]) (.cond (.t 41) (.seq (.region [⟨some 4,.mv (.c (.v (.bool false))),none⟩]) .ret) .skip)) (.seq (.region [⟨some 42,.faddr 0 (.t 2),none⟩,⟨some 43,.load none (.t 42),none⟩,⟨some 44,.len (.t 43),none⟩,⟨some 45,.mkslice 1 [(.v (.int .i64 0))] 8 (.t 44) (.t 44),none⟩,⟨some 8,.alloc [(.v .zsl)],none⟩,⟨none,.store 1 (.t 8) (.t 45),none⟩]) (.seq (.region [⟨some 46,.mkfn 17 [(.t 2),(.t 8),(.t 6)],none⟩,⟨some 9,.mv (.t 46),none⟩]) (.seq (.seq (.region [⟨some 47,.mv (.t 1),none⟩,⟨some 48,.len (.t 47),none⟩,⟨some 49,.mv (.c (.v (.int .i64 0))),none⟩]) (.block 0 (.loop (.seq (.region [⟨some 50,.bin .lss (.t 49) (.t 48),none⟩]) (.seq (.cond (.t 50) .skip (.exit 0)) (.seq (.block 1 (.seq (.region [⟨some 51,.iaddr 1 (.t 47) (.t 49),none⟩,⟨some 52,.load none (.t 51),none⟩,⟨some 11,.mv (.t 52),none⟩]) (.seq (.region [⟨some 53,.mv (.t 11),none⟩,⟨some 54,.conv .i64 (.t 53),none⟩,⟨some 55,.faddr 0 (.t 2),none⟩,⟨some 56,.load none (.t 55),none⟩,⟨some 57,.len (.t 56),none⟩,⟨some 58,.bin .rem (.t 54) (.t 57),none⟩,⟨some 12,.mv (.t 58),none⟩]) (.seq (.draw [⟨0,⟨some 59,.load none (.t 8),none⟩,[]⟩,⟨1,⟨some 60,.mv (.t 12),none⟩,[]⟩,⟨2,⟨some 61,.iaddr 1 (.t 59) (.t 60),none⟩,[]⟩,⟨3,⟨some 62,.load none (.t 61),none⟩,[]⟩,⟨4,⟨some 63,.faddr 0 (.t 2),none⟩,[]⟩,⟨5,⟨some 64,.load none (.t 63),none⟩,[]⟩,⟨6,⟨some 65,.mv (.t 12),none⟩,[]⟩,⟨7,⟨some 66,.iaddr 3 (.t 64) (.t 65),none⟩,[]⟩,⟨8,⟨some 67,.faddr 2 (.t 66),none⟩,[]⟩,⟨9,⟨some 68,.load none (.t 67),none⟩,[]⟩,⟨10,⟨some 69,.len (.t 68),none⟩,[]⟩,⟨11,⟨some 70,.bin .lss (.t 62) (.t 69),none⟩,[]⟩,⟨12,⟨some 71,.mv (.t 70),none⟩,[]⟩,⟨13,⟨some 72,.mv (.t 9),some (71,true)⟩,[]⟩,⟨14,⟨some 73,.mv (.t 12),some (71,true)⟩,[]⟩,⟨15,⟨some 74,.call (.t 72) [(.t 73)],some (71,true)⟩,[]⟩,⟨16,⟨some 75,.not (.t 74),some (71,true)⟩,[]⟩,⟨17,⟨some 76,.pick (.t 71) (.t 75) (.c (.v (.bool false))),none⟩,[]⟩]) (.cond (.t 76) (.seq (.region [⟨some 4,.mv (.c (.v (.bool false))),none⟩]) .ret) .skip))))) (.region [⟨some 77,.bin .add (.t 49) (.c (.v (.int .i64 1))),none⟩,⟨some 49,.mv (.t 77),none⟩]))))))) (.seq (.seq (.region [⟨some 78,.mv (.c (.v (.int .i64 0))),none⟩]) (.block 2 (.loop (.seq (.region [⟨some 79,.bin .lss (.t 78) (.c (.v (.int .i64 130))),none⟩]) (.seq (.cond (.t 79) .skip (.exit 2)) (.seq (.block 3 (.seq (.region [⟨some 13,.mv (.c (.v (.bool false))),none⟩]) (.seq (.seq (.region [⟨some 80,.faddr 0 (.t 2),none⟩,⟨some 81,.load none (.t 80),none⟩,⟨some 82,.len (.t 81),none⟩,⟨some 83,.mv (.c (.v (.int .i64 0))),none⟩]) (.block 4 (.loop (.seq (.region [⟨some 84,.bin .lss (.t 83) (.t 82),none⟩]) (.seq (.cond (.t 84) .skip (.exit 4)) (.seq (.block 5 (.seq (.region [⟨some 85,.mv (.t 83),none⟩,⟨some 14,.mv (.t 85),none⟩]) (.seq (.draw [⟨0,⟨some 86,.load none (.t 8),none⟩,[]⟩,⟨1,⟨some 87,.mv (.t 14),none⟩,[]⟩,⟨2,⟨some 88,.iaddr 1 (.t 86) (.t 87),none⟩,[]⟩,⟨3,⟨some 89,.load none (.t 88),none⟩,[]⟩,⟨4,⟨some 90,.faddr 0 (.t 2),none⟩,[]⟩,⟨5,⟨some 91,.load none (.t 90),none⟩,[]⟩,⟨6,⟨some 92,.mv (.t 14),none⟩,[]⟩,⟨7,⟨some 93,.iaddr 3 (.t 91) (.t 92),none⟩,[]⟩,⟨8,⟨some 94,.faddr 2 (.t 93),none⟩,[]⟩,⟨9,⟨some 95,.load none (.t 94),none⟩,[]⟩,⟨10,⟨some 96,.len (.t 95),none⟩,[]⟩,⟨11,⟨some 97,.bin .lss (.t 89) (.t 96),none⟩,[]⟩]) (.cond (.t 97) (.seq (.region [⟨some 13,.mv (.c (.v (.bool true))),none⟩]) (.seq (.region [⟨some 98,.mv (.t 9),none⟩,⟨some 99,.mv (.t 14),none⟩,⟨some 100,.call (.t 98) [(.t 99)],none⟩,⟨some 101,.not (.t 100),none⟩]) (.cond (.t 101) (.seq (.region [⟨some 4,.mv (.c (.v (.bool false))),none⟩]) .ret) .skip))) .skip)))) (.region [⟨some 102,.bin .add (.t 83) (.c (.v (.int .i64 1))),none⟩,⟨some 83,.mv (.t 102),none⟩]))))))) (.seq (.region [⟨some 103,.mv (.t 13),none⟩,⟨some 104,.not (.t 103),none⟩]) (.cond (.t 104) (.seq (.region [⟨some 105,.load (some 1) (.t 6),none⟩,⟨some 106,.load (some 1) (.t 2),none⟩,⟨some 107,.call (.c (.fn 20 [])) [(.t 105),(.t 106)],none⟩,⟨some 4,.mv (.t 107),none⟩]) .ret) .skip))))) (.region [⟨some 108,.bin .add (.t 78) (.c (.v (.int .i64 1))),none⟩,⟨some 78,.mv (.t 108),none⟩]))))))) (.seq (.region [⟨some 4,.mv (.c (.v (.bool false))),none⟩]) .ret)))))))))))⟩
theorem a_TBL_ok : cFunc Try.prog 3 = some a_TBL := by kernel_rfl
def r_TBL0 : List (Nat × Nat) := [(4, 4), (11, 12), (49, 77)]
def r_TBL1 : List (Nat × Nat) := [(4, 4), (13, 14), (78, 108)]
def r_TBL2 : List (Nat × Nat) := [(4, 4), (13, 14), (83, 102)]

theorem zero_cut (t : Tr) (hval : validL t = true) : prefC t (List.replicate t.length 0) = 0 := by
 have hz : ∀ p, cAt (List.replicate t.length 0) p = 0 := fun p => by
  unfold cAt
  rw [List.getD_eq_getElem?_getD, List.getElem?_replicate]
  split <;> rfl
 rw [pref_code, if_neg (by rw [hval, List.length_replicate]; simp), if_neg, if_neg]
 ·rw [Bool.not_eq_true, List.any_eq_false]
  intro x hx
  unfold badL
  have := (mem_ids.1 hx).2.1
  rw [hz, decide_eq_true (show (x.2 : Int) > 0 by omega)]
  simp
 ·rw [Bool.not_eq_false, List.all_eq_true]
  intro p _
  unfold rangeB
  rw [hz]
  simp [inB]
set_option maxRecDepth 20000 in
set_option maxHeartbeats 16000000 in
theorem traceBuilt_run (t : Tr) (hF : Fits t) (hN : Nm t) (ord : List Int) (ho : ∀ n ∈ ord, 0 ≤ n ∧ n < 256) (b l : List Row) :
  ACalls Try.prog 3 [.agg [.v (eT t)], .v (.isl 1 (ord.map e8))] b l (fun r b' l' => r = .v (.bool true) ∧ b' = b ∧ l' = l) := by
 refine calls_kept a_TBL_ok rfl (by decide) ?_
 intro B g hB hR hE hA
 simp only [KArgs] at hA
 have eTe : eT t = .isl 3 (t.map ePr) := rfl
 simp (disch := (first | decide | omega)) only [a_TBL, hA, go_sem]
 refine ACalls.nxt (awake_spec _ _) ?_
 simp (disch := (first | decide | omega)) only [hA, go_sem]
 refine ACalls.nxt (few_spec t hF _ _) ?_
 cases hf : fewB t with
 | false =>
   simp (disch := (first | decide | omega)) only [hA, go_sem]
   exact leave_pure (xs := [.v (.bool true)]) (.inr rfl) (by simp (disch := (first | decide | omega)) only [resVs, resV, go_sem, hA]) kO hR hB ⟨rfl, rfl, rfl⟩
 | true =>
 have hS := few_small hf
 by_cases h20 : 300 < ord.length
 ·have hd : decide ((ord.length : Int) > 300) = true := decide_eq_true oM
  have hd' : decide ((300 : Int) < (ord.length : Int)) = true := hd
  simp (disch := (first | decide | omega)) only [hA, hd, hd', List.length_map, go_sem]
  exact leave_pure (xs := [.v (.bool true)]) (.inr rfl) (by simp (disch := (first | decide | omega)) only [resVs, resV, go_sem, hA]) kO hR hB ⟨rfl, rfl, rfl⟩
 have hd : decide ((ord.length : Int) > 300) = false := decide_eq_false oM
 have hd' : decide ((300 : Int) < (ord.length : Int)) = false := hd
 simp (disch := (first | decide | omega)) only [hA, hd, hd', List.length_map, go_sem]
 refine ACalls.nxt (valid_spec t hS hN _ _) ?_
 cases hval : validL t with
 | false =>
   simp (disch := (first | decide | omega)) only [hA, go_sem]
   exact leave_pure (xs := [.v (.bool true)]) (.inr rfl) (by simp (disch := (first | decide | omega)) only [resVs, resV, go_sem, hA]) kO hR hB ⟨rfl, rfl, rfl⟩
 | true =>
 have hv := vok hval
 have hlo := hv.lo
 have hhi := hv.hi
 have h0 := zero_cut t hval
 have hC0 := cutt_of h0
 have cP := fun b l => prefix_spec t hS hN (List.replicate t.length 0) (by rw [List.length_replicate]; omega) b l
 have hpv : prefV t (List.replicate t.length 0) = .agg [.v (.isl 3 ((firstL t (List.replicate t.length 0)).map ePr))] := by unfold prefV; rw [if_pos h0]; rfl
 rw [h0, hpv, eTe] at cP
 have hz0 : (List.replicate t.length 0).map eI = List.replicate t.length [.int .i64 0] := by simp [eI]
 have n00 : (((0 : Nat) : Int) != 0) = false := rfl
 have hvr : List.replicate t.length [AV.v (.int .i64 0)] = vs (List.replicate t.length [.int .i64 0]) := by simp [vs]
 rw [hz0] at cP
 simp (disch := (first | decide | omega)) only [hA, eTe, List.length_map, go_sem]
 refine ACalls.frzB (i := 1) (ver := 0) (sz := 1) (rows := List.replicate t.length [.int .i64 0]) (args' := [.agg [.v (.isl 3 (t.map ePr))], .v (.isl 1 (List.replicate t.length [.int .i64 0]))]) rfl (by simp [frz, frz0]) ?_
 refine ACalls.nxt (cP _ _) ?_
 simp (disch := (first | decide | omega)) only [hA, n00, List.length_map, go_sem]
 rw [← hz0]
 refine loop_kept (ι := Nat × List Int) r_TBL0 (fun i => [(49, .v (.int .i64 i.1))]) 5 (fun i => [.live 0 1 [[.v (.isl 3 (t.map ePr))]], .dead 0, tbA t i.2, tbC i.2, .live 0 1 [[.sl (B.length + 3) 0 0 t.length]]])
  (fun i => i.1 ≤ ord.length ∧ Cutt t i.2) (fun i => ord.length - i.1) (0, List.replicate t.length 0) ⟨Nat.zero_le _, hC0⟩ (by (repeat (first | exact hE.mono oM | refine KLt.up ?_ kL))) (by ((try simp (disch := decide) only [hA, go_sem]) <;> exact kH)) (fun e => Weak.refl _ _ _) ?_
 rintro g1 hE1 hEE1 hg1 ⟨i, cs⟩ ⟨hi, hC⟩
 replace hC : Cutt t cs := hC
 have hcl := hC.len
 have hgA : (tbA t cs) = .live 0 1 [[.v (.isl 3 ((firstL t cs).map ePr))]] := rfl
 have hgC : (tbC cs) = .live 0 1 (vs (cs.map eI)) := rfl
 have hstep := fun (p : Nat) (hp : p < t.length) (hc : cAt cs p < (evsOf t p).length) => tbStep_spec t hval hS hN cs hC p hp hc 0 4 3 2 B [.live 0 1 [[.v (.isl 3 (t.map ePr))]], .dead 0, tbA t cs, tbC cs, .live 0 1 [[.sl (B.length + 3) 0 0 t.length]]] ⟨rfl, rfl, rfl, rfl, by decide⟩
 simp only [Nat.add_zero, List.set_cons_succ, List.set_cons_zero] at hstep
 by_cases hil : i < ord.length
 ·have hob := ho ord[i] (List.getElem_mem hil)
  obtain ⟨m, hm⟩ : ∃ m : Nat, ord[i] = (m : Int) := ⟨ord[i].toNat, by omega⟩
  have hgo : (ord.map e8)[i]? = some [.int .u8 (m : Int)] := by rw [List.getElem?_map, List.getElem?_eq_getElem hil, hm]; rfl
  rw [hm] at hob
  have hn0 : ((t.length : Int) = 0) = False := by simp only [eq_iff_iff, iff_false]; omega
  have hrem : Int.tmod (m : Int) (t.length : Int) = ((m % t.length : Nat) : Int) := rfl
  have hpl : m % t.length < t.length := Nat.mod_lt m (show 0 < t.length by omega)
  obtain ⟨p, hpm⟩ : ∃ p, m % t.length = p := ⟨_, rfl⟩
  rw [hpm] at hrem hpl
  have hpc : p < cs.length := by omega
  have hpr := hC.rng p hpl
  have heo := evsOf_lt hpl
  have hcp : (cs.map eI)[p]? = some [.int .i64 (cAt cs p)] := by rw [List.getElem?_map, List.getElem?_eq_getElem hpc, cu_at hC hpl]; rfl
  have htp : (t.map ePr)[p]? = some [.str t[p].name, .isl 2 (t[p].vars.map eVr), .isl 5 (t[p].evs.map eEv)] := by rw [List.getElem?_map, List.getElem?_eq_getElem hpl]; rfl
  by_cases hlt : cAt cs p < (t[p].evs.length : Int)
  ·have dl := decide_eq_true hlt
   have hs1 := hstep p hpl (by rw [heo]; exact hlt)
   rw [hgC] at hs1
   simp (disch := (first | decide | omega)) only [hA, hg1, hgo, hn0, hrem, hgC, hcp, htp, dl, vs_get, List.length_map, go_sem]
   refine ACalls.nxt hs1 ?_
   simp (disch := (first | decide | omega)) only [hA, hg1, go_sem]
   refine ⟨(i + 1, stepC t cs p), ⟨hil, hC.step hpl (by rw [heo]; exact hlt)⟩, by simp only; omega, ?_⟩
   exact Weak.kround (p := r_TBL0) (k := 5) (by ((repeat refine (kAny_up rfl).trans ?_); exact hEE1)) (by ((try simp (disch := decide) only [hA, go_sem]) <;> exact kH)) rfl hE1 (by simp) kV hR (by simp (disch := omega) only [tbA, tbC, lts.down, Nat.reduceLT, Nat.reduceAdd])
  ·have dl := decide_eq_false hlt
   simp (disch := (first | decide | omega)) only [hA, hg1, hgo, hn0, hrem, hgC, hcp, htp, dl, vs_get, List.length_map, go_sem]
   refine ⟨(i + 1, cs), ⟨hil, hC⟩, by simp only; omega, ?_⟩
   exact Weak.kround (p := r_TBL0) (k := 5) (by ((repeat refine (kAny_up rfl).trans ?_); exact hEE1)) (by ((try simp (disch := decide) only [hA, go_sem]) <;> exact kH)) rfl hE1 (by simp) kV hR (by simp (disch := omega) only [tbA, tbC, lts.down, Nat.reduceLT, Nat.reduceAdd])
 obtain rfl : i = ord.length := by have : i ≤ ord.length := hi; omega
 simp (disch := (first | decide | omega)) only [hA, hg1, List.length_map, go_sem]
 refine loop_kept (ι := Nat × List Int) r_TBL1 (fun i => [(78, .v (.int .i64 i.1))]) 5 (fun i => [.live 0 1 [[.v (.isl 3 (t.map ePr))]], .dead 0, tbA t i.2, tbC i.2, .live 0 1 [[.sl (B.length + 3) 0 0 t.length]]])
  (fun i => i.1 ≤ 130 ∧ Cutt t i.2 ∧ i.1 ≤ dnN i.2 t.length) (fun i => 130 - i.1) (0, cs) ⟨Nat.zero_le _, hC, Nat.zero_le _⟩ (by (repeat (first | exact hE1.mono oM | refine KLt.up ?_ kL))) (by ((try simp (disch := decide) only [hA, hg1, go_sem]) <;> exact kH)) (fun e => Weak.refl _ _ _) ?_
 clear hstep hgA hgC hcl
 rintro g2 hE2 hEE2 hg2 ⟨r, ds⟩ ⟨hr, hD, hdn⟩
 replace hD : Cutt t ds := hD
 replace hdn : r ≤ dnN ds t.length := hdn
 have htot := Nat.le_trans (dnN_le hD t.length (Nat.le_refl _)) (few_tot hf)
 have hr130 : r < 130 := by have : r ≤ dnN ds t.length := hdn; omega
 have dr : decide ((r : Int) < 130) = true := decide_eq_true oM
 simp (disch := (first | decide | omega)) only [hA, hg1, hg2, dr, List.length_map, go_sem]
 refine loop_kept (ι := Nat) r_TBL2 (fun k => [(83, .v (.int .i64 k)), (13, .v (.bool (leftB t ds k)))]) 5 (fun k => [.live 0 1 [[.v (.isl 3 (t.map ePr))]], .dead 0, tbA t (rT t ds k), tbC (rT t ds k), .live 0 1 [[.sl (B.length + 3) 0 0 t.length]]])
  (fun k => k ≤ t.length) (fun k => t.length - k) 0 (Nat.zero_le _) (by (repeat (first | exact hE2.mono oM | refine KLt.up ?_ kL))) (by ((try simp (disch := decide) only [hA, hg1, hg2, go_sem]) <;> exact kH)) (fun e => Weak.refl _ _ _) ?_
 intro g3 hE3 hEE3 hg3 k hk
 by_cases hkl : k < t.length
 ·have hK := rT_cutt hD k hk
  have hcl := hK.len
  have hkc : k < (rT t ds k).length := by omega
  have heo := evsOf_lt hkl
  have hlat := rT_later hD (q := k) k hk (Nat.le_refl _)
  have hgC : (tbC (rT t ds k)) = .live 0 1 (vs ((rT t ds k).map eI)) := rfl
  have hck : ((rT t ds k).map eI)[k]? = some [.int .i64 (cAt (rT t ds k) k)] := by rw [List.getElem?_map, List.getElem?_eq_getElem hkc, cu_at hK hkl]; rfl
  have htp : (t.map ePr)[k]? = some [.str t[k].name, .isl 2 (t[k].vars.map eVr), .isl 5 (t[k].evs.map eEv)] := by rw [List.getElem?_map, List.getElem?_eq_getElem hkl]; rfl
  by_cases hlt : cAt (rT t ds k) k < (t[k].evs.length : Int)
  ·have dl := decide_eq_true hlt
   have hs1 := tbStep_spec t hval hS hN (rT t ds k) hK k hkl (by rw [heo]; exact hlt) 0 4 3 2 B [.live 0 1 [[.v (.isl 3 (t.map ePr))]], .dead 0, tbA t (rT t ds k), tbC (rT t ds k), .live 0 1 [[.sl (B.length + 3) 0 0 t.length]]] ⟨rfl, rfl, rfl, rfl, by decide⟩
   simp only [Nat.add_zero, List.set_cons_succ, List.set_cons_zero] at hs1
   have hnx : rT t ds (k + 1) = stepC t (rT t ds k) k := by rw [rT, if_pos (by rw [heo]; exact hlt)]
   have hlf : leftB t ds (k + 1) = true := by rw [leftB, if_pos (by rw [heo, ← hlat]; exact hlt)]
   rw [hgC, ← hnx] at hs1
   simp (disch := (first | decide | omega)) only [hA, hg1, hg2, hg3, hgC, hck, htp, dl, vs_get, List.length_map, go_sem]
   refine ACalls.nxt hs1 ?_
   simp (disch := (first | decide | omega)) only [hA, hg1, hg2, hg3, go_sem]
   refine ⟨k + 1, hkl, by simp only; omega, ?_⟩
   simp only [hlf]
   exact Weak.kround (p := r_TBL2) (k := 5) (by ((repeat refine (kAny_up rfl).trans ?_); exact hEE3)) (by ((try simp (disch := decide) only [hA, go_sem]) <;> exact kH)) rfl hE3 (by simp) kV hR (by simp (disch := omega) only [tbA, tbC, lts.down, Nat.reduceLT, Nat.reduceAdd])
  ·have dl := decide_eq_false hlt
   have hnx : rT t ds (k + 1) = rT t ds k := by rw [rT, if_neg (by rw [heo]; exact hlt)]
   have hlf : leftB t ds (k + 1) = leftB t ds k := by rw [leftB, if_neg (by rw [heo, ← hlat]; exact hlt)]
   simp (disch := (first | decide | omega)) only [hA, hg1, hg2, hg3, hgC, hck, htp, dl, vs_get, List.length_map, go_sem]
   refine ⟨k + 1, hkl, by simp only; omega, ?_⟩
   simp only [hlf, hnx, ← hgC]
   exact Weak.kround (p := r_TBL2) (k := 5) (by ((repeat refine (kAny_up rfl).trans ?_); exact hEE3)) (by ((try simp (disch := decide) only [hA, go_sem]) <;> exact kH)) rfl hE3 (by simp) kV hR (by simp (disch := omega) only [tbA, tbC, lts.down, Nat.reduceLT, Nat.reduceAdd])
 obtain rfl : k = t.length := by omega
 cases hlf : leftB t ds t.length with
 | false =>
   have hall := built_all hD hlf
   have hgA : tbA t (rT t ds t.length) = .live 0 1 [[.v (.isl 3 (t.map ePr))]] := by unfold tbA; rw [rT_none hlf, hall]
   have cSm := fun b l => rSame_refl t hS b l
   rw [eTe] at cSm
   simp (disch := (first | decide | omega)) only [hA, hg1, hg2, hg3, hgA, List.length_map, go_sem]
   refine ACalls.nxt (cSm _ _) ?_
   simp (disch := (first | decide | omega)) only [hA, hg1, hg2, hg3, go_sem]
   exact leave_pure (xs := [.v (.bool true)]) (.inr rfl) (by simp (disch := (first | decide | omega)) only [resVs, resV, go_sem, hA, hg1, hg2, hg3]) kO hR hB ⟨rfl, rfl, rfl⟩
 | true =>
   have hmore := rT_more hD hlf
   simp (disch := (first | decide | omega)) only [hA, hg1, hg2, hg3, List.length_map, go_sem]
   refine ⟨(r + 1, rT t ds t.length), ⟨hr130, rT_cutt hD _ (Nat.le_refl _), by have : r ≤ dnN ds t.length := hdn; simp only; omega⟩, by simp only; omega, ?_⟩
   exact Weak.kround (p := r_TBL1) (k := 5) (by ((repeat refine (kAny_up rfl).trans ?_); refine (kAny_sub hg3 (kIn_sub rfl)).trans ?_; (repeat refine (kAny_up rfl).trans ?_); exact hEE2)) (by ((try simp (disch := decide) only [hA, hg1, hg2, go_sem]) <;> exact kH)) rfl hE2 (by simp) kV hR (by simp (disch := omega) only [tbA, tbC, lts.down, Nat.reduceLT, Nat.reduceAdd])
end Go.Proofs.Ytanblnhnfkeffaa
