/- Texts of one proof, laid together: ZN. No condition. -/
import Derived.Test.YtanblnhnfkeffaaTE22
import Derived.Test.YtanblnhnfkeffaaTE21
import Derived.Test.YtanblnhnfkeffaaTE12
namespace Go.Proofs.Ytanblnhnfkeffaa
set_option linter.unusedVariables false
set_option linter.unusedSimpArgs false
attribute [local go_sem ↓] run_skip run_region run_draw run_both run_seq run_block run_exit run_ret run_cond atN_app seqC_normal seqC_exit seqC_ret seqQ_normal seqQ_exit seqQ_ret blkQ_normal blkQ_exit blkQ_ret runOps_nil runOps_cons runD_nil runD_cons grdO_true grdO_false grdD_true grdD_false ifC_true ifC_false opS_val opS_call opS_two opK_app dS_val dS_call dS_two dK_app kUp_same kUp_ne
attribute [local go_sem] rechks_nil rechks_cons rechk gcase_true gcase_false ex_val ex_val0 gd_none gd_some ev_t ev_c evs_nil evs_cons evo_some evo_none hget_at hget_first hsetB_at hsetB_first hsetL_at hsetL_first ofOpt_some aop aload astore aslice aappend aiaddr aiaddrA afaddr alen alenS acopy amm acall alookup amupdate alenM atostr aappz comma keyEq apick binV binVB binVS isSh intOp strOp boolOp shOp eqC eqF and2 cellsOf setFrom fillA fillS rd rdI elems mk bounds AV.cell List.all_cons List.all_nil Bool.and_true Bool.true_and Bool.and_self List.length_cons List.length_nil List.length_append Nat.reduceAdd Nat.reduceSub Nat.reduceMul Nat.zero_add Nat.add_zero List.cons_append List.nil_append List.append_assoc List.append_nil List.getElem?_cons_zero List.getElem?_cons_succ List.getElem?_nil List.set_cons_zero List.set_cons_succ List.drop_zero List.drop_succ_cons List.take_zero List.take_succ_cons List.take_nil List.drop_nil List.map_cons List.map_nil Option.map_some if_true if_false Bool.false_eq_true and_self true_and and_true Nat.reduceLeDiff Nat.reduceLT Nat.le_refl Nat.reduceEqDiff ite_true ite_false beq_self_eq_true beq_true beq_false Bool.not_true Bool.not_false Bool.true_beq Bool.false_beq map_vs vs_len vs_get vs_take vs_drop vs_snoc1 vs_snoc2 vs_snoc3 vs_snoc5 vs_set1 vs_set2 vs_rep wrap_id le_T lt_T le_F lt_F leI_T ltI_T leI_F ltI_F geI gtI get_T decide_true decide_false room List.getElem?_map List.length_map List.length_take Int.toNat_natCast Nat.min_def Nat.min_self nth_kOf put_kOf put_kNo kOv_cons kOv_nil KHas KArgs List.getElem_cons_zero List.getElem_cons_succ
def a_tcBurst : AFunc := ⟨5,85,[.tmp 10],(.seq (.region [⟨some 5,.box (.t 0),none⟩,⟨some 7,.box (.t 2),none⟩,⟨some 8,.box (.t 3),none⟩,⟨some 9,.box (.t 4),none⟩,⟨some 10,.mv (.c (.v (.bool false))),none⟩]) (.seq (.seq (.region [⟨some 18,.call (.c (.fn 33 [])) [],none⟩,⟨some 19,.not (.t 18),none⟩]) (.cond (.t 19) (.seq (.region [⟨some 10,.mv (.c (.v (.bool false))),none⟩]) .ret) .skip)) (.seq (.seq (.region [⟨some 20,.load (some 1) (.t 5),none⟩,⟨some 21,.call (.c (.fn 34 [])) [(.t 20)],none⟩,⟨some 22,.mv (.t 21),none⟩,⟨some 23,.mv (.t 1),some (22,false)⟩,⟨some 24,.len (.t 23),some (22,false)⟩,⟨some 25,.bin .gtr (.t 24) (.c (.v (.int .i64 20000))),some (22,false)⟩,⟨some 26,.pick (.t 22) (.c (.v (.bool true))) (.t 25),none⟩,⟨some 27,.mv (.t 26),none⟩,⟨some 28,.load none (.t 8),some (27,false)⟩,⟨some 29,.bin .eql (.t 28) (.c (.v (.int .u8 0))),some (27,false)⟩,⟨some 30,.mv (.t 29),some (27,false)⟩,⟨some 31,.load none (.t 9),some (30,true)⟩,⟨some 32,.bin .eql (.t 31) (.c (.v (.int .u8 0))),some (30,true)⟩,⟨some 33,.pick (.t 30) (.t 32) (.c (.v (.bool false))),some (27,false)⟩,⟨some 34,.pick (.t 27) (.c (.v (.bool true))) (.t 33),none⟩]) (.cond (.t 34) (.seq (.region [⟨some 10,.mv (.c (.v (.bool true))),none⟩]) .ret) .skip)) (.seq (.region [⟨some 35,.mkfn 41 [(.t 7),(.t 8),(.t 9)],none⟩,⟨some 11,.mv (.t 35),none⟩]) (.seq (.seq (.region [⟨some 36,.mv (.t 1),none⟩,⟨some 37,.len (.t 36),none⟩,⟨some 38,.bin .gtr (.t 37) (.c (.v (.int .i64 0))),none⟩]) (.cond (.t 38) (.seq (.region [⟨some 39,.mv (.t 11),none⟩,⟨some 40,.mv (.t 1),none⟩,⟨some 41,.call (.t 39) [(.t 40)],none⟩,⟨some 12,.mv (.t 41),none⟩]) (.seq (.region [⟨some 42,.mv (.t 1),none⟩,⟨some 43,.mv (.t 12),none⟩,⟨some 44,.call (.c (.fn 38 [])) [(.t 42),(.t 43)],none⟩,⟨some 45,.not (.t 44),none⟩,⟨some 46,.mv (.t 45),none⟩,⟨some 47,.mv (.t 1),some (46,true)⟩,⟨some 48,.call (.c (.fn 43 [])) [(.t 47)],some (46,true)⟩,⟨some 49,.mv (.t 12),some (46,true)⟩,⟨some 50,.call (.c (.fn 43 [])) [(.t 49)],some (46,true)⟩,⟨some 51,.bin .eql (.t 48) (.t 50),some (46,true)⟩,⟨some 52,.pick (.t 46) (.t 51) (.c (.v (.bool false))),none⟩]) (.cond (.t 52) (.seq (.region [⟨some 10,.mv (.c (.v (.bool false))),none⟩]) .ret) .skip))) .skip)) (.seq (.region [⟨some 54,.load (some 1) (.t 5),none⟩,⟨some 55,.call (.c (.fn 35 [])) [(.t 54)],none⟩,⟨some 53,.mv (.t 55),none⟩,⟨some 56,.extract 0 (.t 53),none⟩,⟨some 57,.extract 1 (.t 53),none⟩,⟨some 13,.mv (.t 56),none⟩,⟨some 14,.mv (.t 57),none⟩]) (.seq (.seq (.region [⟨some 58,.mv (.t 14),none⟩,⟨some 59,.bin .neq (.t 58) (.c (.v (.int .i64 0))),none⟩,⟨some 60,.mv (.t 59),none⟩,⟨some 61,.mv (.t 13),some (60,false)⟩,⟨some 62,.len (.t 61),some (60,false)⟩,⟨some 63,.bin .lss (.t 62) (.c (.v (.int .i64 2))),some (60,false)⟩,⟨some 64,.pick (.t 60) (.c (.v (.bool true))) (.t 63),none⟩]) (.cond (.t 64) (.seq (.region [⟨some 65,.mv (.t 14),none⟩,⟨some 66,.bin .neq (.t 65) (.c (.v (.int .i64 0))),none⟩,⟨some 67,.mv (.t 66),none⟩,⟨some 68,.mv (.t 13),some (67,true)⟩,⟨some 69,.len (.t 68),some (67,true)⟩,⟨some 70,.bin .eql (.t 69) (.c (.v (.int .i64 0))),some (67,true)⟩,⟨some 71,.pick (.t 67) (.t 70) (.c (.v (.bool false))),none⟩,⟨some 10,.mv (.t 71),none⟩]) .ret) .skip)) (.seq (.region [⟨some 72,.mv (.t 11),none⟩,⟨some 73,.mv (.t 13),none⟩,⟨some 74,.call (.t 72) [(.t 73)],none⟩,⟨some 15,.mv (.t 74),none⟩]) (.seq (.seq (.region [⟨some 75,.mv (.t 13),none⟩,⟨some 76,.mv (.t 15),none⟩,⟨some 77,.call (.c (.fn 38 [])) [(.t 75),(.t 76)],none⟩]) (.cond (.t 77) (.seq (.region [⟨some 10,.mv (.c (.v (.bool true))),none⟩]) .ret) .skip)) (.seq (.region [⟨some 79,.mv (.t 15),none⟩,⟨some 80,.call (.c (.fn 39 [])) [(.t 79)],none⟩,⟨some 78,.mv (.t 80),none⟩,⟨some 81,.extract 0 (.t 78),none⟩,⟨some 82,.extract 1 (.t 78),none⟩,⟨some 16,.alloc [(.v .zsl)],none⟩,⟨none,.store 1 (.t 16) (.t 81),none⟩,⟨some 17,.mv (.t 82),none⟩]) (.seq (.region [⟨some 83,.mv (.t 17),none⟩,⟨some 84,.bin .eql (.t 83) (.c (.v (.int .i64 12))),none⟩,⟨some 10,.mv (.t 84),none⟩]) .ret)))))))))))⟩
theorem a_tcBurst_ok : cFunc Try.prog 6 = some a_tcBurst := by kernel_rfl
def a_tcChg : AFunc := ⟨4,36,[.tmp 5],(.seq (.region [⟨some 5,.mv (.c (.v .zsl)),none⟩]) (.seq (.region [⟨some 8,.mv (.t 0),none⟩,⟨some 9,.call (.c (.fn 42 [])) [(.t 8)],none⟩,⟨some 6,.mv (.t 9),none⟩]) (.seq (.region [⟨some 10,.load none (.t 1),none⟩,⟨some 11,.conv .i64 (.t 10),none⟩,⟨some 12,.mv (.t 6),none⟩,⟨some 13,.len (.t 12),none⟩,⟨some 14,.bin .rem (.t 11) (.t 13),none⟩,⟨some 7,.mv (.t 14),none⟩]) (.seq (.draw [⟨0,⟨some 15,.mv (.t 6),none⟩,[]⟩,⟨1,⟨some 16,.mv (.t 7),none⟩,[]⟩,⟨2,⟨some 17,.iaddr 1 (.t 15) (.t 16),none⟩,[]⟩,⟨3,⟨some 18,.load none (.t 17),none⟩,[]⟩,⟨4,⟨some 19,.load none (.t 2),none⟩,[]⟩,⟨5,⟨some 20,.bin .xor (.t 18) (.t 19),none⟩,[]⟩,⟨6,⟨some 21,.iaddr 1 (.t 15) (.t 16),none⟩,[]⟩,⟨7,⟨none,.store 1 (.t 21) (.t 20),none⟩,[]⟩]) (.seq (.seq (.region [⟨some 22,.mv (.t 7),none⟩,⟨some 23,.bin .add (.t 22) (.c (.v (.int .i64 1))),none⟩,⟨some 24,.mv (.t 6),none⟩,⟨some 25,.len (.t 24),none⟩,⟨some 26,.bin .lss (.t 23) (.t 25),none⟩]) (.cond (.t 26) (.draw [⟨0,⟨some 27,.mv (.t 6),none⟩,[]⟩,⟨1,⟨some 28,.mv (.t 7),none⟩,[]⟩,⟨2,⟨some 29,.bin .add (.t 28) (.c (.v (.int .i64 1))),none⟩,[]⟩,⟨3,⟨some 30,.iaddr 1 (.t 27) (.t 29),none⟩,[]⟩,⟨4,⟨some 31,.load none (.t 30),none⟩,[]⟩,⟨5,⟨some 32,.load none (.t 3),none⟩,[]⟩,⟨6,⟨some 33,.bin .xor (.t 31) (.t 32),none⟩,[]⟩,⟨7,⟨some 34,.iaddr 1 (.t 27) (.t 29),none⟩,[]⟩,⟨8,⟨none,.store 1 (.t 34) (.t 33),none⟩,[]⟩]) .skip)) (.seq (.region [⟨some 35,.mv (.t 6),none⟩,⟨some 5,.mv (.t 35),none⟩]) .ret))))))⟩
theorem a_tcChg_ok : cFunc Try.prog 41 = some a_tcChg := by kernel_rfl

theorem xor8 (a c : UInt8) : intOp .xor .u8 (a.toNat : Int) (c.toNat : Int) = some (.int .u8 ((a ^^^ c).toNat : Int)) := by
 unfold intOp
 have h1 : ∀ u : UInt8, (BitVec.ofInt 8 (u.toNat : Int)).toNat = u.toNat := fun u => by
  rw [BitVec.ofInt_natCast, BitVec.toNat_ofNat]
  exact Nat.mod_eq_of_lt u.toNat_lt
 have h2 : ((BitVec.ofInt IntKind.u8.bits (a.toNat : Int)) ^^^ (BitVec.ofInt IntKind.u8.bits (c.toNat : Int))).toNat = (a ^^^ c).toNat := by
  rw [BitVec.toNat_xor, UInt8.toNat_xor]
  show (BitVec.ofInt 8 (a.toNat : Int)).toNat ^^^ (BitVec.ofInt 8 (c.toNat : Int)).toNat = _
  rw [h1, h1]
 simp only [h2]
 rw [wrap8 (a ^^^ c).toNat_lt]
theorem vs_setB {xs : List UInt8} {i : Nat} {u : UInt8} : (vs (xs.map eB)).set i [AV.v (.int .u8 (u.toNat : Int))] = vs ((xs.set i u).map eB) := by
 show ((xs.map eB).map (·.map AV.v)).set i ((eB u).map AV.v) = _
 rw [← List.map_set, ← List.map_set]
 rfl
theorem getB {xs : List UInt8} {i : Nat} (h : i < xs.length) : (vs (xs.map eB))[i]? = some [AV.v (.int .u8 ((xs.getD i 0).toNat : Int))] := by
 rw [e0V h, List.getD_eq_getElem?_getD, List.getElem?_eq_getElem h]; rfl
set_option maxHeartbeats 8000000 in
theorem chg_spec (xs : List UInt8) (hl : xs.length ≤ 1000000) (h1 : 1 ≤ xs.length) (at' : Nat) (ha : at' < 65536) (x y : UInt8) (ia ix iy : Nat) (b l : List Row)
  (ga : hget b l ia = some (.live 0 1 [[.v (.int .u16 (at' : Int))]])) (gx : hget b l ix = some (.live 0 1 [[.v (.int .u8 (x.toNat : Int))]])) (gy : hget b l iy = some (.live 0 1 [[.v (.int .u8 (y.toNat : Int))]])) :
  ACalls Try.prog 41 [.v (.isl 1 (xs.map eB)), .ptr ia 0 0 0, .ptr ix 0 0 0, .ptr iy 0 0 0] b l (fun r b' l' => r = .v (.isl 1 ((chgL xs (at' % xs.length) x y).map eB)) ∧ b' = b ∧ l' = l) := by
 refine calls_kept a_tcChg_ok rfl (by decide) ?_
 intro B g hB hR hE hA
 simp only [KArgs] at hA
 have hgL : ∀ {i r}, hget b l i = some r → ∀ l', hget B l' i = some r := fun {i r} h l' => hgetLo (by rw [hB, ← hget_eq]; exact h) l'
 have ga := hgL ga
 have gx := hgL gx
 have gy := hgL gy
 obtain ⟨n, hn⟩ : ∃ n, xs.length = n := ⟨_, rfl⟩
 obtain ⟨i, hi⟩ : ∃ i, at' % xs.length = i := ⟨_, rfl⟩
 have hilt : i < xs.length := by rw [← hi]; exact Nat.mod_lt _ oM
 have hm : Int.tmod (at' : Int) (xs.length : Int) = (i : Int) := by rw [← hi]; rfl
 have nz : ((xs.length : Int) = 0) = False := eq_false oM
 have g0 := getB hilt
 have hs0 : ∀ u : UInt8, (vs (xs.map eB)).set i [AV.v (.int .u8 (u.toNat : Int))] = vs ((xs.set i u).map eB) := fun u => vs_setB
 obtain ⟨u, hu⟩ : ∃ u, xs.getD i 0 = u := ⟨_, rfl⟩
 have hx := xor8 u x
 obtain ⟨zs, hz⟩ : ∃ zs, xs.set i (u ^^^ x) = zs := ⟨_, rfl⟩
 have hzl : zs.length = xs.length := by rw [← hz, List.length_set]
 have hi1 : (i : Int) + 1 = ((i + 1 : Nat) : Int) := by omega
 rw [hu] at g0
 have hs0 := hs0 (u ^^^ x)
 rw [hz] at hs0
 rw [hi]
 simp (disch := (first | decide | omega)) only [a_tcChg, hA, go_sem]
 refine ACalls.nxt (bClo_live xs hl h1 _ _) ?_
 by_cases h2 : i + 1 < xs.length
 ·have hd : decide (((i + 1 : Nat) : Int) < (xs.length : Int)) = true := decide_eq_true oM
  have g1 := getB (xs := zs) (i := i + 1) (by rw [hzl]; exact h2)
  have e1 : zs.getD (i + 1) 0 = xs.getD (i + 1) 0 := by
   rw [← hz, List.getD_eq_getElem?_getD, List.getD_eq_getElem?_getD, List.getElem?_set_ne oM]
  rw [e1] at g1
  obtain ⟨v, hv⟩ : ∃ v, xs.getD (i + 1) 0 = v := ⟨_, rfl⟩
  rw [hv] at g1
  have hy := xor8 v y
  have hs1 : (vs (zs.map eB)).set (i + 1) [AV.v (.int .u8 ((v ^^^ y).toNat : Int))] = vs ((zs.set (i + 1) (v ^^^ y)).map eB) := vs_setB
  have hch : chgL xs i x y = zs.set (i + 1) (v ^^^ y) := by unfold chgL; rw [hu, hv, hz]
  simp (disch := (first | decide | omega)) only [hA, ga, gx, gy, bRow, hm, nz, g0, ↓hx, hs0, hi1, hd, g1, ↓hy, hs1, setFrom, cellsOf, vs_len, List.length_map, hzl, go_sem]
  exact leave_deep (.inr rfl) (xs := [.sl B.length 1 0 xs.length]) (by simp (disch := (first | decide | omega)) only [resVs, resV, hA, go_sem]) (y := .v (.isl 1 ((chgL xs i x y).map eB))) (by rw [hch]; exact Dv.slV (i := 0) rfl (by simp [hzl])) hR hB ⟨rfl, rfl, rfl⟩
 ·have hd : decide (((i + 1 : Nat) : Int) < (xs.length : Int)) = false := decide_eq_false oM
  have hch : chgL xs i x y = zs := by unfold chgL; rw [hu, hz, List.set_eq_of_length_le oM]
  simp (disch := (first | decide | omega)) only [hA, ga, gx, gy, bRow, hm, nz, g0, ↓hx, hs0, hi1, hd, setFrom, cellsOf, vs_len, List.length_map, hzl, go_sem]
  exact leave_deep (.inr rfl) (xs := [.sl B.length 1 0 xs.length]) (by simp (disch := (first | decide | omega)) only [resVs, resV, hA, go_sem]) (y := .v (.isl 1 ((chgL xs i x y).map eB))) (by rw [hch]; exact Dv.slV (i := 0) rfl (by simp [hzl])) hR hB ⟨rfl, rfl, rfl⟩
set_option maxRecDepth 100000
set_option maxHeartbeats 8000000 in
theorem tcBurst_run (t : Tr) (bs : List UInt8) (hl : bs.length ≤ 9223372036854775807) (at' : Nat) (ha : at' < 65536) (x y : UInt8) (b l : List Row) :
  ACalls Try.prog 6 [.agg [.v (eT t)], .v (.isl 1 (bs.map eB)), .v (.int .u16 (at' : Int)), .v (.int .u8 (x.toNat : Int)), .v (.int .u8 (y.toNat : Int))] b l (fun r b' l' => r = .v (.bool true) ∧ b' = b ∧ l' = l) := by
 refine calls_kept a_tcBurst_ok rfl (by decide) ?_
 intro B g hB hR hE hA
 simp only [KArgs] at hA
 simp (disch := (first | decide | omega)) only [a_tcBurst, hA, go_sem]
 refine ACalls.nxt (awake21_spec _ _) ?_
 simp (disch := (first | decide | omega)) only [hA, go_sem]
 refine ACalls.nxt (great21_spec t _ _) ?_
 cases hg : great21B t with
 | true =>
   simp (disch := (first | decide | omega)) only [hA, go_sem]
   exact leave_pure (xs := [.v (.bool true)]) (.inr rfl) (by simp (disch := (first | decide | omega)) only [resVs, resV, go_sem, hA]) kO hR hB ⟨rfl, rfl, rfl⟩
 | false =>
 obtain ⟨hS, hN⟩ := great21_in hg
 by_cases h1 : 20000 < bs.length
 ·have hd : decide ((bs.length : Int) > 20000) = true := decide_eq_true oM
  simp (disch := (first | decide | omega)) only [hA, List.length_map, hd, go_sem]
  exact leave_pure (xs := [.v (.bool true)]) (.inr rfl) (by simp (disch := (first | decide | omega)) only [resVs, resV, go_sem, hA]) kO hR hB ⟨rfl, rfl, rfl⟩
 have hd : decide ((bs.length : Int) > 20000) = false := decide_eq_false oM
 have zx : ((x.toNat : Int) == 0) = decide (x.toNat = 0) := by
  by_cases h : x.toNat = 0
  ·rw [h]; rfl
  ·rw [decide_eq_false h]; exact beq_false_of_ne oM
 have zy : ((y.toNat : Int) == 0) = decide (y.toNat = 0) := by
  by_cases h : y.toNat = 0
  ·rw [h]; rfl
  ·rw [decide_eq_false h]; exact beq_false_of_ne oM
 have z1 : ((1 : Int) != 0) = true := rfl
 have z2 : ((5 : Int) != 0) = true := rfl
 have z3 : ((0 : Int) != 0) = false := rfl
 have z4 : (((0 : Nat) : Int) == 0) = true := rfl
 have z5 : ((0 : Int) == 0) = true := rfl
 have z6 : ((12 : Int) == 12) = true := rfl
 have cE := fun b l => enc_spec t hS hN b l
 have g1 : ∀ B (r0 r1 : Row) T, hget B (r0 :: r1 :: T) (B.length + 1) = some r1 := fun B r0 r1 T => hget_at
 have g2 : ∀ B (r0 r1 r2 : Row) T, hget B (r0 :: r1 :: r2 :: T) (B.length + 2) = some r2 := fun B r0 r1 r2 T => hget_at
 have g3 : ∀ B (r0 r1 r2 r3 : Row) T, hget B (r0 :: r1 :: r2 :: r3 :: T) (B.length + 3) = some r3 := fun B r0 r1 r2 r3 T => hget_at
 obtain ⟨bx, hbx⟩ : ∃ z, decide (x.toNat = 0) = z := ⟨_, rfl⟩
 obtain ⟨bY, hby⟩ : ∃ z, decide (y.toNat = 0) = z := ⟨_, rfl⟩
 rw [hbx] at zx
 rw [hby] at zy
 cases hv : validL t with
 | false =>
   have e1 : encR t = .tup [.v .zsl, .v (.int .i64 1)] := by unfold encR; rw [if_pos hv]
   simp only [e1] at cE
   cases bx with
   | true =>
     cases bY with
     | true =>
       simp (disch := (first | decide | omega)) only [hA, List.length_map, hd, zx, zy, g2, g3, go_sem]
       exact leave_pure (xs := [.v (.bool true)]) (.inr rfl) (by simp (disch := (first | decide | omega)) only [resVs, resV, go_sem, hA]) kO hR hB ⟨rfl, rfl, rfl⟩
     | false =>
       simp (disch := (first | decide | omega)) only [hA, List.length_map, hd, zx, zy, g2, g3, go_sem]
       by_cases hb0 : bs.length = 0
       ·have d0 : decide ((bs.length : Int) > 0) = false := decide_eq_false oM
        simp (disch := (first | decide | omega)) only [hA, d0, List.length_map, go_sem]
        refine ACalls.nxt (cE _ _) ?_
        simp (disch := (first | decide | omega)) only [hA, z1, z2, z3, z4, z5, z6, go_sem]
        exact leave_pure (xs := [.v (.bool true)]) (.inr rfl) (by simp (disch := (first | decide | omega)) only [resVs, resV, go_sem, hA]) kO hR hB ⟨rfl, rfl, rfl⟩
       have d0 : decide ((bs.length : Int) > 0) = true := decide_eq_true oM
       obtain ⟨cb, hcb⟩ : ∃ z, chgL bs (at' % bs.length) x y = z := ⟨_, rfl⟩
       have hcbl : cb.length = bs.length := by rw [← hcb]; exact chgL_len
       have kG := fun b l ga gx gy => chg_spec bs oM oM at' ha x y (B.length + 1) (B.length + 2) (B.length + 3) b l ga gx gy
       simp only [hcb] at kG
       have kQ := fun b l => bEq_spec bs cb b l
       simp (disch := (first | decide | omega)) only [hA, d0, List.length_map, go_sem]
       refine ACalls.nxt (kG _ _ (g1 _ _ _ _) (g2 _ _ _ _ _) (g3 _ _ _ _ _ _)) ?_
       simp (disch := (first | decide | omega)) only [hA, go_sem]
       by_cases hsame : bs = cb
       ·simp only [decide_eq_true hsame] at kQ
        refine ACalls.nxt (kQ _ _) ?_
        simp (disch := (first | decide | omega)) only [hA, go_sem]
        refine ACalls.nxt (cE _ _) ?_
        simp (disch := (first | decide | omega)) only [hA, z1, z2, z3, z4, z5, z6, go_sem]
        exact leave_pure (xs := [.v (.bool true)]) (.inr rfl) (by simp (disch := (first | decide | omega)) only [resVs, resV, go_sem, hA]) kO hR hB ⟨rfl, rfl, rfl⟩
       ·simp only [decide_eq_false hsame] at kQ
        have hcr : ((crc bs : Int) == (crc cb : Int)) = false := beq_false_of_ne (fun h => hsame (by
         have := crc_chg (l := bs) (i := at' % bs.length) (x := x) (y := y) (Nat.mod_lt _ oM) (by rw [hcb]; omega)
         rw [hcb] at this
         exact this.symm))
        refine ACalls.nxt (kQ _ _) ?_
        simp (disch := (first | decide | omega)) only [hA, go_sem]
        refine ACalls.nxt (sum_val bs oM _ _) ?_
        simp (disch := (first | decide | omega)) only [hA, go_sem]
        refine ACalls.nxt (sum_val cb oM _ _) ?_
        simp (disch := (first | decide | omega)) only [hA, hcr, go_sem]
        refine ACalls.nxt (cE _ _) ?_
        simp (disch := (first | decide | omega)) only [hA, z1, z2, z3, z4, z5, z6, go_sem]
        exact leave_pure (xs := [.v (.bool true)]) (.inr rfl) (by simp (disch := (first | decide | omega)) only [resVs, resV, go_sem, hA]) kO hR hB ⟨rfl, rfl, rfl⟩
   | false =>
     simp (disch := (first | decide | omega)) only [hA, List.length_map, hd, zx, g2, g3, go_sem]
     by_cases hb0 : bs.length = 0
     ·have d0 : decide ((bs.length : Int) > 0) = false := decide_eq_false oM
      simp (disch := (first | decide | omega)) only [hA, d0, List.length_map, go_sem]
      refine ACalls.nxt (cE _ _) ?_
      simp (disch := (first | decide | omega)) only [hA, z1, z2, z3, z4, z5, z6, go_sem]
      exact leave_pure (xs := [.v (.bool true)]) (.inr rfl) (by simp (disch := (first | decide | omega)) only [resVs, resV, go_sem, hA]) kO hR hB ⟨rfl, rfl, rfl⟩
     have d0 : decide ((bs.length : Int) > 0) = true := decide_eq_true oM
     obtain ⟨cb, hcb⟩ : ∃ z, chgL bs (at' % bs.length) x y = z := ⟨_, rfl⟩
     have hcbl : cb.length = bs.length := by rw [← hcb]; exact chgL_len
     have kG := fun b l ga gx gy => chg_spec bs oM oM at' ha x y (B.length + 1) (B.length + 2) (B.length + 3) b l ga gx gy
     simp only [hcb] at kG
     have kQ := fun b l => bEq_spec bs cb b l
     simp (disch := (first | decide | omega)) only [hA, d0, List.length_map, go_sem]
     refine ACalls.nxt (kG _ _ (g1 _ _ _ _) (g2 _ _ _ _ _) (g3 _ _ _ _ _ _)) ?_
     simp (disch := (first | decide | omega)) only [hA, go_sem]
     by_cases hsame : bs = cb
     ·simp only [decide_eq_true hsame] at kQ
      refine ACalls.nxt (kQ _ _) ?_
      simp (disch := (first | decide | omega)) only [hA, go_sem]
      refine ACalls.nxt (cE _ _) ?_
      simp (disch := (first | decide | omega)) only [hA, z1, z2, z3, z4, z5, z6, go_sem]
      exact leave_pure (xs := [.v (.bool true)]) (.inr rfl) (by simp (disch := (first | decide | omega)) only [resVs, resV, go_sem, hA]) kO hR hB ⟨rfl, rfl, rfl⟩
     ·simp only [decide_eq_false hsame] at kQ
      have hcr : ((crc bs : Int) == (crc cb : Int)) = false := beq_false_of_ne (fun h => hsame (by
       have := crc_chg (l := bs) (i := at' % bs.length) (x := x) (y := y) (Nat.mod_lt _ oM) (by rw [hcb]; omega)
       rw [hcb] at this
       exact this.symm))
      refine ACalls.nxt (kQ _ _) ?_
      simp (disch := (first | decide | omega)) only [hA, go_sem]
      refine ACalls.nxt (sum_val bs oM _ _) ?_
      simp (disch := (first | decide | omega)) only [hA, go_sem]
      refine ACalls.nxt (sum_val cb oM _ _) ?_
      simp (disch := (first | decide | omega)) only [hA, hcr, go_sem]
      refine ACalls.nxt (cE _ _) ?_
      simp (disch := (first | decide | omega)) only [hA, z1, z2, z3, z4, z5, z6, go_sem]
      exact leave_pure (xs := [.v (.bool true)]) (.inr rfl) (by simp (disch := (first | decide | omega)) only [resVs, resV, go_sem, hA]) kO hR hB ⟨rfl, rfl, rfl⟩
 | true =>
   by_cases hbig : 16384 < (codeL t).length
   ·have e1 : encR t = .tup [.v .zsl, .v (.int .i64 5)] := by unfold encR; rw [if_neg (by rw [hv]; decide), if_pos hbig]
    simp only [e1] at cE
    cases bx with
    | true =>
      cases bY with
      | true =>
        simp (disch := (first | decide | omega)) only [hA, List.length_map, hd, zx, zy, g2, g3, go_sem]
        exact leave_pure (xs := [.v (.bool true)]) (.inr rfl) (by simp (disch := (first | decide | omega)) only [resVs, resV, go_sem, hA]) kO hR hB ⟨rfl, rfl, rfl⟩
      | false =>
        simp (disch := (first | decide | omega)) only [hA, List.length_map, hd, zx, zy, g2, g3, go_sem]
        by_cases hb0 : bs.length = 0
        ·have d0 : decide ((bs.length : Int) > 0) = false := decide_eq_false oM
         simp (disch := (first | decide | omega)) only [hA, d0, List.length_map, go_sem]
         refine ACalls.nxt (cE _ _) ?_
         simp (disch := (first | decide | omega)) only [hA, z1, z2, z3, z4, z5, z6, go_sem]
         exact leave_pure (xs := [.v (.bool true)]) (.inr rfl) (by simp (disch := (first | decide | omega)) only [resVs, resV, go_sem, hA]) kO hR hB ⟨rfl, rfl, rfl⟩
        have d0 : decide ((bs.length : Int) > 0) = true := decide_eq_true oM
        obtain ⟨cb, hcb⟩ : ∃ z, chgL bs (at' % bs.length) x y = z := ⟨_, rfl⟩
        have hcbl : cb.length = bs.length := by rw [← hcb]; exact chgL_len
        have kG := fun b l ga gx gy => chg_spec bs oM oM at' ha x y (B.length + 1) (B.length + 2) (B.length + 3) b l ga gx gy
        simp only [hcb] at kG
        have kQ := fun b l => bEq_spec bs cb b l
        simp (disch := (first | decide | omega)) only [hA, d0, List.length_map, go_sem]
        refine ACalls.nxt (kG _ _ (g1 _ _ _ _) (g2 _ _ _ _ _) (g3 _ _ _ _ _ _)) ?_
        simp (disch := (first | decide | omega)) only [hA, go_sem]
        by_cases hsame : bs = cb
        ·simp only [decide_eq_true hsame] at kQ
         refine ACalls.nxt (kQ _ _) ?_
         simp (disch := (first | decide | omega)) only [hA, go_sem]
         refine ACalls.nxt (cE _ _) ?_
         simp (disch := (first | decide | omega)) only [hA, z1, z2, z3, z4, z5, z6, go_sem]
         exact leave_pure (xs := [.v (.bool true)]) (.inr rfl) (by simp (disch := (first | decide | omega)) only [resVs, resV, go_sem, hA]) kO hR hB ⟨rfl, rfl, rfl⟩
        ·simp only [decide_eq_false hsame] at kQ
         have hcr : ((crc bs : Int) == (crc cb : Int)) = false := beq_false_of_ne (fun h => hsame (by
          have := crc_chg (l := bs) (i := at' % bs.length) (x := x) (y := y) (Nat.mod_lt _ oM) (by rw [hcb]; omega)
          rw [hcb] at this
          exact this.symm))
         refine ACalls.nxt (kQ _ _) ?_
         simp (disch := (first | decide | omega)) only [hA, go_sem]
         refine ACalls.nxt (sum_val bs oM _ _) ?_
         simp (disch := (first | decide | omega)) only [hA, go_sem]
         refine ACalls.nxt (sum_val cb oM _ _) ?_
         simp (disch := (first | decide | omega)) only [hA, hcr, go_sem]
         refine ACalls.nxt (cE _ _) ?_
         simp (disch := (first | decide | omega)) only [hA, z1, z2, z3, z4, z5, z6, go_sem]
         exact leave_pure (xs := [.v (.bool true)]) (.inr rfl) (by simp (disch := (first | decide | omega)) only [resVs, resV, go_sem, hA]) kO hR hB ⟨rfl, rfl, rfl⟩
    | false =>
      simp (disch := (first | decide | omega)) only [hA, List.length_map, hd, zx, g2, g3, go_sem]
      by_cases hb0 : bs.length = 0
      ·have d0 : decide ((bs.length : Int) > 0) = false := decide_eq_false oM
       simp (disch := (first | decide | omega)) only [hA, d0, List.length_map, go_sem]
       refine ACalls.nxt (cE _ _) ?_
       simp (disch := (first | decide | omega)) only [hA, z1, z2, z3, z4, z5, z6, go_sem]
       exact leave_pure (xs := [.v (.bool true)]) (.inr rfl) (by simp (disch := (first | decide | omega)) only [resVs, resV, go_sem, hA]) kO hR hB ⟨rfl, rfl, rfl⟩
      have d0 : decide ((bs.length : Int) > 0) = true := decide_eq_true oM
      obtain ⟨cb, hcb⟩ : ∃ z, chgL bs (at' % bs.length) x y = z := ⟨_, rfl⟩
      have hcbl : cb.length = bs.length := by rw [← hcb]; exact chgL_len
      have kG := fun b l ga gx gy => chg_spec bs oM oM at' ha x y (B.length + 1) (B.length + 2) (B.length + 3) b l ga gx gy
      simp only [hcb] at kG
      have kQ := fun b l => bEq_spec bs cb b l
      simp (disch := (first | decide | omega)) only [hA, d0, List.length_map, go_sem]
      refine ACalls.nxt (kG _ _ (g1 _ _ _ _) (g2 _ _ _ _ _) (g3 _ _ _ _ _ _)) ?_
      simp (disch := (first | decide | omega)) only [hA, go_sem]
      by_cases hsame : bs = cb
      ·simp only [decide_eq_true hsame] at kQ
       refine ACalls.nxt (kQ _ _) ?_
       simp (disch := (first | decide | omega)) only [hA, go_sem]
       refine ACalls.nxt (cE _ _) ?_
       simp (disch := (first | decide | omega)) only [hA, z1, z2, z3, z4, z5, z6, go_sem]
       exact leave_pure (xs := [.v (.bool true)]) (.inr rfl) (by simp (disch := (first | decide | omega)) only [resVs, resV, go_sem, hA]) kO hR hB ⟨rfl, rfl, rfl⟩
      ·simp only [decide_eq_false hsame] at kQ
       have hcr : ((crc bs : Int) == (crc cb : Int)) = false := beq_false_of_ne (fun h => hsame (by
        have := crc_chg (l := bs) (i := at' % bs.length) (x := x) (y := y) (Nat.mod_lt _ oM) (by rw [hcb]; omega)
        rw [hcb] at this
        exact this.symm))
       refine ACalls.nxt (kQ _ _) ?_
       simp (disch := (first | decide | omega)) only [hA, go_sem]
       refine ACalls.nxt (sum_val bs oM _ _) ?_
       simp (disch := (first | decide | omega)) only [hA, go_sem]
       refine ACalls.nxt (sum_val cb oM _ _) ?_
       simp (disch := (first | decide | omega)) only [hA, hcr, go_sem]
       refine ACalls.nxt (cE _ _) ?_
       simp (disch := (first | decide | omega)) only [hA, z1, z2, z3, z4, z5, z6, go_sem]
       exact leave_pure (xs := [.v (.bool true)]) (.inr rfl) (by simp (disch := (first | decide | omega)) only [resVs, resV, go_sem, hA]) kO hR hB ⟨rfl, rfl, rfl⟩
   ·have e1 : encR t = .tup [.v (.isl 1 ((codeL t).map eB)), .v (.int .i64 0)] := by unfold encR; rw [if_neg (by rw [hv]; decide), if_neg hbig]
    have eL : encodeL t = (codeL t, 0) := by unfold encodeL; rw [if_neg (by rw [hv]; decide), if_neg hbig]
    have hcl := codeL_len t
    have d3 : decide (((codeL t).length : Int) < 2) = false := decide_eq_false oM
    obtain ⟨ch, hch⟩ : ∃ z, chgL (codeL t) (at' % (codeL t).length) x y = z := ⟨_, rfl⟩
    have hchl : ch.length = (codeL t).length := by rw [← hch]; exact chgL_len
    have cG := fun b l ga gx gy => chg_spec (codeL t) oM oM at' ha x y (B.length + 1) (B.length + 2) (B.length + 3) b l ga gx gy
    simp only [hch] at cG
    have cQ := fun b l => bEq_spec (codeL t) ch b l
    have cD := fun b l => dec_spec ch oM b l
    have hD : codeL t ≠ ch → decR ch = .tup [.agg [.v (.isl 3 [])], .v (.int .i64 12)] := fun hne => by
     have := decode_changed (t := t) (i := at' % (codeL t).length) (x := x) (y := y) (by rw [eL]) (by rw [eL]; exact Nat.mod_lt _ oM) (by rw [eL]; simp only [hch]; exact fun h => hne h.symm)
     rw [eL] at this
     simp only [hch] at this
     unfold decR
     rw [this]; rfl
    simp only [e1] at cE
    cases bx with
    | true =>
      cases bY with
      | true =>
        simp (disch := (first | decide | omega)) only [hA, List.length_map, hd, zx, zy, g2, g3, go_sem]
        exact leave_pure (xs := [.v (.bool true)]) (.inr rfl) (by simp (disch := (first | decide | omega)) only [resVs, resV, go_sem, hA]) kO hR hB ⟨rfl, rfl, rfl⟩
      | false =>
        simp (disch := (first | decide | omega)) only [hA, List.length_map, hd, zx, zy, g2, g3, go_sem]
        by_cases hb0 : bs.length = 0
        ·have d0 : decide ((bs.length : Int) > 0) = false := decide_eq_false oM
         simp (disch := (first | decide | omega)) only [hA, d0, List.length_map, go_sem]
         refine ACalls.nxt (cE _ _) ?_
         simp (disch := (first | decide | omega)) only [hA, z1, z2, z3, z4, z5, z6, d3, List.length_map, go_sem]
         refine ACalls.nxt (cG _ _ (g1 _ _ _ _) (g2 _ _ _ _ _) (g3 _ _ _ _ _ _)) ?_
         simp (disch := (first | decide | omega)) only [hA, go_sem]
         by_cases hs2 : codeL t = ch
         ·simp only [decide_eq_true hs2] at cQ
          refine ACalls.nxt (cQ _ _) ?_
          simp (disch := (first | decide | omega)) only [hA, go_sem]
          exact leave_pure (xs := [.v (.bool true)]) (.inr rfl) (by simp (disch := (first | decide | omega)) only [resVs, resV, go_sem, hA]) kO hR hB ⟨rfl, rfl, rfl⟩
         ·simp only [decide_eq_false hs2] at cQ
          simp only [hD hs2] at cD
          refine ACalls.nxt (cQ _ _) ?_
          simp (disch := (first | decide | omega)) only [hA, go_sem]
          refine ACalls.nxt (cD _ _) ?_
          simp (disch := (first | decide | omega)) only [hA, z1, z2, z3, z4, z5, z6, setFrom, cellsOf, go_sem]
          exact leave_pure (xs := [.v (.bool true)]) (.inr rfl) (by simp (disch := (first | decide | omega)) only [resVs, resV, go_sem, hA]) kO hR hB ⟨rfl, rfl, rfl⟩
        have d0 : decide ((bs.length : Int) > 0) = true := decide_eq_true oM
        obtain ⟨cb, hcb⟩ : ∃ z, chgL bs (at' % bs.length) x y = z := ⟨_, rfl⟩
        have hcbl : cb.length = bs.length := by rw [← hcb]; exact chgL_len
        have kG := fun b l ga gx gy => chg_spec bs oM oM at' ha x y (B.length + 1) (B.length + 2) (B.length + 3) b l ga gx gy
        simp only [hcb] at kG
        have kQ := fun b l => bEq_spec bs cb b l
        simp (disch := (first | decide | omega)) only [hA, d0, List.length_map, go_sem]
        refine ACalls.nxt (kG _ _ (g1 _ _ _ _) (g2 _ _ _ _ _) (g3 _ _ _ _ _ _)) ?_
        simp (disch := (first | decide | omega)) only [hA, go_sem]
        by_cases hsame : bs = cb
        ·simp only [decide_eq_true hsame] at kQ
         refine ACalls.nxt (kQ _ _) ?_
         simp (disch := (first | decide | omega)) only [hA, go_sem]
         refine ACalls.nxt (cE _ _) ?_
         simp (disch := (first | decide | omega)) only [hA, z1, z2, z3, z4, z5, z6, d3, List.length_map, go_sem]
         refine ACalls.nxt (cG _ _ (g1 _ _ _ _) (g2 _ _ _ _ _) (g3 _ _ _ _ _ _)) ?_
         simp (disch := (first | decide | omega)) only [hA, go_sem]
         by_cases hs2 : codeL t = ch
         ·simp only [decide_eq_true hs2] at cQ
          refine ACalls.nxt (cQ _ _) ?_
          simp (disch := (first | decide | omega)) only [hA, go_sem]
          exact leave_pure (xs := [.v (.bool true)]) (.inr rfl) (by simp (disch := (first | decide | omega)) only [resVs, resV, go_sem, hA]) kO hR hB ⟨rfl, rfl, rfl⟩
         ·simp only [decide_eq_false hs2] at cQ
          simp only [hD hs2] at cD
          refine ACalls.nxt (cQ _ _) ?_
          simp (disch := (first | decide | omega)) only [hA, go_sem]
          refine ACalls.nxt (cD _ _) ?_
          simp (disch := (first | decide | omega)) only [hA, z1, z2, z3, z4, z5, z6, setFrom, cellsOf, go_sem]
          exact leave_pure (xs := [.v (.bool true)]) (.inr rfl) (by simp (disch := (first | decide | omega)) only [resVs, resV, go_sem, hA]) kO hR hB ⟨rfl, rfl, rfl⟩
        ·simp only [decide_eq_false hsame] at kQ
         have hcr : ((crc bs : Int) == (crc cb : Int)) = false := beq_false_of_ne (fun h => hsame (by
          have := crc_chg (l := bs) (i := at' % bs.length) (x := x) (y := y) (Nat.mod_lt _ oM) (by rw [hcb]; omega)
          rw [hcb] at this
          exact this.symm))
         refine ACalls.nxt (kQ _ _) ?_
         simp (disch := (first | decide | omega)) only [hA, go_sem]
         refine ACalls.nxt (sum_val bs oM _ _) ?_
         simp (disch := (first | decide | omega)) only [hA, go_sem]
         refine ACalls.nxt (sum_val cb oM _ _) ?_
         simp (disch := (first | decide | omega)) only [hA, hcr, go_sem]
         refine ACalls.nxt (cE _ _) ?_
         simp (disch := (first | decide | omega)) only [hA, z1, z2, z3, z4, z5, z6, d3, List.length_map, go_sem]
         refine ACalls.nxt (cG _ _ (g1 _ _ _ _) (g2 _ _ _ _ _) (g3 _ _ _ _ _ _)) ?_
         simp (disch := (first | decide | omega)) only [hA, go_sem]
         by_cases hs2 : codeL t = ch
         ·simp only [decide_eq_true hs2] at cQ
          refine ACalls.nxt (cQ _ _) ?_
          simp (disch := (first | decide | omega)) only [hA, go_sem]
          exact leave_pure (xs := [.v (.bool true)]) (.inr rfl) (by simp (disch := (first | decide | omega)) only [resVs, resV, go_sem, hA]) kO hR hB ⟨rfl, rfl, rfl⟩
         ·simp only [decide_eq_false hs2] at cQ
          simp only [hD hs2] at cD
          refine ACalls.nxt (cQ _ _) ?_
          simp (disch := (first | decide | omega)) only [hA, go_sem]
          refine ACalls.nxt (cD _ _) ?_
          simp (disch := (first | decide | omega)) only [hA, z1, z2, z3, z4, z5, z6, setFrom, cellsOf, go_sem]
          exact leave_pure (xs := [.v (.bool true)]) (.inr rfl) (by simp (disch := (first | decide | omega)) only [resVs, resV, go_sem, hA]) kO hR hB ⟨rfl, rfl, rfl⟩
    | false =>
      simp (disch := (first | decide | omega)) only [hA, List.length_map, hd, zx, g2, g3, go_sem]
      by_cases hb0 : bs.length = 0
      ·have d0 : decide ((bs.length : Int) > 0) = false := decide_eq_false oM
       simp (disch := (first | decide | omega)) only [hA, d0, List.length_map, go_sem]
       refine ACalls.nxt (cE _ _) ?_
       simp (disch := (first | decide | omega)) only [hA, z1, z2, z3, z4, z5, z6, d3, List.length_map, go_sem]
       refine ACalls.nxt (cG _ _ (g1 _ _ _ _) (g2 _ _ _ _ _) (g3 _ _ _ _ _ _)) ?_
       simp (disch := (first | decide | omega)) only [hA, go_sem]
       by_cases hs2 : codeL t = ch
       ·simp only [decide_eq_true hs2] at cQ
        refine ACalls.nxt (cQ _ _) ?_
        simp (disch := (first | decide | omega)) only [hA, go_sem]
        exact leave_pure (xs := [.v (.bool true)]) (.inr rfl) (by simp (disch := (first | decide | omega)) only [resVs, resV, go_sem, hA]) kO hR hB ⟨rfl, rfl, rfl⟩
       ·simp only [decide_eq_false hs2] at cQ
        simp only [hD hs2] at cD
        refine ACalls.nxt (cQ _ _) ?_
        simp (disch := (first | decide | omega)) only [hA, go_sem]
        refine ACalls.nxt (cD _ _) ?_
        simp (disch := (first | decide | omega)) only [hA, z1, z2, z3, z4, z5, z6, setFrom, cellsOf, go_sem]
        exact leave_pure (xs := [.v (.bool true)]) (.inr rfl) (by simp (disch := (first | decide | omega)) only [resVs, resV, go_sem, hA]) kO hR hB ⟨rfl, rfl, rfl⟩
      have d0 : decide ((bs.length : Int) > 0) = true := decide_eq_true oM
      obtain ⟨cb, hcb⟩ : ∃ z, chgL bs (at' % bs.length) x y = z := ⟨_, rfl⟩
      have hcbl : cb.length = bs.length := by rw [← hcb]; exact chgL_len
      have kG := fun b l ga gx gy => chg_spec bs oM oM at' ha x y (B.length + 1) (B.length + 2) (B.length + 3) b l ga gx gy
      simp only [hcb] at kG
      have kQ := fun b l => bEq_spec bs cb b l
      simp (disch := (first | decide | omega)) only [hA, d0, List.length_map, go_sem]
      refine ACalls.nxt (kG _ _ (g1 _ _ _ _) (g2 _ _ _ _ _) (g3 _ _ _ _ _ _)) ?_
      simp (disch := (first | decide | omega)) only [hA, go_sem]
      by_cases hsame : bs = cb
      ·simp only [decide_eq_true hsame] at kQ
       refine ACalls.nxt (kQ _ _) ?_
       simp (disch := (first | decide | omega)) only [hA, go_sem]
       refine ACalls.nxt (cE _ _) ?_
       simp (disch := (first | decide | omega)) only [hA, z1, z2, z3, z4, z5, z6, d3, List.length_map, go_sem]
       refine ACalls.nxt (cG _ _ (g1 _ _ _ _) (g2 _ _ _ _ _) (g3 _ _ _ _ _ _)) ?_
       simp (disch := (first | decide | omega)) only [hA, go_sem]
       by_cases hs2 : codeL t = ch
       ·simp only [decide_eq_true hs2] at cQ
        refine ACalls.nxt (cQ _ _) ?_
        simp (disch := (first | decide | omega)) only [hA, go_sem]
        exact leave_pure (xs := [.v (.bool true)]) (.inr rfl) (by simp (disch := (first | decide | omega)) only [resVs, resV, go_sem, hA]) kO hR hB ⟨rfl, rfl, rfl⟩
       ·simp only [decide_eq_false hs2] at cQ
        simp only [hD hs2] at cD
        refine ACalls.nxt (cQ _ _) ?_
        simp (disch := (first | decide | omega)) only [hA, go_sem]
        refine ACalls.nxt (cD _ _) ?_
        simp (disch := (first | decide | omega)) only [hA, z1, z2, z3, z4, z5, z6, setFrom, cellsOf, go_sem]
        exact leave_pure (xs := [.v (.bool true)]) (.inr rfl) (by simp (disch := (first | decide | omega)) only [resVs, resV, go_sem, hA]) kO hR hB ⟨rfl, rfl, rfl⟩
      ·simp only [decide_eq_false hsame] at kQ
       have hcr : ((crc bs : Int) == (crc cb : Int)) = false := beq_false_of_ne (fun h => hsame (by
        have := crc_chg (l := bs) (i := at' % bs.length) (x := x) (y := y) (Nat.mod_lt _ oM) (by rw [hcb]; omega)
        rw [hcb] at this
        exact this.symm))
       refine ACalls.nxt (kQ _ _) ?_
       simp (disch := (first | decide | omega)) only [hA, go_sem]
       refine ACalls.nxt (sum_val bs oM _ _) ?_
       simp (disch := (first | decide | omega)) only [hA, go_sem]
       refine ACalls.nxt (sum_val cb oM _ _) ?_
       simp (disch := (first | decide | omega)) only [hA, hcr, go_sem]
       refine ACalls.nxt (cE _ _) ?_
       simp (disch := (first | decide | omega)) only [hA, z1, z2, z3, z4, z5, z6, d3, List.length_map, go_sem]
       refine ACalls.nxt (cG _ _ (g1 _ _ _ _) (g2 _ _ _ _ _) (g3 _ _ _ _ _ _)) ?_
       simp (disch := (first | decide | omega)) only [hA, go_sem]
       by_cases hs2 : codeL t = ch
       ·simp only [decide_eq_true hs2] at cQ
        refine ACalls.nxt (cQ _ _) ?_
        simp (disch := (first | decide | omega)) only [hA, go_sem]
        exact leave_pure (xs := [.v (.bool true)]) (.inr rfl) (by simp (disch := (first | decide | omega)) only [resVs, resV, go_sem, hA]) kO hR hB ⟨rfl, rfl, rfl⟩
       ·simp only [decide_eq_false hs2] at cQ
        simp only [hD hs2] at cD
        refine ACalls.nxt (cQ _ _) ?_
        simp (disch := (first | decide | omega)) only [hA, go_sem]
        refine ACalls.nxt (cD _ _) ?_
        simp (disch := (first | decide | omega)) only [hA, z1, z2, z3, z4, z5, z6, setFrom, cellsOf, go_sem]
        exact leave_pure (xs := [.v (.bool true)]) (.inr rfl) (by simp (disch := (first | decide | omega)) only [resVs, resV, go_sem, hA]) kO hR hB ⟨rfl, rfl, rfl⟩
end Go.Proofs.Ytanblnhnfkeffaa
