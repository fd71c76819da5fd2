/- Texts of one proof, laid together: ZB, ZC. No condition. -/
import Derived.Test.YtanblnhnfkeffaaTF16
import Derived.Test.YtanblnhnfkeffaaTE9
namespace Go.Proofs.Ytanblnhnfkeffaa
set_option linter.unusedVariables false
set_option linter.unusedSimpArgs false
attribute [local go_sem ↓] run_skip run_region run_draw run_both run_seq run_block run_exit run_ret run_cond atN_app seqC_normal seqC_exit seqC_ret seqQ_normal seqQ_exit seqQ_ret blkQ_normal blkQ_exit blkQ_ret runOps_nil runOps_cons runD_nil runD_cons grdO_true grdO_false grdD_true grdD_false ifC_true ifC_false opS_val opS_call opS_two opK_app dS_val dS_call dS_two dK_app kUp_same kUp_ne
attribute [local go_sem] rechks_nil rechks_cons rechk gcase_true gcase_false ex_val ex_val0 gd_none gd_some ev_t ev_c evs_nil evs_cons evo_some evo_none hget_at hget_first hsetB_at hsetB_first hsetL_at hsetL_first ofOpt_some aop aload astore aslice aappend aiaddr aiaddrA afaddr alen alenS acopy amm acall alookup amupdate alenM atostr aappz comma keyEq apick binV binVB binVS isSh intOp strOp boolOp shOp eqC eqF and2 cellsOf setFrom fillA fillS rd rdI elems mk bounds AV.cell List.all_cons List.all_nil Bool.and_true Bool.true_and Bool.and_self List.length_cons List.length_nil List.length_append Nat.reduceAdd Nat.reduceSub Nat.reduceMul Nat.zero_add Nat.add_zero List.cons_append List.nil_append List.append_assoc List.append_nil List.getElem?_cons_zero List.getElem?_cons_succ List.getElem?_nil List.set_cons_zero List.set_cons_succ List.drop_zero List.drop_succ_cons List.take_zero List.take_succ_cons List.take_nil List.drop_nil List.map_cons List.map_nil Option.map_some if_true if_false Bool.false_eq_true and_self true_and and_true Nat.reduceLeDiff Nat.reduceLT Nat.le_refl Nat.reduceEqDiff ite_true ite_false beq_self_eq_true beq_true beq_false Bool.not_true Bool.not_false Bool.true_beq Bool.false_beq map_vs vs_len vs_get vs_take vs_drop vs_snoc1 vs_snoc2 vs_snoc3 vs_snoc5 vs_set1 vs_set2 vs_rep wrap_id le_T lt_T le_F lt_F leI_T ltI_T leI_F ltI_F geI gtI get_T decide_true decide_false room List.getElem?_map List.length_map List.length_take Int.toNat_natCast Nat.min_def Nat.min_self nth_kOf put_kOf put_kNo kOv_cons kOv_nil KHas KArgs List.getElem_cons_zero List.getElem_cons_succ
def a_tenc : AFunc := ⟨1,113,[.tmp 2,.tmp 3],(.seq (.region [⟨some 1,.box (.t 0),none⟩,⟨some 2,.mv (.c (.v .zsl)),none⟩,⟨some 3,.mv (.c (.v (.int .i64 0))),none⟩]) (.seq (.seq (.region [⟨some 16,.load (some 1) (.t 1),none⟩,⟨some 17,.call (.c (.fn 15 [])) [(.t 16)],none⟩,⟨some 18,.not (.t 17),none⟩]) (.cond (.t 18) (.seq (.region [⟨some 2,.mv (.c (.v .zsl)),none⟩,⟨some 3,.mv (.c (.v (.int .i64 1))),none⟩]) .ret) .skip)) (.seq (.region [⟨some 19,.faddr 0 (.t 1),none⟩,⟨some 20,.load none (.t 19),none⟩,⟨some 21,.len (.t 20),none⟩,⟨some 22,.call (.c (.fn 105 [])) [(.c (.v .zsl)),(.t 21)],none⟩,⟨some 4,.mv (.t 22),none⟩]) (.seq (.seq (.region [⟨some 23,.faddr 0 (.t 1),none⟩,⟨some 24,.load none (.t 23),none⟩,⟨some 25,.len (.t 24),none⟩,⟨some 26,.mv (.c (.v (.int .i64 0))),none⟩]) (.block 0 (.loop (.seq (.region [⟨some 27,.bin .lss (.t 26) (.t 25),none⟩]) (.seq (.cond (.t 27) .skip (.exit 0)) (.seq (.block 1 (.seq (.region [⟨some 28,.iaddr 3 (.t 24) (.t 26),none⟩,⟨some 29,.load (some 3) (.t 28),none⟩,⟨some 6,.alloc [(.v (.str ⟨#[]⟩)),(.v .zsl),(.v .zsl)],none⟩,⟨none,.store 3 (.t 6) (.t 29),none⟩]) (.seq (.draw [⟨0,⟨some 30,.mv (.t 4),none⟩,[]⟩,⟨1,⟨some 31,.faddr 0 (.t 6),none⟩,[]⟩,⟨2,⟨some 32,.load none (.t 31),none⟩,[]⟩,⟨4,⟨some 34,.faddr 1 (.t 6),none⟩,[]⟩,⟨5,⟨some 35,.load none (.t 34),none⟩,[]⟩,⟨6,⟨some 36,.len (.t 35),none⟩,[]⟩,⟨3,⟨some 33,.call (.c (.fn 106 [])) [(.t 30),(.t 32)],none⟩,[⟨some 34,.faddr 1 (.t 6),none⟩,⟨some 35,.load none (.t 34),none⟩,⟨some 36,.len (.t 35),none⟩]⟩,⟨7,⟨some 37,.call (.c (.fn 105 [])) [(.t 33),(.t 36)],none⟩,[]⟩,⟨8,⟨some 4,.mv (.t 37),none⟩,[]⟩]) (.seq (.seq (.region [⟨some 38,.faddr 1 (.t 6),none⟩,⟨some 39,.load none (.t 38),none⟩,⟨some 40,.len (.t 39),none⟩,⟨some 41,.mv (.c (.v (.int .i64 0))),none⟩]) (.block 2 (.loop (.seq (.region [⟨some 42,.bin .lss (.t 41) (.t 40),none⟩]) (.seq (.cond (.t 42) .skip (.exit 2)) (.seq (.block 3 (.seq (.region [⟨some 43,.iaddr 2 (.t 39) (.t 41),none⟩,⟨some 44,.load (some 2) (.t 43),none⟩,⟨some 8,.alloc [(.v (.str ⟨#[]⟩)),(.v (.int .i64 0))],none⟩,⟨none,.store 2 (.t 8) (.t 44),none⟩]) (.draw [⟨0,⟨some 45,.mv (.t 4),none⟩,[]⟩,⟨1,⟨some 46,.faddr 0 (.t 8),none⟩,[]⟩,⟨2,⟨some 47,.load none (.t 46),none⟩,[]⟩,⟨4,⟨some 49,.faddr 1 (.t 8),none⟩,[]⟩,⟨5,⟨some 50,.load none (.t 49),none⟩,[]⟩,⟨3,⟨some 48,.call (.c (.fn 106 [])) [(.t 45),(.t 47)],none⟩,[⟨some 49,.faddr 1 (.t 8),none⟩,⟨some 50,.load none (.t 49),none⟩]⟩,⟨6,⟨some 51,.call (.c (.fn 105 [])) [(.t 48),(.t 50)],none⟩,[]⟩,⟨7,⟨some 4,.mv (.t 51),none⟩,[]⟩]))) (.region [⟨some 52,.bin .add (.t 41) (.c (.v (.int .i64 1))),none⟩,⟨some 41,.mv (.t 52),none⟩]))))))) (.seq (.region [⟨some 53,.mv (.t 4),none⟩,⟨some 54,.faddr 2 (.t 6),none⟩,⟨some 55,.load none (.t 54),none⟩,⟨some 56,.len (.t 55),none⟩,⟨some 57,.call (.c (.fn 105 [])) [(.t 53),(.t 56)],none⟩,⟨some 4,.mv (.t 57),none⟩]) (.seq (.region [⟨some 9,.mv (.c (.v (.int .i64 0))),none⟩]) (.seq (.region [⟨some 58,.faddr 2 (.t 6),none⟩,⟨some 59,.load none (.t 58),none⟩,⟨some 60,.len (.t 59),none⟩,⟨some 61,.mv (.c (.v (.int .i64 0))),none⟩]) (.block 4 (.loop (.seq (.region [⟨some 62,.bin .lss (.t 61) (.t 60),none⟩]) (.seq (.cond (.t 62) .skip (.exit 4)) (.seq (.block 5 (.seq (.region [⟨some 63,.iaddr 5 (.t 59) (.t 61),none⟩,⟨some 64,.load (some 5) (.t 63),none⟩,⟨some 11,.alloc [(.v (.int .i64 0)),(.v (.int .i64 0)),(.v (.int .i64 0)),(.v (.int .i64 0)),(.v .zsl)],none⟩,⟨none,.store 5 (.t 11) (.t 64),none⟩]) (.seq (.seq (.region [⟨some 65,.faddr 0 (.t 11),none⟩,⟨some 66,.load none (.t 65),none⟩,⟨some 67,.faddr 1 (.t 11),none⟩,⟨some 68,.load none (.t 67),none⟩,⟨some 69,.faddr 2 (.t 11),none⟩,⟨some 70,.load none (.t 69),none⟩,⟨some 71,.faddr 3 (.t 11),none⟩,⟨some 72,.load none (.t 71),none⟩,⟨some 73,.mv (.t 9),none⟩,⟨some 74,.bin .sub (.t 72) (.t 73),none⟩,⟨some 75,.faddr 4 (.t 11),none⟩,⟨some 76,.load none (.t 75),none⟩,⟨some 77,.len (.t 76),none⟩,⟨some 78,.bslice 1 [(.v (.int .i64 0))] 5 [(0,(.t 66)),(1,(.t 68)),(2,(.t 70)),(3,(.t 74)),(4,(.t 77))],none⟩,⟨some 79,.len (.t 78),none⟩,⟨some 80,.mv (.c (.v (.int .i64 0))),none⟩]) (.block 6 (.loop (.seq (.region [⟨some 81,.bin .lss (.t 80) (.t 79),none⟩]) (.seq (.cond (.t 81) .skip (.exit 6)) (.seq (.block 7 (.seq (.region [⟨some 82,.iaddr 1 (.t 78) (.t 80),none⟩,⟨some 83,.load none (.t 82),none⟩,⟨some 13,.mv (.t 83),none⟩]) (.region [⟨some 84,.mv (.t 4),none⟩,⟨some 85,.mv (.t 13),none⟩,⟨some 86,.call (.c (.fn 105 [])) [(.t 84),(.t 85)],none⟩,⟨some 4,.mv (.t 86),none⟩]))) (.region [⟨some 87,.bin .add (.t 80) (.c (.v (.int .i64 1))),none⟩,⟨some 80,.mv (.t 87),none⟩]))))))) (.seq (.region [⟨some 88,.faddr 3 (.t 11),none⟩,⟨some 89,.load none (.t 88),none⟩,⟨some 9,.mv (.t 89),none⟩]) (.seq (.region [⟨some 90,.faddr 4 (.t 11),none⟩,⟨some 91,.load none (.t 90),none⟩,⟨some 92,.len (.t 91),none⟩,⟨some 93,.mv (.c (.v (.int .i64 0))),none⟩]) (.block 8 (.loop (.seq (.region [⟨some 94,.bin .lss (.t 93) (.t 92),none⟩]) (.seq (.cond (.t 94) .skip (.exit 8)) (.seq (.block 9 (.seq (.region [⟨some 95,.iaddr 2 (.t 91) (.t 93),none⟩,⟨some 96,.load (some 2) (.t 95),none⟩,⟨some 15,.alloc [(.v (.int .i64 0)),(.v (.int .i64 0))],none⟩,⟨none,.store 2 (.t 15) (.t 96),none⟩]) (.draw [⟨0,⟨some 97,.mv (.t 4),none⟩,[]⟩,⟨1,⟨some 98,.faddr 0 (.t 15),none⟩,[]⟩,⟨2,⟨some 99,.load none (.t 98),none⟩,[]⟩,⟨4,⟨some 101,.faddr 1 (.t 15),none⟩,[]⟩,⟨5,⟨some 102,.load none (.t 101),none⟩,[]⟩,⟨3,⟨some 100,.call (.c (.fn 105 [])) [(.t 97),(.t 99)],none⟩,[⟨some 101,.faddr 1 (.t 15),none⟩,⟨some 102,.load none (.t 101),none⟩]⟩,⟨6,⟨some 103,.call (.c (.fn 105 [])) [(.t 100),(.t 102)],none⟩,[]⟩,⟨7,⟨some 4,.mv (.t 103),none⟩,[]⟩]))) (.region [⟨some 104,.bin .add (.t 93) (.c (.v (.int .i64 1))),none⟩,⟨some 93,.mv (.t 104),none⟩]))))))))))) (.region [⟨some 105,.bin .add (.t 61) (.c (.v (.int .i64 1))),none⟩,⟨some 61,.mv (.t 105),none⟩]))))))))))))) (.region [⟨some 106,.bin .add (.t 26) (.c (.v (.int .i64 1))),none⟩,⟨some 26,.mv (.t 106),none⟩]))))))) (.seq (.seq (.region [⟨some 107,.mv (.t 4),none⟩,⟨some 108,.call (.c (.fn 107 [])) [(.t 107)],none⟩,⟨some 4,.mv (.t 108),none⟩]) (.seq (.region [⟨some 109,.mv (.t 4),none⟩,⟨some 110,.len (.t 109),none⟩,⟨some 111,.bin .gtr (.t 110) (.c (.v (.int .i64 16384))),none⟩]) (.cond (.t 111) (.seq (.region [⟨some 2,.mv (.c (.v .zsl)),none⟩,⟨some 3,.mv (.c (.v (.int .i64 5))),none⟩]) .ret) .skip))) (.seq (.region [⟨some 112,.mv (.t 4),none⟩,⟨some 2,.mv (.t 112),none⟩,⟨some 3,.mv (.c (.v (.int .i64 0))),none⟩]) .ret))))))⟩
theorem a_tenc_ok : cFunc Try.prog 35 = some a_tenc := by kernel_rfl
def r_tenc0 : List (Nat × Nat) := [(4, 4), (6, 6), (8, 9), (11, 11), (13, 13), (15, 15), (26, 106)]
def r_tenc1 : List (Nat × Nat) := [(4, 4), (8, 8), (41, 52)]
def r_tenc2 : List (Nat × Nat) := [(4, 4), (9, 9), (11, 11), (13, 13), (15, 15), (61, 105)]
def r_tenc3 : List (Nat × Nat) := [(4, 4), (13, 13), (80, 87)]
def r_tenc4 : List (Nat × Nat) := [(4, 4), (15, 15), (93, 104)]

def prC (p : Pr) : List AV := [.v (.str p.name), .v (.isl 2 (p.vars.map eVr)), .v (.isl 5 (p.evs.map eEv))]
def evC (e : Ev) : List AV := [.v (.int .i64 e.kind), .v (.int .i64 e.peer), .v (.int .i64 e.msg), .v (.int .i64 e.time), .v (.isl 2 (e.asg.map eAsg))]
theorem flat_take {α : Type} {g : α → List UInt8} {l : List α} {i : Nat} (h : i < l.length) : (l.take (i + 1)).flatMap g = (l.take i).flatMap g ++ g l[i] := by
 rw [List.take_succ_eq_append_getElem h, flat_snoc]
theorem bodyEvs_at {l : List Ev} {k : Nat} (h : k < l.length) : bodyEvs l (k + 1) = bodyEvs l k ++ bodyEv (lastE (l.take k)) l[k] := by
 rw [bodyEvs, List.getElem?_eq_getElem h]
def hdN (last : Int) (e : Ev) : List Int := [e.kind, e.peer, e.msg, e.time - last, e.asg.length]
def hdL (last : Int) (e : Ev) (k : Nat) : List UInt8 := ((hdN last e).take k).flatMap putL
theorem hdL_all {last : Int} {e : Ev} : hdL last e 5 ++ e.asg.flatMap bodyAsg = bodyEv last e := by
 unfold hdL hdN bodyEv
 simp
theorem lastE_take {l : List Ev} {k : Nat} (h : k < l.length) : lastE (l.take (k + 1)) = l[k].time := by
 rw [List.take_succ_eq_append_getElem h, lastE_snoc]
structure CodOk (t : Tr) : Prop where
 ok : NumOk t
 np : t.length ≤ 8
 pr : ∀ p ∈ t, p.name.size ≤ 16 ∧ p.vars.length ≤ 8 ∧ p.evs.length ≤ 64 ∧ (∀ v ∈ p.vars, v.name.size ≤ 16) ∧ ∀ e ∈ p.evs, e.asg.length ≤ 8
theorem putL_len (n : Int) : (putL n).length ≤ 11 := (putN_len 10 _).2
theorem flat_bd {α : Type} {g : α → List UInt8} {c : Nat} {l : List α} (h : ∀ x ∈ l, (g x).length ≤ c) : (l.flatMap g).length ≤ l.length * c := by
 induction l with
 | nil => simp
 | cons x l ih =>
   rw [List.flatMap_cons, List.length_append, List.length_cons, Nat.succ_mul]
   have h1 := h x List.mem_cons_self
   have h2 := ih (fun y hy => h y (List.mem_cons_of_mem _ hy))
   omega
theorem namC_len (s : ByteArray) : (namC s).length ≤ 11 + s.size := by
 unfold namC
 rw [List.length_append]
 have := putL_len s.size
 have h2 : s.data.toList.length = s.size := Array.length_toList
 omega
theorem bodyEv_len {last : Int} {e : Ev} (h : e.asg.length ≤ 8) : (bodyEv last e).length ≤ 300 := by
 unfold bodyEv
 simp only [List.length_append]
 have h1 := putL_len e.kind
 have h2 := putL_len e.peer
 have h3 := putL_len e.msg
 have h4 := putL_len (e.time - last)
 have h5 := putL_len e.asg.length
 have h6 := flat_bd (g := bodyAsg) (c := 22) (l := e.asg) (fun a _ => by unfold bodyAsg; rw [List.length_append]; have := putL_len a.v; have := putL_len a.val; omega)
 omega
theorem bodyEvs_bd {l : List Ev} (h : ∀ e ∈ l, e.asg.length ≤ 8) (k : Nat) (hk : k ≤ l.length) : (bodyEvs l k).length ≤ k * 300 := by
 induction k with
 | zero => simp [bodyEvs]
 | succ k ih =>
   rw [bodyEvs_at oM, List.length_append]
   have := bodyEv_len (last := lastE (l.take k)) (h l[k] (List.getElem_mem oM))
   have := ih oM
   omega
theorem bodyPr_bd {p : Pr} (h1 : p.name.size ≤ 16) (h2 : p.vars.length ≤ 8) (h3 : p.evs.length ≤ 64) (h4 : ∀ v ∈ p.vars, v.name.size ≤ 16) (h5 : ∀ e ∈ p.evs, e.asg.length ≤ 8) : (bodyPr p).length ≤ 20000 := by
 unfold bodyPr
 simp only [List.length_append]
 have g1 := namC_len p.name
 have g2 := putL_len p.vars.length
 have g3 := putL_len p.evs.length
 have g4 := flat_bd (g := bodyVr) (c := 40) (l := p.vars) (fun v hv => by unfold bodyVr; rw [List.length_append]; have := namC_len v.name; have := putL_len v.init; have := h4 v hv; omega)
 have g5 := bodyEvs_bd h5 p.evs.length (Nat.le_refl _)
 omega
noncomputable def encR (t : Tr) : AV := if validL t = false then .tup [.v .zsl, .v (.int .i64 1)] else if 16384 < (codeL t).length then .tup [.v .zsl, .v (.int .i64 5)] else .tup [.v (.isl 1 ((codeL t).map eB)), .v (.int .i64 0)]
theorem Vok.codOk {t : Tr} (h : Vok t) : CodOk t := by
 refine ⟨h.numOk, h.hi, fun p hp => ?_⟩
 obtain ⟨i, hi, rfl⟩ := List.getElem_of_mem hp
 have hg : t.getD i dfPr = t[i] := by rw [List.getD_eq_getElem?_getD, List.getElem?_eq_getElem hi]; rfl
 have hh := h.head i hi
 unfold headF at hh
 rw [hg] at hh
 split at hh
 ·omega
 rename_i h1
 simp only [Bool.or_eq_true, Bool.not_eq_true', not_or, Bool.not_eq_false] at h1
 split at hh
 ·omega
 rename_i h2
 split at hh
 ·rename_i h3; exact absurd hh h3
 rename_i h3
 simp only [ne_eq, Classical.not_not] at h3
 split at hh
 ·omega
 rename_i h4
 have hv := firstNZ_zero.1 h3
 refine ⟨nameB_size h1.1, by omega, by omega, fun v hv' => ?_, fun e he => ?_⟩
 ·obtain ⟨j, hj, rfl⟩ := List.getElem_of_mem hv'
  have hgv : t[i].vars.getD j dfVr = t[i].vars[j] := by rw [List.getD_eq_getElem?_getD, List.getElem?_eq_getElem hj]; rfl
  have := hv j hj
  unfold varF at this
  rw [hgv] at this
  split at this
  ·omega
  rename_i g1
  simp only [Bool.or_eq_true, Bool.not_eq_true', not_or, Bool.not_eq_false] at g1
  exact nameB_size g1.1
 ·obtain ⟨j, hj, rfl⟩ := List.getElem_of_mem he
  have heo : evsOf t i = t[i].evs := by unfold evsOf; rw [hg]
  have hx : (i, j + 1) ∈ ids t := mem_ids2.2 ⟨hi, by rw [heo]; exact hj⟩
  have hev : evAt t (i, j + 1) = t[i].evs[j] := by
   unfold evAt
   rw [heo, Nat.add_sub_cancel, List.getD_eq_getElem?_getD, List.getElem?_eq_getElem hj]; rfl
  have hf := h.form _ hx
  unfold formF at hf
  rw [hev, hg] at hf
  split at hf
  ·omega
  split at hf
  ·omega
  split at hf
  ·omega
  rename_i f3
  omega
theorem far_bd {n : Int} (h : far n = false) : -1152921504606846976 ≤ n ∧ n ≤ 1152921504606846976 := by
 have := far_false.1 h
 omega
theorem hgetOut {B T : List Row} {r0 : Row} {ver : Nat} {W : List UInt8} : hget B (r0 :: bRow ver W :: T) (B.length + 1) = some (bRow ver W) := by rw [hget_at]; rfl
theorem body_bd {t : Tr} (h : CodOk t) (i : Nat) (hi : i ≤ t.length) : ((t.take i).flatMap bodyPr).length ≤ 160000 := by
 have := flat_bd (g := bodyPr) (c := 20000) (l := t.take i) (fun p hp => by
  obtain ⟨h1, h2, h3, h4, h5⟩ := h.pr p (List.mem_of_mem_take hp)
  exact bodyPr_bd h1 h2 h3 h4 h5)
 have hn := h.np
 rw [List.length_take] at this
 have h2 : min i t.length * 20000 ≤ 8 * 20000 := Nat.mul_le_mul_right _ oM
 omega
theorem vars_bd {p : Pr} (h2 : p.vars.length ≤ 8) (h4 : ∀ v ∈ p.vars, v.name.size ≤ 16) (j : Nat) : ((p.vars.take j).flatMap bodyVr).length ≤ 320 := by
 have := flat_bd (g := bodyVr) (c := 40) (l := p.vars.take j) (fun v hv => by unfold bodyVr; rw [List.length_append]; have := namC_len v.name; have := putL_len v.init; have := h4 v (List.mem_of_mem_take hv); omega)
 rw [List.length_take] at this
 have h2 : min j p.vars.length * 40 ≤ 8 * 40 := Nat.mul_le_mul_right _ oM
 omega
theorem hdL_bd {last : Int} {e : Ev} (k : Nat) : (hdL last e k).length ≤ 55 := by
 unfold hdL
 have := flat_bd (g := putL) (c := 11) (l := (hdN last e).take k) (fun n _ => putL_len n)
 rw [List.length_take] at this
 have h2 : min k (hdN last e).length * 11 ≤ 5 * 11 := Nat.mul_le_mul_right _ (by unfold hdN; simp; omega)
 omega
theorem asg_bd {e : Ev} (h : e.asg.length ≤ 8) (k : Nat) : ((e.asg.take k).flatMap bodyAsg).length ≤ 176 := by
 have := flat_bd (g := bodyAsg) (c := 22) (l := e.asg.take k) (fun a _ => by unfold bodyAsg; rw [List.length_append]; have := putL_len a.v; have := putL_len a.val; omega)
 rw [List.length_take] at this
 have h2 : min k e.asg.length * 22 ≤ 8 * 22 := Nat.mul_le_mul_right _ oM
 omega
set_option maxRecDepth 20000 in
set_option maxHeartbeats 16000000 in
theorem enc_spec (t : Tr) (hS : Small t) (hN : Nm t) (b l : List Row) :
  ACalls Try.prog 35 [.agg [.v (eT t)]] b l (fun r b' l' => r = encR t ∧ b' = b ∧ l' = l) := by
 refine calls_kept a_tenc_ok rfl (by decide) ?_
 intro B g hB hR hE hA
 simp only [KArgs] at hA
 have cv := fun b l => valid_spec t hS hN b l
 have eTe : eT t = .isl 3 (t.map ePr) := rfl
 simp only [eTe] at cv hA
 cases hv : validL t with
 | false =>
   rw [hv] at cv
   simp (disch := (first | decide | omega)) only [a_tenc, hA, go_sem]
   refine ACalls.nxt (cv _ _) ?_
   simp (disch := (first | decide | omega)) only [hA, go_sem]
   exact leave_pure (xs := [.v .zsl, .v (.int .i64 1)]) (.inr rfl) (by simp (disch := (first | decide | omega)) only [resVs, resV, go_sem, hA]) kO hR hB ⟨by unfold encR; rw [if_pos hv]; rfl, rfl, rfl⟩
 | true =>
 have hV := vok hv
 have hO := hV.codOk
 have hNO := hO.ok
 have hnp := hO.np
 rw [hv] at cv
 have hp0 := putL_len (t.length : Int)
 simp (disch := (first | decide | omega)) only [a_tenc, hA, go_sem]
 refine ACalls.nxt (cv _ _) ?_
 simp (disch := (first | decide | omega)) only [hA, List.length_map, go_sem]
 refine ACalls.nxt (put_nil (t.length : Int) oM oM _ _) ?_
 obtain ⟨W0, hW0⟩ : ∃ W, putL (t.length : Int) = W := ⟨_, rfl⟩
 rw [hW0] at hp0
 simp only [hW0]
 simp (disch := (first | decide | omega)) only [hA, List.length_map, go_sem]
 refine loop_kept (ι := Nat × Nat × List UInt8) r_tenc0 (fun i => [(4, .sl (B.length + 1) i.2.1 0 i.2.2.length), (26, .v (.int .i64 i.1))]) 2 (fun i => [.live 0 1 [[.v (.isl 3 (t.map ePr))]], bRow i.2.1 i.2.2])
  (fun i => i.1 ≤ t.length ∧ i.2.2 = W0 ++ (t.take i.1).flatMap bodyPr) (fun i => t.length - i.1) (0, W0.length, W0) ⟨Nat.zero_le _, by simp⟩ (by (repeat (first | exact hE.mono oM | refine KLt.up ?_ kL))) (by ((try simp (disch := decide) only [hA, go_sem]) <;> exact kH)) (fun e => Weak.refl _ _ _) ?_
 intro g1 hE1 hEE1 hg1 i hi
 obtain ⟨i, ver, W⟩ := i
 obtain ⟨hi, hWi⟩ := hi
 simp only at hi hWi ⊢
 have hWb := body_bd hO i hi
 have hWl : W.length ≤ 160011 := by rw [hWi, List.length_append]; omega
 by_cases hlt : i < t.length
 ·obtain ⟨p, hpe⟩ : ∃ p, t[i] = p := ⟨_, rfl⟩
  have hpt : p ∈ t := hpe ▸ List.getElem_mem hlt
  have gp : (t.map ePr)[i]? = some [.str p.name, .isl 2 (p.vars.map eVr), .isl 5 (p.evs.map eEv)] := by rw [List.getElem?_map, List.getElem?_eq_getElem hlt, hpe]; rfl
  obtain ⟨o1, o2, o3, o4, o5⟩ := hO.pr p hpt
  obtain ⟨_, _, _, n4, n5⟩ := hNO.pr p hpt
  have hnl := namC_len p.name
  simp (disch := (first | decide | omega)) only [hA, hg1, gp, setFrom, cellsOf, List.length_map, go_sem]
  refine ACalls.nxt (name_spec (B.length + 1) ver W oM p.name oM _ _ hgetOut) ?_
  obtain ⟨v1, hv1⟩ : ∃ v, ver + (putL (p.name.size : Int)).length + 1 = v := ⟨_, rfl⟩
  obtain ⟨W1, hW1⟩ : ∃ X, W ++ namC p.name = X := ⟨_, rfl⟩
  have hW1l : W1.length ≤ 160100 := by rw [← hW1, List.length_append]; omega
  simp (disch := (first | decide | omega)) only [hA, hg1, hv1, hW1, List.length_map, go_sem]
  refine ACalls.nxt (put_spec (B.length + 1) v1 W1 oM (p.vars.length : Int) oM oM _ _ hgetOut) ?_
  obtain ⟨v2, hv2⟩ : ∃ v, v1 + (putL (p.vars.length : Int)).length = v := ⟨_, rfl⟩
  obtain ⟨W2, hW2⟩ : ∃ X, W1 ++ putL (p.vars.length : Int) = X := ⟨_, rfl⟩
  have hW2l : W2.length ≤ 160200 := by rw [← hW2, List.length_append]; have := putL_len (p.vars.length : Int); omega
  simp (disch := (first | decide | omega)) only [hA, hg1, hv2, hW2, List.length_map, go_sem]
  refine loop_kept (ι := Nat × Nat × List UInt8) r_tenc1 (fun i => [(4, .sl (B.length + 1) i.2.1 0 i.2.2.length), (41, .v (.int .i64 i.1))]) 3 (fun i => [.live 0 1 [[.v (.isl 3 (t.map ePr))]], bRow i.2.1 i.2.2, .live 0 3 [prC p]])
   (fun i => i.1 ≤ p.vars.length ∧ i.2.2 = W2 ++ (p.vars.take i.1).flatMap bodyVr) (fun i => p.vars.length - i.1) (0, v2, W2) ⟨Nat.zero_le _, by simp⟩ (by (repeat (first | exact hE1.mono oM | refine KLt.up ?_ kL))) (by ((try simp (disch := decide) only [hA, hg1, go_sem]) <;> exact kH)) (fun e => Weak.refl _ _ _) ?_
  intro g2 hE2 hEE2 hg2 j hj
  obtain ⟨j, ver2, X⟩ := j
  obtain ⟨hj, hXj⟩ := hj
  simp only at hj hXj ⊢
  have hXb := vars_bd o2 o4 j
  have hXl : X.length ≤ 160600 := by rw [hXj, List.length_append]; omega
  by_cases hjl : j < p.vars.length
  ·obtain ⟨v, hve⟩ : ∃ v, p.vars[j] = v := ⟨_, rfl⟩
   have hvp : v ∈ p.vars := hve ▸ List.getElem_mem hjl
   have gv : (p.vars.map eVr)[j]? = some [.str v.name, .int .i64 v.init] := by rw [List.getElem?_map, List.getElem?_eq_getElem hjl, hve]; rfl
   have hnv := namC_len v.name
   have hsv := o4 v hvp
   have hfv := far_bd (n4 v hvp).2
   simp (disch := (first | decide | omega)) only [hA, hg1, hg2, prC, gv, setFrom, cellsOf, List.length_map, go_sem]
   refine ACalls.nxt (name_spec (B.length + 1) ver2 X oM v.name oM _ _ hgetOut) ?_
   obtain ⟨w1, hw1⟩ : ∃ z, ver2 + (putL (v.name.size : Int)).length + 1 = z := ⟨_, rfl⟩
   obtain ⟨X1, hX1⟩ : ∃ Z, X ++ namC v.name = Z := ⟨_, rfl⟩
   have hX1l : X1.length ≤ 160700 := by rw [← hX1, List.length_append]; omega
   simp (disch := (first | decide | omega)) only [hA, hg1, hg2, hw1, hX1, go_sem]
   refine ACalls.nxt (put_spec (B.length + 1) w1 X1 oM v.init hfv.1 hfv.2 _ _ hgetOut) ?_
   obtain ⟨w2, hw2⟩ : ∃ z, w1 + (putL v.init).length = z := ⟨_, rfl⟩
   obtain ⟨X2, hX2⟩ : ∃ Z, X1 ++ putL v.init = Z := ⟨_, rfl⟩
   simp (disch := (first | decide | omega)) only [hA, hg1, hg2, hw2, hX2, go_sem]
   refine ⟨(j + 1, w2, X2), ⟨hjl, ?_⟩, by simp only; omega, ?_⟩
   ·simp only
    rw [flat_take hjl, hve, ← hX2, ← hX1, hXj, bodyVr]
    simp only [List.append_assoc]
   ·exact Weak.kround (p := r_tenc1) (k := 3) (by ((repeat refine (kAny_up rfl).trans ?_); exact hEE2)) (by ((try simp (disch := decide) only [hA, hg1, go_sem]) <;> exact kH)) rfl hE2 (by simp) kV hR (by simp (disch := omega) only [bRow, lts.down, Nat.reduceLT, Nat.reduceAdd])
  ·obtain rfl : j = p.vars.length := by omega
   rw [List.take_length] at hXj
   simp (disch := (first | decide | omega)) only [hA, hg1, hg2, prC, List.length_map, go_sem]
   refine ACalls.nxt (put_spec (B.length + 1) ver2 X oM (p.evs.length : Int) oM oM _ _ hgetOut) ?_
   obtain ⟨v3, hv3⟩ : ∃ v, ver2 + (putL (p.evs.length : Int)).length = v := ⟨_, rfl⟩
   obtain ⟨W3, hW3⟩ : ∃ Z, X ++ putL (p.evs.length : Int) = Z := ⟨_, rfl⟩
   have hW3l : W3.length ≤ 160700 := by rw [← hW3, List.length_append]; have := putL_len (p.evs.length : Int); omega
   simp (disch := (first | decide | omega)) only [hA, hg1, hg2, hv3, hW3, List.length_map, go_sem]
   refine loop_kept (ι := Nat × Nat × List UInt8) r_tenc2 (fun i => [(4, .sl (B.length + 1) i.2.1 0 i.2.2.length), (9, .v (.int .i64 (lastE (p.evs.take i.1)))), (61, .v (.int .i64 i.1))]) 3 (fun i => [.live 0 1 [[.v (.isl 3 (t.map ePr))]], bRow i.2.1 i.2.2, .live 0 3 [prC p]])
    (fun i => i.1 ≤ p.evs.length ∧ i.2.2 = W3 ++ bodyEvs p.evs i.1) (fun i => p.evs.length - i.1) (0, v3, W3) ⟨Nat.zero_le _, by simp [bodyEvs]⟩ (by (repeat (first | exact hE2.mono oM | refine KLt.up ?_ kL))) (by ((try simp (disch := decide) only [hA, hg1, hg2, go_sem]) <;> exact kH)) (fun e => Weak.refl _ _ _) ?_
   intro g3 hE3 hEE3 hg3 j hj
   obtain ⟨j, ver3, Y⟩ := j
   obtain ⟨hj, hYj⟩ := hj
   simp only at hj hYj ⊢
   have hYb := bodyEvs_bd o5 j hj
   have hYl : Y.length ≤ 180000 := by rw [hYj, List.length_append]; omega
   by_cases hjl : j < p.evs.length
   ·obtain ⟨e, hee⟩ : ∃ e, p.evs[j] = e := ⟨_, rfl⟩
    have hep : e ∈ p.evs := hee ▸ List.getElem_mem hjl
    have ge : (p.evs.map eEv)[j]? = some [.int .i64 e.kind, .int .i64 e.peer, .int .i64 e.msg, .int .i64 e.time, .isl 2 (e.asg.map eAsg)] := by rw [List.getElem?_map, List.getElem?_eq_getElem hjl, hee]; rfl
    obtain ⟨m1, m2, m3, m4, m5, m6, m7⟩ := n5 e hep
    have hlb := lastE_bd (l := p.evs.take j) (fun x hx => by have := n5 x (List.mem_of_mem_take hx); exact ⟨this.2.2.2.1, this.2.2.2.2.1⟩)
    have hla : lastE (p.evs.take (j + 1)) = e.time := by rw [lastE_take hjl, hee]
    obtain ⟨la, hlae⟩ : ∃ z, lastE (p.evs.take j) = z := ⟨_, rfl⟩
    rw [hlae] at hlb
    have ha8 := o5 e hep
    have hfar : ∀ k (hk : k < 5), far ((hdN la e).getD k 0) = false := fun k hk => by
     match k, hk with
     | 0, _ => exact m1
     | 1, _ => exact m2
     | 2, _ => exact m3
     | 3, _ => exact far_false.2 (show -1125899906842624 ≤ e.time - la ∧ e.time - la ≤ 1125899906842624 by omega)
     | 4, _ => exact far_false.2 (show -1125899906842624 ≤ (e.asg.length : Int) ∧ (e.asg.length : Int) ≤ 1125899906842624 by omega)
    simp (disch := (first | decide | omega)) only [hA, hg1, hg2, hg3, prC, ge, hlae, setFrom, cellsOf, List.length_map, List.replicate_succ, List.replicate_zero, go_sem]
    refine loop_kept (ι := Nat × Nat × List UInt8) r_tenc3 (fun i => [(4, .sl (B.length + 1) i.2.1 0 i.2.2.length), (80, .v (.int .i64 i.1))]) 5 (fun i => [.live 0 1 [[.v (.isl 3 (t.map ePr))]], bRow i.2.1 i.2.2, .live 0 3 [prC p], .live 0 5 [evC e], .live 0 1 (vs ((hdN la e).map eI))])
     (fun i => i.1 ≤ 5 ∧ i.2.2 = Y ++ hdL la e i.1) (fun i => 5 - i.1) (0, ver3, Y) ⟨Nat.zero_le _, by simp [hdL]⟩ (by (repeat (first | exact hE3.mono oM | refine KLt.up ?_ kL))) (by ((try simp (disch := decide) only [hA, hg1, hg2, hg3, go_sem]) <;> exact kH)) (fun e => Weak.refl _ _ _) ?_
    intro g4 hE4 hEE4 hg4 k hk
    obtain ⟨k, ver4, Z⟩ := k
    obtain ⟨hk, hZk⟩ := hk
    simp only at hk hZk ⊢
    have hZb := hdL_bd (last := la) (e := e) k
    have hZl : Z.length ≤ 190000 := by rw [hZk, List.length_append]; omega
    by_cases hk5 : k < 5
    ·have hhl : (hdN la e).length = 5 := rfl
     have gh : ((hdN la e).map eI)[k]? = some [.int .i64 ((hdN la e).getD k 0)] := by
      rw [List.getElem?_map, List.getD_eq_getElem?_getD, List.getElem?_eq_getElem oM]; rfl
     have hd5 : decide ((k : Int) < 5) = true := decide_eq_true oM
     have hfk := far_bd (hfar k hk5)
     obtain ⟨n, hn⟩ : ∃ n, (hdN la e).getD k 0 = n := ⟨_, rfl⟩
     rw [hn] at gh hfk
     simp (disch := (first | decide | omega)) only [hA, hg1, hg2, hg3, hg4, gh, hhl, hd5, List.length_map, go_sem]
     refine ACalls.nxt (put_spec (B.length + 1) ver4 Z oM n hfk.1 hfk.2 _ _ hgetOut) ?_
     obtain ⟨u1, hu1⟩ : ∃ z, ver4 + (putL n).length = z := ⟨_, rfl⟩
     obtain ⟨Z1, hZ1⟩ : ∃ z, Z ++ putL n = z := ⟨_, rfl⟩
     simp (disch := (first | decide | omega)) only [hA, hg1, hg2, hg3, hg4, hu1, hZ1, go_sem]
     refine ⟨(k + 1, u1, Z1), ⟨hk5, ?_⟩, by simp only; omega, ?_⟩
     ·simp only
      rw [← hZ1, hZk, List.append_assoc]
      congr 1
      unfold hdL
      rw [List.take_succ_eq_append_getElem oM, flat_snoc]
      congr 2
      rw [← hn, List.getD_eq_getElem?_getD, List.getElem?_eq_getElem oM]; rfl
     ·exact Weak.kround (p := r_tenc3) (k := 5) (by ((repeat refine (kAny_up rfl).trans ?_); exact hEE4)) (by ((try simp (disch := decide) only [hA, hg1, go_sem]) <;> exact kH)) rfl hE4 (by simp) kV hR (by simp (disch := omega) only [bRow, prC, evC, lts.down, Nat.reduceLT, Nat.reduceAdd])
    ·obtain rfl : k = 5 := by omega
     have hhl : (hdN la e).length = 5 := rfl
     have hd5 : decide (((5 : Nat) : Int) < 5) = false := rfl
     have hd5' : decide ((5 : Int) < 5) = false := rfl
     simp (disch := (first | decide | omega)) only [hA, hg1, hg2, hg3, hg4, hhl, hd5, hd5', evC, List.length_map, go_sem]
     refine loop_kept (ι := Nat × Nat × List UInt8) r_tenc4 (fun i => [(4, .sl (B.length + 1) i.2.1 0 i.2.2.length), (93, .v (.int .i64 i.1))]) 5 (fun i => [.live 0 1 [[.v (.isl 3 (t.map ePr))]], bRow i.2.1 i.2.2, .live 0 3 [prC p], .live 0 5 [evC e], .live 0 1 (vs ((hdN la e).map eI))])
      (fun i => i.1 ≤ e.asg.length ∧ i.2.2 = Z ++ (e.asg.take i.1).flatMap bodyAsg) (fun i => e.asg.length - i.1) (0, ver4, Z) ⟨Nat.zero_le _, by simp⟩ (by (repeat (first | exact hE4.mono oM | refine KLt.up ?_ kL))) (by ((try simp (disch := decide) only [hA, hg1, hg2, hg3, hg4, go_sem]) <;> exact kH)) (fun e => Weak.refl _ _ _) ?_
     intro g5 hE5 hEE5 hg5 k hk
     obtain ⟨k, ver5, V⟩ := k
     obtain ⟨hk, hVk⟩ := hk
     simp only at hk hVk ⊢
     have hVb := asg_bd ha8 k
     have hVl : V.length ≤ 200000 := by rw [hVk, List.length_append]; omega
     by_cases hkl : k < e.asg.length
     ·obtain ⟨a, hae⟩ : ∃ a, e.asg[k] = a := ⟨_, rfl⟩
      have hap : a ∈ e.asg := hae ▸ List.getElem_mem hkl
      have ga : (e.asg.map eAsg)[k]? = some [.int .i64 a.v, .int .i64 a.val] := by rw [List.getElem?_map, List.getElem?_eq_getElem hkl, hae]; rfl
      have f1 := far_bd (m7 a hap).1
      have f2 := far_bd (m7 a hap).2
      simp (disch := (first | decide | omega)) only [hA, hg1, hg2, hg3, hg4, hg5, ga, setFrom, cellsOf, List.length_map, go_sem]
      refine ACalls.nxt (put_spec (B.length + 1) ver5 V oM a.v f1.1 f1.2 _ _ hgetOut) ?_
      obtain ⟨x1, hx1⟩ : ∃ z, ver5 + (putL a.v).length = z := ⟨_, rfl⟩
      obtain ⟨V1, hV1⟩ : ∃ z, V ++ putL a.v = z := ⟨_, rfl⟩
      have hV1l : V1.length ≤ 200100 := by rw [← hV1, List.length_append]; have := putL_len a.v; omega
      simp (disch := (first | decide | omega)) only [hA, hg1, hg2, hg3, hg4, hg5, hx1, hV1, go_sem]
      refine ACalls.nxt (put_spec (B.length + 1) x1 V1 oM a.val f2.1 f2.2 _ _ hgetOut) ?_
      obtain ⟨x2, hx2⟩ : ∃ z, x1 + (putL a.val).length = z := ⟨_, rfl⟩
      obtain ⟨V2, hV2⟩ : ∃ z, V1 ++ putL a.val = z := ⟨_, rfl⟩
      simp (disch := (first | decide | omega)) only [hA, hg1, hg2, hg3, hg4, hg5, hx2, hV2, go_sem]
      refine ⟨(k + 1, x2, V2), ⟨hkl, ?_⟩, by simp only; omega, ?_⟩
      ·simp only
       rw [flat_take hkl, hae, ← hV2, ← hV1, hVk, bodyAsg]
       simp only [List.append_assoc]
      ·exact Weak.kround (p := r_tenc4) (k := 5) (by ((repeat refine (kAny_up rfl).trans ?_); exact hEE5)) (by ((try simp (disch := decide) only [hA, hg1, go_sem]) <;> exact kH)) rfl hE5 (by simp) kV hR (by simp (disch := omega) only [bRow, prC, evC, lts.down, Nat.reduceLT, Nat.reduceAdd])
     ·obtain rfl : k = e.asg.length := by omega
      rw [List.take_length] at hVk
      simp (disch := (first | decide | omega)) only [hA, hg1, hg2, hg3, hg4, hg5, List.length_map, go_sem]
      refine ⟨(j + 1, ver5, V), ⟨hjl, ?_⟩, by simp only; omega, ?_⟩
      ·simp only
       rw [bodyEvs_at hjl, hee, hlae, ← hdL_all, hVk, hZk, hYj]
       simp only [List.append_assoc]
      ·exact Weak.kround (p := r_tenc2) (k := 3) (by ((repeat refine (kAny_up rfl).trans ?_); refine (kAny_sub hg5 (kIn_sub rfl)).trans ?_; (repeat refine (kAny_up rfl).trans ?_); refine (kAny_sub hg4 (kIn_sub rfl)).trans ?_; (repeat refine (kAny_up rfl).trans ?_); exact hEE3)) (by ((try simp (disch := decide) only [hA, hg1, hg2, hg3, hg4, hg5, hla, go_sem]) <;> exact kH)) rfl hE3 (by simp) kV hR (by simp (disch := omega) only [bRow, prC, lts.down, Nat.reduceLT, Nat.reduceAdd])
   ·obtain rfl : j = p.evs.length := by omega
    simp (disch := (first | decide | omega)) only [hA, hg1, hg2, hg3, List.length_map, go_sem]
    refine ⟨(i + 1, ver3, Y), ⟨hlt, ?_⟩, by simp only; omega, ?_⟩
    ·simp only
     rw [flat_take hlt, hpe, hYj, ← hW3, hXj, ← hW2, ← hW1, hWi, bodyPr]
     simp only [List.append_assoc]
    ·exact Weak.kround (p := r_tenc0) (k := 2) (by ((repeat refine (kAny_up rfl).trans ?_); refine (kAny_sub hg3 (kIn_sub rfl)).trans ?_; (repeat refine (kAny_up rfl).trans ?_); refine (kAny_sub hg2 (kIn_sub rfl)).trans ?_; (repeat refine (kAny_up rfl).trans ?_); exact hEE1)) (by ((try simp (disch := decide) only [hA, go_sem]) <;> exact kH)) rfl hE1 (by simp) kV hR (by simp (disch := omega) only [bRow, lts.down, Nat.reduceLT, Nat.reduceAdd])
 ·obtain rfl : i = t.length := by omega
  rw [List.take_length] at hWi
  have hWT : W = bodyT t := by rw [hWi, ← hW0]; rfl
  have hcl : (codeL t).length = (sumL W).length := by rw [hWT]; rfl
  have hsl : (sumL W).length = W.length + 2 := sumL_length W
  simp (disch := (first | decide | omega)) only [hA, hg1, List.length_map, go_sem]
  refine ACalls.nxt (summed_spec (B.length + 1) ver W oM _ _ hgetOut) ?_
  by_cases hbig : 16384 < W.length + 2
  ·have hd : decide (((W.length + 2 : Nat) : Int) > 16384) = true := decide_eq_true oM
   have hd' : decide ((W.length : Int) + 2 > 16384) = true := decide_eq_true oM
   simp (disch := (first | decide | omega)) only [hA, hg1, hsl, hd, hd', go_sem]
   exact leave_pure (xs := [.v .zsl, .v (.int .i64 5)]) (.inr rfl) (by simp (disch := (first | decide | omega)) only [resVs, resV, go_sem, hA]) kO hR hB ⟨by unfold encR; rw [if_neg (by rw [hv]; decide), if_pos oM]; rfl, rfl, rfl⟩
  ·have hd : decide (((W.length + 2 : Nat) : Int) > 16384) = false := decide_eq_false oM
   have hd' : decide ((W.length : Int) + 2 > 16384) = false := decide_eq_false oM
   simp (disch := (first | decide | omega)) only [hA, hg1, hsl, hd, hd', go_sem]
   refine leave_deep (.inr rfl) (xs := [.sl (B.length + 1) (ver + 1) 0 (W.length + 2), .v (.int .i64 0)]) (by simp (disch := (first | decide | omega)) only [resVs, resV, hA, go_sem]) (y := .tup [.v (.isl 1 ((sumL W).map eB)), .v (.int .i64 0)]) ?_ hR hB ⟨by unfold encR codeL; rw [if_neg (by rw [hv]; decide), if_neg (by rw [sumL_length, ← hWT]; omega), hWT], rfl, rfl⟩
   exact Dv.tupL (.cons (Dv.slV (i := 1) rfl (by simp [hsl])) (.cons (.v _) .nil))
end Go.Proofs.Ytanblnhnfkeffaa
