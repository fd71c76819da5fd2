/- Texts of one proof, laid together: NE, NF. No condition. -/
import Derived.Test.YtilcmenglgdljaaNO5
import Derived.Test.YtilcmenglgdljaaNO4
namespace Go.Proofs.Ytilcmenglgdljaa
set_option linter.unusedVariables false
set_option linter.unusedSimpArgs false
attribute [local go_sem ↓] run_skip run_region run_draw run_seq run_block run_exit run_ret run_cond atN_app seqC_normal seqC_exit seqC_ret seqQ_normal seqQ_exit seqQ_ret blkQ_normal blkQ_exit blkQ_ret runOps_nil runOps_cons runD_nil runD_cons grdO_true grdO_false grdD_true grdD_false ifC_true ifC_false opS_val opS_call opS_two opK_app dS_val dS_call dS_two dK_app kUp_same kUp_ne
attribute [local go_sem] rechks_nil rechks_cons rechk gcase_true gcase_false ex_val ex_val0 gd_none gd_some ev_t ev_c evs_nil evs_cons evo_some evo_none hget_at hget_first hsetB_at hsetB_first hsetL_at hsetL_first ofOpt_some aop aload astore aslice aappend aiaddr aiaddrA afaddr alen alenS acopy amm acall alookup amupdate alenM comma keyEq apick binV binVB binVS isSh intOp strOp boolOp shOp eqC eqF and2 cellsOf setFrom fillA fillS rd rdI elems mk bounds AV.cell List.all_cons List.all_nil Bool.and_true Bool.true_and Bool.and_self List.length_cons List.length_nil List.length_append Nat.reduceAdd Nat.reduceSub Nat.reduceMul Nat.zero_add Nat.add_zero List.cons_append List.nil_append List.append_assoc List.append_nil List.getElem?_cons_zero List.getElem?_cons_succ List.getElem?_nil List.set_cons_zero List.set_cons_succ List.drop_zero List.drop_succ_cons List.take_zero List.take_succ_cons List.take_nil List.drop_nil List.map_cons List.map_nil Option.map_some if_true if_false Bool.false_eq_true and_self true_and and_true Nat.reduceLeDiff Nat.reduceLT Nat.le_refl Nat.reduceEqDiff ite_true ite_false beq_self_eq_true beq_true beq_false Bool.not_true Bool.not_false Bool.true_beq Bool.false_beq map_vs vs_len vs_get vs_take vs_drop vs_snoc1 vs_snoc2 vs_snoc3 vs_snoc5 vs_set1 vs_set2 vs_rep wrap_id le_T lt_T le_F lt_F leI_T ltI_T leI_F ltI_F geI gtI get_T decide_true decide_false room List.getElem?_map List.length_map List.length_take Int.toNat_natCast Nat.min_def Nat.min_self nth_kOf put_kOf put_kNo kOv_cons kOv_nil KHas KArgs List.getElem_cons_zero List.getElem_cons_succ
def a_nSend : AFunc := ⟨2,115,[.cell 4 (some 5),.tmp 5],(.seq (.region [⟨some 2,.box (.t 0),none⟩,⟨some 3,.box (.t 1),none⟩,⟨some 4,.alloc [(.v (.int .i64 0)),(.v (.bool false)),(.v .zsl),(.v .zsl),(.v .zsl)],none⟩,⟨some 5,.mv (.c (.v (.int .i64 0))),none⟩]) (.seq (.seq (.region [⟨some 12,.load (some 5) (.t 2),none⟩,⟨some 13,.call (.c (.fn 44 [])) [(.t 12)],none⟩,⟨some 14,.not (.t 13),none⟩,⟨some 15,.mv (.t 14),none⟩,⟨some 16,.load (some 4) (.t 3),some (15,false)⟩,⟨some 17,.call (.c (.fn 91 [])) [(.t 16)],some (15,false)⟩,⟨some 18,.not (.t 17),some (15,false)⟩,⟨some 19,.pick (.t 15) (.c (.v (.bool true))) (.t 18),none⟩]) (.cond (.t 19) (.seq (.region [⟨some 20,.build [(.v (.int .i64 0)),(.v (.bool false)),(.v .zsl),(.v .zsl),(.v .zsl)] [],none⟩,⟨none,.store 5 (.t 4) (.t 20),none⟩,⟨some 5,.mv (.c (.v (.int .i64 1))),none⟩]) .ret) .skip)) (.seq (.region [⟨some 21,.load (some 5) (.t 2),none⟩,⟨some 22,.call (.c (.fn 92 [])) [(.t 21)],none⟩,⟨none,.store 5 (.t 2) (.t 22),none⟩]) (.seq (.region [⟨some 23,.build [(.v (.int .i64 0)),(.v (.int .i64 0))] [(0,1,(.c (.v (.int .i64 1))))],none⟩,⟨some 6,.alloc [(.v (.int .i64 0)),(.v (.int .i64 0))],none⟩,⟨none,.store 2 (.t 6) (.t 23),none⟩]) (.seq (.seq (.region [⟨some 24,.faddr 4 (.t 2),none⟩,⟨some 25,.load none (.t 24),none⟩,⟨some 26,.len (.t 25),none⟩,⟨some 27,.bin .gtr (.t 26) (.c (.v (.int .i64 0))),none⟩]) (.cond (.t 27) (.draw [⟨0,⟨some 28,.faddr 4 (.t 2),none⟩,[]⟩,⟨1,⟨some 29,.load none (.t 28),none⟩,[]⟩,⟨2,⟨some 30,.iaddr 2 (.t 29) (.c (.v (.int .i64 0))),none⟩,[]⟩,⟨3,⟨some 31,.load (some 2) (.t 30),none⟩,[]⟩,⟨4,⟨some 32,.faddr 4 (.t 2),none⟩,[]⟩,⟨5,⟨some 33,.load none (.t 32),none⟩,[]⟩,⟨6,⟨some 34,.slice 2 (.t 33) (some (.c (.v (.int .i64 1)))) none,none⟩,[]⟩,⟨7,⟨none,.store 2 (.t 6) (.t 31),none⟩,[⟨some 32,.faddr 4 (.t 2),none⟩,⟨some 33,.load none (.t 32),none⟩,⟨some 34,.slice 2 (.t 33) (some (.c (.v (.int .i64 1)))) none,none⟩]⟩,⟨8,⟨some 35,.faddr 4 (.t 2),none⟩,[]⟩,⟨9,⟨none,.store 1 (.t 35) (.t 34),none⟩,[]⟩]) .skip)) (.seq (.region [⟨some 36,.faddr 0 (.t 2),none⟩,⟨some 37,.load none (.t 36),none⟩,⟨some 38,.faddr 1 (.t 6),none⟩,⟨some 39,.load none (.t 38),none⟩,⟨some 40,.bin .add (.t 37) (.t 39),none⟩,⟨some 7,.mv (.t 40),none⟩]) (.seq (.seq (.region [⟨some 41,.faddr 2 (.t 2),none⟩,⟨some 42,.load none (.t 41),none⟩,⟨some 43,.len (.t 42),none⟩,⟨some 44,.mv (.c (.v (.int .i64 0))),none⟩]) (.block 0 (.loop (.seq (.region [⟨some 45,.bin .lss (.t 44) (.t 43),none⟩]) (.seq (.cond (.t 45) .skip (.exit 0)) (.seq (.block 1 (.seq (.region [⟨some 46,.mv (.t 44),none⟩,⟨some 47,.iaddr 4 (.t 42) (.t 44),none⟩,⟨some 48,.load (some 4) (.t 47),none⟩,⟨some 9,.alloc [(.v (.int .i64 0)),(.v (.int .i64 0)),(.v (.int .i64 0)),(.v .zsl)],none⟩,⟨some 8,.mv (.t 46),none⟩,⟨none,.store 4 (.t 9) (.t 48),none⟩]) (.seq (.region [⟨some 49,.faddr 1 (.t 2),none⟩,⟨some 50,.load none (.t 49),none⟩,⟨some 51,.mv (.t 50),none⟩,⟨some 52,.faddr 0 (.t 9),some (51,true)⟩,⟨some 53,.load none (.t 52),some (51,true)⟩,⟨some 54,.faddr 0 (.t 3),some (51,true)⟩,⟨some 55,.load none (.t 54),some (51,true)⟩,⟨some 56,.bin .eql (.t 53) (.t 55),some (51,true)⟩,⟨some 57,.pick (.t 51) (.t 56) (.c (.v (.bool false))),none⟩,⟨some 58,.mv (.t 57),none⟩,⟨some 59,.faddr 1 (.t 9),some (58,true)⟩,⟨some 60,.load none (.t 59),some (58,true)⟩,⟨some 61,.faddr 1 (.t 3),some (58,true)⟩,⟨some 62,.load none (.t 61),some (58,true)⟩,⟨some 63,.bin .eql (.t 60) (.t 62),some (58,true)⟩,⟨some 64,.pick (.t 58) (.t 63) (.c (.v (.bool false))),none⟩]) (.cond (.t 64) (.region [⟨some 65,.mv (.t 7),none⟩,⟨some 66,.faddr 3 (.t 2),none⟩,⟨some 67,.load none (.t 66),none⟩,⟨some 68,.mv (.t 8),none⟩,⟨some 69,.iaddr 1 (.t 67) (.t 68),none⟩,⟨some 70,.load none (.t 69),none⟩,⟨some 71,.mm true (.t 65) (.t 70),none⟩,⟨some 7,.mv (.t 71),none⟩]) .skip)))) (.region [⟨some 72,.bin .add (.t 44) (.c (.v (.int .i64 1))),none⟩,⟨some 44,.mv (.t 72),none⟩]))))))) (.seq (.block 2 (.seq (.region [⟨some 74,.mv (.t 7),none⟩,⟨some 75,.bin .gtr (.t 74) (.c (.v (.int .i64 1099512627776))),none⟩,⟨some 73,.mv (.t 75),none⟩]) (.cond (.t 73) (.seq (.region [⟨some 76,.build [(.v (.int .i64 0)),(.v (.bool false)),(.v .zsl),(.v .zsl),(.v .zsl)] [],none⟩,⟨none,.store 5 (.t 4) (.t 76),none⟩,⟨some 5,.mv (.c (.v (.int .i64 9))),none⟩]) .ret) (.seq (.region [⟨some 78,.faddr 2 (.t 2),none⟩,⟨some 79,.load none (.t 78),none⟩,⟨some 80,.len (.t 79),none⟩,⟨some 81,.faddr 0 (.t 6),none⟩,⟨some 82,.load none (.t 81),none⟩,⟨some 83,.bin .add (.t 80) (.t 82),none⟩,⟨some 84,.bin .gtr (.t 83) (.c (.v (.int .i64 1000))),none⟩,⟨some 77,.mv (.t 84),none⟩]) (.cond (.t 77) (.seq (.region [⟨some 85,.build [(.v (.int .i64 0)),(.v (.bool false)),(.v .zsl),(.v .zsl),(.v .zsl)] [],none⟩,⟨none,.store 5 (.t 4) (.t 85),none⟩,⟨some 5,.mv (.c (.v (.int .i64 5))),none⟩]) .ret) .skip))))) (.seq (.region [⟨some 87,.faddr 3 (.t 2),none⟩,⟨some 88,.load none (.t 87),none⟩,⟨some 89,.mv (.t 7),none⟩,⟨some 90,.bin .add (.t 89) (.c (.v (.int .i64 1))),none⟩,⟨some 91,.call (.c (.fn 93 [])) [(.t 88),(.t 90),(.c (.fn 94 []))],none⟩,⟨some 86,.mv (.t 91),none⟩,⟨some 92,.extract 0 (.t 86),none⟩,⟨some 93,.extract 1 (.t 86),none⟩,⟨some 10,.mv (.t 92),none⟩,⟨some 11,.mv (.t 93),none⟩]) (.seq (.seq (.region [⟨some 94,.faddr 0 (.t 6),none⟩,⟨some 95,.load none (.t 94),none⟩,⟨some 96,.mv (.c (.v (.int .i64 0))),none⟩]) (.block 3 (.loop (.seq (.region [⟨some 97,.bin .lss (.t 96) (.t 95),none⟩]) (.seq (.cond (.t 97) .skip (.exit 3)) (.seq (.block 4 (.seq (.draw [⟨0,⟨some 98,.faddr 2 (.t 2),none⟩,[]⟩,⟨1,⟨some 99,.load none (.t 98),none⟩,[]⟩,⟨2,⟨some 100,.mv (.t 10),none⟩,[]⟩,⟨3,⟨some 101,.load (some 4) (.t 3),none⟩,[]⟩,⟨4,⟨some 102,.call (.c (.fn 96 [])) [(.t 101)],none⟩,[⟨some 98,.faddr 2 (.t 2),none⟩,⟨some 99,.load none (.t 98),none⟩,⟨some 100,.mv (.t 10),none⟩]⟩,⟨5,⟨some 103,.bslice 4 [(.v (.int .i64 0)),(.v (.int .i64 0)),(.v (.int .i64 0)),(.v .zsl)] 1 [(0,(.t 102))],none⟩,[⟨some 98,.faddr 2 (.t 2),none⟩,⟨some 99,.load none (.t 98),none⟩,⟨some 100,.mv (.t 10),none⟩]⟩,⟨6,⟨some 104,.call (.c (.fn 95 [])) [(.t 99),(.t 100),(.t 103)],none⟩,[]⟩,⟨7,⟨some 105,.faddr 2 (.t 2),none⟩,[]⟩,⟨8,⟨none,.store 1 (.t 105) (.t 104),none⟩,[]⟩]) (.region [⟨some 106,.faddr 3 (.t 2),none⟩,⟨some 107,.load none (.t 106),none⟩,⟨some 108,.mv (.t 10),none⟩,⟨some 109,.mv (.t 7),none⟩,⟨some 110,.bslice 1 [(.v (.int .i64 0))] 1 [(0,(.t 109))],none⟩,⟨some 111,.call (.c (.fn 97 [])) [(.t 107),(.t 108),(.t 110)],none⟩,⟨some 112,.faddr 3 (.t 2),none⟩,⟨none,.store 1 (.t 112) (.t 111),none⟩]))) (.region [⟨some 113,.bin .add (.t 96) (.c (.v (.int .i64 1))),none⟩,⟨some 96,.mv (.t 113),none⟩]))))))) (.seq (.region [⟨some 114,.load (some 5) (.t 2),none⟩,⟨none,.store 5 (.t 4) (.t 114),none⟩,⟨some 5,.mv (.c (.v (.int .i64 0))),none⟩]) .ret)))))))))))⟩
theorem a_nSend_ok : cFunc Try.prog 29 = some a_nSend := by kernel_rfl
def r_nSend0 : List (Nat × Nat) := [(7, 9), (44, 72)]
def r_nSend1 : List (Nat × Nat) := [(96, 113)]

theorem Weak.namedAll {N : Nat} {f : Nat → AV} {b l : List Row} (ov : List (Nat × AV)) (h : KHas f ov) : Weak (kOf N f) b l (kOf N (kOv ov (fun _ => .any))) b l := by
 intro F L w a s he
 refine ⟨F, L, s, ⟨he.1, by rw [he.2.1, kOf_len, kOf_len], fun i x v hx hv => ?_⟩, Step.refl _ _ _ _ _, rfl⟩
 rw [kOf_get] at hx
 split at hx
 ·rename_i hi
  cases hx
  rcases kOv_get (ov := ov) (f := fun _ => AV.any) (i := i) with hg | hg
  ·rw [hg]; exact .any v
  ·rw [← h.mem hg]
   exact he.2.2 i _ v (by rw [kOf_get, if_pos hi]) hv
 ·cases hx
def hdF (n : Nw) : Int × Int := n.fates.headD (1, 0)
def offF (n : Nw) : Nat := if n.fates = [] then 0 else 1
def sdX (n : Nw) (m : Ms) (k : Nat) : Nat → List (Ms × Nat)
 | 0 => (clone0 n).xs
 | c + 1 => (sdX n m k c).take k ++ [(m, n.l.length + c)] ++ (sdX n m k c).drop k
def sdT (n : Nw) (a : Int) (k : Nat) : Nat → List Int
 | 0 => n.tm
 | c + 1 => (sdT n a k c).take k ++ [a] ++ (sdT n a k c).drop k
theorem ins_len {α : Type} {l : List α} {x : α} {k : Nat} : (l.take k ++ [x] ++ l.drop k).length = l.length + 1 := by
 simp only [List.length_append, List.length_take, List.length_drop, List.length_cons, List.length_nil]; omega
theorem sdX_len {n : Nw} {m : Ms} {k : Nat} : ∀ c, (sdX n m k c).length = n.l.length + c
 | 0 => fl_len
 | c + 1 => by rw [sdX, ins_len, sdX_len c]; omega
theorem sdT_len {n : Nw} {a : Int} {k : Nat} : ∀ c, (sdT n a k c).length = n.tm.length + c
 | 0 => rfl
 | c + 1 => by rw [sdT, ins_len, sdT_len c]; omega
theorem ins_rep {α : Type} {l : List α} {x : α} {k c : Nat} (hk : k ≤ l.length) : (l.take k ++ List.replicate c x ++ l.drop k).take k ++ [x] ++ (l.take k ++ List.replicate c x ++ l.drop k).drop k = l.take k ++ List.replicate (c + 1) x ++ l.drop k := by
 have hl : (l.take k).length = k := by rw [List.length_take]; omega
 rw [List.append_assoc (l.take k), List.take_append_of_le_length oM, List.drop_append_of_le_length oM, List.take_of_length_le (l := l.take k) oM, List.drop_of_length_le (l := l.take k) oM, List.replicate_succ]
 simp
theorem sdX_fst {n : Nw} {m : Ms} {k : Nat} (hk : k ≤ n.l.length) : ∀ c, (sdX n m k c).map (·.1) = n.l.take k ++ List.replicate c m ++ n.l.drop k
 | 0 => by
   have : (clone0 n).xs.map (·.1) = n.l := congrArg Nw.l (clone0_nw n)
   rw [sdX, this, List.replicate_zero, List.append_nil, List.take_append_drop]
 | c + 1 => by
   rw [sdX, List.map_append, List.map_append, List.map_take, List.map_drop, sdX_fst hk c]
   exact ins_rep hk
theorem sdT_eq {n : Nw} {a : Int} {k : Nat} (hk : k ≤ n.tm.length) : ∀ c, sdT n a k c = n.tm.take k ++ List.replicate c a ++ n.tm.drop k
 | 0 => by simp [sdT]
 | c + 1 => by rw [sdT, sdT_eq hk c, ins_rep hk]
def sdB (n : Nw) (m : Ms) (j : Nat) : List Int := if j < n.l.length then (n.l.getD j dfMs).body else m.body
def sdLv (n : Nw) (m : Ms) (c : Nat) : Lv := ⟨n.now, n.fifo, 1 + c, 1 + c, offF n, sdX n m (leN n.tm (timN n m)) c, sdT n (timN n m) (leN n.tm (timN n m)) c, n.fates, fl (n.l.length + c) (sdB n m)⟩
theorem sdX_in {n : Nw} {m : Ms} {k : Nat} : ∀ c, ∀ x ∈ sdX n m k c, x.2 < n.l.length + c ∧ sdB n m x.2 = x.1.body
 | 0, x, hx => by
   obtain ⟨i, hi, rfl⟩ := List.mem_map.1 hx
   have hi := List.mem_range.1 hi
   refine ⟨hi, ?_⟩
   unfold sdB; rw [if_pos hi]
 | c + 1, x, hx => by
   rw [sdX] at hx
   simp only [List.mem_append, List.mem_singleton] at hx
   have ih := sdX_in (n := n) (m := m) (k := k) c
   rcases hx with (hx | rfl) | hx
   ·have := ih x (List.mem_of_mem_take hx); exact ⟨by omega, this.2⟩
   ·refine ⟨by simp only; omega, ?_⟩
    unfold sdB; rw [if_neg (by simp only; omega)]
   ·have := ih x (List.mem_of_mem_drop hx); exact ⟨by omega, this.2⟩
theorem offF_le {n : Nw} : offF n ≤ n.fates.length := by
 unfold offF
 split
 ·exact Nat.zero_le _
 ·rename_i h
  cases hf : n.fates with
  | nil => exact absurd hf h
  | cons x r => simp
theorem sdLv_ok {n : Nw} {m : Ms} {c : Nat} : (sdLv n m c).ok := by
 refine ⟨offF_le, fun x hx => ?_⟩
 obtain ⟨h1, h2⟩ := sdX_in c x hx
 show (fl (n.l.length + c) (sdB n m))[x.2]? = _
 rw [fl_get h1, h2]
def sndE (n : Nw) (m : Ms) : Int := if nwB n = true then (if msB m = true then sdE n m else 1) else 1
def sndZ (n : Nw) (m : Ms) : Option Lv := if sndE n m = 0 then some (sdLv n m (copN n).toNat) else none
def sndN (n : Nw) (m : Ms) : Nw := if sndE n m = 0 then insN n m (timN n m) (copN n).toNat else nw0
theorem sndZ_ok {n : Nw} {m : Ms} : ∀ y, sndZ n m = some y → y.ok := by
 intro y h
 unfold sndZ at h
 split at h
 ·cases h; exact sdLv_ok
 ·cases h
theorem offF_drop {n : Nw} : n.fates.drop (offF n) = n.fates.drop 1 := by
 unfold offF
 split
 ·rename_i h; rw [h]; rfl
 ·rfl
theorem sndZ_nw {n : Nw} {m : Ms} : ownN (sndZ n m) = sndN n m := by
 unfold sndZ sndN
 split
 ·rename_i h
  have hv : NwV n := by
   unfold sndE at h
   split at h
   ·rename_i h1; exact nwB_iff.1 h1
   ·cases h
  have hl := hv.len
  have hle := leN_le (l := n.tm) (a := timN n m)
  unfold ownN Lv.nw sdLv insN
  simp only
  rw [sdX_fst oM, sdT_eq hle, offF_drop]
 ·rfl
theorem clone0_rows {n : Nw} {base : Nat} : (clone0 n).rows base = .live 1 4 ((clone0 n).xs.map (lvE base)) :: .live 1 1 (vs (n.tm.map eI)) :: .live 1 2 (vs (n.fates.map eFt)) :: fl n.l.length (clB n) := by
 have h : (n.l.map (·.body)).map bdR = fl n.l.length (clB n) := by
  apply List.ext_getElem?
  intro j
  by_cases hj : j < n.l.length
  ·rw [fl_get hj, List.map_map, List.getElem?_map, List.getElem?_eq_getElem hj]
   unfold clB; rw [getD_at hj]; rfl
  ·rw [fl_none oM, List.getElem?_eq_none (by simp; omega)]
 unfold Lv.rows
 show _ :: _ :: _ :: (n.l.map (·.body)).map bdR = _
 rw [h]; rfl
theorem cloX_get {n : Nw} {base i : Nat} (h : i < n.l.length) : ((clone0 n).xs.map (lvE base))[i]? = some [.v (.int .i64 n.l[i].fr), .v (.int .i64 n.l[i].to), .v (.int .i64 n.l[i].nu), .sl (base + (3 + i)) 1 0 n.l[i].body.length] := by
 have hx : (clone0 n).xs = fl n.l.length (fun i => (n.l.getD i dfMs, i)) := rfl
 rw [hx, List.getElem?_map, fl_get h, getD_at h]; rfl
def sdN (n : Nw) (B : Nat) (vL vA kL kA : Nat) : Row := .live 0 5 [[.v (.int .i64 n.now), .v (.bool n.fifo), .sl (B + 3) vL 0 kL, .sl (B + 4) vA 0 kA, .sl (B + 5) 1 (offF n) (n.fates.length - offF n)]]
def sdM (m : Ms) : Row := .live 0 4 [[.v (.int .i64 m.fr), .v (.int .i64 m.to), .v (.int .i64 m.nu), .v (.isl 1 (m.body.map eI))]]
def sdO : Row := .live 0 5 [[.v (.int .i64 0), .v (.bool false), .v .zsl, .v .zsl, .v .zsl]]
def sdF (n : Nw) : Row := .live 0 2 [[.v (.int .i64 (hdF n).1), .v (.int .i64 (hdF n).2)]]
theorem Weak.ktrim {N : Nat} {f : Nat → AV} {b l l1 junk : List Row} (ov : List (Nat × AV)) (h : KHas f ov) (hl : l = l1 ++ junk) (ho : KOvLt (b.length + l1.length) ov) (hb : RowsLt b.length b) (h1 : RowsLt (b.length + l1.length) l1) :
  Weak (kOf N f) b l (kOf N (kOv ov (fun _ => .any))) b l1 := by
 have hE : KLt (b.length + l1.length) (fun _ => AV.any) := fun _ => .any
 exact (Weak.namedAll ov h).trans (Weak.trim hl ((hE.ov ho).env) (hb.mono oM) h1)
theorem lvE_lt {xs : List (Ms × Nat)} {c base M : Nat} (h : ∀ x ∈ xs, x.2 < c) (hM : base + (3 + c) ≤ M) : ∀ row ∈ xs.map (lvE base), ∀ a ∈ row, AVlt M a := by
 intro row hr a ha
 obtain ⟨x, hx, rfl⟩ := List.mem_map.1 hr
 have := h x hx
 unfold lvE at ha
 simp only [List.mem_cons, List.not_mem_nil, or_false] at ha
 rcases ha with rfl | rfl | rfl | rfl
 ·exact .v _
 ·exact .v _
 ·exact .v _
 ·exact .sl _ _ _ _ oM
theorem sdRows_lt {n : Nw} {m : Ms} {B vL vA kL kA M wL wA : Nat} {X : List (List AV)} {tv fv : List (List IV)} {T : List Row} (hM : B + 6 ≤ M) (hX : ∀ row ∈ X, ∀ c ∈ row, AVlt M c) (hT : RowsLt M T) :
  RowsLt M (sdN n B vL vA kL kA :: sdM m :: sdO :: .live wL 4 X :: .live wA 1 (vs tv) :: .live 1 2 (vs fv) :: T) := by
 unfold sdN sdM sdO
 refine RowsLt_live.2 ⟨by simp (disch := omega) only [lts.down, Nat.reduceLT, Nat.reduceAdd], RowsLt_live.2 ⟨by simp (disch := omega) only [lts.down, Nat.reduceLT, Nat.reduceAdd], RowsLt_live.2 ⟨by simp (disch := omega) only [lts.down, Nat.reduceLT, Nat.reduceAdd], RowsLt_live.2 ⟨hX, RowsLt_live.2 ⟨vs_lt.2 trivial, RowsLt_live.2 ⟨vs_lt.2 trivial, hT⟩⟩⟩⟩⟩⟩
theorem RowsLt.app {M : Nat} {a c : List Row} (h1 : RowsLt M a) (h2 : RowsLt M c) : RowsLt M (a ++ c) := by
 intro id ver sz els h
 by_cases hid : id < a.length
 ·rw [List.getElem?_append_left hid] at h; exact h1 id ver sz els h
 ·rw [List.getElem?_append_right oM] at h; exact h2 _ ver sz els h
theorem RowsLt.flB {M k : Nat} {g : Nat → List Int} : RowsLt M (fl k fun j => bdR (g j)) := by
 intro id ver sz els h row hr c hc
 by_cases hid : id < k
 ·rw [fl_get hid] at h
  cases h
  obtain ⟨r0, _, rfl⟩ := List.mem_map.1 hr
  obtain ⟨x0, _, rfl⟩ := List.mem_map.1 hc
  exact .v _
 ·rw [fl_none oM] at h; cases h
theorem cloX_in {n : Nw} : ∀ x ∈ (clone0 n).xs, x.2 < n.l.length := fun x hx => (sdX_in (n := n) (m := dfMs) (k := 0) 0 x hx).1
def sdRows (n : Nw) (m : Ms) (B c : Nat) : List Row := sdN n B (1 + c) (1 + c) (n.l.length + c) (n.tm.length + c) :: sdM m :: sdO :: .live (1 + c) 4 ((sdX n m (leN n.tm (timN n m)) c).map (lvE (B + 3))) :: .live (1 + c) 1 (vs ((sdT n (timN n m) (leN n.tm (timN n m)) c).map eI)) :: .live 1 2 (vs (n.fates.map eFt)) :: fl (n.l.length + c) (fun j => bdR (sdB n m j))
theorem sdRows_len {n : Nw} {m : Ms} {B c : Nat} : (sdRows n m B c).length = n.l.length + c + 6 := by unfold sdRows; simp [fl_len]
theorem sdRows_ok {n : Nw} {m : Ms} {B c : Nat} : RowsLt (B + (sdRows n m B c).length) (sdRows n m B c) := by
 rw [sdRows_len]
 exact sdRows_lt oM (lvE_lt (fun x hx => (sdX_in c x hx).1) oM) RowsLt.flB
theorem sdRows_zero {n : Nw} {m : Ms} {B : Nat} : sdRows n m B 0 = sdN n B 1 1 n.l.length n.tm.length :: sdM m :: sdO :: .live 1 4 ((clone0 n).xs.map (lvE (B + 3))) :: .live 1 1 (vs (n.tm.map eI)) :: .live 1 2 (vs (n.fates.map eFt)) :: fl n.l.length (clB n) := by
 have h : fl (n.l.length + 0) (fun j => bdR (sdB n m j)) = fl n.l.length (clB n) := by
  refine fl_congr (fun i hi => ?_)
  unfold clB sdB
  rw [if_pos oM]
 unfold sdRows
 rw [h]
 rfl
theorem sdRows_next {n : Nw} {m : Ms} {B c K : Nat} (hK : leN n.tm (timN n m) = K) : sdRows n m B (c + 1) = sdN n B (1 + c + 1) (1 + c + 1) (n.l.length + c + 1) (n.tm.length + c + 1) :: sdM m :: sdO ::
  .live (1 + c + 1) 4 (((sdX n m K c).map (lvE (B + 3))).take K ++ [.v (.int .i64 m.fr), .v (.int .i64 m.to), .v (.int .i64 m.nu), .sl (B + (n.l.length + c + 1 + 1 + 1 + 1 + 1 + 1)) 1 0 m.body.length] :: ((sdX n m K c).map (lvE (B + 3))).drop K) ::
  .live (1 + c + 1) 1 (vs (((sdT n (timN n m) K c).map eI).take K ++ [[.int .i64 (timN n m)]]) ++ vs (((sdT n (timN n m) K c).map eI).drop K)) :: .live 1 2 (vs (n.fates.map eFt)) :: (fl (n.l.length + c) (fun j => bdR (sdB n m j)) ++ [.live 1 1 (vs (m.body.map eI))]) := by
 have h1 : fl (n.l.length + (c + 1)) (fun j => bdR (sdB n m j)) = fl (n.l.length + c) (fun j => bdR (sdB n m j)) ++ [.live 1 1 (vs (m.body.map eI))] := by
  unfold fl
  rw [← Nat.add_assoc, List.range_succ, List.map_append]
  simp only [List.map_cons, List.map_nil]
  have : sdB n m (n.l.length + c) = m.body := if_neg oM
  rw [this]; rfl
 have h2 : (sdX n m K (c + 1)).map (lvE (B + 3)) = ((sdX n m K c).map (lvE (B + 3))).take K ++ [.v (.int .i64 m.fr), .v (.int .i64 m.to), .v (.int .i64 m.nu), .sl (B + (n.l.length + c + 1 + 1 + 1 + 1 + 1 + 1)) 1 0 m.body.length] :: ((sdX n m K c).map (lvE (B + 3))).drop K := by
  rw [sdX, List.map_append, List.map_append, List.map_take, List.map_drop]
  have : lvE (B + 3) (m, n.l.length + c) = [.v (.int .i64 m.fr), .v (.int .i64 m.to), .v (.int .i64 m.nu), .sl (B + (n.l.length + c + 1 + 1 + 1 + 1 + 1 + 1)) 1 0 m.body.length] := by
   unfold lvE
   rw [show B + 3 + (3 + (m, n.l.length + c).2) = B + (n.l.length + c + 1 + 1 + 1 + 1 + 1 + 1) by simp only; omega]
  simp only [List.map_cons, List.map_nil, this, List.append_assoc, List.cons_append, List.nil_append]
 have h3 : vs ((sdT n (timN n m) K (c + 1)).map eI) = vs (((sdT n (timN n m) K c).map eI).take K ++ [[.int .i64 (timN n m)]]) ++ vs (((sdT n (timN n m) K c).map eI).drop K) := by
  rw [sdT, List.map_append, List.map_append, List.map_take, List.map_drop, vs_app]
  rfl
 unfold sdRows
 rw [hK, h1, h2, h3]
 rfl
set_option maxRecDepth 20000 in
set_option maxHeartbeats 8000000 in
theorem nSend_own (n : Nw) (m : Ms) (b l : List Row) : ACalls Try.prog 29 [.agg ((eNw n).map .v), .agg [.v (.int .i64 m.fr), .v (.int .i64 m.to), .v (.int .i64 m.nu), .v (.isl 1 (m.body.map eI))]] b l
  (fun r b' l' => r = .tup [ownA (b.length + l.length) (sndZ n m), .v (.int .i64 (sndE n m))] ∧ b' = b ∧ l' = l ++ ownR (b.length + l.length) (sndZ n m)) := by
 refine calls_kept a_nSend_ok rfl (by decide) ?_
 intro B g hB hR hE hA
 simp only [KArgs] at hA
 have hV := nValid_spec n
 have hC := nclone_spec n
 unfold eNw at hV hC
 simp only [List.map_cons, List.map_nil] at hV hC
 have bad : sndE n m ≠ 0 → sndZ n m = none := fun h => if_neg h
 simp (disch := (first | decide | omega)) only [a_nSend, hA, eNw, go_sem]
 refine ACalls.nxt (hV _ _) ?_
 cases h1 : nwB n
 ·have he : sndE n m = 1 := by unfold sndE; rw [h1]; rfl
  rw [bad (by rw [he]; decide), he]
  simp (disch := (first | decide | omega)) only [hA, setFrom, cellsOf, go_sem]
  exact leave_pure (.inr rfl) (xs := [zNw, .v (.int .i64 1)]) (by simp (disch := (first | decide | omega)) only [resVs, resV, hA, zNw, go_sem]) (by simp only [one, zNw, lts.down, Nat.reduceLT, Nat.reduceAdd]) hR hB ⟨rfl, rfl, by simp [ownR]⟩
 simp (disch := (first | decide | omega)) only [hA, go_sem]
 refine ACalls.nxt (nmsg_spec m _ _) ?_
 cases h2 : msB m
 ·have he : sndE n m = 1 := by unfold sndE; rw [if_pos h1, h2]; rfl
  rw [bad (by rw [he]; decide), he]
  simp (disch := (first | decide | omega)) only [hA, setFrom, cellsOf, go_sem]
  exact leave_pure (.inr rfl) (xs := [zNw, .v (.int .i64 1)]) (by simp (disch := (first | decide | omega)) only [resVs, resV, hA, zNw, go_sem]) (by simp only [one, zNw, lts.down, Nat.reduceLT, Nat.reduceAdd]) hR hB ⟨rfl, rfl, by simp [ownR]⟩
 have hes : sndE n m = sdE n m := by unfold sndE; rw [if_pos h1, if_pos h2]
 rw [hes] at bad ⊢
 have hv := nwB_iff.1 h1
 have hnow := hv.now
 have htl := hv.l
 have hlen := hv.len
 have hfl := hv.fl
 have hhd := head_ok hv
 have hbl := msB_body h2
 simp (disch := (first | decide | omega)) only [hA, go_sem]
 refine ACalls.nxt (hC hv.s _ _) ?_
 have hxl : (clone0 n).xs.length = n.l.length := fl_len
 have hav : ∀ base, (clone0 n).av base = .agg [.v (.int .i64 n.now), .v (.bool n.fifo), .sl base 1 0 n.l.length, .sl (base + 1) 1 0 n.tm.length, .sl (base + 2) 1 0 n.fates.length] := fun base => by
  unfold Lv.av; rw [hxl]; rfl
 have e1 : B.length + 3 + 1 = B.length + 4 := rfl
 have e2 : B.length + 3 + 2 = B.length + 5 := rfl
 have hrw := clone0_rows (n := n) (base := B.length + 3)
 have ha0 : arAt n m 0 = n.now + (hdF n).2 := rfl
 have hdc : 0 ≤ (hdF n).1 ∧ (hdF n).1 ≤ 3 := hhd.1
 have hda : 0 ≤ (hdF n).2 ∧ (hdF n).2 ≤ 1000000 := hhd.2
 by_cases hf : n.fates = []
 case' pos =>
  have d1 : decide ((0 : Int) < (n.fates.length : Int)) = false := by rw [hf]; rfl
  have h1f : (hdF n).1 = 1 := by unfold hdF; rw [hf]; rfl
  have h2f : (hdF n).2 = 0 := by unfold hdF; rw [hf]; rfl
  have ho : offF n = 0 := if_pos hf
  have hff : Row.live 0 2 [[.v (.int .i64 1), .v (.int .i64 0)]] = sdF n := by unfold sdF; rw [h1f, h2f]
  have hat : n.now + 0 = arAt n m 0 := by rw [ha0, h2f]
  have hn0 : Row.live 0 5 [[.v (.int .i64 n.now), .v (.bool n.fifo), .sl (B.length + 3) 1 0 n.l.length, .sl (B.length + 4) 1 0 n.tm.length, .sl (B.length + 5) 1 0 n.fates.length]] = sdN n B.length 1 1 n.l.length n.tm.length := by unfold sdN; rw [ho]; rfl
  simp (disch := (first | decide | omega)) only [hA, hav, hrw, e1, e2, fl_len, fz_tail0, fz_tail, fz_settail0, fz_settail, d1, setFrom, cellsOf, go_sem]
 case' neg =>
  have hpos : 0 < n.fates.length := by
   cases hq : n.fates with
   | nil => exact absurd hq hf
   | cons x r => simp
  have d1 : decide ((0 : Int) < (n.fates.length : Int)) = true := decide_eq_true oM
  have ho : offF n = 1 := if_neg hf
  have hg0 : (n.fates.map eFt)[Int.toNat 0]? = some [.int .i64 (hdF n).1, .int .i64 (hdF n).2] := by
   show (n.fates.map eFt)[0]? = _
   unfold hdF
   cases hq : n.fates with
   | nil => exact absurd hq hf
   | cons x r => rfl
  have hff : Row.live 0 2 [[.v (.int .i64 (hdF n).1), .v (.int .i64 (hdF n).2)]] = sdF n := rfl
  have hn0 : Row.live 0 5 [[.v (.int .i64 n.now), .v (.bool n.fifo), .sl (B.length + 3) 1 0 n.l.length, .sl (B.length + 4) 1 0 n.tm.length, .sl (B.length + 5) 1 (Int.toNat 1) (n.fates.length - Int.toNat 1)]] = sdN n B.length 1 1 n.l.length n.tm.length := by unfold sdN; rw [ho]; rfl
  have hat : n.now + (hdF n).2 = arAt n m 0 := rfl
  simp (disch := (first | decide | omega)) only [hA, hav, hrw, e1, e2, fl_len, fz_tail0, fz_tail, fz_settail0, fz_settail, d1, hg0, vs_get, setFrom, cellsOf, go_sem]
 all_goals
  refine loop_kept (ι := Nat) r_nSend0 (fun i => [(7, .v (.int .i64 (arAt n m i))), (44, .v (.int .i64 i))]) (n.l.length + 7) (fun _ => sdN n B.length 1 1 n.l.length n.tm.length :: sdM m :: sdO :: .live 1 4 ((clone0 n).xs.map (lvE (B.length + 3))) :: .live 1 1 (vs (n.tm.map eI)) :: .live 1 2 (vs (n.fates.map eFt)) :: (fl n.l.length (clB n) ++ [sdF n]))
   (fun i => i ≤ n.l.length) (fun i => n.l.length - i) 0 (Nat.zero_le _) (by (repeat (first | exact hE.mono oM | refine KLt.up ?_ kL))) (by ((try simp (disch := decide) only [hA, hat, go_sem]) <;> exact kH)) (fun e => by rw [hn0, hff]; exact Weak.refl _ _ _) ?_
  intro g1 hE1 hEE1 hg1 i hi
  have hrl : RowsLt (B.length + (sdN n B.length 1 1 n.l.length n.tm.length :: sdM m :: sdO :: .live 1 4 ((clone0 n).xs.map (lvE (B.length + 3))) :: .live 1 1 (vs (n.tm.map eI)) :: .live 1 2 (vs (n.fates.map eFt)) :: (fl n.l.length (clB n) ++ [sdF n])).length) (sdN n B.length 1 1 n.l.length n.tm.length :: sdM m :: sdO :: .live 1 4 ((clone0 n).xs.map (lvE (B.length + 3))) :: .live 1 1 (vs (n.tm.map eI)) :: .live 1 2 (vs (n.fates.map eFt)) :: (fl n.l.length (clB n) ++ [sdF n])) := by
   refine sdRows_lt (by simp) (lvE_lt cloX_in (by simp [fl_len]; omega)) (RowsLt.app RowsLt.flB ?_)
   unfold sdF
   simp (disch := omega) only [lts.down, Nat.reduceLT, Nat.reduceAdd]
  by_cases hlt : i < n.l.length
  ·have hxg := cloX_get (n := n) (base := B.length + 3) hlt
   have htg := eI_get (l := n.tm) (i := i) oM
   have hbd := arAt_in hv (m := m) i oM
   cases hfi : (n.fifo == true)
   case false =>
    have hfb : (n.fifo = true) = False := by simpa using hfi
    have hst : arAt n m (i + 1) = arAt n m i := by simp only [arAt]; rw [if_neg (fun h => by rw [hfb] at h; exact h.1)]
    simp (disch := (first | decide | omega)) only [hA, hg1, hxg, htg, hfi, hfb, fl_len, fz_tail0, fz_tail, fz_settail0, fz_settail, vs_get, sdN, sdM, sdO, sdF, setFrom, cellsOf, go_sem]
    refine ⟨i + 1, hlt, by simp only; omega, ?_⟩
    exact Weak.kround (p := r_nSend0) (k := n.l.length + 7) (l1 := sdN n B.length 1 1 n.l.length n.tm.length :: sdM m :: sdO :: .live 1 4 ((clone0 n).xs.map (lvE (B.length + 3))) :: .live 1 1 (vs (n.tm.map eI)) :: .live 1 2 (vs (n.fates.map eFt)) :: (fl n.l.length (clB n) ++ [sdF n])) (junk := [_]) (by ((repeat refine (kAny_up rfl).trans ?_); exact hEE1)) (by ((try simp (disch := decide) only [hst, hA, go_sem]) <;> exact kH)) (by simp only [sdN, sdM, sdO, sdF, List.cons_append, List.append_assoc, List.nil_append]; rfl) hE1 (by simp [fl_len]) kV hR hrl
   case true =>
    have hfb : (n.fifo = true) = True := by simpa using hfi
    by_cases hfr : n.l[i].fr = m.fr
    case neg =>
     have d1 : (n.l[i].fr == m.fr) = false := beq_eq_false_iff_ne.2 hfr
     have hst : arAt n m (i + 1) = arAt n m i := by simp only [arAt]; rw [if_neg (fun h => hfr (by have := h.2.1; rwa [getD_at hlt] at this))]
     simp (disch := (first | decide | omega)) only [hA, hg1, hxg, htg, hfi, hfb, d1, fl_len, fz_tail0, fz_tail, fz_settail0, fz_settail, vs_get, sdN, sdM, sdO, sdF, setFrom, cellsOf, go_sem]
     refine ⟨i + 1, hlt, by simp only; omega, ?_⟩
     exact Weak.kround (p := r_nSend0) (k := n.l.length + 7) (l1 := sdN n B.length 1 1 n.l.length n.tm.length :: sdM m :: sdO :: .live 1 4 ((clone0 n).xs.map (lvE (B.length + 3))) :: .live 1 1 (vs (n.tm.map eI)) :: .live 1 2 (vs (n.fates.map eFt)) :: (fl n.l.length (clB n) ++ [sdF n])) (junk := [_]) (by ((repeat refine (kAny_up rfl).trans ?_); exact hEE1)) (by ((try simp (disch := decide) only [hst, hA, go_sem]) <;> exact kH)) (by simp only [sdN, sdM, sdO, sdF, List.cons_append, List.append_assoc, List.nil_append]; rfl) hE1 (by simp [fl_len]) kV hR hrl
    have d1 : (n.l[i].fr == m.fr) = true := by rw [hfr]; simp
    by_cases hto : n.l[i].to = m.to
    case neg =>
     have d2 : (n.l[i].to == m.to) = false := beq_eq_false_iff_ne.2 hto
     have hst : arAt n m (i + 1) = arAt n m i := by simp only [arAt]; rw [if_neg (fun h => hto (by have := h.2.2; rwa [getD_at hlt] at this))]
     simp (disch := (first | decide | omega)) only [hA, hg1, hxg, htg, hfi, hfb, d1, d2, fl_len, fz_tail0, fz_tail, fz_settail0, fz_settail, vs_get, sdN, sdM, sdO, sdF, setFrom, cellsOf, go_sem]
     refine ⟨i + 1, hlt, by simp only; omega, ?_⟩
     exact Weak.kround (p := r_nSend0) (k := n.l.length + 7) (l1 := sdN n B.length 1 1 n.l.length n.tm.length :: sdM m :: sdO :: .live 1 4 ((clone0 n).xs.map (lvE (B.length + 3))) :: .live 1 1 (vs (n.tm.map eI)) :: .live 1 2 (vs (n.fates.map eFt)) :: (fl n.l.length (clB n) ++ [sdF n])) (junk := [_]) (by ((repeat refine (kAny_up rfl).trans ?_); exact hEE1)) (by ((try simp (disch := decide) only [hst, hA, go_sem]) <;> exact kH)) (by simp only [sdN, sdM, sdO, sdF, List.cons_append, List.append_assoc, List.nil_append]; rfl) hE1 (by simp [fl_len]) kV hR hrl
    have d2 : (n.l[i].to == m.to) = true := by rw [hto]; simp
    have hst : (if arAt n m i < n.tm.getD i 0 then n.tm.getD i 0 else arAt n m i) = arAt n m (i + 1) := by
     simp only [arAt]
     rw [if_pos (show n.fifo = true ∧ _ from ⟨by rw [hfb]; trivial, by rw [getD_at hlt]; exact hfr, by rw [getD_at hlt]; exact hto⟩)]
     split <;> omega
    simp (disch := (first | decide | omega)) only [hA, hg1, hxg, htg, hfi, hfb, d1, d2, fl_len, fz_tail0, fz_tail, fz_settail0, fz_settail, vs_get, sdN, sdM, sdO, sdF, setFrom, cellsOf, go_sem]
    refine ⟨i + 1, hlt, by simp only; omega, ?_⟩
    exact Weak.kround (p := r_nSend0) (k := n.l.length + 7) (l1 := sdN n B.length 1 1 n.l.length n.tm.length :: sdM m :: sdO :: .live 1 4 ((clone0 n).xs.map (lvE (B.length + 3))) :: .live 1 1 (vs (n.tm.map eI)) :: .live 1 2 (vs (n.fates.map eFt)) :: (fl n.l.length (clB n) ++ [sdF n])) (junk := [_]) (by ((repeat refine (kAny_up rfl).trans ?_); exact hEE1)) (by ((try simp (disch := decide) only [hst, hA, go_sem]) <;> exact kH)) (by simp only [sdN, sdM, sdO, sdF, List.cons_append, List.append_assoc, List.nil_append]; rfl) hE1 (by simp [fl_len]) kV hR hrl
  ·obtain rfl : i = n.l.length := by omega
   have htim : arAt n m n.l.length = timN n m := rfl
   have hbd := arAt_in hv (m := m) n.l.length (Nat.le_refl _)
   rw [htim] at hbd
   have d1 : decide (1099512627776 < timN n m) = false := decide_eq_false oM
   by_cases hfull : 1000 < (n.l.length : Int) + (hdF n).1
   ·have d2 := decide_eq_true hfull
    have he : sdE n m = 5 := by unfold sdE; rw [if_neg oM, if_pos (show (n.l.length : Int) + copN n > 1000 from hfull)]
    rw [bad (by rw [he]; decide), he]
    simp (disch := (first | decide | omega)) only [hA, hg1, htim, d1, d2, fl_len, fz_tail0, fz_tail, fz_settail0, fz_settail, vs_get, sdN, sdM, sdO, sdF, setFrom, cellsOf, go_sem]
    exact leave_pure (.inr rfl) (xs := [zNw, .v (.int .i64 5)]) (by simp (disch := (first | decide | omega)) only [resVs, resV, hA, hg1, zNw, go_sem]) (by simp only [one, zNw, lts.down, Nat.reduceLT, Nat.reduceAdd]) hR hB ⟨rfl, rfl, by simp [ownR]⟩
   have d2 := decide_eq_false hfull
   have he : sdE n m = 0 := by unfold sdE; rw [if_neg oM, if_neg (show ¬ (n.l.length : Int) + copN n > 1000 from hfull)]
   have hZ : sndZ n m = some (sdLv n m (copN n).toNat) := if_pos (by rw [hes, he])
   rw [hZ, he]
   simp (disch := (first | decide | omega)) only [hA, hg1, htim, d1, d2, fl_len, fz_tail0, fz_tail, fz_settail0, fz_settail, vs_get, sdN, sdM, sdO, sdF, setFrom, cellsOf, go_sem]
   refine ACalls.nxt (bsfS_spec n.tm oM hv.sorted (timN n m) (B.length + 4) 1 _ _ (by rw [List.getElem?_append_right oM, Nat.add_sub_cancel_left]; rfl)) ?_
   simp (disch := (first | decide | omega)) only [hA, hg1, htim, d1, d2, fl_len, fz_tail0, fz_tail, fz_settail0, fz_settail, vs_get, setFrom, cellsOf, go_sem]
   have hleB := leN_le (l := n.tm) (a := timN n m)
   obtain ⟨C, hC1⟩ : ∃ C : Nat, (hdF n).1 = (C : Int) := ⟨(hdF n).1.toNat, by omega⟩
   have hCc : (copN n).toNat = C := by show (hdF n).1.toNat = C; omega
   rw [hC1]
   refine loop_kept_from (f' := kOv [(2, .ptr B.length 0 0 0), (3, .ptr (B.length + 1) 0 0 0), (4, .ptr (B.length + 2) 0 0 0), (5, .v (.int .i64 0)), (7, .v (.int .i64 (timN n m))), (10, .v (.int .i64 (leN n.tm (timN n m)))), (95, .v (.int .i64 C)), (96, .v (.int .i64 0))] (fun _ => .any)) (l' := sdRows n m B.length 0)
    (ι := Nat) r_nSend1 (fun c => [(96, .v (.int .i64 c))]) 6 (fun c => sdRows n m B.length c) (fun c => c ≤ C) (fun c => C - c) 0 (Nat.zero_le _)
    (Weak.ktrim (junk := [sdF n]) _ (by ((try simp (disch := decide) only [hA, hg1, go_sem]) <;> exact kH)) (by rw [sdRows_zero, hC1.symm]; rfl) (by rw [sdRows_len]; simp (disch := omega) only [KOvLt, lts.down, Nat.reduceLT, Nat.reduceAdd]) hR sdRows_ok) (KLt.ov (fun _ => .any) kV) (by ((try simp (disch := decide) only [hA, go_sem]) <;> exact kH)) (fun e => Weak.refl _ _ _) ?_
   intro g2 hE2 hEE2 hg2 c hc
   by_cases hlc : c < C
   ·simp (disch := (first | decide | omega)) only [hA, hg2, fl_len, fz_tail0, fz_tail, fz_settail0, fz_settail, vs_get, sdRows, sdN, sdM, sdO, setFrom, cellsOf, go_sem]
    refine ACalls.nxt (ncop_spec m oM _ _) ?_
    simp (disch := (first | decide | omega)) only [hA, hg2, fl_len, fz_tail0, fz_tail, fz_settail0, fz_settail, vs_get, setFrom, cellsOf, List.replicate_succ, List.replicate_zero, go_sem]
    obtain ⟨K, hK⟩ : ∃ K, K = leN n.tm (timN n m) := ⟨_, rfl⟩
    have hK2 : leN n.tm (timN n m) = K := hK.symm
    rw [← hK] at hleB ⊢
    have hM := fun b l hid hv => insM_run (B.length + 3) (1 + c) K (B.length + (n.l.length + c + 1 + 1 + 1 + 1 + 1 + 1 + 1)) 0 ((sdX n m K c).map (lvE (B.length + 3))) [.v (.int .i64 m.fr), .v (.int .i64 m.to), .v (.int .i64 m.nu), .sl (B.length + (n.l.length + c + 1 + 1 + 1 + 1 + 1 + 1)) 1 0 m.body.length] b l hid hv oM (by rw [List.length_map, sdX_len]; omega) (by rw [List.length_map, sdX_len]; omega)
    simp only [List.length_map, sdX_len] at hM
    refine ACalls.nxt (hM _ _ (by rw [List.getElem?_append_right oM, Nat.add_sub_cancel_left]; rfl) (by rw [List.getElem?_append_right oM, Nat.add_sub_cancel_left]; simp only [List.getElem?_cons_succ]; rw [fz_tail]; rfl)) ?_
    simp (disch := (first | decide | omega)) only [hA, hg2, fl_len, fz_tail0, fz_tail, fz_settail0, fz_settail, vs_get, setFrom, cellsOf, List.replicate_succ, List.replicate_zero, go_sem]
    have hI := fun b l hid hv => insI_run (B.length + 4) (1 + c) K (B.length + (n.l.length + c + 2 + 1 + 1 + 1 + 1 + 1 + 1)) 0 (vs ((sdT n (timN n m) K c).map eI)) [.v (.int .i64 (timN n m))] b l hid hv oM (by rw [vs_len, List.length_map, sdT_len]; omega) (by rw [vs_len, List.length_map, sdT_len]; omega)
    simp only [vs_len, List.length_map, sdT_len] at hI
    rw [hK2]
    refine ACalls.nxt (hI _ _ (by rw [List.getElem?_append_right oM, Nat.add_sub_cancel_left]; rfl) (by rw [List.getElem?_append_right oM, Nat.add_sub_cancel_left]; simp only [List.getElem?_cons_succ]; rw [fz_tail]; rfl)) ?_
    simp (disch := (first | decide | omega)) only [hA, hg2, fl_len, fz_tail0, fz_tail, fz_settail0, fz_settail, vs_get, setFrom, cellsOf, List.replicate_succ, List.replicate_zero, go_sem]
    subst hK
    refine ⟨c + 1, hlc, by simp only; omega, ?_⟩
    show Weak _ B _ (kOf 115 (kOv [(96, .v (.int .i64 ((c + 1 : Nat) : Int)))] g2)) B (sdRows n m B.length (c + 1))
    exact Weak.kround (p := r_nSend1) (k := 6) (l1 := sdRows n m B.length (c + 1)) (junk := [_, _]) (by ((repeat refine (kAny_up rfl).trans ?_); exact hEE2)) (by ((try simp (disch := decide) only [hA, go_sem]) <;> exact kH)) (by rw [sdRows_next hK2]; simp only [sdN, sdM, sdO, List.cons_append, List.append_assoc, List.nil_append]; rfl) hE2 (by rw [sdRows_len]; omega) (by rw [sdRows_len]; simp (disch := omega) only [KOvLt, lts.down, Nat.reduceLT, Nat.reduceAdd]) hR sdRows_ok
   ·obtain rfl : c = C := by omega
    simp (disch := (first | decide | omega)) only [hA, hg2, fl_len, fz_tail0, fz_tail, fz_settail0, fz_settail, vs_get, sdRows, sdN, sdM, sdO, setFrom, cellsOf, go_sem]
    rw [hCc]
    have hzx : (sdLv n m c).xs.length = n.l.length + c := sdX_len c
    have hzt : (sdLv n m c).tm.length = n.tm.length + c := sdT_len c
    refine leave_lv (.inr rfl) (z := sdLv n m c) sdLv_ok (s := 3) (c := .int .i64 0) (junk := []) (by simp (disch := (first | decide | omega)) only [resVs, resV, hA, hg2, Lv.av, hzx, hzt, go_sem]; rfl) ?_ hR hB ⟨by rw [hB, List.length_append]; rfl, rfl, by rw [hB, List.length_append]; rfl⟩
    rw [List.append_nil]
    unfold Lv.rows
    rw [show (sdLv n m c).bd.map bdR = fl (n.l.length + c) (fun j => bdR (sdB n m j)) from fl_map]
    rfl
theorem nSend_spec (n : Nw) (m : Ms) (b l : List Row) : ACalls Try.prog 29 [.agg ((eNw n).map .v), .agg [.v (.int .i64 m.fr), .v (.int .i64 m.to), .v (.int .i64 m.nu), .v (.isl 1 (m.body.map eI))]] b l
  (fun r b' l' => r = .tup [nwA (sndN n m), .v (.int .i64 (sndE n m))] ∧ b' = b ∧ l' = l) := by
 rw [← sndZ_nw]
 exact ACalls.ownV sndZ_ok (nSend_own n m b l)
def a_nRecv : AFunc := ⟨2,59,[.cell 4 (some 5),.cell 5 (some 4),.tmp 6],(.seq (.region [⟨some 2,.box (.t 0),none⟩,⟨some 4,.alloc [(.v (.int .i64 0)),(.v (.bool false)),(.v .zsl),(.v .zsl),(.v .zsl)],none⟩,⟨some 5,.alloc [(.v (.int .i64 0)),(.v (.int .i64 0)),(.v (.int .i64 0)),(.v .zsl)],none⟩,⟨some 6,.mv (.c (.v (.int .i64 0))),none⟩]) (.seq (.block 0 (.seq (.region [⟨some 10,.load (some 5) (.t 2),none⟩,⟨some 11,.call (.c (.fn 44 [])) [(.t 10)],none⟩,⟨some 12,.not (.t 11),none⟩,⟨some 9,.mv (.t 12),none⟩]) (.cond (.t 9) (.seq (.region [⟨some 13,.build [(.v (.int .i64 0)),(.v (.bool false)),(.v .zsl),(.v .zsl),(.v .zsl)] [],none⟩,⟨some 14,.build [(.v (.int .i64 0)),(.v (.int .i64 0)),(.v (.int .i64 0)),(.v .zsl)] [],none⟩,⟨none,.store 5 (.t 4) (.t 13),none⟩,⟨none,.store 4 (.t 5) (.t 14),none⟩,⟨some 6,.mv (.c (.v (.int .i64 1))),none⟩]) .ret) (.seq (.region [⟨some 16,.mv (.t 1),none⟩,⟨some 17,.call (.c (.fn 100 [])) [(.t 16)],none⟩,⟨some 18,.not (.t 17),none⟩,⟨some 15,.mv (.t 18),none⟩]) (.cond (.t 15) (.seq (.region [⟨some 19,.build [(.v (.int .i64 0)),(.v (.bool false)),(.v .zsl),(.v .zsl),(.v .zsl)] [],none⟩,⟨some 20,.build [(.v (.int .i64 0)),(.v (.int .i64 0)),(.v (.int .i64 0)),(.v .zsl)] [],none⟩,⟨none,.store 5 (.t 4) (.t 19),none⟩,⟨none,.store 4 (.t 5) (.t 20),none⟩,⟨some 6,.mv (.c (.v (.int .i64 2))),none⟩]) .ret) .skip))))) (.seq (.seq (.region [⟨some 21,.faddr 2 (.t 2),none⟩,⟨some 22,.load none (.t 21),none⟩,⟨some 23,.len (.t 22),none⟩,⟨some 24,.mv (.c (.v (.int .i64 0))),none⟩]) (.block 1 (.loop (.seq (.region [⟨some 25,.bin .lss (.t 24) (.t 23),none⟩]) (.seq (.cond (.t 25) .skip (.exit 1)) (.seq (.block 2 (.seq (.region [⟨some 26,.mv (.t 24),none⟩,⟨some 7,.mv (.t 26),none⟩]) (.seq (.seq (.region [⟨some 27,.load (some 5) (.t 2),none⟩,⟨some 28,.mv (.t 7),none⟩,⟨some 29,.mv (.t 1),none⟩,⟨some 30,.call (.c (.fn 101 [])) [(.t 27),(.t 28),(.t 29)],none⟩,⟨some 31,.not (.t 30),none⟩]) (.cond (.t 31) (.exit 2) .skip)) (.seq (.region [⟨some 32,.faddr 2 (.t 2),none⟩,⟨some 33,.load none (.t 32),none⟩,⟨some 34,.mv (.t 7),none⟩,⟨some 35,.iaddr 4 (.t 33) (.t 34),none⟩,⟨some 36,.load (some 4) (.t 35),none⟩,⟨some 37,.call (.c (.fn 96 [])) [(.t 36)],none⟩,⟨some 8,.alloc [(.v (.int .i64 0)),(.v (.int .i64 0)),(.v (.int .i64 0)),(.v .zsl)],none⟩,⟨none,.store 4 (.t 8) (.t 37),none⟩]) (.seq (.region [⟨some 38,.load (some 5) (.t 2),none⟩,⟨some 39,.call (.c (.fn 92 [])) [(.t 38)],none⟩,⟨none,.store 5 (.t 2) (.t 39),none⟩]) (.seq (.draw [⟨0,⟨some 40,.faddr 2 (.t 2),none⟩,[]⟩,⟨1,⟨some 41,.load none (.t 40),none⟩,[]⟩,⟨2,⟨some 42,.mv (.t 7),none⟩,[]⟩,⟨3,⟨some 43,.mv (.t 7),none⟩,[]⟩,⟨4,⟨some 44,.bin .add (.t 43) (.c (.v (.int .i64 1))),none⟩,[]⟩,⟨6,⟨some 46,.faddr 3 (.t 2),none⟩,[]⟩,⟨7,⟨some 47,.load none (.t 46),none⟩,[]⟩,⟨8,⟨some 48,.mv (.t 7),none⟩,[]⟩,⟨9,⟨some 49,.mv (.t 7),none⟩,[]⟩,⟨10,⟨some 50,.bin .add (.t 49) (.c (.v (.int .i64 1))),none⟩,[]⟩,⟨5,⟨some 45,.call (.c (.fn 102 [])) [(.t 41),(.t 42),(.t 44)],none⟩,[⟨some 46,.faddr 3 (.t 2),none⟩,⟨some 47,.load none (.t 46),none⟩,⟨some 48,.mv (.t 7),none⟩,⟨some 49,.mv (.t 7),none⟩,⟨some 50,.bin .add (.t 49) (.c (.v (.int .i64 1))),none⟩]⟩,⟨12,⟨some 52,.faddr 2 (.t 2),none⟩,[]⟩,⟨11,⟨some 51,.call (.c (.fn 103 [])) [(.t 47),(.t 48),(.t 50)],none⟩,[⟨some 52,.faddr 2 (.t 2),none⟩]⟩,⟨13,⟨none,.store 1 (.t 52) (.t 45),none⟩,[]⟩,⟨14,⟨some 53,.faddr 3 (.t 2),none⟩,[]⟩,⟨15,⟨none,.store 1 (.t 53) (.t 51),none⟩,[]⟩]) (.seq (.draw [⟨0,⟨some 54,.load (some 5) (.t 2),none⟩,[]⟩,⟨1,⟨some 55,.load (some 4) (.t 8),none⟩,[]⟩,⟨2,⟨none,.store 5 (.t 4) (.t 54),none⟩,[⟨some 55,.load (some 4) (.t 8),none⟩]⟩,⟨3,⟨none,.store 4 (.t 5) (.t 55),none⟩,[]⟩,⟨4,⟨some 6,.mv (.c (.v (.int .i64 0))),none⟩,[]⟩]) .ret))))))) (.region [⟨some 56,.bin .add (.t 24) (.c (.v (.int .i64 1))),none⟩,⟨some 24,.mv (.t 56),none⟩]))))))) (.seq (.region [⟨some 57,.build [(.v (.int .i64 0)),(.v (.bool false)),(.v .zsl),(.v .zsl),(.v .zsl)] [],none⟩,⟨some 58,.build [(.v (.int .i64 0)),(.v (.int .i64 0)),(.v (.int .i64 0)),(.v .zsl)] [],none⟩,⟨none,.store 5 (.t 4) (.t 57),none⟩,⟨none,.store 4 (.t 5) (.t 58),none⟩,⟨some 6,.mv (.c (.v (.int .i64 7))),none⟩]) .ret))))⟩
theorem a_nRecv_ok : cFunc Try.prog 35 = some a_nRecv := by kernel_rfl
def r_nRecv0 : List (Nat × Nat) := [(6, 8), (24, 56)]

def rcE (n : Nw) (to : Int) : Int := if nwB n = true then (if ptB to = true then (if fiR n to < 0 then 7 else 0) else 2) else 1
def rcLv (n : Nw) (k : Nat) : Lv := ⟨n.now, n.fifo, 2, 2, 0, (clone0 n).xs.take k ++ (clone0 n).xs.drop (k + 1), n.tm.take k ++ n.tm.drop (k + 1), n.fates, n.l.map (·.body)⟩
def rcZ (n : Nw) (to : Int) : Option Lv := if rcE n to = 0 then some (rcLv n (fiR n to).toNat) else none
def rcN (n : Nw) (to : Int) : Nw := if rcE n to = 0 then woN n (fiR n to).toNat else nw0
def rcM (n : Nw) (to : Int) : Ms := if rcE n to = 0 then n.l.getD (fiR n to).toNat dfMs else dfMs
def rcMA (n : Nw) (to : Int) (base : Nat) : AV := if rcE n to = 0 then .agg [.v (.int .i64 (rcM n to).fr), .v (.int .i64 (rcM n to).to), .v (.int .i64 (rcM n to).nu), .sl (base + (3 + n.l.length)) 1 0 (rcM n to).body.length] else .agg [.v (.int .i64 0), .v (.int .i64 0), .v (.int .i64 0), .v .zsl]
def rcR (n : Nw) (to : Int) (base : Nat) : List Row := if rcE n to = 0 then (rcLv n (fiR n to).toNat).rows base ++ [bdR (rcM n to).body] else []
theorem rcLv_ok {n : Nw} {k : Nat} : (rcLv n k).ok := by
 refine ⟨Nat.zero_le _, fun x hx => ?_⟩
 refine (clone0_ok n).bd x ?_
 rcases List.mem_append.1 hx with h | h
 ·exact List.mem_of_mem_take h
 ·exact List.mem_of_mem_drop h
theorem rcLv_nw {n : Nw} {k : Nat} : (rcLv n k).nw = woN n k := by
 have h : (clone0 n).xs.map (·.1) = n.l := congrArg Nw.l (clone0_nw n)
 unfold Lv.nw rcLv woN
 simp only [List.map_append, List.map_take, List.map_drop, h, List.drop_zero]
theorem rcZ_nw {n : Nw} {to : Int} : ownN (rcZ n to) = rcN n to := by
 unfold rcZ rcN
 split
 ·exact rcLv_nw
 ·rfl
theorem rcLv_rows {n : Nw} {k base : Nat} : (rcLv n k).rows base = .live 2 4 (((clone0 n).xs.map (lvE base)).take k ++ ((clone0 n).xs.map (lvE base)).drop (k + 1)) :: .live 2 1 (vs ((n.tm.map eI).take k) ++ vs ((n.tm.map eI).drop (k + 1))) :: .live 1 2 (vs (n.fates.map eFt)) :: fl n.l.length (clB n) := by
 have h := clone0_rows (n := n) (base := base)
 unfold Lv.rows at h ⊢
 have h2 := (List.cons.inj (List.cons.inj (List.cons.inj h).2).2).2
 have h3 : (rcLv n k).bd.map bdR = fl n.l.length (clB n) := h2
 rw [h3]
 unfold rcLv
 simp only [List.map_append, List.map_take, List.map_drop, vs_app]
set_option maxRecDepth 20000 in
set_option maxHeartbeats 8000000 in
theorem nRecv_own (n : Nw) (to : Int) (b l : List Row) : ACalls Try.prog 35 [.agg ((eNw n).map .v), .v (.int .i64 to)] b l
  (fun r b' l' => r = .tup [ownA (b.length + l.length) (rcZ n to), rcMA n to (b.length + l.length), .v (.int .i64 (rcE n to))] ∧ b' = b ∧ l' = l ++ rcR n to (b.length + l.length)) := by
 refine calls_kept a_nRecv_ok rfl (by decide) ?_
 intro B g hB hR hE hA
 simp only [KArgs] at hA
 have hV := nValid_spec n
 have hC := nclone_spec n
 unfold eNw at hV hC
 simp only [List.map_cons, List.map_nil] at hV hC
 have bad : rcE n to ≠ 0 → rcZ n to = none ∧ rcMA n to (b.length + l.length) = .agg [.v (.int .i64 0), .v (.int .i64 0), .v (.int .i64 0), .v .zsl] ∧ rcR n to (b.length + l.length) = [] := fun h => ⟨if_neg h, if_neg h, if_neg h⟩
 simp (disch := (first | decide | omega)) only [a_nRecv, hA, eNw, go_sem]
 refine ACalls.nxt (hV _ _) ?_
 cases h1 : nwB n
 ·have he : rcE n to = 1 := by unfold rcE; rw [h1]; rfl
  obtain ⟨b1, b2, b3⟩ := bad (by rw [he]; decide)
  rw [b1, b2, b3, he]
  simp (disch := (first | decide | omega)) only [hA, setFrom, cellsOf, go_sem]
  exact leave_pure (.inr rfl) (xs := [zNw, .agg [.v (.int .i64 0), .v (.int .i64 0), .v (.int .i64 0), .v .zsl], .v (.int .i64 1)]) (by simp (disch := (first | decide | omega)) only [resVs, resV, hA, zNw, go_sem]) (by simp only [one, zNw, lts.down, Nat.reduceLT, Nat.reduceAdd]) hR hB ⟨rfl, rfl, by simp⟩
 simp (disch := (first | decide | omega)) only [hA, go_sem]
 refine ACalls.nxt (nparty_spec to _ _) ?_
 cases h2 : ptB to
 ·have he : rcE n to = 2 := by unfold rcE; rw [if_pos h1, h2]; rfl
  obtain ⟨b1, b2, b3⟩ := bad (by rw [he]; decide)
  rw [b1, b2, b3, he]
  simp (disch := (first | decide | omega)) only [hA, setFrom, cellsOf, go_sem]
  exact leave_pure (.inr rfl) (xs := [zNw, .agg [.v (.int .i64 0), .v (.int .i64 0), .v (.int .i64 0), .v .zsl], .v (.int .i64 2)]) (by simp (disch := (first | decide | omega)) only [resVs, resV, hA, zNw, go_sem]) (by simp only [one, zNw, lts.down, Nat.reduceLT, Nat.reduceAdd]) hR hB ⟨rfl, rfl, by simp⟩
 have hv := nwB_iff.1 h1
 have htl := hv.l
 have hlen := hv.len
 simp (disch := (first | decide | omega)) only [hA, go_sem]
 refine loop_kept (ι := Nat) r_nRecv0 (fun i => [(24, .v (.int .i64 i))]) 3 (fun _ => [.live 0 5 [[.v (.int .i64 n.now), .v (.bool n.fifo), .v (.isl 4 (n.l.map eMs)), .v (.isl 1 (n.tm.map eI)), .v (.isl 2 (n.fates.map eFt))]], .live 0 5 [[.v (.int .i64 0), .v (.bool false), .v .zsl, .v .zsl, .v .zsl]], .live 0 4 [[.v (.int .i64 0), .v (.int .i64 0), .v (.int .i64 0), .v .zsl]]])
  (fun i => i ≤ n.l.length ∧ ∀ j, j < i → arB n to j = false) (fun i => n.l.length - i) 0 ⟨Nat.zero_le _, fun j hj => by omega⟩ (by (repeat (first | exact hE.mono oM | refine KLt.up ?_ kL))) (by ((try simp (disch := decide) only [hA, go_sem]) <;> exact kH)) (fun e => Weak.refl _ _ _) ?_
 rintro g1 hE1 hEE1 hg1 k ⟨hk, h0⟩
 by_cases hlt : k < n.l.length
 ·simp (disch := (first | decide | omega)) only [hA, hg1, List.length_map, go_sem]
  refine ACalls.nxt (narr_spec n k hlt oM to _ _) ?_
  cases q : arB n to k
  ·simp (disch := (first | decide | omega)) only [hA, hg1, go_sem]
   refine ⟨k + 1, ⟨hlt, fun j hj => ?_⟩, by simp only; omega, ?_⟩
   ·rcases Nat.lt_or_ge j k with hji | hji
    ·exact h0 j hji
    ·obtain rfl : j = k := by omega
     exact q
   ·exact Weak.kround (p := r_nRecv0) (k := 3) (by ((repeat refine (kAny_up rfl).trans ?_); exact hEE1)) (by ((try simp (disch := decide) only [hA, go_sem]) <;> exact kH)) rfl hE1 (by simp) kV hR kL
  have hfi : fiR n to = k := wIdx_at hlt h0 q
  have he : rcE n to = 0 := by unfold rcE; rw [if_pos h1, if_pos h2, hfi, if_neg oM]
  have hkk : (fiR n to).toNat = k := by rw [hfi]; rfl
  have hZ : rcZ n to = some (rcLv n k) := by unfold rcZ; rw [if_pos he, hkk]
  have hM : rcM n to = n.l[k] := by unfold rcM; rw [if_pos he, hkk, getD_at hlt]
  have hMA : rcMA n to (b.length + l.length) = .agg [.v (.int .i64 n.l[k].fr), .v (.int .i64 n.l[k].to), .v (.int .i64 n.l[k].nu), .sl (b.length + l.length + (3 + n.l.length)) 1 0 n.l[k].body.length] := by unfold rcMA; rw [if_pos he, hM]
  have hRR : rcR n to (b.length + l.length) = (rcLv n k).rows (b.length + l.length) ++ [bdR n.l[k].body] := by unfold rcR; rw [if_pos he, hkk, hM]
  rw [hZ, hMA, hRR, he]
  have hmg := eMs_get hlt
  simp (disch := (first | decide | omega)) only [hA, hg1, hmg, List.length_map, go_sem]
  refine ACalls.nxt (ncop_spec n.l[k] (hv.s.body _ (List.getElem_mem hlt)) _ _) ?_
  simp (disch := (first | decide | omega)) only [hA, hg1, setFrom, cellsOf, go_sem]
  refine ACalls.nxt (hC hv.s _ _) ?_
  have hxl : (clone0 n).xs.length = n.l.length := fl_len
  have hav : ∀ base, (clone0 n).av base = .agg [.v (.int .i64 n.now), .v (.bool n.fifo), .sl base 1 0 n.l.length, .sl (base + 1) 1 0 n.tm.length, .sl (base + 2) 1 0 n.fates.length] := fun base => by
   unfold Lv.av; rw [hxl]; rfl
  have e1 : B.length + 5 + 1 = B.length + 6 := rfl
  have e2 : B.length + 5 + 2 = B.length + 7 := rfl
  have hrw := clone0_rows (n := n) (base := B.length + 5)
  simp (disch := (first | decide | omega)) only [hA, hg1, hav, hrw, e1, e2, setFrom, cellsOf, go_sem]
  have hD := fun b l hid => delM_run (B.length + 5) 1 k ((clone0 n).xs.map (lvE (B.length + 5))) b l hid (by rw [List.length_map, hxl]; exact hlt)
  simp only [List.length_map, hxl] at hD
  refine ACalls.nxt (hD _ _ (by rw [List.getElem?_append_right oM, Nat.add_sub_cancel_left]; rfl)) ?_
  simp (disch := (first | decide | omega)) only [hA, hg1, setFrom, cellsOf, go_sem]
  have hI := fun b l hid => delI_run (B.length + 6) 1 k (vs (n.tm.map eI)) b l hid (by rw [vs_len, List.length_map]; omega)
  simp only [List.length_map, vs_len] at hI
  refine ACalls.nxt (hI _ _ (by rw [List.getElem?_append_right oM, Nat.add_sub_cancel_left]; rfl)) ?_
  simp (disch := (first | decide | omega)) only [hA, hg1, setFrom, cellsOf, go_sem]
  rw [← rcLv_rows]
  obtain ⟨σ, s1, s2⟩ : ∃ σ : Nat → Nat, (∀ j, j < n.l.length + 3 → σ j = j + 5) ∧ σ (n.l.length + 3) = 3 := ⟨fun j => if j < n.l.length + 3 then j + 5 else 3, fun j h => if_pos h, if_neg oM⟩
  have hbd : (rcLv n k).bd.length = n.l.length := by unfold rcLv; simp
  have hrl : ((rcLv n k).rows B.length).length = n.l.length + 3 := by unfold Lv.rows; simp [hbd]
  have hzx : (rcLv n k).xs.length = n.l.length - 1 := by
   unfold rcLv
   simp only [List.length_append, List.length_take, List.length_drop, hxl]; omega
  have hzt : (rcLv n k).tm.length = n.tm.length - 1 := by
   unfold rcLv
   simp only [List.length_append, List.length_take, List.length_drop]; omega
  have hza : (rcLv n k).av (B.length + 5) = .agg [.v (.int .i64 n.now), .v (.bool n.fifo), .sl (B.length + 5) 2 0 (n.l.length - 1), .sl (B.length + 6) 2 0 (n.tm.length - 1), .sl (B.length + 7) 1 0 n.fates.length] := by
   unfold Lv.av
   rw [hzx, hzt]
   rfl
  refine leave_ren (.inr rfl) (xs := [(rcLv n k).av (B.length + 5), .agg [.v (.int .i64 n.l[k].fr), .v (.int .i64 n.l[k].to), .v (.int .i64 n.l[k].nu), .sl (B.length + 3) 1 0 n.l[k].body.length], .v (.int .i64 0)]) (y := .tup [(rcLv n k).av B.length, .agg [.v (.int .i64 n.l[k].fr), .v (.int .i64 n.l[k].to), .v (.int .i64 n.l[k].nu), .sl (B.length + (3 + n.l.length)) 1 0 n.l[k].body.length], .v (.int .i64 0)]) (l' := (rcLv n k).rows B.length ++ [bdR n.l[k].body]) (by simp (disch := (first | decide | omega)) only [resVs, resV, hA, hg1, hza, go_sem]) (m := n.l.length + 4) (by rw [List.length_append, hrl]; rfl) σ (fun a c ha hc h => ?_) (fun j r' h => ?_) ?_ hR hB ⟨by rw [hB, List.length_append]; rfl, rfl, by rw [hB, List.length_append]⟩
  ·by_cases h1 : a < n.l.length + 3 <;> by_cases h2 : c < n.l.length + 3
   ·rw [s1 a h1, s1 c h2] at h; omega
   ·rw [s1 a h1, show c = n.l.length + 3 by omega, s2] at h; omega
   ·rw [s1 c h2, show a = n.l.length + 3 by omega, s2] at h; omega
   ·omega
  ·by_cases hj : j < n.l.length + 3
   ·rw [List.getElem?_append_left oM] at h
    have key : ∀ pre : List Row, pre.length = 5 → ∃ r, (pre ++ (rcLv n k).rows (B.length + 5))[σ j]? = some r ∧ RnR B.length (n.l.length + 4) σ r r' := fun pre hp => by
     have := Lv.rnR (z := rcLv n k) rcLv_ok (n := B.length) (s := 5) (m := n.l.length + 4) oM (σ := σ) (fun j hj => s1 j oM) (pre := pre) (junk := []) hp j r' h
     rwa [List.append_nil] at this
    exact key [_, _, _, _, _] rfl
   ·have hl := (List.getElem?_eq_some_iff.1 h).1
    rw [List.length_append, hrl] at hl
    have hl : j < n.l.length + 3 + 1 := hl
    obtain rfl : j = n.l.length + 3 := by omega
    rw [List.getElem?_append_right oM, hrl, Nat.sub_self] at h
    cases h
    rw [s2]
    exact ⟨_, rfl, RnR.plain⟩
  ·refine Rn.tupL (.cons (Lv.rnA oM (fun j hj => s1 j oM)) (.cons (Rn.aggL (.cons (.v _) (.cons (.v _) (.cons (.v _) (.cons ?_ .nil))))) (.cons (.v _) .nil)))
   exact Rn.slE (by rw [Nat.add_comm 3]; exact s2) oM
 ·obtain rfl : k = n.l.length := by omega
  have hfi : fiR n to = -1 := wIdx_none h0
  have he : rcE n to = 7 := by unfold rcE; rw [if_pos h1, if_pos h2, hfi]; rfl
  obtain ⟨b1, b2, b3⟩ := bad (by rw [he]; decide)
  rw [b1, b2, b3, he]
  simp (disch := (first | decide | omega)) only [hA, hg1, setFrom, cellsOf, go_sem]
  exact leave_pure (.inr rfl) (xs := [zNw, .agg [.v (.int .i64 0), .v (.int .i64 0), .v (.int .i64 0), .v .zsl], .v (.int .i64 7)]) (by simp (disch := (first | decide | omega)) only [resVs, resV, hA, hg1, zNw, go_sem]) (by simp only [one, zNw, lts.down, Nat.reduceLT, Nat.reduceAdd]) hR hB ⟨rfl, rfl, by simp⟩
theorem rcMA_dv {n : Nw} {to : Int} {base : Nat} : Dv base (rcR n to base) (rcMA n to base) (.agg ((eMs (rcM n to)).map .v)) := by
 by_cases he : rcE n to = 0
 ·unfold rcMA rcR
  rw [if_pos he, if_pos he]
  unfold eMs
  refine Dv.aggL (.cons (.v _) (.cons (.v _) (.cons (.v _) (.cons ?_ .nil))))
  refine Dv.slV (rows := (rcM n to).body.map eI) ?_ (by simp)
  have hrl : ((rcLv n (fiR n to).toNat).rows base).length = 3 + n.l.length := by unfold Lv.rows rcLv; simp; omega
  rw [List.getElem?_append_right oM, hrl, Nat.sub_self]
  rfl
 ·unfold rcMA rcM
  rw [if_neg he, if_neg he]
  exact Dv.aggL (.cons (.v _) (.cons (.v _) (.cons (.v _) (.cons (.z 1) .nil))))
theorem rcZ_dv {n : Nw} {to : Int} {base : Nat} : Dv base (rcR n to base) (ownA base (rcZ n to)) (nwA (rcN n to)) := by
 rw [← rcZ_nw]
 by_cases he : rcE n to = 0
 ·unfold rcZ rcR
  rw [if_pos he, if_pos he]
  exact (Lv.dv rcLv_ok base).more _
 ·unfold rcZ
  rw [if_neg he]
  exact zNw_dv
theorem nRecv_spec (n : Nw) (to : Int) (b l : List Row) : ACalls Try.prog 35 [.agg ((eNw n).map .v), .v (.int .i64 to)] b l
  (fun r b' l' => r = .tup [nwA (rcN n to), .agg ((eMs (rcM n to)).map .v), .v (.int .i64 (rcE n to))] ∧ b' = b ∧ l' = l) :=
 ACalls.deep (Dv.tupL (.cons rcZ_dv (.cons rcMA_dv (.cons (.v _) .nil)))) (nRecv_own n to b l)
end Go.Proofs.Ytilcmenglgdljaa
