/- Texts of one proof, laid together: VU, MS, VA, HD, VD, VH. No condition. -/
import Derived.Test.YtanblnhnfkeffaaDT9
import Derived.Test.YtanblnhnfkeffaaDT10
import Derived.Test.YtanblnhnfkeffaaDT7
import Derived.Test.YtanblnhnfkeffaaDT2
import Derived.Test.YtanblnhnfkeffaaDT6
import Derived.Test.YtanblnhnfkeffaaDT8
import Derived.Test.YtanblnhnfkeffaaDT5
namespace Go.Proofs.Ytanblnhnfkeffaa
set_option linter.unusedVariables false
set_option linter.unusedSimpArgs false
attribute [local go_sem ↓] run_skip run_region run_draw run_both run_seq run_block run_exit run_ret run_cond atN_app seqC_normal seqC_exit seqC_ret seqQ_normal seqQ_exit seqQ_ret blkQ_normal blkQ_exit blkQ_ret runOps_nil runOps_cons runD_nil runD_cons grdO_true grdO_false grdD_true grdD_false ifC_true ifC_false opS_val opS_call opS_two opK_app dS_val dS_call dS_two dK_app kUp_same kUp_ne
attribute [local go_sem] rechks_nil rechks_cons rechk gcase_true gcase_false ex_val ex_val0 gd_none gd_some ev_t ev_c evs_nil evs_cons evo_some evo_none hget_at hget_first hsetB_at hsetB_first hsetL_at hsetL_first ofOpt_some aop aload astore aslice aappend aiaddr aiaddrA afaddr alen alenS acopy amm acall alookup amupdate alenM atostr comma keyEq apick binV binVB binVS isSh intOp strOp boolOp shOp eqC eqF and2 cellsOf setFrom fillA fillS rd rdI elems mk bounds AV.cell List.all_cons List.all_nil Bool.and_true Bool.true_and Bool.and_self List.length_cons List.length_nil List.length_append Nat.reduceAdd Nat.reduceSub Nat.reduceMul Nat.zero_add Nat.add_zero List.cons_append List.nil_append List.append_assoc List.append_nil List.getElem?_cons_zero List.getElem?_cons_succ List.getElem?_nil List.set_cons_zero List.set_cons_succ List.drop_zero List.drop_succ_cons List.take_zero List.take_succ_cons List.take_nil List.drop_nil List.map_cons List.map_nil Option.map_some if_true if_false Bool.false_eq_true and_self true_and and_true Nat.reduceLeDiff Nat.reduceLT Nat.le_refl Nat.reduceEqDiff ite_true ite_false beq_self_eq_true beq_true beq_false Bool.not_true Bool.not_false Bool.true_beq Bool.false_beq map_vs vs_len vs_get vs_take vs_drop vs_snoc1 vs_snoc2 vs_snoc3 vs_snoc5 vs_set1 vs_set2 vs_rep wrap_id le_T lt_T le_F lt_F leI_T ltI_T leI_F ltI_F geI gtI get_T decide_true decide_false room List.getElem?_map List.length_map List.length_take Int.toNat_natCast Nat.min_def Nat.min_self nth_kOf put_kOf put_kNo kOv_cons kOv_nil KHas KArgs List.getElem_cons_zero List.getElem_cons_succ
theorem ACalls.next {P : Program} {f : Nat} {args : List AV} {b l B' L' : List Row} {x : AV} {K : AV → List Row → List Row → Prop} (h : ACalls P f args b l (fun r b' l' => r = x ∧ b' = B' ∧ l' = L')) (k : K x B' L') : ACalls P f args b l K := by
 refine ACalls_mono _ _ _ _ _ _ h ?_
 rintro r b' l' ⟨rfl, rfl, rfl⟩
 exact k
end Go.Proofs.Ytanblnhnfkeffaa
namespace Go.Proofs.Ytanblnhnfkeffaa
set_option linter.unusedVariables false
def eRw (r : List Int) : List IV := [.isl 1 (r.map eI)]
theorem tr_mat : TR Try.prog 94 1 (fun m : List (List Int) => [.isl 1 (m.map eRw)]) (fun m => m.length ≤ maxLen ∧ ∀ r ∈ m, r.length ≤ maxLen ∧ ∀ n ∈ r, (Lit.int .i64 n).wf = true) := tr_slice tr_ints Try.underlying94 (by kernel_rfl) (by decide)
theorem fl_next {α : Type} {n : Nat} {f : Nat → α} {x : α} (h : f n = x) : fl n f ++ [x] = fl (n + 1) f := by
 rw [fl_snoc]
 refine fl_congr (fun j hj => ?_)
 unfold fUp
 by_cases hj2 : j = n
 ·rw [if_pos hj2, hj2, h]
 ·rw [if_neg hj2]
end Go.Proofs.Ytanblnhnfkeffaa
namespace Go.Proofs.Ytanblnhnfkeffaa
set_option linter.unusedVariables false
set_option linter.unusedSimpArgs false
attribute [local go_sem ↓] run_skip run_region run_draw run_both run_seq run_block run_exit run_ret run_cond atN_app seqC_normal seqC_exit seqC_ret seqQ_normal seqQ_exit seqQ_ret blkQ_normal blkQ_exit blkQ_ret runOps_nil runOps_cons runD_nil runD_cons grdO_true grdO_false grdD_true grdD_false ifC_true ifC_false opS_val opS_call opS_two opK_app dS_val dS_call dS_two dK_app kUp_same kUp_ne
attribute [local go_sem] rechks_nil rechks_cons rechk gcase_true gcase_false ex_val ex_val0 gd_none gd_some ev_t ev_c evs_nil evs_cons evo_some evo_none hget_at hget_first hsetB_at hsetB_first hsetL_at hsetL_first ofOpt_some aop aload astore aslice aappend aiaddr aiaddrA afaddr alen alenS acopy amm acall alookup amupdate alenM atostr comma keyEq apick binV binVB binVS isSh intOp strOp boolOp shOp eqC eqF and2 cellsOf setFrom fillA fillS rd rdI elems mk bounds AV.cell List.all_cons List.all_nil Bool.and_true Bool.true_and Bool.and_self List.length_cons List.length_nil List.length_append Nat.reduceAdd Nat.reduceSub Nat.reduceMul Nat.zero_add Nat.add_zero List.cons_append List.nil_append List.append_assoc List.append_nil List.getElem?_cons_zero List.getElem?_cons_succ List.getElem?_nil List.set_cons_zero List.set_cons_succ List.drop_zero List.drop_succ_cons List.take_zero List.take_succ_cons List.take_nil List.drop_nil List.map_cons List.map_nil Option.map_some if_true if_false Bool.false_eq_true and_self true_and and_true Nat.reduceLeDiff Nat.reduceLT Nat.le_refl Nat.reduceEqDiff ite_true ite_false beq_self_eq_true beq_true beq_false Bool.not_true Bool.not_false Bool.true_beq Bool.false_beq map_vs vs_len vs_get vs_take vs_drop vs_snoc1 vs_snoc2 vs_snoc3 vs_snoc5 vs_set1 vs_set2 vs_rep wrap_id le_T lt_T le_F lt_F leI_T ltI_T leI_F ltI_F geI gtI get_T decide_true decide_false room List.getElem?_map List.length_map List.length_take Int.toNat_natCast Nat.min_def Nat.min_self nth_kOf put_kOf put_kNo kOv_cons kOv_nil KHas KArgs List.getElem_cons_zero List.getElem_cons_succ
noncomputable def vcs (t : Tr) (x : Nat × Nat) : List Int := fl t.length fun q => (vc t x q : Int)
theorem frz0_lt {m id ver sz : Nat} {rows : List (List IV)} {x : AV} (h : AVlt m x) (hm : m ≤ id) : frz0 id ver sz rows x = x := by
 cases h with
 | sl i v o n hi => simp only [frz0]; rw [if_neg oM]
 | _ => rfl
theorem frz_lt {m id ver sz : Nat} {rows : List (List IV)} {x : AV} (h : AVlt m x) (hm : m ≤ id) : frz id ver sz rows x = x := by
 cases h with
 | agg cs hc =>
   simp only [frz]
   congr 1
   rw [List.map_congr_left (fun c hcc => frz0_lt (hc c hcc) hm), List.map_id']
 | tup cs hc =>
   simp only [frz]
   congr 1
   rw [List.map_congr_left (fun c hcc => frz0_lt (hc c hcc) hm), List.map_id']
 | sl i v o n hi => exact frz0_lt (.sl i v o n hi) hm
 | _ => rfl
theorem KHas.frz {f : Nat → AV} {m id ver sz : Nat} {rows : List (List IV)} (hm : m ≤ id) : ∀ {ov : List (Nat × AV)}, KHas f ov → KOvLt m ov → KHas (fun n => frz id ver sz rows (f n)) ov
 | [], _, _ => trivial
 | (n, x) :: r, h, ho => ⟨by show Go.Proofs.Ytanblnhnfkeffaa.frz id ver sz rows (f n) = x; rw [h.1]; exact frz_lt ho.1 hm, KHas.frz hm h.2 ho.2⟩
theorem Weak.kroundF {N : Nat} {p : List (Nat × Nat)} {ov : List (Nat × AV)} {f g : Nat → AV} {b l l1 junk : List Row} {k i ver sz : Nat} {rows : List (List IV)} (hi : l[i]? = some (.live ver sz (vs rows))) (he : kAny p f = g) (h : KHas f ov) (hl : (l.set i (.dead ver)).map (rowMap (frz0 (b.length + i) ver sz rows)) = l1 ++ junk) (hE : KLt (b.length + k) g) (hk : k ≤ l1.length) (hki : l1.length ≤ i) (ho : KOvLt (b.length + l1.length) ov) (hb : RowsLt b.length b) (h1 : RowsLt (b.length + l1.length) l1) :
  Weak (kOf N f) b l (kOf N (kOv ov g)) b l1 := by
 have h2 := Weak.freezeR (e := kOf N f) (b := b) hi
 have h3 : (kOf N f).map (frz (b.length + i) ver sz rows) = kOf N (fun n => frz (b.length + i) ver sz rows (f n)) := by unfold kOf; rw [List.map_map]; rfl
 rw [h3] at h2
 refine h2.trans ?_
 refine Weak.kround (p := p) (k := k) ?_ (h.frz (m := b.length + l1.length) oM ho) hl hE hk ho hb h1
 rw [← he]
 funext n
 unfold kAny
 split
 ·rfl
 ·rename_i hn
  have hf : f n = g n := by rw [← he]; unfold kAny; rw [if_neg hn]
  show frz (b.length + i) ver sz rows (f n) = f n
  rw [hf]
  exact frz_lt (m := b.length + k) (id := b.length + i) (hE n) oM

noncomputable def stRow (t : Tr) (p n : Nat) : List (List IV) := fl n fun i => [.isl 1 ((vcs t (p, i + 1)).map eI)]
theorem frz0_v {id ver sz : Nat} {rows : List (List IV)} : (List.map (frz0 id ver sz rows) ∘ List.map AV.v) = List.map AV.v := by
 funext x; simp [frz0]
def a_exists : AFunc := ⟨2,34,[.tmp 4],(.seq (.region [⟨some 2,.box (.t 0),none⟩,⟨some 3,.box (.t 1),none⟩,⟨some 4,.mv (.c (.v (.bool false))),none⟩]) (.seq (.draw [⟨0,⟨some 5,.faddr 0 (.t 3),none⟩,[]⟩,⟨1,⟨some 6,.load none (.t 5),none⟩,[]⟩,⟨2,⟨some 7,.bin .geq (.t 6) (.c (.v (.int .i64 0))),none⟩,[]⟩,⟨3,⟨some 8,.mv (.t 7),none⟩,[]⟩,⟨4,⟨some 9,.faddr 0 (.t 3),some (8,true)⟩,[]⟩,⟨5,⟨some 10,.load none (.t 9),some (8,true)⟩,[]⟩,⟨6,⟨some 11,.faddr 0 (.t 2),some (8,true)⟩,[]⟩,⟨7,⟨some 12,.load none (.t 11),some (8,true)⟩,[]⟩,⟨8,⟨some 13,.len (.t 12),some (8,true)⟩,[]⟩,⟨9,⟨some 14,.bin .lss (.t 10) (.t 13),some (8,true)⟩,[]⟩,⟨10,⟨some 15,.pick (.t 8) (.t 14) (.c (.v (.bool false))),none⟩,[]⟩,⟨11,⟨some 16,.mv (.t 15),none⟩,[]⟩,⟨12,⟨some 17,.faddr 1 (.t 3),some (16,true)⟩,[]⟩,⟨13,⟨some 18,.load none (.t 17),some (16,true)⟩,[]⟩,⟨14,⟨some 19,.bin .geq (.t 18) (.c (.v (.int .i64 1))),some (16,true)⟩,[]⟩,⟨15,⟨some 20,.pick (.t 16) (.t 19) (.c (.v (.bool false))),none⟩,[]⟩,⟨16,⟨some 21,.mv (.t 20),none⟩,[]⟩,⟨17,⟨some 22,.faddr 1 (.t 3),some (21,true)⟩,[]⟩,⟨18,⟨some 23,.load none (.t 22),some (21,true)⟩,[]⟩,⟨19,⟨some 24,.faddr 0 (.t 2),some (21,true)⟩,[]⟩,⟨20,⟨some 25,.load none (.t 24),some (21,true)⟩,[]⟩,⟨21,⟨some 26,.faddr 0 (.t 3),some (21,true)⟩,[]⟩,⟨22,⟨some 27,.load none (.t 26),some (21,true)⟩,[]⟩,⟨23,⟨some 28,.iaddr 3 (.t 25) (.t 27),some (21,true)⟩,[]⟩,⟨24,⟨some 29,.faddr 2 (.t 28),some (21,true)⟩,[]⟩,⟨25,⟨some 30,.load none (.t 29),some (21,true)⟩,[]⟩,⟨26,⟨some 31,.len (.t 30),some (21,true)⟩,[]⟩,⟨27,⟨some 32,.bin .leq (.t 23) (.t 31),some (21,true)⟩,[]⟩,⟨28,⟨some 33,.pick (.t 21) (.t 32) (.c (.v (.bool false))),none⟩,[]⟩,⟨29,⟨some 4,.mv (.t 33),none⟩,[]⟩]) .ret))⟩
theorem a_exists_ok : cFunc Try.prog 178 = some a_exists := by kernel_rfl
def a_check : AFunc := ⟨2,21,[.tmp 4],(.seq (.region [⟨some 2,.box (.t 0),none⟩,⟨some 4,.mv (.c (.v (.int .i64 0))),none⟩]) (.seq (.seq (.region [⟨some 7,.load (some 1) (.t 2),none⟩,⟨some 8,.call (.c (.fn 15 [])) [(.t 7)],none⟩,⟨some 9,.not (.t 8),none⟩]) (.cond (.t 9) (.seq (.region [⟨some 4,.mv (.c (.v (.int .i64 1))),none⟩]) .ret) .skip)) (.seq (.seq (.region [⟨some 10,.mv (.t 1),none⟩,⟨some 11,.len (.t 10),none⟩,⟨some 12,.mv (.c (.v (.int .i64 0))),none⟩]) (.block 0 (.loop (.seq (.region [⟨some 13,.bin .lss (.t 12) (.t 11),none⟩]) (.seq (.cond (.t 13) .skip (.exit 0)) (.seq (.block 1 (.seq (.region [⟨some 14,.iaddr 2 (.t 10) (.t 12),none⟩,⟨some 15,.load (some 2) (.t 14),none⟩,⟨some 6,.alloc [(.v (.int .i64 0)),(.v (.int .i64 0))],none⟩,⟨none,.store 2 (.t 6) (.t 15),none⟩]) (.seq (.region [⟨some 16,.load (some 1) (.t 2),none⟩,⟨some 17,.load (some 2) (.t 6),none⟩,⟨some 18,.call (.c (.fn 178 [])) [(.t 16),(.t 17)],none⟩,⟨some 19,.not (.t 18),none⟩]) (.cond (.t 19) (.seq (.region [⟨some 4,.mv (.c (.v (.int .i64 2))),none⟩]) .ret) .skip)))) (.region [⟨some 20,.bin .add (.t 12) (.c (.v (.int .i64 1))),none⟩,⟨some 12,.mv (.t 20),none⟩]))))))) (.seq (.region [⟨some 4,.mv (.c (.v (.int .i64 0))),none⟩]) .ret))))⟩
theorem a_check_ok : cFunc Try.prog 137 = some a_check := by kernel_rfl
def r_check0 : List (Nat × Nat) := [(4, 4), (6, 6), (12, 20)]

def existsB (t : Tr) (a c : Int) : Bool := decide (0 ≤ a) && (decide (a < (t.length : Int)) && (decide (1 ≤ c) && decide (c ≤ ((evsOf t a.toNat).length : Int))))
theorem existsB_in {t : Tr} {a c : Int} (h : existsB t a c = true) : ∃ p i : Nat, a = p ∧ c = ((i + 1 : Nat) : Int) ∧ (p, i + 1) ∈ ids t := by
 simp only [existsB, Bool.and_eq_true, decide_eq_true_eq] at h
 obtain ⟨h1, h2, h3, h4⟩ := h
 refine ⟨a.toNat, c.toNat - 1, by omega, by omega, mem_ids2.2 ⟨by omega, by omega⟩⟩
theorem existsB_of {t : Tr} {p i : Nat} (h : (p, i + 1) ∈ ids t) : existsB t p ((i + 1 : Nat) : Int) = true := by
 obtain ⟨h1, h2⟩ := mem_ids2.1 h
 simp only [existsB, Bool.and_eq_true, decide_eq_true_eq, Int.toNat_natCast]
 omega
def idP (x : Int × Int) : AV := .agg [.v (.int .i64 x.1), .v (.int .i64 x.2)]
theorem exists_gen (k : Nat) (hk : cFunc Try.prog k = some a_exists) (t : Tr) (hS : Small t) (x : Int × Int) (b l : List Row) :
  ACalls Try.prog k [.agg [.v (eT t)], idP x] b l (fun r b' l' => r = .v (.bool (existsB t x.1 x.2)) ∧ b' = b ∧ l' = l) := by
 refine calls_kept hk rfl (by decide) ?_
 intro B g hB hR hE hA
 simp only [KArgs] at hA
 obtain ⟨a, c⟩ := x
 have hnp := hS.np
 by_cases h1 : 0 ≤ a
 ·have d1 := decide_eq_true h1
  have d1' : decide (a ≥ 0) = true := d1
  by_cases h2 : a < (t.length : Int)
  ·have d2 := decide_eq_true h2
   obtain ⟨p, rfl⟩ : ∃ p : Nat, a = p := ⟨a.toNat, by omega⟩
   have hp : p < t.length := by omega
   have hne := hS.ne _ (List.getElem_mem hp)
   by_cases h3 : 1 ≤ c
   ·have d3 := decide_eq_true h3
    have d3' : decide (c ≥ 1) = true := d3
    have he : existsB t p c = decide (c ≤ (t[p].evs.length : Int)) := by simp [existsB, h2, h3, evsOf_lt hp]
    rw [he]
    simp (disch := (first | decide | omega)) only [a_exists, idP, eT, hA, ePr, d1, d1', d2, d3, d3', List.length_map, go_sem]
    exact leave_pure (xs := [.v (.bool (decide (c ≤ (t[p].evs.length : Int))))]) (.inr rfl) (by simp (disch := (first | decide | omega)) only [resVs, resV, go_sem, hA]) kO hR hB ⟨rfl, rfl, rfl⟩
   ·have d3 := decide_eq_false h3
    have d3' : decide (c ≥ 1) = false := d3
    have he : existsB t p c = false := by simp [existsB, h3]
    rw [he]
    simp (disch := (first | decide | omega)) only [a_exists, idP, eT, hA, ePr, d1, d1', d2, d3, d3', List.length_map, go_sem]
    exact leave_pure (xs := [.v (.bool false)]) (.inr rfl) (by simp (disch := (first | decide | omega)) only [resVs, resV, go_sem, hA]) kO hR hB ⟨rfl, rfl, rfl⟩
  ·have d2 := decide_eq_false h2
   have he : existsB t a c = false := by simp [existsB, h2]
   rw [he]
   simp (disch := (first | decide | omega)) only [a_exists, idP, eT, hA, ePr, d1, d1', d2, List.length_map, go_sem]
   exact leave_pure (xs := [.v (.bool false)]) (.inr rfl) (by simp (disch := (first | decide | omega)) only [resVs, resV, go_sem, hA]) kO hR hB ⟨rfl, rfl, rfl⟩
 ·have d1 := decide_eq_false h1
  have d1' : decide (a ≥ 0) = false := d1
  have he : existsB t a c = false := by simp [existsB, h1]
  rw [he]
  simp (disch := (first | decide | omega)) only [a_exists, idP, eT, hA, ePr, d1, d1', List.length_map, go_sem]
  exact leave_pure (xs := [.v (.bool false)]) (.inr rfl) (by simp (disch := (first | decide | omega)) only [resVs, resV, go_sem, hA]) kO hR hB ⟨rfl, rfl, rfl⟩
theorem exists_spec (t : Tr) (hS : Small t) (x : Int × Int) (b l : List Row) :
  ACalls Try.prog 178 [.agg [.v (eT t)], idP x] b l (fun r b' l' => r = .v (.bool (existsB t x.1 x.2)) ∧ b' = b ∧ l' = l) := exists_gen _ a_exists_ok t hS x b l
noncomputable def chkE (t : Tr) (l : List (Int × Int)) : Int := if validL t = true then (if l.all (fun x => existsB t x.1 x.2) then 0 else 2) else 1
def eIdP (x : Int × Int) : List IV := [.int .i64 x.1, .int .i64 x.2]
theorem check_spec (t : Tr) (hS : Small t) (hN : Nm t) (v : List (Int × Int)) (hl : v.length ≤ 1000000) (b l : List Row) :
  ACalls Try.prog 137 [.agg [.v (eT t)], .v (.isl 2 (v.map eIdP))] b l (fun r b' l' => r = .v (.int .i64 (chkE t v)) ∧ b' = b ∧ l' = l) := by
 refine calls_kept a_check_ok rfl (by decide) ?_
 intro B g hB hR hE hA
 simp only [KArgs] at hA
 simp (disch := (first | decide | omega)) only [a_check, hA, go_sem]
 refine ACalls.nxt (valid_spec t hS hN _ _) ?_
 cases hval : validL t with
 | false =>
   simp (disch := (first | decide | omega)) only [hA, go_sem]
   exact leave_pure (xs := [.v (.int .i64 1)]) (.inr rfl) (by simp (disch := (first | decide | omega)) only [resVs, resV, go_sem, hA]) kO hR hB ⟨by unfold chkE; rw [hval]; rfl, rfl, rfl⟩
 | true =>
   simp (disch := (first | decide | omega)) only [hA, List.length_map, go_sem]
   refine loop_kept (ι := Nat) r_check0 (fun i => [(12, .v (.int .i64 i))]) 1 (fun i => [.live 0 1 [[.v (eT t)]]])
    (fun i => i ≤ v.length ∧ ∀ j (h : j < v.length), j < i → existsB t v[j].1 v[j].2 = true) (fun i => v.length - i) 0 ⟨Nat.zero_le _, fun j _ h => by omega⟩ (by (repeat (first | exact hE.mono oM | refine KLt.up ?_ kL))) (by ((try simp (disch := decide) only [hA, go_sem]) <;> exact kH)) (fun e => Weak.refl _ _ _) ?_
   rintro g1 hE1 hEE1 hg1 i ⟨hi, hbef⟩
   by_cases hil : i < v.length
   ·simp (disch := (first | decide | omega)) only [hA, hg1, eIdP, go_sem]
    refine ACalls.nxt (exists_spec t hS v[i] _ _) ?_
    cases hex : existsB t v[i].1 v[i].2 with
    | false =>
      simp (disch := (first | decide | omega)) only [hA, hg1, go_sem]
      have hall : (v.all fun x => existsB t x.1 x.2) = false := by
       rw [Bool.eq_false_iff]; intro h
       rw [List.all_eq_true] at h
       have := h _ (List.getElem_mem hil)
       rw [hex] at this; cases this
      exact leave_pure (xs := [.v (.int .i64 2)]) (.inr rfl) (by simp (disch := (first | decide | omega)) only [resVs, resV, go_sem, hA, hg1]) kO hR hB ⟨by unfold chkE; rw [hval, hall]; rfl, rfl, rfl⟩
    | true =>
      simp (disch := (first | decide | omega)) only [hA, hg1, go_sem]
      refine ⟨i + 1, ⟨hil, fun j hj h => ?_⟩, by simp only; omega, ?_⟩
      ·by_cases hji : j = i
       ·subst hji; exact hex
       ·exact hbef j hj oM
      ·exact Weak.kround (p := r_check0) (k := 1) (by ((repeat refine (kAny_up rfl).trans ?_); exact hEE1)) (by ((try simp (disch := decide) only [hA, go_sem]) <;> exact kH)) rfl hE1 (by simp) kV hR kL
   ·simp (disch := (first | decide | omega)) only [hA, hg1, go_sem]
    have hall : (v.all fun x => existsB t x.1 x.2) = true := by
     rw [List.all_eq_true]
     intro x hx
     obtain ⟨j, hj, rfl⟩ := List.getElem_of_mem hx
     exact hbef j hj oM
    exact leave_pure (xs := [.v (.int .i64 0)]) (.inr rfl) (by simp (disch := (first | decide | omega)) only [resVs, resV, go_sem, hA, hg1]) kO hR hB ⟨by unfold chkE; rw [hval, hall]; rfl, rfl, rfl⟩
theorem chkE_zero {t : Tr} {l : List (Int × Int)} : chkE t l = 0 ↔ validL t = true ∧ ∀ x ∈ l, existsB t x.1 x.2 = true := by
 unfold chkE
 cases validL t
 ·simp
 ·simp only [if_true, true_and]
  cases h : l.all (fun x => existsB t x.1 x.2) with
  | true => simp [List.all_eq_true.1 h]; intro a b hab; exact List.all_eq_true.1 h _ hab
  | false =>
    simp only [Bool.false_eq_true, if_false]
    constructor
    ·intro h2; simp at h2
    ·intro h2
     rw [List.all_eq_true.2 h2] at h; cases h
noncomputable def cR (t : Tr) (D : Nat → Nat) (p : Nat) : Row := .live (D p) 1 (vs (stRow t p (D p)))
section
variable {α : Type} {n : Nat} {C : Nat → α} {T : List α}
end
def a_IndP : AFunc := ⟨2,19,[.tmp 4],(.seq (.region [⟨some 4,.mv (.c (.v (.int .i64 0))),none⟩]) (.seq (.seq (.region [⟨some 6,.mv (.t 0),none⟩,⟨some 7,.len (.t 6),none⟩,⟨some 8,.mv (.c (.v (.int .i64 0))),none⟩]) (.block 0 (.loop (.seq (.region [⟨some 9,.bin .lss (.t 8) (.t 7),none⟩]) (.seq (.cond (.t 9) .skip (.exit 0)) (.seq (.block 1 (.seq (.region [⟨some 10,.mv (.t 8),none⟩,⟨some 5,.mv (.t 10),none⟩]) (.seq (.region [⟨some 11,.mv (.t 1),none⟩,⟨some 12,.mv (.t 0),none⟩,⟨some 13,.mv (.t 5),none⟩,⟨some 14,.iaddr 3 (.t 12) (.t 13),none⟩,⟨some 15,.load (some 3) (.t 14),none⟩,⟨some 16,.call (.t 11) [(.t 15)],none⟩]) (.cond (.t 16) (.seq (.region [⟨some 17,.mv (.t 5),none⟩,⟨some 4,.mv (.t 17),none⟩]) .ret) .skip)))) (.region [⟨some 18,.bin .add (.t 8) (.c (.v (.int .i64 1))),none⟩,⟨some 8,.mv (.t 18),none⟩]))))))) (.seq (.region [⟨some 4,.mv (.c (.v (.int .i64 (-1)))),none⟩]) .ret)))⟩
theorem a_IndP_ok : cFunc Try.prog 160 = some a_IndP := by kernel_rfl
def r_IndP0 : List (Nat × Nat) := [(4, 5), (8, 18)]
def a_ConP : AFunc := ⟨2,9,[.tmp 4],(.seq (.region [⟨some 4,.mv (.c (.v (.bool false))),none⟩]) (.seq (.region [⟨some 5,.mv (.t 0),none⟩,⟨some 6,.mv (.t 1),none⟩,⟨some 7,.call (.c (.fn 160 [])) [(.t 5),(.t 6)],none⟩,⟨some 8,.bin .geq (.t 7) (.c (.v (.int .i64 0))),none⟩,⟨some 4,.mv (.t 8),none⟩]) .ret))⟩
theorem a_ConP_ok : cFunc Try.prog 101 = some a_ConP := by kernel_rfl
def a_IndE : AFunc := ⟨2,19,[.tmp 4],(.seq (.region [⟨some 4,.mv (.c (.v (.int .i64 0))),none⟩]) (.seq (.seq (.region [⟨some 6,.mv (.t 0),none⟩,⟨some 7,.len (.t 6),none⟩,⟨some 8,.mv (.c (.v (.int .i64 0))),none⟩]) (.block 0 (.loop (.seq (.region [⟨some 9,.bin .lss (.t 8) (.t 7),none⟩]) (.seq (.cond (.t 9) .skip (.exit 0)) (.seq (.block 1 (.seq (.region [⟨some 10,.mv (.t 8),none⟩,⟨some 5,.mv (.t 10),none⟩]) (.seq (.region [⟨some 11,.mv (.t 1),none⟩,⟨some 12,.mv (.t 0),none⟩,⟨some 13,.mv (.t 5),none⟩,⟨some 14,.iaddr 5 (.t 12) (.t 13),none⟩,⟨some 15,.load (some 5) (.t 14),none⟩,⟨some 16,.call (.t 11) [(.t 15)],none⟩]) (.cond (.t 16) (.seq (.region [⟨some 17,.mv (.t 5),none⟩,⟨some 4,.mv (.t 17),none⟩]) .ret) .skip)))) (.region [⟨some 18,.bin .add (.t 8) (.c (.v (.int .i64 1))),none⟩,⟨some 8,.mv (.t 18),none⟩]))))))) (.seq (.region [⟨some 4,.mv (.c (.v (.int .i64 (-1)))),none⟩]) .ret)))⟩
theorem a_IndE_ok : cFunc Try.prog 141 = some a_IndE := by kernel_rfl
def r_IndE0 : List (Nat × Nat) := [(4, 5), (8, 18)]
def a_ConE : AFunc := ⟨2,9,[.tmp 4],(.seq (.region [⟨some 4,.mv (.c (.v (.bool false))),none⟩]) (.seq (.region [⟨some 5,.mv (.t 0),none⟩,⟨some 6,.mv (.t 1),none⟩,⟨some 7,.call (.c (.fn 141 [])) [(.t 5),(.t 6)],none⟩,⟨some 8,.bin .geq (.t 7) (.c (.v (.int .i64 0))),none⟩,⟨some 4,.mv (.t 8),none⟩]) .ret))⟩
theorem a_ConE_ok : cFunc Try.prog 75 = some a_ConE := by kernel_rfl

theorem indexP_spec (v : List (Pr)) (k : Nat) (caps : List AV) (p : Nat → Bool) (hn : v.length ≤ 1000000) (b l : List Row)
  (hp : ∀ (i : Nat) (h : i < v.length), ACalls Try.prog k (.agg ((ePr v[i]).map .v) :: caps) (b ++ l) [] (fun r b' l' => r = .v (.bool (p i)) ∧ b' = b ++ l ∧ l' = [])) :
  ACalls Try.prog 160 [.v (.isl 3 (v.map ePr)), .fn k caps] b l (fun r b' l' => r = .v (.int .i64 (firstP p v.length)) ∧ b' = b ∧ l' = l) := by
 refine calls_kept a_IndP_ok rfl (by decide) ?_
 intro B g hB hR hE hA
 simp only [KArgs] at hA
 simp (disch := decide) only [a_IndP, hA, List.length_map, go_sem]
 refine loop_kept (ι := Nat) r_IndP0 (fun i => [(8, .v (.int .i64 i))]) 0 (fun _ => [])
  (fun i => i ≤ v.length ∧ ∀ j, j < i → p j = false) (fun i => v.length - i) 0 ⟨Nat.zero_le _, fun j hj => by omega⟩ (by (repeat (first | exact hE.mono oM | refine KLt.up ?_ kL))) (by ((try simp (disch := decide) only [hA, go_sem]) <;> exact kH)) (fun e => Weak.refl _ _ _) ?_
 rintro g1 hE1 hEE1 hg1 i ⟨hi, h0⟩
 by_cases hlt : i < v.length
 ·have hpi0 := hp i hlt
  try simp only [ePr, List.map_cons, List.map_nil] at hpi0
  simp (disch := (first | decide | omega)) only [hA, hg1, ePr, List.length_map, go_sem]
  refine ACalls_mono _ _ _ _ _ _ (hB ▸ hpi0) ?_
  rintro r b' l' ⟨rfl, rfl, rfl⟩
  cases hpi : p i
  ·simp (disch := (first | decide | omega)) only [hA, hg1, hpi, go_sem]
   refine ⟨i + 1, ⟨hlt, fun j hj => ?_⟩, by simp only; omega, ?_⟩
   ·rcases Nat.lt_or_ge j i with hji | hji
    ·exact h0 j hji
    ·have : j = i := by omega
     rw [this]; exact hpi
   exact Weak.kround (p := r_IndP0) (k := 0) (by ((repeat refine (kAny_up rfl).trans ?_); exact hEE1)) (by ((try simp (disch := decide) only [hA, go_sem]) <;> exact kH)) rfl hE1 (by simp) kV hR kL
  ·simp (disch := (first | decide | omega)) only [hA, hg1, hpi, go_sem]
   exact leave_pure (xs := [.v (.int .i64 i)]) (.inr rfl) (by simp (disch := (first | decide | omega)) only [resVs, resV, go_sem, hA, hg1]) kO hR hB ⟨by rw [firstP_at hlt h0 hpi]; rfl, rfl, rfl⟩
 ·simp (disch := (first | decide | omega)) only [hA, hg1, List.length_map, go_sem]
  obtain rfl : i = v.length := by omega
  exact leave_pure (xs := [.v (.int .i64 (-1))]) (.inr rfl) (by simp (disch := (first | decide | omega)) only [resVs, resV, go_sem, hA, hg1]) kO hR hB ⟨by rw [firstP_none h0]; rfl, rfl, rfl⟩
theorem containsP_spec (v : List (Pr)) (k : Nat) (caps : List AV) (p : Nat → Bool) (hn : v.length ≤ 1000000) (b l : List Row)
  (hp : ∀ (i : Nat) (h : i < v.length), ACalls Try.prog k (.agg ((ePr v[i]).map .v) :: caps) (b ++ l) [] (fun r b' l' => r = .v (.bool (p i)) ∧ b' = b ++ l ∧ l' = [])) :
  ACalls Try.prog 101 [.v (.isl 3 (v.map ePr)), .fn k caps] b l (fun r b' l' => r = .v (.bool ((List.range v.length).any p)) ∧ b' = b ∧ l' = l) := by
 refine calls_kept a_ConP_ok rfl (by decide) ?_
 intro B g hB hR hE hA
 simp only [KArgs] at hA
 simp (disch := decide) only [a_ConP, hA, go_sem]
 refine ACalls.nxt (indexP_spec v k caps p hn B [] (by rw [List.append_nil, hB]; exact hp)) ?_
 simp (disch := decide) only [hA, go_sem]
 exact leave_pure (xs := [.v (.bool (decide (0 ≤ firstP p v.length)))]) (.inr rfl) (by simp (disch := (first | decide | omega)) only [resVs, resV, go_sem, hA]) kO hR hB ⟨by rw [firstP_ge]; rfl, rfl, rfl⟩

theorem indexE_spec (v : List (Ev)) (k : Nat) (caps : List AV) (p : Nat → Bool) (hn : v.length ≤ 1000000) (b l : List Row)
  (hp : ∀ (i : Nat) (h : i < v.length), ACalls Try.prog k (.agg ((eEv v[i]).map .v) :: caps) (b ++ l) [] (fun r b' l' => r = .v (.bool (p i)) ∧ b' = b ++ l ∧ l' = [])) :
  ACalls Try.prog 141 [.v (.isl 5 (v.map eEv)), .fn k caps] b l (fun r b' l' => r = .v (.int .i64 (firstP p v.length)) ∧ b' = b ∧ l' = l) := by
 refine calls_kept a_IndE_ok rfl (by decide) ?_
 intro B g hB hR hE hA
 simp only [KArgs] at hA
 simp (disch := decide) only [a_IndE, hA, List.length_map, go_sem]
 refine loop_kept (ι := Nat) r_IndE0 (fun i => [(8, .v (.int .i64 i))]) 0 (fun _ => [])
  (fun i => i ≤ v.length ∧ ∀ j, j < i → p j = false) (fun i => v.length - i) 0 ⟨Nat.zero_le _, fun j hj => by omega⟩ (by (repeat (first | exact hE.mono oM | refine KLt.up ?_ kL))) (by ((try simp (disch := decide) only [hA, go_sem]) <;> exact kH)) (fun e => Weak.refl _ _ _) ?_
 rintro g1 hE1 hEE1 hg1 i ⟨hi, h0⟩
 by_cases hlt : i < v.length
 ·have hpi0 := hp i hlt
  try simp only [eEv, List.map_cons, List.map_nil] at hpi0
  simp (disch := (first | decide | omega)) only [hA, hg1, eEv, List.length_map, go_sem]
  refine ACalls_mono _ _ _ _ _ _ (hB ▸ hpi0) ?_
  rintro r b' l' ⟨rfl, rfl, rfl⟩
  cases hpi : p i
  ·simp (disch := (first | decide | omega)) only [hA, hg1, hpi, go_sem]
   refine ⟨i + 1, ⟨hlt, fun j hj => ?_⟩, by simp only; omega, ?_⟩
   ·rcases Nat.lt_or_ge j i with hji | hji
    ·exact h0 j hji
    ·have : j = i := by omega
     rw [this]; exact hpi
   exact Weak.kround (p := r_IndE0) (k := 0) (by ((repeat refine (kAny_up rfl).trans ?_); exact hEE1)) (by ((try simp (disch := decide) only [hA, go_sem]) <;> exact kH)) rfl hE1 (by simp) kV hR kL
  ·simp (disch := (first | decide | omega)) only [hA, hg1, hpi, go_sem]
   exact leave_pure (xs := [.v (.int .i64 i)]) (.inr rfl) (by simp (disch := (first | decide | omega)) only [resVs, resV, go_sem, hA, hg1]) kO hR hB ⟨by rw [firstP_at hlt h0 hpi]; rfl, rfl, rfl⟩
 ·simp (disch := (first | decide | omega)) only [hA, hg1, List.length_map, go_sem]
  obtain rfl : i = v.length := by omega
  exact leave_pure (xs := [.v (.int .i64 (-1))]) (.inr rfl) (by simp (disch := (first | decide | omega)) only [resVs, resV, go_sem, hA, hg1]) kO hR hB ⟨by rw [firstP_none h0]; rfl, rfl, rfl⟩
theorem containsE_spec (v : List (Ev)) (k : Nat) (caps : List AV) (p : Nat → Bool) (hn : v.length ≤ 1000000) (b l : List Row)
  (hp : ∀ (i : Nat) (h : i < v.length), ACalls Try.prog k (.agg ((eEv v[i]).map .v) :: caps) (b ++ l) [] (fun r b' l' => r = .v (.bool (p i)) ∧ b' = b ++ l ∧ l' = [])) :
  ACalls Try.prog 75 [.v (.isl 5 (v.map eEv)), .fn k caps] b l (fun r b' l' => r = .v (.bool ((List.range v.length).any p)) ∧ b' = b ∧ l' = l) := by
 refine calls_kept a_ConE_ok rfl (by decide) ?_
 intro B g hB hR hE hA
 simp only [KArgs] at hA
 simp (disch := decide) only [a_ConE, hA, go_sem]
 refine ACalls.nxt (indexE_spec v k caps p hn B [] (by rw [List.append_nil, hB]; exact hp)) ?_
 simp (disch := decide) only [hA, go_sem]
 exact leave_pure (xs := [.v (.bool (decide (0 ≤ firstP p v.length)))]) (.inr rfl) (by simp (disch := (first | decide | omega)) only [resVs, resV, go_sem, hA]) kO hR hB ⟨by rw [firstP_ge]; rfl, rfl, rfl⟩

end Go.Proofs.Ytanblnhnfkeffaa
