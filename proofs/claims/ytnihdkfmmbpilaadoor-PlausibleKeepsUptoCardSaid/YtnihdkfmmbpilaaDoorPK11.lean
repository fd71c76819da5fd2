/- Texts of one proof, laid together: VU, VS, VA, VB, HB, HC, HD, VD, VE, VH. No condition. -/
import Derived.Test.YtnihdkfmmbpilaaDoorPK9
import Derived.Test.YtnihdkfmmbpilaaDoorPK6
import Derived.Test.YtnihdkfmmbpilaaDoorPK8
import Derived.Test.YtnihdkfmmbpilaaDoorPK5
import Derived.Test.YtnihdkfmmbpilaaDoorPK2
import Derived.Test.YtnihdkfmmbpilaaDoorPK10
namespace Go.Proofs.YtnihdkfmmbpilaaDoor
set_option linter.unusedVariables false
set_option linter.unusedSimpArgs false
attribute [local go_sem ↓] run_skip run_region run_draw run_both run_seq run_block run_exit run_ret run_cond atN_app seqC_normal seqC_exit seqC_ret seqQ_normal seqQ_exit seqQ_ret blkQ_normal blkQ_exit blkQ_ret runOps_nil runOps_cons runD_nil runD_cons grdO_true grdO_false grdD_true grdD_false ifC_true ifC_false opS_val opS_call opS_two opK_app dS_val dS_call dS_two dK_app kUp_same kUp_ne
attribute [local go_sem] rechks_nil rechks_cons rechk gcase_true gcase_false ex_val ex_val0 gd_none gd_some ev_t ev_c evs_nil evs_cons evo_some evo_none hget_at hget_first hsetB_at hsetB_first hsetL_at hsetL_first ofOpt_some aop aload astore aslice aappend aiaddr aiaddrA afaddr alen alenS acopy amm acall alookup amupdate alenM atostr aappz comma keyEq apick binV binVB binVS isSh intOp strOp boolOp shOp eqC eqF and2 cellsOf setFrom fillA fillS rd rdI elems mk bounds AV.cell List.all_cons List.all_nil Bool.and_true Bool.true_and Bool.and_self List.length_cons List.length_nil List.length_append Nat.reduceAdd Nat.reduceSub Nat.reduceMul Nat.zero_add Nat.add_zero List.cons_append List.nil_append List.append_assoc List.append_nil List.getElem?_cons_zero List.getElem?_cons_succ List.getElem?_nil List.set_cons_zero List.set_cons_succ List.drop_zero List.drop_succ_cons List.take_zero List.take_succ_cons List.take_nil List.drop_nil List.map_cons List.map_nil Option.map_some if_true if_false Bool.false_eq_true and_self true_and and_true Nat.reduceLeDiff Nat.reduceLT Nat.le_refl Nat.reduceEqDiff ite_true ite_false beq_self_eq_true beq_true beq_false Bool.not_true Bool.not_false Bool.true_beq Bool.false_beq map_vs vs_len vs_get vs_take vs_drop vs_snoc1 vs_snoc2 vs_snoc3 vs_snoc5 vs_set1 vs_set2 vs_rep wrap_id le_T lt_T le_F lt_F leI_T ltI_T leI_F ltI_F geI gtI get_T decide_true decide_false room List.getElem?_map List.length_map List.length_take Int.toNat_natCast Nat.min_def Nat.min_self nth_kOf put_kOf put_kNo kOv_cons kOv_nil KHas KArgs List.getElem_cons_zero List.getElem_cons_succ
theorem ACalls.next {P : Program} {f : Nat} {args : List AV} {b l B' L' : List Row} {x : AV} {K : AV → List Row → List Row → Prop} (h : ACalls P f args b l (fun r b' l' => r = x ∧ b' = B' ∧ l' = L')) (k : K x B' L') : ACalls P f args b l K := by
 refine ACalls_mono _ _ _ _ _ _ h ?_
 rintro r b' l' ⟨rfl, rfl, rfl⟩
 exact k
def joTo (v w : List Int) (i : Nat) : List Int := (joinV v w).take i ++ v.drop i
theorem joTo_len {v w : List Int} (h : v.length = w.length) (i : Nat) (hi : i ≤ v.length) : (joTo v w i).length = v.length := by
 unfold joTo; rw [List.length_append, List.length_take, List.length_drop, joinV_len h]; omega
theorem joTo_zero (v w : List Int) : joTo v w 0 = v := by simp [joTo]
theorem joTo_all {v w : List Int} (h : v.length = w.length) : joTo v w v.length = joinV v w := by
 unfold joTo; rw [List.take_of_length_le (by rw [joinV_len h]; exact Nat.le_refl _), List.drop_length, List.append_nil]
theorem joTo_get {v w : List Int} (h : v.length = w.length) {i : Nat} (hi : i < v.length) (h2 : i < (joTo v w i).length) : (joTo v w i)[i] = v[i] := by
 simp only [joTo]
 rw [List.getElem_append_right (by rw [List.length_take, joinV_len h]; omega)]
 simp [joinV_len h, Nat.min_eq_left (Nat.le_of_lt hi)]
theorem joTo_set {v w : List Int} (h : v.length = w.length) {i : Nat} (hi : i < v.length) (hw : i < w.length) : ((joTo v w i).map eI).set i [.int .i64 (max v[i] w[i])] = (joTo v w (i + 1)).map eI := by
 rw [show [IV.int .i64 (max v[i] w[i])] = eI (max v[i] w[i]) from rfl, ← List.map_set]
 congr 1
 refine ext_getD (by rw [List.length_set, joTo_len h _ oM, joTo_len h _ hi]) (fun j hj => ?_)
 rw [List.length_set, joTo_len h _ oM] at hj
 have e : ∀ k, k ≤ v.length → ∀ j, j < v.length → (joTo v w k).getD j 0 = if j < k then max (v.getD j 0) (w.getD j 0) else v.getD j 0 := by
  intro k hk j hj
  unfold joTo
  by_cases hjk : j < k
  ·rw [if_pos hjk, ← joinV_get h hj]
   simp only [List.getD_eq_getElem?_getD]
   rw [List.getElem?_append_left (by rw [List.length_take, joinV_len h]; omega), List.getElem?_take_of_lt hjk]
  ·rw [if_neg hjk]
   simp only [List.getD_eq_getElem?_getD]
   rw [List.getElem?_append_right (by rw [List.length_take, joinV_len h]; omega), List.getElem?_drop, List.length_take, joinV_len h]
   congr 2; omega
 rw [e (i + 1) hi j hj]
 by_cases hij : i = j
 ·subst hij
  rw [if_pos oM, getD_at (by rw [List.length_set, joTo_len h _ oM]; exact hi), getD_at hi, getD_at hw]
  simp
 ·rw [getD_set_ne hij, e i oM j hj]
  by_cases hlt : j < i
  ·rw [if_pos hlt, if_pos oM]
  ·rw [if_neg hlt, if_neg oM]
noncomputable def vcs (t : Tr) (x : Nat × Nat) : List Int := fl t.length fun q => (vc t x q : Int)
theorem frz0_lt {m id ver sz : Nat} {rows : List (List IV)} {x : AV} (h : AVlt m x) (hm : m ≤ id) : frz0 id ver sz rows x = x := by
 cases h with
 | sl i v o n hi => simp only [frz0]; rw [if_neg oM]
 | _ => rfl
theorem frz_lt {m id ver sz : Nat} {rows : List (List IV)} {x : AV} (h : AVlt m x) (hm : m ≤ id) : frz id ver sz rows x = x := by
 cases h with
 | agg cs hc =>
   simp only [frz]
   congr 1
   rw [List.map_congr_left (fun c hcc => frz0_lt (hc c hcc) hm), List.map_id']
 | tup cs hc =>
   simp only [frz]
   congr 1
   rw [List.map_congr_left (fun c hcc => frz0_lt (hc c hcc) hm), List.map_id']
 | sl i v o n hi => exact frz0_lt (.sl i v o n hi) hm
 | _ => rfl
theorem KHas.frz {f : Nat → AV} {m id ver sz : Nat} {rows : List (List IV)} (hm : m ≤ id) : ∀ {ov : List (Nat × AV)}, KHas f ov → KOvLt m ov → KHas (fun n => frz id ver sz rows (f n)) ov
 | [], _, _ => trivial
 | (n, x) :: r, h, ho => ⟨by show Go.Proofs.YtnihdkfmmbpilaaDoor.frz id ver sz rows (f n) = x; rw [h.1]; exact frz_lt ho.1 hm, KHas.frz hm h.2 ho.2⟩
theorem Weak.kroundF {N : Nat} {p : List (Nat × Nat)} {ov : List (Nat × AV)} {f g : Nat → AV} {b l l1 junk : List Row} {k i ver sz : Nat} {rows : List (List IV)} (hi : l[i]? = some (.live ver sz (vs rows))) (he : kAny p f = g) (h : KHas f ov) (hl : (l.set i (.dead ver)).map (rowMap (frz0 (b.length + i) ver sz rows)) = l1 ++ junk) (hE : KLt (b.length + k) g) (hk : k ≤ l1.length) (hki : l1.length ≤ i) (ho : KOvLt (b.length + l1.length) ov) (hb : RowsLt b.length b) (h1 : RowsLt (b.length + l1.length) l1) :
  Weak (kOf N f) b l (kOf N (kOv ov g)) b l1 := by
 have h2 := Weak.freezeR (e := kOf N f) (b := b) hi
 have h3 : (kOf N f).map (frz (b.length + i) ver sz rows) = kOf N (fun n => frz (b.length + i) ver sz rows (f n)) := by unfold kOf; rw [List.map_map]; rfl
 rw [h3] at h2
 refine h2.trans ?_
 refine Weak.kround (p := p) (k := k) ?_ (h.frz (m := b.length + l1.length) oM ho) hl hE hk ho hb h1
 rw [← he]
 funext n
 unfold kAny
 split
 ·rfl
 ·rename_i hn
  have hf : f n = g n := by rw [← he]; unfold kAny; rw [if_neg hn]
  show frz (b.length + i) ver sz rows (f n) = f n
  rw [hf]
  exact frz_lt (m := b.length + k) (id := b.length + i) (hE n) oM

end Go.Proofs.YtnihdkfmmbpilaaDoor
namespace Go.Proofs.YtnihdkfmmbpilaaDoor
set_option linter.unusedVariables false
set_option linter.unusedSimpArgs false
theorem fl_const {α : Type} {n : Nat} {x : α} : fl n (fun _ => x) = List.replicate n x := by
 apply List.ext_getElem?
 intro j
 by_cases hj : j < n
 ·rw [fl_get hj, List.getElem?_replicate_of_lt hj]
 ·rw [fl_none oM, List.getElem?_eq_none (by simp; omega)]
def remN (len D : Nat → Nat) : Nat → Nat
 | 0 => 0
 | n + 1 => remN len D n + (len n - D n)
theorem remN_up {len D : Nat → Nat} {p v : Nat} : ∀ {n : Nat}, n ≤ p → remN len (fUp D p v) n = remN len D n
 | 0, _ => rfl
 | n + 1, h => by
   unfold remN
   rw [remN_up oM, fUp_ne oM]
theorem remN_step {len D : Nat → Nat} {p : Nat} (hd : D p < len p) : ∀ {n : Nat}, p < n → remN len (fUp D p (D p + 1)) n + 1 = remN len D n
 | 0, h => by omega
 | n + 1, h => by
   unfold remN
   by_cases hp : p < n
   ·have := remN_step (n := n) hd hp
    rw [fUp_ne oM]; omega
   ·obtain rfl : p = n := by omega
    rw [remN_up (Nat.le_refl _), fUp_same]; omega
def remT (t : Tr) (D : Nat → Nat) : Nat := remN (fun p => (evsOf t p).length) D t.length
theorem remT_step {t : Tr} {D : Nat → Nat} {p : Nat} (hp : p < t.length) (hd : D p < (evsOf t p).length) : remT t (fUp D p (D p + 1)) + 1 = remT t D := remN_step (len := fun p => (evsOf t p).length) hd hp
def Rdy (t : Tr) (D : Nat → Nat) (p : Nat) : Prop := D p < (evsOf t p).length ∧ ((evAt t (p, D p + 1)).kind = 3 → (sndr t (p, D p + 1)).2 ≤ D (sndr t (p, D p + 1)).1)
theorem none_left {t : Tr} (hv : Vok t) {D : Nat → Nat} (hD : ∀ p, p < t.length → D p ≤ (evsOf t p).length) (h : ∀ p, p < t.length → ¬ Rdy t D p) : ∀ p, p < t.length → D p = (evsOf t p).length := by
 intro p hp
 refine Classical.byContradiction fun hn => ?_
 obtain ⟨q, h1, h2, h3⟩ := some_ready hv D hD ⟨p, hp, by have := hD p hp; omega⟩
 exact h q h1 ⟨h2, h3⟩
end Go.Proofs.YtnihdkfmmbpilaaDoor
namespace Go.Proofs.YtnihdkfmmbpilaaDoor
set_option linter.unusedVariables false
set_option linter.unusedSimpArgs false
attribute [local go_sem ↓] run_skip run_region run_draw run_both run_seq run_block run_exit run_ret run_cond atN_app seqC_normal seqC_exit seqC_ret seqQ_normal seqQ_exit seqQ_ret blkQ_normal blkQ_exit blkQ_ret runOps_nil runOps_cons runD_nil runD_cons grdO_true grdO_false grdD_true grdD_false ifC_true ifC_false opS_val opS_call opS_two opK_app dS_val dS_call dS_two dK_app kUp_same kUp_ne
attribute [local go_sem] rechks_nil rechks_cons rechk gcase_true gcase_false ex_val ex_val0 gd_none gd_some ev_t ev_c evs_nil evs_cons evo_some evo_none hget_at hget_first hsetB_at hsetB_first hsetL_at hsetL_first ofOpt_some aop aload astore aslice aappend aiaddr aiaddrA afaddr alen alenS acopy amm acall alookup amupdate alenM atostr aappz comma keyEq apick binV binVB binVS isSh intOp strOp boolOp shOp eqC eqF and2 cellsOf setFrom fillA fillS rd rdI elems mk bounds AV.cell List.all_cons List.all_nil Bool.and_true Bool.true_and Bool.and_self List.length_cons List.length_nil List.length_append Nat.reduceAdd Nat.reduceSub Nat.reduceMul Nat.zero_add Nat.add_zero List.cons_append List.nil_append List.append_assoc List.append_nil List.getElem?_cons_zero List.getElem?_cons_succ List.getElem?_nil List.set_cons_zero List.set_cons_succ List.drop_zero List.drop_succ_cons List.take_zero List.take_succ_cons List.take_nil List.drop_nil List.map_cons List.map_nil Option.map_some if_true if_false Bool.false_eq_true and_self true_and and_true Nat.reduceLeDiff Nat.reduceLT Nat.le_refl Nat.reduceEqDiff ite_true ite_false beq_self_eq_true beq_true beq_false Bool.not_true Bool.not_false Bool.true_beq Bool.false_beq map_vs vs_len vs_get vs_take vs_drop vs_snoc1 vs_snoc2 vs_snoc3 vs_snoc5 vs_set1 vs_set2 vs_rep wrap_id le_T lt_T le_F lt_F leI_T ltI_T leI_F ltI_F geI gtI get_T decide_true decide_false room List.getElem?_map List.length_map List.length_take Int.toNat_natCast Nat.min_def Nat.min_self nth_kOf put_kOf put_kNo kOv_cons kOv_nil KHas KArgs List.getElem_cons_zero List.getElem_cons_succ
def a_knows : AFunc := ⟨1,52,[.cell 2 (some 3)],(.seq (.region [⟨some 1,.box (.t 0),none⟩,⟨some 2,.alloc [(.v .zsl),(.v .nilm),(.v .nilm)],none⟩]) (.seq (.region [⟨some 9,.load (some 1) (.t 1),none⟩,⟨some 10,.mkmap,none⟩,⟨some 11,.mkmap,none⟩,⟨some 12,.build [(.v .zsl),(.v .nilm),(.v .nilm)] [(0,1,(.t 9)),(1,1,(.t 10)),(2,1,(.t 11))],none⟩,⟨some 3,.alloc [(.v .zsl),(.v .nilm),(.v .nilm)],none⟩,⟨none,.store 3 (.t 3) (.t 12),none⟩]) (.seq (.seq (.region [⟨some 13,.faddr 0 (.t 1),none⟩,⟨some 14,.load none (.t 13),none⟩,⟨some 15,.len (.t 14),none⟩,⟨some 16,.mv (.c (.v (.int .i64 0))),none⟩]) (.block 0 (.loop (.seq (.region [⟨some 17,.bin .lss (.t 16) (.t 15),none⟩]) (.seq (.cond (.t 17) .skip (.exit 0)) (.seq (.block 1 (.seq (.region [⟨some 18,.mv (.t 16),none⟩,⟨some 19,.iaddr 3 (.t 14) (.t 16),none⟩,⟨some 20,.load (some 3) (.t 19),none⟩,⟨some 5,.alloc [(.v (.str ⟨#[]⟩)),(.v .zsl),(.v .zsl)],none⟩,⟨some 4,.mv (.t 18),none⟩,⟨none,.store 3 (.t 5) (.t 20),none⟩]) (.seq (.region [⟨some 21,.faddr 2 (.t 5),none⟩,⟨some 22,.load none (.t 21),none⟩,⟨some 23,.len (.t 22),none⟩,⟨some 24,.mv (.c (.v (.int .i64 0))),none⟩]) (.block 2 (.loop (.seq (.region [⟨some 25,.bin .lss (.t 24) (.t 23),none⟩]) (.seq (.cond (.t 25) .skip (.exit 2)) (.seq (.block 3 (.seq (.region [⟨some 26,.mv (.t 24),none⟩,⟨some 27,.iaddr 5 (.t 22) (.t 24),none⟩,⟨some 28,.load (some 5) (.t 27),none⟩,⟨some 7,.alloc [(.v (.int .i64 0)),(.v (.int .i64 0)),(.v (.int .i64 0)),(.v (.int .i64 0)),(.v .zsl)],none⟩,⟨some 6,.mv (.t 26),none⟩,⟨none,.store 5 (.t 7) (.t 28),none⟩]) (.seq (.region [⟨some 29,.mv (.t 4),none⟩,⟨some 30,.mv (.t 6),none⟩,⟨some 31,.bin .add (.t 30) (.c (.v (.int .i64 1))),none⟩,⟨some 32,.build [(.v (.int .i64 0)),(.v (.int .i64 0))] [(0,1,(.t 29)),(1,1,(.t 31))],none⟩,⟨some 8,.alloc [(.v (.int .i64 0)),(.v (.int .i64 0))],none⟩,⟨none,.store 2 (.t 8) (.t 32),none⟩]) (.seq (.region [⟨some 33,.faddr 0 (.t 7),none⟩,⟨some 34,.load none (.t 33),none⟩]) (.block 4 (.seq (.region [⟨some 36,.bin .eql (.t 34) (.c (.v (.int .i64 2))),none⟩,⟨some 35,.mv (.t 36),none⟩]) (.cond (.t 35) (.region [⟨some 37,.faddr 1 (.t 3),none⟩,⟨some 38,.load none (.t 37),none⟩,⟨some 39,.faddr 2 (.t 7),none⟩,⟨some 40,.load none (.t 39),none⟩,⟨some 41,.load (some 2) (.t 8),none⟩,⟨none,.mupdate (.one .i) (.t 38) (.t 40) (.t 41),none⟩]) (.seq (.region [⟨some 43,.bin .eql (.t 34) (.c (.v (.int .i64 3))),none⟩,⟨some 42,.mv (.t 43),none⟩]) (.cond (.t 42) (.region [⟨some 44,.faddr 2 (.t 3),none⟩,⟨some 45,.load none (.t 44),none⟩,⟨some 46,.faddr 2 (.t 7),none⟩,⟨some 47,.load none (.t 46),none⟩,⟨some 48,.load (some 2) (.t 8),none⟩,⟨none,.mupdate (.one .i) (.t 45) (.t 47) (.t 48),none⟩]) .skip))))))))) (.region [⟨some 49,.bin .add (.t 24) (.c (.v (.int .i64 1))),none⟩,⟨some 24,.mv (.t 49),none⟩]))))))))) (.region [⟨some 50,.bin .add (.t 16) (.c (.v (.int .i64 1))),none⟩,⟨some 16,.mv (.t 50),none⟩]))))))) (.seq (.region [⟨some 51,.load (some 3) (.t 3),none⟩,⟨none,.store 3 (.t 2) (.t 51),none⟩]) .ret))))⟩
theorem a_knows_ok : cFunc Tryd.prog 74 = some a_knows := by kernel_rfl
def r_knows0 : List (Nat × Nat) := [(4, 8), (16, 50)]
def r_knows1 : List (Nat × Nat) := [(6, 8), (24, 49)]
def a_kevent : AFunc := ⟨2,18,[.cell 4 (some 5)],(.seq (.region [⟨some 2,.box (.t 0),none⟩,⟨some 3,.box (.t 1),none⟩,⟨some 4,.alloc [(.v (.int .i64 0)),(.v (.int .i64 0)),(.v (.int .i64 0)),(.v (.int .i64 0)),(.v .zsl)],none⟩]) (.seq (.draw [⟨0,⟨some 5,.faddr 0 (.t 2),none⟩,[]⟩,⟨1,⟨some 6,.faddr 0 (.t 5),none⟩,[]⟩,⟨2,⟨some 7,.load none (.t 6),none⟩,[]⟩,⟨3,⟨some 8,.faddr 0 (.t 3),none⟩,[]⟩,⟨4,⟨some 9,.load none (.t 8),none⟩,[]⟩,⟨5,⟨some 10,.iaddr 3 (.t 7) (.t 9),none⟩,[]⟩,⟨6,⟨some 11,.faddr 2 (.t 10),none⟩,[]⟩,⟨7,⟨some 12,.load none (.t 11),none⟩,[]⟩,⟨8,⟨some 13,.faddr 1 (.t 3),none⟩,[]⟩,⟨9,⟨some 14,.load none (.t 13),none⟩,[]⟩,⟨10,⟨some 15,.bin .sub (.t 14) (.c (.v (.int .i64 1))),none⟩,[]⟩,⟨11,⟨some 16,.iaddr 5 (.t 12) (.t 15),none⟩,[]⟩,⟨12,⟨some 17,.load (some 5) (.t 16),none⟩,[]⟩,⟨13,⟨none,.store 5 (.t 4) (.t 17),none⟩,[]⟩]) .ret))⟩
theorem a_kevent_ok : cFunc Tryd.prog 134 = some a_kevent := by kernel_rfl
def a_kback : AFunc := ⟨2,34,[.tmp 4],(.seq (.region [⟨some 2,.box (.t 0),none⟩,⟨some 3,.box (.t 1),none⟩,⟨some 4,.mv (.c (.v .zsl)),none⟩]) (.seq (.region [⟨some 5,.mv (.c (.v .zsl)),none⟩]) (.seq (.seq (.region [⟨some 7,.faddr 1 (.t 3),none⟩,⟨some 8,.load none (.t 7),none⟩,⟨some 9,.bin .gtr (.t 8) (.c (.v (.int .i64 1))),none⟩]) (.cond (.t 9) (.region [⟨some 10,.mv (.t 5),none⟩,⟨some 11,.faddr 0 (.t 3),none⟩,⟨some 12,.load none (.t 11),none⟩,⟨some 13,.faddr 1 (.t 3),none⟩,⟨some 14,.load none (.t 13),none⟩,⟨some 15,.bin .sub (.t 14) (.c (.v (.int .i64 1))),none⟩,⟨some 16,.build [(.v (.int .i64 0)),(.v (.int .i64 0))] [(0,1,(.t 12)),(1,1,(.t 15))],none⟩,⟨some 17,.bslice 2 [(.v (.int .i64 0)),(.v (.int .i64 0))] 1 [(0,(.t 16))],none⟩,⟨some 18,.append 2 16 (.t 10) (.t 17),none⟩,⟨some 5,.mv (.t 18),none⟩]) .skip)) (.seq (.seq (.region [⟨some 19,.load (some 3) (.t 2),none⟩,⟨some 20,.load (some 2) (.t 3),none⟩,⟨some 21,.call (.c (.fn 134 [])) [(.t 19),(.t 20)],none⟩,⟨some 6,.alloc [(.v (.int .i64 0)),(.v (.int .i64 0)),(.v (.int .i64 0)),(.v (.int .i64 0)),(.v .zsl)],none⟩,⟨none,.store 5 (.t 6) (.t 21),none⟩]) (.seq (.region [⟨some 22,.faddr 0 (.t 6),none⟩,⟨some 23,.load none (.t 22),none⟩,⟨some 24,.bin .eql (.t 23) (.c (.v (.int .i64 3))),none⟩]) (.cond (.t 24) (.region [⟨some 25,.mv (.t 5),none⟩,⟨some 26,.faddr 1 (.t 2),none⟩,⟨some 27,.load none (.t 26),none⟩,⟨some 28,.faddr 2 (.t 6),none⟩,⟨some 29,.load none (.t 28),none⟩,⟨some 30,.lookup (.one .i) (.agg [(.v (.int .i64 0)),(.v (.int .i64 0))]) false (.t 27) (.t 29),none⟩,⟨some 31,.bslice 2 [(.v (.int .i64 0)),(.v (.int .i64 0))] 1 [(0,(.t 30))],none⟩,⟨some 32,.append 2 16 (.t 25) (.t 31),none⟩,⟨some 5,.mv (.t 32),none⟩]) .skip))) (.seq (.region [⟨some 33,.mv (.t 5),none⟩,⟨some 4,.mv (.t 33),none⟩]) .ret)))))⟩
theorem a_kback_ok : cFunc Tryd.prog 115 = some a_kback := by kernel_rfl

def mpL (t : Tr) (k : Int) (l : List (Nat × Nat)) : List (List AV) := (l.filter fun x => (evAt t x).kind == k).map fun x => [.v (.int .i64 (evAt t x).msg), idA x]
theorem findM_mp {t : Tr} {k m : Int} : ∀ l, findM (.one .i) (.v (.int .i64 m)) (mpL t k l) = some ((l.find? (keyB t k m)).map idA)
 | [] => rfl
 | x :: l => by
   have ih := findM_mp (t := t) (k := k) (m := m) l
   unfold mpL at ih ⊢
   cases hk : (evAt t x).kind == k with
   | false =>
     rw [List.filter_cons_of_neg (by simp [hk]), ih, List.find?_cons_of_neg (by simp [keyB, hk])]
   | true =>
     rw [List.filter_cons_of_pos (by simp [hk]), List.map_cons]
     cases hm : (evAt t x).msg == m with
     | true =>
       rw [List.find?_cons_of_pos (by simp [keyB, hk, hm])]
       have : m = (evAt t x).msg := by simpa using (beq_iff_eq.1 hm).symm
       simp [findM, keyEq, eqF, this]
     | false =>
       rw [List.find?_cons_of_neg (by simp [keyB, hk, hm]), ← ih]
       have : (m == (evAt t x).msg) = false := by
        rw [beq_eq_false_iff_ne] at hm ⊢; exact fun h => hm h.symm
       simp [findM, keyEq, eqF, this]
theorem updM_new {kk : KK} {x v : AV} : ∀ {els : List (List AV)}, findM kk x els = some none → updM kk x v els = some (els ++ [[x, v]])
 | [], _ => rfl
 | [y, u] :: r, h => by
   simp only [findM] at h
   simp only [updM]
   split at h
   ·cases h
   ·rename_i hq
    simp only [updM_new h, Option.map_some, List.cons_append]
   ·cases h
 | [] :: _, h => by simp [findM] at h
 | [_] :: _, h => by simp [findM] at h
 | (_ :: _ :: _ :: _) :: _, h => by simp [findM] at h
theorem find_fresh {t : Tr} {k : Int} {p i : Nat} (hp : p < t.length) (hi : i < t[p].evs.length) {m : Int} (h : findL t k m = some (p, i + 1)) : (idsTo t p i).find? (keyB t k m) = none := by
 obtain ⟨c, hc⟩ := idsTo_prefix t p (i + 1) hp hi
 have hn := nodup_ids t
 rw [← hc, idsTo_succ] at hn
 cases hf : (idsTo t p i).find? (keyB t k m) with
 | none => rfl
 | some y =>
   have e : findL t k m = (ids t).find? (keyB t k m) := rfl
   rw [e, ← hc, idsTo_succ, List.append_assoc, List.find?_append, hf] at h
   simp at h
   subst h
   have hm := List.mem_of_find?_eq_some hf
   have hd := (List.nodup_append.1 (List.nodup_append.1 hn).1).2.2
   exact absurd rfl (hd _ hm _ (by simp))
theorem mp_next {t : Tr} {k : Int} {l : List (Nat × Nat)} {x : Nat × Nat} (hk : (evAt t x).kind = k) (hf : l.find? (keyB t k (evAt t x).msg) = none) : updM (.one .i) (.v (.int .i64 (evAt t x).msg)) (idA x) (mpL t k l) = some (mpL t k (l ++ [x])) := by
 rw [updM_new (by rw [findM_mp, hf]; rfl)]
 unfold mpL
 rw [List.filter_append, List.map_append, List.filter_cons_of_pos (by simp [hk])]
 rfl
theorem mp_skip {t : Tr} {k : Int} {l : List (Nat × Nat)} {x : Nat × Nat} (hk : (evAt t x).kind ≠ k) : mpL t k (l ++ [x]) = mpL t k l := by
 unfold mpL
 rw [List.filter_append, List.filter_cons_of_neg (by simpa using hk)]
 simp
def kA (t : Tr) (s r : Nat) : AV := .agg [.v (eT t), .mp s 0, .mp r 0]
def knoR (t : Tr) (n : Nat) (l : List (Nat × Nat)) : List Row := [.live 0 1 [[.v (eT t)]], .live 0 3 [[.v (eT t), .mp (n + 2) 0, .mp (n + 3) 0]], .live 0 0 (mpL t 2 l), .live 0 0 (mpL t 3 l), .live 0 3 [[.v (eT t), .mp (n + 2) 0, .mp (n + 3) 0]]]
def knoR0 (t : Tr) (n : Nat) (l : List (Nat × Nat)) : List Row := [.live 0 1 [[.v (eT t)]], .live 0 3 [[.v .zsl, .v .nilm, .v .nilm]], .live 0 0 (mpL t 2 l), .live 0 0 (mpL t 3 l), .live 0 3 [[.v (eT t), .mp (n + 2) 0, .mp (n + 3) 0]]]
theorem mpL_lt {t : Tr} {k : Int} {l : List (Nat × Nat)} {m : Nat} : ∀ row ∈ mpL t k l, ∀ c ∈ row, AVlt m c := by
 intro row hr c hc
 obtain ⟨x, _, rfl⟩ := List.mem_map.1 hr
 simp only [List.mem_cons, List.not_mem_nil, or_false] at hc
 rcases hc with rfl | rfl
 ·exact .v _
 ·unfold idA; simp only [lts.down, Nat.reduceLT, Nat.reduceAdd]
theorem knoR0_lt {t : Tr} {n m : Nat} {l : List (Nat × Nat)} {T : List Row} (h : n + 5 ≤ m) (hT : RowsLt m T) : RowsLt m (knoR0 t n l ++ T) := by
 intro id ver sz els hr row hrow c hc
 match id, hr with
 | 0, hr => cases hr; simp at hrow; subst hrow; simp at hc; subst hc; exact .v _
 | 1, hr => cases hr; simp at hrow; subst hrow; simp at hc; rcases hc with rfl | rfl <;> exact .v _
 | 2, hr => cases hr; exact mpL_lt row hrow c hc
 | 3, hr => cases hr; exact mpL_lt row hrow c hc
 | 4, hr => cases hr; simp at hrow; subst hrow; simp at hc; rcases hc with rfl | rfl | rfl <;> first | exact .v _ | exact .mp _ _ oM
 | id + 5, hr => exact hT id ver sz els hr row hrow c hc
theorem knows_spec (t : Tr) (hv : Vok t) (hS : Small t) (b l : List Row) :
  ACalls Tryd.prog 74 [.agg [.v (eT t)]] b l (fun r b' l' => r = kA t (b.length + l.length + 2) (b.length + l.length + 3) ∧ b' = b ∧ l' = l ++ knoR t (b.length + l.length) (ids t)) := by
 refine calls_kept a_knows_ok rfl (by decide) ?_
 intro B g hB hR hE hA
 simp only [KArgs] at hA
 have hnp := hS.np
 have hBl : B.length = b.length + l.length := by rw [hB, List.length_append]
 simp (disch := decide) only [a_knows, eT, hA, List.length_map, go_sem]
 refine loop_kept (ι := Nat) r_knows0 (fun p => [(16, .v (.int .i64 p))]) 5 (fun p => knoR0 t B.length (idsTo t p 0))
  (fun p => p ≤ t.length) (fun p => t.length - p) 0 (Nat.zero_le _) (by (repeat (first | exact hE.mono oM | refine KLt.up ?_ kL))) (by ((try simp (disch := decide) only [hA, go_sem]) <;> exact kH)) (fun e => Weak.refl _ _ _) ?_
 intro g1 hE1 hEE1 hg1 p hp
 by_cases hlt : p < t.length
 ·have hne := hS.ne _ (List.getElem_mem hlt)
  simp (disch := (first | decide | omega)) only [hA, hg1, ePr, List.length_map, knoR0, go_sem]
  refine loop_kept (ι := Nat) r_knows1 (fun i => [(24, .v (.int .i64 i))]) 6 (fun i => knoR0 t B.length (idsTo t p i) ++ [.live 0 3 [[.v (.str t[p].name), .v (.isl 2 (t[p].vars.map eVr)), .v (.isl 5 (t[p].evs.map eEv))]]])
   (fun i => i ≤ t[p].evs.length) (fun i => t[p].evs.length - i) 0 (Nat.zero_le _) (by (repeat (first | exact hE1.mono oM | refine KLt.up ?_ kL))) (by ((try simp (disch := decide) only [hA, hg1, go_sem]) <;> exact kH)) (fun e => Weak.refl _ _ _) ?_
  intro g2 hE2 hEE2 hg2 i hi
  by_cases hil : i < t[p].evs.length
  ·have hx : (p, i + 1) ∈ ids t := mem_ids.2 ⟨hlt, by simp, by simp; omega⟩
   have hev := evAt_eq hlt hil
   have hsc := idsTo_succ t p i
   have hc : ((i + 1 : Nat) : Int) = (i : Int) + 1 := by omega
   have fin : ∀ l2, KHas l2 [(24, .v (.int .i64 ((i + 1 : Nat) : Int)))] → (∀ n, kAny r_knows1 l2 n = g2 n) → ∀ junk, Weak (kOf 52 l2) B (knoR0 t B.length (idsTo t p (i + 1)) ++ [.live 0 3 [[.v (.str t[p].name), .v (.isl 2 (t[p].vars.map eVr)), .v (.isl 5 (t[p].evs.map eEv))]]] ++ junk) (kOf 52 (kOv [(24, .v (.int .i64 ((i + 1 : Nat) : Int)))] g2)) B (knoR0 t B.length (idsTo t p (i + 1)) ++ [.live 0 3 [[.v (.str t[p].name), .v (.isl 2 (t[p].vars.map eVr)), .v (.isl 5 (t[p].evs.map eEv))]]]) := fun l2 h1 h2 junk =>
    Weak.kround (p := r_knows1) (k := 6) (funext h2) h1 rfl hE2 (by simp [knoR0]) kV hR (knoR0_lt (T := [_]) (by simp [knoR0]) kN)
   by_cases hk2 : t[p].evs[i].kind = 2
   ·have hk2b : (t[p].evs[i].kind == 2) = true := by rw [hk2]; rfl
    have hf := find_fresh hlt hil (hv.paired.send hx (by rw [hev]; exact hk2))
    have h2 := mp_next (k := 2) (by rw [hev]; exact hk2) hf
    have h3 := mp_skip (k := 3) (l := idsTo t p i) (x := (p, i + 1)) (by rw [hev, hk2]; decide)
    rw [← hsc] at h2 h3
    rw [hev] at h2
    simp only [idA, hc] at h2
    simp (disch := (first | decide | omega)) only [hA, hg1, hg2, knoR0, eEv, hk2b, h2, go_sem]
    refine ⟨i + 1, hil, by simp only; omega, ?_⟩
    rw [← h3]
    exact fin _ (by ((try simp (disch := decide) only [hA, go_sem]) <;> exact kH)) (fun n => by rw [show kAny r_knows1 _ = g2 by ((repeat refine (kAny_up rfl).trans ?_); exact hEE2)]) _
   ·have hk2b : (t[p].evs[i].kind == 2) = false := beq_eq_false_iff_ne.2 hk2
    have h2 := mp_skip (k := 2) (l := idsTo t p i) (x := (p, i + 1)) (by rw [hev]; exact hk2)
    by_cases hk3 : t[p].evs[i].kind = 3
    ·have hk3b : (t[p].evs[i].kind == 3) = true := by rw [hk3]; rfl
     have hf := find_fresh hlt hil (hv.paired.recv hx (by rw [hev]; exact hk3)).1
     have h3 := mp_next (k := 3) (by rw [hev]; exact hk3) hf
     rw [← hsc] at h2 h3
     rw [hev] at h3
     simp only [idA, hc] at h3
     simp (disch := (first | decide | omega)) only [hA, hg1, hg2, knoR0, eEv, hk2b, hk3b, h3, go_sem]
     refine ⟨i + 1, hil, by simp only; omega, ?_⟩
     rw [← h2]
     exact fin _ (by ((try simp (disch := decide) only [hA, go_sem]) <;> exact kH)) (fun n => by rw [show kAny r_knows1 _ = g2 by ((repeat refine (kAny_up rfl).trans ?_); exact hEE2)]) _
    ·have hk3b : (t[p].evs[i].kind == 3) = false := beq_eq_false_iff_ne.2 hk3
     have h3 := mp_skip (k := 3) (l := idsTo t p i) (x := (p, i + 1)) (by rw [hev]; exact hk3)
     rw [← hsc] at h2 h3
     simp (disch := (first | decide | omega)) only [hA, hg1, hg2, knoR0, eEv, hk2b, hk3b, go_sem]
     refine ⟨i + 1, hil, by simp only; omega, ?_⟩
     rw [← h2, ← h3]
     exact fin _ (by ((try simp (disch := decide) only [hA, go_sem]) <;> exact kH)) (fun n => by rw [show kAny r_knows1 _ = g2 by ((repeat refine (kAny_up rfl).trans ?_); exact hEE2)]) _
  ·simp (disch := (first | decide | omega)) only [hA, hg1, hg2, knoR0, go_sem]
   obtain rfl : i = t[p].evs.length := by omega
   refine ⟨p + 1, hlt, by simp only; omega, ?_⟩
   have hnx := idsTo_next t p hlt
   exact Weak.kround (l1 := knoR0 t B.length (idsTo t (p + 1) 0)) (p := r_knows0) (k := 5) (by ((repeat refine (kAny_up rfl).trans ?_); refine (kAny_sub hg2 (kIn_sub rfl)).trans ?_; (repeat refine (kAny_up rfl).trans ?_); exact hEE1)) (by ((try simp (disch := decide) only [hA, hg1, go_sem]) <;> exact kH)) (by rw [hnx]; rfl) (by (repeat (first | exact hE1.mono oM | refine KLt.up ?_ kL))) (by simp [knoR0]) kV hR (knoR0_lt (T := []) (by simp [knoR0]) RowsLt_nil)
 ·simp (disch := (first | decide | omega)) only [hA, hg1, knoR0, go_sem]
  obtain rfl : p = t.length := by omega
  rw [idsTo_all]
  exact leave (.inr rfl) (xs := [kA t (B.length + 2) (B.length + 3)]) (by simp (disch := (first | decide | omega)) only [resVs, resV, hA, hg1, kA, knoR, go_sem]) (y := kA t (B.length + 2) (B.length + 3)) (l' := knoR t B.length (ids t)) (Weak.refl _ _ _) hB ⟨by rw [hBl], rfl, by rw [hBl]⟩
theorem kevent_spec (t : Tr) (hS : Small t) (s r : Nat) (x : Nat × Nat) (hx : x ∈ ids t) (b l : List Row) :
  ACalls Tryd.prog 134 [kA t s r, idA x] b l (fun r b' l' => r = .agg ((eEv (evAt t x)).map .v) ∧ b' = b ∧ l' = l) := by
 refine calls_kept a_kevent_ok rfl (by decide) ?_
 intro B g hB hR hE hA
 simp only [KArgs] at hA
 obtain ⟨p, i⟩ := x
 obtain ⟨i, rfl⟩ : ∃ k, i = k + 1 := ⟨i - 1, by have := mem_pos hx; simp only at this; omega⟩
 obtain ⟨hp, hi⟩ := mem_ids2.1 hx
 rw [evsOf_lt hp] at hi
 have hev := evAt_eq hp hi
 have hc : ((i + 1 : Nat) : Int) - 1 = (i : Int) := by omega
 have hne := hS.ne _ (List.getElem_mem hp)
 simp (disch := (first | decide | omega)) only [a_kevent, kA, idA, eT, hA, ePr, eEv, hc, go_sem]
 exact leave_pure (xs := [.agg [.v (.int .i64 t[p].evs[i].kind), .v (.int .i64 t[p].evs[i].peer), .v (.int .i64 t[p].evs[i].msg), .v (.int .i64 t[p].evs[i].time), .v (.isl 2 (t[p].evs[i].asg.map eAsg))]]) (.inr rfl) (by simp (disch := (first | decide | omega)) only [resVs, resV, go_sem, hA]) kO hR hB ⟨by rw [hev]; rfl, rfl, rfl⟩
def eId (x : Nat × Nat) : List IV := [.int .i64 x.1, .int .i64 x.2]
theorem hget_low {B : List Row} {s : Nat} {r : Row} (h : B[s]? = some r) (l : List Row) : hget B l s = some r := by
 unfold hget; rw [if_pos (List.getElem?_eq_some_iff.1 h).1, h]
theorem kback_run (t : Tr) (hv : Vok t) (hS : Small t) (s r : Nat) (x : Nat × Nat) (hx : x ∈ ids t) (b l : List Row) (hs : (b ++ l)[s]? = some (.live 0 0 (mpL t 2 (ids t)))) :
  ACalls Tryd.prog 115 [kA t s r, idA x] b l (fun r b' l' => (r = .v (.isl 2 ((backL t x).map eId)) ∨ (backL t x = [] ∧ r = .v .zsl)) ∧ b' = b ∧ l' = l) := by
 refine calls_kept a_kback_ok rfl (by decide) ?_
 intro B g hB hR hE hA
 simp only [KArgs] at hA
 rw [← hB] at hs
 have hgs := hget_low hs
 obtain ⟨p, i⟩ := x
 obtain ⟨i, rfl⟩ : ∃ k, i = k + 1 := ⟨i - 1, by have := mem_pos hx; simp only at this; omega⟩
 obtain ⟨hp, hi⟩ := mem_ids2.1 hx
 rw [evsOf_lt hp] at hi
 have hev := evAt_eq hp hi
 have hc : ((i + 1 : Nat) : Int) - 1 = (i : Int) := by omega
 have hne := hS.ne _ (List.getElem_mem hp)
 have ev := kevent_spec t hS s r (p, i + 1) hx
 rw [hev] at ev
 by_cases h0 : 0 < i
 ·have hd : decide (((i + 1 : Nat) : Int) > 1) = true := decide_eq_true oM
  simp (disch := (first | decide | omega)) only [a_kback, kA, idA, eT, hA, hd, hc, List.replicate_succ, List.replicate_zero, reduceCtorEq, go_sem]
  refine ACalls.nxt (ev _ _) ?_
  by_cases hk : t[p].evs[i].kind = 3
  ·obtain ⟨y, hy⟩ := (hv.paired.recv hx (by rw [hev]; exact hk)).2
   rw [hev] at hy
   have hb : backL t (p, i + 1) = [(p, i), y] := by
    unfold backL; rw [hev, hk, if_pos (by simp; omega), show findV t 2 t[p].evs[i].msg = y from (firstOf_find hy).1]; simp
   have hfm : findM (.one .i) (.v (.int .i64 t[p].evs[i].msg)) (mpL t 2 (ids t)) = some (some (idA y)) := by rw [findM_mp]; exact congrArg _ (congrArg _ hy)
   simp only [idA] at hfm
   have hkb : (t[p].evs[i].kind == 3) = true := by rw [hk]; rfl
   simp (disch := (first | decide | omega)) only [hA, eEv, hkb, hgs, hfm, List.replicate_succ, List.replicate_zero, reduceCtorEq, go_sem]
   exact leave_frz (i := 3) (ver := 1) (sz := 2) (n := 2) (rows := [eId (p, i), eId y]) (.inr rfl) (by simp (disch := (first | decide | omega)) only [resVs, resV, hA, go_sem]) rfl rfl hR hB ⟨.inl (by rw [hb]; rfl), rfl, rfl⟩
  ·have hb : backL t (p, i + 1) = [(p, i)] := by
    unfold backL; rw [hev, if_pos (by simp; omega), if_neg (by simpa using hk)]; simp
   have hkb : (t[p].evs[i].kind == 3) = false := beq_eq_false_iff_ne.2 hk
   simp (disch := (first | decide | omega)) only [hA, eEv, hkb, go_sem]
   exact leave_frz (i := 3) (ver := 0) (sz := 2) (n := 1) (rows := [eId (p, i)]) (.inr rfl) (by simp (disch := (first | decide | omega)) only [resVs, resV, hA, go_sem]) rfl rfl hR hB ⟨.inl (by rw [hb]; rfl), rfl, rfl⟩
 ·have hd : decide (((i + 1 : Nat) : Int) > 1) = false := decide_eq_false oM
  simp (disch := (first | decide | omega)) only [a_kback, kA, idA, eT, hA, hd, hc, go_sem]
  refine ACalls.nxt (ev _ _) ?_
  by_cases hk : t[p].evs[i].kind = 3
  ·obtain ⟨y, hy⟩ := (hv.paired.recv hx (by rw [hev]; exact hk)).2
   rw [hev] at hy
   have hb : backL t (p, i + 1) = [y] := by
    unfold backL; rw [hev, hk, if_neg (by simp; omega), show findV t 2 t[p].evs[i].msg = y from (firstOf_find hy).1]; simp
   have hfm : findM (.one .i) (.v (.int .i64 t[p].evs[i].msg)) (mpL t 2 (ids t)) = some (some (idA y)) := by rw [findM_mp]; exact congrArg _ (congrArg _ hy)
   simp only [idA] at hfm
   have hkb : (t[p].evs[i].kind == 3) = true := by rw [hk]; rfl
   simp (disch := (first | decide | omega)) only [hA, eEv, hkb, hgs, hfm, List.replicate_succ, List.replicate_zero, reduceCtorEq, go_sem]
   exact leave_frz (i := 4) (ver := 0) (sz := 2) (n := 1) (rows := [eId y]) (.inr rfl) (by simp (disch := (first | decide | omega)) only [resVs, resV, hA, go_sem]) rfl rfl hR hB ⟨.inl (by rw [hb]; rfl), rfl, rfl⟩
  ·have hb : backL t (p, i + 1) = [] := by
    unfold backL; rw [hev, if_neg (by simp; omega), if_neg (by simpa using hk)]; simp
   have hkb : (t[p].evs[i].kind == 3) = false := beq_eq_false_iff_ne.2 hk
   simp (disch := (first | decide | omega)) only [hA, eEv, hkb, go_sem]
   exact leave_pure (xs := [.v .zsl]) (.inr rfl) (by simp (disch := (first | decide | omega)) only [resVs, resV, go_sem, hA]) kO hR hB ⟨.inr ⟨hb, rfl⟩, rfl, rfl⟩
theorem kback_spec (t : Tr) (hv : Vok t) (hS : Small t) (s r : Nat) (x : Nat × Nat) (hx : x ∈ ids t) (b l : List Row) (hs : (b ++ l)[s]? = some (.live 0 0 (mpL t 2 (ids t)))) :
  ACalls Tryd.prog 115 [kA t s r, idA x] b l (fun r b' l' => r = .v (.isl 2 ((backL t x).map eId)) ∧ b' = b ∧ l' = l) := by
 refine ACalls.wk (kback_run t hv hS s r x hx b l hs) ?_
 rintro r b' l' ⟨hr, rfl, rfl⟩
 refine ⟨.v (.isl 2 ((backL t x).map eId)), fun w F L v h => ?_, rfl, rfl, rfl⟩
 rcases hr with rfl | ⟨he, rfl⟩
 ·exact h
 ·rw [he]; exact zw1_rep (sz := 2) h
def a_past : AFunc := ⟨2,58,[.tmp 4],(.seq (.region [⟨some 2,.box (.t 0),none⟩,⟨some 3,.box (.t 1),none⟩,⟨some 4,.mv (.c (.v .zsl)),none⟩]) (.seq (.region [⟨some 9,.faddr 0 (.t 2),none⟩,⟨some 10,.faddr 0 (.t 9),none⟩,⟨some 11,.load none (.t 10),none⟩,⟨some 12,.len (.t 11),none⟩,⟨some 13,.mkslice 1 [(.v (.int .i64 0))] 8 (.t 12) (.t 12),none⟩,⟨some 5,.mv (.t 13),none⟩]) (.seq (.region [⟨some 14,.load (some 2) (.t 3),none⟩,⟨some 15,.bslice 2 [(.v (.int .i64 0)),(.v (.int .i64 0))] 1 [(0,(.t 14))],none⟩,⟨some 6,.mv (.t 15),none⟩]) (.seq (.block 0 (.loop (.seq (.seq (.region [⟨some 16,.mv (.t 6),none⟩,⟨some 17,.len (.t 16),none⟩,⟨some 18,.bin .gtr (.t 17) (.c (.v (.int .i64 0))),none⟩]) (.cond (.t 18) .skip (.exit 0))) (.block 1 (.seq (.region [⟨some 19,.mv (.t 6),none⟩,⟨some 20,.iaddr 2 (.t 19) (.c (.v (.int .i64 0))),none⟩,⟨some 21,.load (some 2) (.t 20),none⟩,⟨some 7,.alloc [(.v (.int .i64 0)),(.v (.int .i64 0))],none⟩,⟨none,.store 2 (.t 7) (.t 21),none⟩]) (.seq (.region [⟨some 22,.mv (.t 6),none⟩,⟨some 23,.slice 2 (.t 22) (some (.c (.v (.int .i64 1)))) none,none⟩,⟨some 6,.mv (.t 23),none⟩]) (.seq (.seq (.draw [⟨0,⟨some 24,.mv (.t 5),none⟩,[]⟩,⟨1,⟨some 25,.faddr 0 (.t 7),none⟩,[]⟩,⟨2,⟨some 26,.load none (.t 25),none⟩,[]⟩,⟨3,⟨some 27,.iaddr 1 (.t 24) (.t 26),none⟩,[]⟩,⟨4,⟨some 28,.load none (.t 27),none⟩,[]⟩,⟨5,⟨some 29,.faddr 1 (.t 7),none⟩,[]⟩,⟨6,⟨some 30,.load none (.t 29),none⟩,[]⟩,⟨7,⟨some 31,.bin .geq (.t 28) (.t 30),none⟩,[]⟩]) (.cond (.t 31) (.exit 1) .skip)) (.seq (.seq (.region [⟨some 32,.faddr 1 (.t 7),none⟩,⟨some 33,.load none (.t 32),none⟩,⟨some 8,.mv (.t 33),none⟩]) (.block 2 (.loop (.seq (.seq (.region [⟨some 34,.mv (.t 8),none⟩,⟨some 35,.mv (.t 5),none⟩,⟨some 36,.faddr 0 (.t 7),none⟩,⟨some 37,.load none (.t 36),none⟩,⟨some 38,.iaddr 1 (.t 35) (.t 37),none⟩,⟨some 39,.load none (.t 38),none⟩,⟨some 40,.bin .gtr (.t 34) (.t 39),none⟩]) (.cond (.t 40) .skip (.exit 2))) (.seq (.block 3 (.region [⟨some 43,.mv (.t 6),none⟩,⟨some 44,.load (some 3) (.t 2),none⟩,⟨some 45,.faddr 0 (.t 7),none⟩,⟨some 46,.load none (.t 45),none⟩,⟨some 47,.mv (.t 8),none⟩,⟨some 48,.build [(.v (.int .i64 0)),(.v (.int .i64 0))] [(0,1,(.t 46)),(1,1,(.t 47))],none⟩,⟨some 49,.call (.c (.fn 115 [])) [(.t 44),(.t 48)],none⟩,⟨some 50,.append 2 16 (.t 43) (.t 49),none⟩,⟨some 6,.mv (.t 50),none⟩])) (.region [⟨some 41,.mv (.t 8),none⟩,⟨some 42,.bin .sub (.t 41) (.c (.v (.int .i64 1))),none⟩,⟨some 8,.mv (.t 42),none⟩])))))) (.region [⟨some 51,.mv (.t 5),none⟩,⟨some 52,.faddr 0 (.t 7),none⟩,⟨some 53,.load none (.t 52),none⟩,⟨some 54,.faddr 1 (.t 7),none⟩,⟨some 55,.load none (.t 54),none⟩,⟨some 56,.iaddr 1 (.t 51) (.t 53),none⟩,⟨none,.store 1 (.t 56) (.t 55),none⟩]))))))))) (.seq (.region [⟨some 57,.mv (.t 5),none⟩,⟨some 4,.mv (.t 57),none⟩]) .ret)))))⟩
theorem a_past_ok : cFunc Tryd.prog 84 = some a_past := by kernel_rfl
def r_past0 : List (Nat × Nat) := [(6, 8), (16, 56)]
def r_past1 : List (Nat × Nat) := [(6, 6), (8, 8), (34, 50)]
def a_before : AFunc := ⟨3,22,[.tmp 6],(.seq (.region [⟨some 3,.box (.t 0),none⟩,⟨some 4,.box (.t 1),none⟩,⟨some 5,.box (.t 2),none⟩,⟨some 6,.mv (.c (.v (.bool false))),none⟩]) (.seq (.draw [⟨0,⟨some 7,.load (some 2) (.t 4),none⟩,[]⟩,⟨1,⟨some 8,.load (some 2) (.t 5),none⟩,[]⟩,⟨2,⟨some 9,.eqs true [.i,.i] (.t 7) (.t 8),none⟩,[]⟩,⟨3,⟨some 10,.mv (.t 9),none⟩,[]⟩,⟨4,⟨some 11,.load (some 3) (.t 3),some (10,true)⟩,[]⟩,⟨5,⟨some 12,.load (some 2) (.t 5),some (10,true)⟩,[]⟩,⟨7,⟨some 14,.faddr 0 (.t 4),some (10,true)⟩,[]⟩,⟨8,⟨some 15,.load none (.t 14),some (10,true)⟩,[]⟩,⟨11,⟨some 18,.faddr 1 (.t 4),some (10,true)⟩,[]⟩,⟨12,⟨some 19,.load none (.t 18),some (10,true)⟩,[]⟩,⟨6,⟨some 13,.call (.c (.fn 84 [])) [(.t 11),(.t 12)],some (10,true)⟩,[⟨some 14,.faddr 0 (.t 4),some (10,true)⟩,⟨some 15,.load none (.t 14),some (10,true)⟩,⟨some 18,.faddr 1 (.t 4),some (10,true)⟩,⟨some 19,.load none (.t 18),some (10,true)⟩]⟩,⟨9,⟨some 16,.iaddr 1 (.t 13) (.t 15),some (10,true)⟩,[]⟩,⟨10,⟨some 17,.load none (.t 16),some (10,true)⟩,[]⟩,⟨13,⟨some 20,.bin .geq (.t 17) (.t 19),some (10,true)⟩,[]⟩,⟨14,⟨some 21,.pick (.t 10) (.t 20) (.c (.v (.bool false))),none⟩,[]⟩,⟨15,⟨some 6,.mv (.t 21),none⟩,[]⟩]) .ret))⟩
theorem a_before_ok : cFunc Tryd.prog 73 = some a_before := by kernel_rfl

theorem lft_zero {t : Tr} : lft t (fun _ => 0) = (ids t).length := by
 unfold lft ids
 have : ∀ n, lftN (fun p => (evsOf t p).length) (fun _ => 0) n = ((List.range n).flatMap (idsOf t)).length := by
  intro n
  induction n with
  | zero => rfl
  | succ n ih =>
    unfold lftN
    rw [ih, List.range_succ, List.flatMap_append, List.length_append]
    simp [idsOf]
 exact this _
def cntR (t : Tr) (c : Nat → Nat) : List (List IV) := fl t.length fun q => [.int .i64 (c q)]
def paR (t : Tr) (s r : Nat) (x : Nat × Nat) (c : Nat → Nat) (v : Nat) (els : List (Nat × Nat)) : List Row :=
 [.live 0 3 [[.v (eT t), .mp s 0, .mp r 0]], .live 0 2 [[.v (.int .i64 x.1), .v (.int .i64 x.2)]], .live 0 1 (vs (cntR t c)), .live v 2 (vs (els.map eId))]
theorem paR_lt {t : Tr} {s r m v : Nat} {x : Nat × Nat} {c : Nat → Nat} {els : List (Nat × Nat)} {T : List Row} {n : Nat} (hs : s < n) (hr : r < n) (h : n + 4 ≤ m) (hT : RowsLt m T) : RowsLt m (paR t s r x c v els ++ T) := by
 have hp : ∀ (rows : List (List IV)) row, row ∈ vs rows → ∀ c ∈ row, AVlt m c := by
  intro rows row h c hc
  obtain ⟨r0, _, rfl⟩ := List.mem_map.1 h
  obtain ⟨x0, _, rfl⟩ := List.mem_map.1 hc
  exact .v _
 intro id ver sz els hr row hrow c hc
 match id, hr with
 | 0, hr => cases hr; simp at hrow; subst hrow; simp at hc; rcases hc with rfl | rfl | rfl <;> first | exact .v _ | exact .mp _ _ oM
 | 1, hr => cases hr; simp at hrow; subst hrow; simp at hc; rcases hc with rfl | rfl <;> exact .v _
 | 2, hr => cases hr; exact hp _ row hrow c hc
 | 3, hr => cases hr; exact hp _ row hrow c hc
 | id + 4, hr => exact hT id ver sz _ hr row hrow c hc
theorem paR_len {t : Tr} {s r v : Nat} {x : Nat × Nat} {c : Nat → Nat} {els : List (Nat × Nat)} : (paR t s r x c v els).length = 4 := rfl
structure PSt where
 c : Nat → Nat
 v : Nat
 els : List (Nat × Nat)
 off : Nat
def POk (t : Tr) (x : Nat × Nat) (i : PSt) : Prop := i.off ≤ i.els.length ∧ Pst t x i.c (i.els.drop i.off) ∧ 3 * lft t i.c + (i.els.length - i.off) ≤ 3 * (ids t).length + 1
theorem past_run (t : Tr) (hv : Vok t) (hS : Small t) (hC : (ids t).length ≤ 1000000) (s r : Nat) (x : Nat × Nat) (hx : x ∈ ids t) (b l : List Row)
  (hs : (b ++ l)[s]? = some (.live 0 0 (mpL t 2 (ids t)))) (hr : (b ++ l)[r]? = some (.live 0 0 (mpL t 3 (ids t)))) :
  ACalls Tryd.prog 84 [kA t s r, idA x] b l (fun r b' l' => r = .v (.isl 1 ((vcs t x).map eI)) ∧ b' = b ∧ l' = l) := by
 refine calls_kept a_past_ok rfl (by decide) ?_
 intro B g hB hR hE hA
 simp only [KArgs] at hA
 rw [← hB] at hs hr
 have hsl := (List.getElem?_eq_some_iff.1 hs).1
 have hrl := (List.getElem?_eq_some_iff.1 hr).1
 have hnp := hS.np
 simp (disch := (first | decide | omega)) only [a_past, kA, idA, eT, hA, List.length_map, go_sem]
 refine loop_kept (ι := PSt) r_past0 (fun i => [(6, .sl (B.length + 3) i.v i.off (i.els.length - i.off))]) 4 (fun i => paR t s r x i.c i.v i.els)
  (POk t x) (fun i => 3 * lft t i.c + (i.els.length - i.off)) ⟨fun _ => 0, 0, [x], 0⟩ ⟨by simp, .start hx, by rw [lft_zero]; simp⟩ (by (repeat (first | exact hE.mono oM | refine KLt.up ?_ kL))) (by ((try simp (disch := decide) only [hA, go_sem]) <;> exact kH)) (fun e => by
   have e1 : List.replicate t.length [IV.int .i64 0] = cntR t fun _ => 0 := by unfold cntR; rw [fl_const]; rfl
   rw [e1]
   exact Weak.refl _ _ _) ?_
 rintro g1 hE1 hEE1 hg1 ⟨c, v, els, off⟩ ⟨hoff, hP, hM⟩
 simp only at hoff hP hM
 by_cases hlt : off < els.length
 ·have hd : decide (((els.length - off : Nat) : Int) > 0) = true := decide_eq_true oM
  obtain ⟨⟨yp, yi⟩, hy⟩ : ∃ y, y = els[off] := ⟨_, rfl⟩
  have hdr : els.drop off = (yp, yi) :: els.drop (off + 1) := by rw [hy]; exact List.drop_eq_getElem_cons hlt
  rw [hdr] at hP
  have hq := (hP.q (yp, yi) (by simp)).1
  obtain ⟨hyp, hy1, hy2⟩ := mem_ids.1 hq
  simp only at hyp hy1 hy2
  have hye : (vs (els.map eId))[off]? = some [.v (.int .i64 yp), .v (.int .i64 yi)] := by
   unfold vs; rw [List.getElem?_map, List.getElem?_map, List.getElem?_eq_getElem hlt, ← hy]; rfl
  have hce : (vs (cntR t c))[yp]? = some [.v (.int .i64 (c yp))] := by
   unfold vs cntR; rw [List.getElem?_map, fl_get hyp]; rfl
  have hz0 : Int.toNat 0 = 0 := rfl
  have hy' := hy.symm
  have hl1 : els.length - off - 1 = els.length - (off + 1) := by omega
  by_cases hge : yi ≤ c yp
  ·have hd2 : decide ((c yp : Int) ≥ (yi : Int)) = true := decide_eq_true oM
   simp (disch := (first | decide | omega)) only [hA, hg1, paR, hd, hye, hce, hl1, hd2, hz0, Nat.add_zero, hy', eId, go_sem]
   refine ⟨⟨c, v, els, off + 1⟩, ⟨by simp only; omega, hP.skip hge, by simp only; omega⟩, by simp only; omega, ?_⟩
   exact Weak.kround (l1 := paR t s r x c v els) (p := r_past0) (k := 4) (by ((repeat refine (kAny_up rfl).trans ?_); exact hEE1)) (by ((try simp (disch := decide) only [hA, go_sem]) <;> exact kH)) rfl hE1 (by simp [paR]) (by simp (disch := omega) only [KOvLt, paR_len, lts.down, Nat.reduceLT, Nat.reduceAdd]) hR (paR_lt (T := []) hsl hrl (by simp [paR]) RowsLt_nil)
  ·have hd2 : decide ((c yp : Int) ≥ (yi : Int)) = false := decide_eq_false oM
   have hyl : yi ≤ (evsOf t yp).length := by rw [evsOf_lt hyp]; exact hy2
   have hne := hS.ne _ (List.getElem_mem hyp)
   have hd0 : els.drop (off + 1) ++ bkL t yp yi yi = els.drop (off + 1) := by rw [bkL_nil, List.append_nil]
   simp (disch := (first | decide | omega)) only [hA, hg1, paR, hd, hye, hce, hl1, hd2, hz0, Nat.add_zero, hy', eId, go_sem]
   refine loop_kept (ι := Nat × Nat × List (Nat × Nat) × Nat) r_past1 (fun i => [(8, .v (.int .i64 i.1)), (6, .sl (B.length + 3) i.2.1 i.2.2.2 (i.2.2.1.length - i.2.2.2))]) 5 (fun i => paR t s r x c i.2.1 i.2.2.1 ++ [.live 0 2 [[.v (.int .i64 yp), .v (.int .i64 yi)]]])
    (fun i => c yp ≤ i.1 ∧ i.1 ≤ yi ∧ i.2.2.2 ≤ i.2.2.1.length ∧ i.2.2.1.drop i.2.2.2 = els.drop (off + 1) ++ bkL t yp yi i.1) (fun i => i.1 - c yp) (yi, v, els, off + 1) ⟨by omega, Nat.le_refl _, hlt, hd0.symm⟩ (by (repeat (first | exact hE1.mono oM | refine KLt.up ?_ kL))) (by ((try simp (disch := decide) only [hA, hg1, go_sem]) <;> exact kH)) (fun e => Weak.refl _ _ _) ?_
   rintro g2 hE2 hEE2 hg2 ⟨i, v2, els2, off2⟩ ⟨hi1, hi2, hi3, hi4⟩
   simp only at hi1 hi2 hi3 hi4
   have hlen : els2.length - off2 = els.length - (off + 1) + (bkL t yp yi i).length := by
    have := congrArg List.length hi4
    rwa [List.length_drop, List.length_append, List.length_drop] at this
   have hbl := bkL_len (t := t) (p := yp) hi2
   have hst := lft_step (t := t) hyp (c := c) (v := yi) oM hyl
   by_cases hil : c yp < i
   ·have hd3 : decide ((i : Int) > (c yp : Int)) = true := decide_eq_true oM
    obtain ⟨i, rfl⟩ : ∃ k, i = k + 1 := ⟨i - 1, by omega⟩
    have hci : ((i + 1 : Nat) : Int) - 1 = (i : Int) := by omega
    have hmem : (yp, i + 1) ∈ ids t := mem_ids2.2 ⟨hyp, by omega⟩
    have hbk := fun L => kback_spec t hv hS s r (yp, i + 1) hmem B L (by rw [List.getElem?_append_left hsl]; exact hs)
    have hb2 := backL_len t (yp, i + 1)
    simp (disch := (first | decide | omega)) only [hA, hg1, hg2, paR, hce, hd3, hci, go_sem]
    refine ACalls.nxt (hbk _) ?_
    have htk : vs (List.take (els2.length - off2) (List.drop off2 (els2.map eId))) ++ vs ((backL t (yp, i + 1)).map eId) = vs ((els2.drop off2 ++ backL t (yp, i + 1)).map eId) := by
     unfold vs
     rw [← List.map_drop, List.take_of_length_le (by simp), List.map_append, List.map_append]
    simp (disch := (first | decide | omega)) only [hA, hg1, hg2, paR, hce, hd3, hci, htk, List.length_map, go_sem]
    refine ⟨(i, v2 + 1, els2.drop off2 ++ backL t (yp, i + 1), 0), ⟨by simp only; omega, by simp only; omega, by simp, ?_⟩, by simp only; omega, ?_⟩
    ·simp only [List.drop_zero]
     rw [hi4, bkL_step (t := t) (p := yp) (n := yi) (i := i) oM, List.append_assoc]
    ·exact Weak.kround (junk := []) (p := r_past1) (k := 5) (by ((repeat refine (kAny_up rfl).trans ?_); exact hEE2)) (by ((try simp (disch := decide) only [hA, List.length_append, List.length_drop, Nat.sub_zero, go_sem]) <;> exact kH)) (List.append_nil _).symm hE2 (by simp) (by simp (disch := omega) only [KOvLt, List.length_append, List.length_cons, List.length_nil, paR_len, lts.down, Nat.reduceLT, Nat.reduceAdd]) hR (paR_lt (T := [_]) hsl hrl (by simp) kN)
   ·have hd3 : decide ((i : Int) > (c yp : Int)) = false := decide_eq_false oM
    obtain rfl : i = c yp := by omega
    have hcs : (cntR t c).set yp [.int .i64 (yi : Int)] = cntR t (fUp c yp yi) := by
     unfold cntR
     rw [fl_set]
     refine fl_congr (fun q _ => ?_)
     by_cases hq : q = yp
     ·subst hq; rw [fUp_same, fUp_same]
     ·rw [fUp_ne hq, fUp_ne hq]
    simp (disch := (first | decide | omega)) only [hA, hg1, hg2, paR, hce, hd3, go_sem]
    refine ⟨⟨fUp c yp yi, v2, els2, off2⟩, ⟨hi3, ?_, by simp only; omega⟩, by simp only; omega, ?_⟩
    ·simp only
     rw [hi4]
     exact hP.mark hv oM
    ·rw [hcs]
     exact Weak.kround (l1 := paR t s r x (fUp c yp yi) v2 els2) (p := r_past0) (k := 4) (by ((repeat refine (kAny_up rfl).trans ?_); refine (kAny_sub hg2 (kIn_sub rfl)).trans ?_; (repeat refine (kAny_up rfl).trans ?_); exact hEE1)) (by ((try simp (disch := decide) only [hA, go_sem]) <;> exact kH)) rfl hE1 (by simp [paR]) (by simp (disch := omega) only [KOvLt, paR_len, lts.down, Nat.reduceLT, Nat.reduceAdd]) hR (paR_lt (T := []) hsl hrl (by simp [paR]) RowsLt_nil)
 ·have hd : decide (((els.length - off : Nat) : Int) > 0) = false := decide_eq_false oM
  simp (disch := (first | decide | omega)) only [hA, hg1, paR, hd, go_sem]
  have hz : els.drop off = [] := List.drop_eq_nil_of_le oM
  rw [hz] at hP
  have hcn : cntR t c = (vcs t x).map eI := by
   unfold cntR vcs
   rw [fl_map]
   refine fl_congr (fun q hq => ?_)
   rw [hP.done hv hx hq]; rfl
  rw [hcn]
  exact leave_frz (i := 2) (ver := 0) (sz := 1) (n := t.length) (rows := (vcs t x).map eI) (.inr rfl) (by simp (disch := (first | decide | omega)) only [resVs, resV, hA, hg1, go_sem]) rfl (by simp [vcs, fl_len]) hR hB ⟨rfl, rfl, rfl⟩
noncomputable def befB (t : Tr) (x y : Nat × Nat) : Bool := !(decide (x = y)) && decide (x.2 ≤ vc t y x.1)
theorem befB_iff {t : Tr} (hv : Vok t) {x y : Nat × Nat} (hx : x ∈ ids t) (hy : y ∈ ids t) : befB t x y = true ↔ Hb t x y := by
 obtain ⟨p, i⟩ := x
 obtain ⟨i, rfl⟩ : ∃ k, i = k + 1 := ⟨i - 1, by have := mem_pos hx; simp only at this; omega⟩
 obtain ⟨hp, hi⟩ := mem_ids2.1 hx
 unfold befB
 simp only [Bool.and_eq_true, Bool.not_eq_true', decide_eq_false_iff_not, decide_eq_true_eq]
 rw [show (i + 1 ≤ vc t y p) ↔ Le t (p, i + 1) y from (vc_iff hi).symm]
 constructor
 ·rintro ⟨h1, h2⟩; exact h2.resolve_left h1
 ·intro h
  refine ⟨fun he => ?_, .inr h⟩
  subst he
  have := rk_lt hv hx h; omega
theorem before_spec (t : Tr) (hv : Vok t) (hS : Small t) (hC : (ids t).length ≤ 1000000) (s r : Nat) (x y : Nat × Nat) (hx : x ∈ ids t) (hy : y ∈ ids t) (b l : List Row)
  (hs : (b ++ l)[s]? = some (.live 0 0 (mpL t 2 (ids t)))) (hr : (b ++ l)[r]? = some (.live 0 0 (mpL t 3 (ids t)))) :
  ACalls Tryd.prog 73 [kA t s r, idA x, idA y] b l (fun r b' l' => r = .v (.bool (befB t x y)) ∧ b' = b ∧ l' = l) := by
 refine calls_kept a_before_ok rfl (by decide) ?_
 intro B g hB hR hE hA
 simp only [KArgs] at hA
 rw [← hB] at hs hr
 have hsl := (List.getElem?_eq_some_iff.1 hs).1
 have hrl := (List.getElem?_eq_some_iff.1 hr).1
 obtain ⟨p, i⟩ := x
 obtain ⟨q, j⟩ := y
 obtain ⟨hp, hi⟩ := mem_ids.1 hx
 simp only at hp
 have hq : Unit → (((p : Int) == (q : Int)) && ((i : Int) == (j : Int))) = decide ((p, i) = (q, j)) := fun (_ : Unit) => by
  rw [Bool.eq_iff_iff]; simp; omega
 have hgt : ((vcs t (q, j)).map eI)[p]? = some [.int .i64 (vc t (q, j) p)] := by
  unfold vcs; rw [List.getElem?_map, fl_get hp]; rfl
 by_cases he : (p, i) = (q, j)
 ·have hee : (((p : Int) == (q : Int)) && ((i : Int) == (j : Int))) = true := by rw [hq ()]; exact decide_eq_true he
  simp (disch := (first | decide | omega)) only [a_before, kA, idA, eT, hA, hee, go_sem]
  exact leave_pure (xs := [.v (.bool false)]) (.inr rfl) (by simp (disch := (first | decide | omega)) only [resVs, resV, go_sem, hA]) kO hR hB ⟨by rw [show befB t (p, i) (q, j) = false by unfold befB; rw [decide_eq_true he]; rfl]; rfl, rfl, rfl⟩
 ·have hee : (((p : Int) == (q : Int)) && ((i : Int) == (j : Int))) = false := by rw [hq ()]; exact decide_eq_false he
  have hpa := fun L => past_run t hv hS hC s r (q, j) hy B L (by rw [List.getElem?_append_left hsl]; exact hs) (by rw [List.getElem?_append_left hrl]; exact hr)
  simp (disch := (first | decide | omega)) only [a_before, kA, idA, eT, hA, hee, go_sem]
  refine ACalls.nxt (hpa _) ?_
  have hb : befB t (p, i) (q, j) = decide ((i : Int) ≤ (vc t (q, j) p : Int)) := by unfold befB; rw [decide_eq_false he]; simp
  rw [hb]
  simp (disch := (first | decide | omega)) only [hA, hgt, go_sem]
  exact leave_pure (xs := [.v (.bool (decide ((i : Int) ≤ (vc t (q, j) p : Int))))]) (.inr rfl) (by simp (disch := (first | decide | omega)) only [resVs, resV, go_sem, hA]) kO hR hB ⟨rfl, rfl, rfl⟩
def a_exists : AFunc := ⟨2,34,[.tmp 4],(.seq (.region [⟨some 2,.box (.t 0),none⟩,⟨some 3,.box (.t 1),none⟩,⟨some 4,.mv (.c (.v (.bool false))),none⟩]) (.seq (.draw [⟨0,⟨some 5,.faddr 0 (.t 3),none⟩,[]⟩,⟨1,⟨some 6,.load none (.t 5),none⟩,[]⟩,⟨2,⟨some 7,.bin .geq (.t 6) (.c (.v (.int .i64 0))),none⟩,[]⟩,⟨3,⟨some 8,.mv (.t 7),none⟩,[]⟩,⟨4,⟨some 9,.faddr 0 (.t 3),some (8,true)⟩,[]⟩,⟨5,⟨some 10,.load none (.t 9),some (8,true)⟩,[]⟩,⟨6,⟨some 11,.faddr 0 (.t 2),some (8,true)⟩,[]⟩,⟨7,⟨some 12,.load none (.t 11),some (8,true)⟩,[]⟩,⟨8,⟨some 13,.len (.t 12),some (8,true)⟩,[]⟩,⟨9,⟨some 14,.bin .lss (.t 10) (.t 13),some (8,true)⟩,[]⟩,⟨10,⟨some 15,.pick (.t 8) (.t 14) (.c (.v (.bool false))),none⟩,[]⟩,⟨11,⟨some 16,.mv (.t 15),none⟩,[]⟩,⟨12,⟨some 17,.faddr 1 (.t 3),some (16,true)⟩,[]⟩,⟨13,⟨some 18,.load none (.t 17),some (16,true)⟩,[]⟩,⟨14,⟨some 19,.bin .geq (.t 18) (.c (.v (.int .i64 1))),some (16,true)⟩,[]⟩,⟨15,⟨some 20,.pick (.t 16) (.t 19) (.c (.v (.bool false))),none⟩,[]⟩,⟨16,⟨some 21,.mv (.t 20),none⟩,[]⟩,⟨17,⟨some 22,.faddr 1 (.t 3),some (21,true)⟩,[]⟩,⟨18,⟨some 23,.load none (.t 22),some (21,true)⟩,[]⟩,⟨19,⟨some 24,.faddr 0 (.t 2),some (21,true)⟩,[]⟩,⟨20,⟨some 25,.load none (.t 24),some (21,true)⟩,[]⟩,⟨21,⟨some 26,.faddr 0 (.t 3),some (21,true)⟩,[]⟩,⟨22,⟨some 27,.load none (.t 26),some (21,true)⟩,[]⟩,⟨23,⟨some 28,.iaddr 3 (.t 25) (.t 27),some (21,true)⟩,[]⟩,⟨24,⟨some 29,.faddr 2 (.t 28),some (21,true)⟩,[]⟩,⟨25,⟨some 30,.load none (.t 29),some (21,true)⟩,[]⟩,⟨26,⟨some 31,.len (.t 30),some (21,true)⟩,[]⟩,⟨27,⟨some 32,.bin .leq (.t 23) (.t 31),some (21,true)⟩,[]⟩,⟨28,⟨some 33,.pick (.t 21) (.t 32) (.c (.v (.bool false))),none⟩,[]⟩,⟨29,⟨some 4,.mv (.t 33),none⟩,[]⟩]) .ret))⟩
theorem a_exists_ok : cFunc Tryd.prog 112 = some a_exists := by kernel_rfl
def a_check : AFunc := ⟨2,21,[.tmp 4],(.seq (.region [⟨some 2,.box (.t 0),none⟩,⟨some 4,.mv (.c (.v (.int .i64 0))),none⟩]) (.seq (.seq (.region [⟨some 7,.load (some 1) (.t 2),none⟩,⟨some 8,.call (.c (.fn 68 [])) [(.t 7)],none⟩,⟨some 9,.not (.t 8),none⟩]) (.cond (.t 9) (.seq (.region [⟨some 4,.mv (.c (.v (.int .i64 1))),none⟩]) .ret) .skip)) (.seq (.seq (.region [⟨some 10,.mv (.t 1),none⟩,⟨some 11,.len (.t 10),none⟩,⟨some 12,.mv (.c (.v (.int .i64 0))),none⟩]) (.block 0 (.loop (.seq (.region [⟨some 13,.bin .lss (.t 12) (.t 11),none⟩]) (.seq (.cond (.t 13) .skip (.exit 0)) (.seq (.block 1 (.seq (.region [⟨some 14,.iaddr 2 (.t 10) (.t 12),none⟩,⟨some 15,.load (some 2) (.t 14),none⟩,⟨some 6,.alloc [(.v (.int .i64 0)),(.v (.int .i64 0))],none⟩,⟨none,.store 2 (.t 6) (.t 15),none⟩]) (.seq (.region [⟨some 16,.load (some 1) (.t 2),none⟩,⟨some 17,.load (some 2) (.t 6),none⟩,⟨some 18,.call (.c (.fn 112 [])) [(.t 16),(.t 17)],none⟩,⟨some 19,.not (.t 18),none⟩]) (.cond (.t 19) (.seq (.region [⟨some 4,.mv (.c (.v (.int .i64 2))),none⟩]) .ret) .skip)))) (.region [⟨some 20,.bin .add (.t 12) (.c (.v (.int .i64 1))),none⟩,⟨some 12,.mv (.t 20),none⟩]))))))) (.seq (.region [⟨some 4,.mv (.c (.v (.int .i64 0))),none⟩]) .ret))))⟩
theorem a_check_ok : cFunc Tryd.prog 72 = some a_check := by kernel_rfl
def r_check0 : List (Nat × Nat) := [(4, 4), (6, 6), (12, 20)]
def a_Before : AFunc := ⟨3,22,[.tmp 6,.tmp 7],(.seq (.region [⟨some 3,.box (.t 0),none⟩,⟨some 4,.box (.t 1),none⟩,⟨some 5,.box (.t 2),none⟩,⟨some 6,.mv (.c (.v (.bool false))),none⟩,⟨some 7,.mv (.c (.v (.int .i64 0))),none⟩]) (.seq (.seq (.region [⟨some 9,.load (some 1) (.t 3),none⟩,⟨some 10,.load (some 2) (.t 4),none⟩,⟨some 11,.load (some 2) (.t 5),none⟩,⟨some 12,.bslice 2 [(.v (.int .i64 0)),(.v (.int .i64 0))] 2 [(0,(.t 10)),(1,(.t 11))],none⟩,⟨some 13,.call (.c (.fn 72 [])) [(.t 9),(.t 12)],none⟩,⟨some 8,.mv (.t 13),none⟩]) (.seq (.region [⟨some 14,.mv (.t 8),none⟩,⟨some 15,.bin .neq (.t 14) (.c (.v (.int .i64 0))),none⟩]) (.cond (.t 15) (.seq (.region [⟨some 16,.mv (.t 8),none⟩,⟨some 6,.mv (.c (.v (.bool false))),none⟩,⟨some 7,.mv (.t 16),none⟩]) .ret) .skip))) (.seq (.draw [⟨0,⟨some 17,.load (some 1) (.t 3),none⟩,[]⟩,⟨2,⟨some 19,.load (some 2) (.t 4),none⟩,[]⟩,⟨3,⟨some 20,.load (some 2) (.t 5),none⟩,[]⟩,⟨1,⟨some 18,.call (.c (.fn 74 [])) [(.t 17)],none⟩,[⟨some 19,.load (some 2) (.t 4),none⟩,⟨some 20,.load (some 2) (.t 5),none⟩]⟩,⟨4,⟨some 21,.call (.c (.fn 73 [])) [(.t 18),(.t 19),(.t 20)],none⟩,[]⟩,⟨5,⟨some 6,.mv (.t 21),none⟩,[]⟩,⟨6,⟨some 7,.mv (.c (.v (.int .i64 0))),none⟩,[]⟩]) .ret)))⟩
theorem a_Before_ok : cFunc Tryd.prog 26 = some a_Before := by kernel_rfl

def existsB (t : Tr) (a c : Int) : Bool := decide (0 ≤ a) && (decide (a < (t.length : Int)) && (decide (1 ≤ c) && decide (c ≤ ((evsOf t a.toNat).length : Int))))
theorem existsB_in {t : Tr} {a c : Int} (h : existsB t a c = true) : ∃ p i : Nat, a = p ∧ c = ((i + 1 : Nat) : Int) ∧ (p, i + 1) ∈ ids t := by
 simp only [existsB, Bool.and_eq_true, decide_eq_true_eq] at h
 obtain ⟨h1, h2, h3, h4⟩ := h
 refine ⟨a.toNat, c.toNat - 1, by omega, by omega, mem_ids2.2 ⟨by omega, by omega⟩⟩
theorem existsB_of {t : Tr} {p i : Nat} (h : (p, i + 1) ∈ ids t) : existsB t p ((i + 1 : Nat) : Int) = true := by
 obtain ⟨h1, h2⟩ := mem_ids2.1 h
 simp only [existsB, Bool.and_eq_true, decide_eq_true_eq, Int.toNat_natCast]
 omega
def idP (x : Int × Int) : AV := .agg [.v (.int .i64 x.1), .v (.int .i64 x.2)]
theorem exists_gen (k : Nat) (hk : cFunc Tryd.prog k = some a_exists) (t : Tr) (hS : Small t) (x : Int × Int) (b l : List Row) :
  ACalls Tryd.prog k [.agg [.v (eT t)], idP x] b l (fun r b' l' => r = .v (.bool (existsB t x.1 x.2)) ∧ b' = b ∧ l' = l) := by
 refine calls_kept hk rfl (by decide) ?_
 intro B g hB hR hE hA
 simp only [KArgs] at hA
 obtain ⟨a, c⟩ := x
 have hnp := hS.np
 by_cases h1 : 0 ≤ a
 ·have d1 := decide_eq_true h1
  have d1' : decide (a ≥ 0) = true := d1
  by_cases h2 : a < (t.length : Int)
  ·have d2 := decide_eq_true h2
   obtain ⟨p, rfl⟩ : ∃ p : Nat, a = p := ⟨a.toNat, by omega⟩
   have hp : p < t.length := by omega
   have hne := hS.ne _ (List.getElem_mem hp)
   by_cases h3 : 1 ≤ c
   ·have d3 := decide_eq_true h3
    have d3' : decide (c ≥ 1) = true := d3
    have he : existsB t p c = decide (c ≤ (t[p].evs.length : Int)) := by simp [existsB, h2, h3, evsOf_lt hp]
    rw [he]
    simp (disch := (first | decide | omega)) only [a_exists, idP, eT, hA, ePr, d1, d1', d2, d3, d3', List.length_map, go_sem]
    exact leave_pure (xs := [.v (.bool (decide (c ≤ (t[p].evs.length : Int))))]) (.inr rfl) (by simp (disch := (first | decide | omega)) only [resVs, resV, go_sem, hA]) kO hR hB ⟨rfl, rfl, rfl⟩
   ·have d3 := decide_eq_false h3
    have d3' : decide (c ≥ 1) = false := d3
    have he : existsB t p c = false := by simp [existsB, h3]
    rw [he]
    simp (disch := (first | decide | omega)) only [a_exists, idP, eT, hA, ePr, d1, d1', d2, d3, d3', List.length_map, go_sem]
    exact leave_pure (xs := [.v (.bool false)]) (.inr rfl) (by simp (disch := (first | decide | omega)) only [resVs, resV, go_sem, hA]) kO hR hB ⟨rfl, rfl, rfl⟩
  ·have d2 := decide_eq_false h2
   have he : existsB t a c = false := by simp [existsB, h2]
   rw [he]
   simp (disch := (first | decide | omega)) only [a_exists, idP, eT, hA, ePr, d1, d1', d2, List.length_map, go_sem]
   exact leave_pure (xs := [.v (.bool false)]) (.inr rfl) (by simp (disch := (first | decide | omega)) only [resVs, resV, go_sem, hA]) kO hR hB ⟨rfl, rfl, rfl⟩
 ·have d1 := decide_eq_false h1
  have d1' : decide (a ≥ 0) = false := d1
  have he : existsB t a c = false := by simp [existsB, h1]
  rw [he]
  simp (disch := (first | decide | omega)) only [a_exists, idP, eT, hA, ePr, d1, d1', List.length_map, go_sem]
  exact leave_pure (xs := [.v (.bool false)]) (.inr rfl) (by simp (disch := (first | decide | omega)) only [resVs, resV, go_sem, hA]) kO hR hB ⟨rfl, rfl, rfl⟩
theorem exists_spec (t : Tr) (hS : Small t) (x : Int × Int) (b l : List Row) :
  ACalls Tryd.prog 112 [.agg [.v (eT t)], idP x] b l (fun r b' l' => r = .v (.bool (existsB t x.1 x.2)) ∧ b' = b ∧ l' = l) := exists_gen _ a_exists_ok t hS x b l
noncomputable def chkE (t : Tr) (l : List (Int × Int)) : Int := if validL t = true then (if l.all (fun x => existsB t x.1 x.2) then 0 else 2) else 1
def eIdP (x : Int × Int) : List IV := [.int .i64 x.1, .int .i64 x.2]
theorem check_spec (t : Tr) (hS : Small t) (hN : Nm t) (v : List (Int × Int)) (hl : v.length ≤ 1000000) (b l : List Row) :
  ACalls Tryd.prog 72 [.agg [.v (eT t)], .v (.isl 2 (v.map eIdP))] b l (fun r b' l' => r = .v (.int .i64 (chkE t v)) ∧ b' = b ∧ l' = l) := by
 refine calls_kept a_check_ok rfl (by decide) ?_
 intro B g hB hR hE hA
 simp only [KArgs] at hA
 simp (disch := (first | decide | omega)) only [a_check, hA, go_sem]
 refine ACalls.nxt (valid_spec t hS hN _ _) ?_
 cases hval : validL t with
 | false =>
   simp (disch := (first | decide | omega)) only [hA, go_sem]
   exact leave_pure (xs := [.v (.int .i64 1)]) (.inr rfl) (by simp (disch := (first | decide | omega)) only [resVs, resV, go_sem, hA]) kO hR hB ⟨by unfold chkE; rw [hval]; rfl, rfl, rfl⟩
 | true =>
   simp (disch := (first | decide | omega)) only [hA, List.length_map, go_sem]
   refine loop_kept (ι := Nat) r_check0 (fun i => [(12, .v (.int .i64 i))]) 1 (fun i => [.live 0 1 [[.v (eT t)]]])
    (fun i => i ≤ v.length ∧ ∀ j (h : j < v.length), j < i → existsB t v[j].1 v[j].2 = true) (fun i => v.length - i) 0 ⟨Nat.zero_le _, fun j _ h => by omega⟩ (by (repeat (first | exact hE.mono oM | refine KLt.up ?_ kL))) (by ((try simp (disch := decide) only [hA, go_sem]) <;> exact kH)) (fun e => Weak.refl _ _ _) ?_
   rintro g1 hE1 hEE1 hg1 i ⟨hi, hbef⟩
   by_cases hil : i < v.length
   ·simp (disch := (first | decide | omega)) only [hA, hg1, eIdP, go_sem]
    refine ACalls.nxt (exists_spec t hS v[i] _ _) ?_
    cases hex : existsB t v[i].1 v[i].2 with
    | false =>
      simp (disch := (first | decide | omega)) only [hA, hg1, go_sem]
      have hall : (v.all fun x => existsB t x.1 x.2) = false := by
       rw [Bool.eq_false_iff]; intro h
       rw [List.all_eq_true] at h
       have := h _ (List.getElem_mem hil)
       rw [hex] at this; cases this
      exact leave_pure (xs := [.v (.int .i64 2)]) (.inr rfl) (by simp (disch := (first | decide | omega)) only [resVs, resV, go_sem, hA, hg1]) kO hR hB ⟨by unfold chkE; rw [hval, hall]; rfl, rfl, rfl⟩
    | true =>
      simp (disch := (first | decide | omega)) only [hA, hg1, go_sem]
      refine ⟨i + 1, ⟨hil, fun j hj h => ?_⟩, by simp only; omega, ?_⟩
      ·by_cases hji : j = i
       ·subst hji; exact hex
       ·exact hbef j hj oM
      ·exact Weak.kround (p := r_check0) (k := 1) (by ((repeat refine (kAny_up rfl).trans ?_); exact hEE1)) (by ((try simp (disch := decide) only [hA, go_sem]) <;> exact kH)) rfl hE1 (by simp) kV hR kL
   ·simp (disch := (first | decide | omega)) only [hA, hg1, go_sem]
    have hall : (v.all fun x => existsB t x.1 x.2) = true := by
     rw [List.all_eq_true]
     intro x hx
     obtain ⟨j, hj, rfl⟩ := List.getElem_of_mem hx
     exact hbef j hj oM
    exact leave_pure (xs := [.v (.int .i64 0)]) (.inr rfl) (by simp (disch := (first | decide | omega)) only [resVs, resV, go_sem, hA, hg1]) kO hR hB ⟨by unfold chkE; rw [hval, hall]; rfl, rfl, rfl⟩
noncomputable def befR (t : Tr) (x y : Int × Int) : AV := .tup [.v (.bool (decide (chkE t [x, y] = 0) && befB t (x.1.toNat, x.2.toNat) (y.1.toNat, y.2.toNat))), .v (.int .i64 (chkE t [x, y]))]
theorem chkE_zero {t : Tr} {l : List (Int × Int)} : chkE t l = 0 ↔ validL t = true ∧ ∀ x ∈ l, existsB t x.1 x.2 = true := by
 unfold chkE
 cases validL t
 ·simp
 ·simp only [if_true, true_and]
  cases h : l.all (fun x => existsB t x.1 x.2) with
  | true => simp [List.all_eq_true.1 h]; intro a b hab; exact List.all_eq_true.1 h _ hab
  | false =>
    simp only [Bool.false_eq_true, if_false]
    constructor
    ·intro h2; simp at h2
    ·intro h2
     rw [List.all_eq_true.2 h2] at h; cases h
theorem Before_spec (t : Tr) (hS : Small t) (hN : Nm t) (hC : validL t = true → (ids t).length ≤ 1000000) (x y : Int × Int) (b l : List Row) :
  ACalls Tryd.prog 26 [.agg [.v (eT t)], idP x, idP y] b l (fun r b' l' => r = befR t x y ∧ b' = b ∧ l' = l) := by
 refine calls_kept a_Before_ok rfl (by decide) ?_
 intro B g hB hR hE hA
 simp only [KArgs] at hA
 simp (disch := (first | decide | omega)) only [a_Before, hA, idP, List.replicate_succ, List.replicate_zero, go_sem]
 refine ACalls.frzB (i := 3) (ver := 0) (sz := 2) (rows := [eIdP x, eIdP y]) (args' := [.agg [.v (eT t)], .v (.isl 2 [eIdP x, eIdP y])]) rfl (by simp [frz, frz0]) ?_
 refine ACalls.nxt (check_spec t hS hN [x, y] (by simp) _ _) ?_
 by_cases h0 : chkE t [x, y] = 0
 ·obtain ⟨hval, hall⟩ := chkE_zero.1 h0
  have hv := vok hval
  obtain ⟨p, i, e1, e2, hx⟩ := existsB_in (hall x (by simp))
  obtain ⟨q, j, e3, e4, hy⟩ := existsB_in (hall y (by simp))
  have hn0 : ((0 : Int) != 0) = false := rfl
  unfold befR
  rw [h0]
  simp (disch := (first | decide | omega)) only [hA, hn0, idP, go_sem]
  refine ACalls.nxt (knows_spec t hv hS _ _) ?_
  have hb := fun b l s r => before_spec t hv hS (hC hval) s r _ _ hx hy b l
  simp only [idA, ← e1, ← e2, ← e3, ← e4] at hb
  simp (disch := (first | decide | omega)) only [hA, kA, knoR, go_sem]
  refine ACalls.nxt (hb _ _ _ _ (by rw [List.getElem?_append_right oM, show B.length + 4 + 2 - B.length = 6 by omega]; rfl) (by rw [List.getElem?_append_right oM, show B.length + 4 + 3 - B.length = 7 by omega]; rfl)) ?_
  have t1 : x.1.toNat = p := by omega
  have t2 : x.2.toNat = i + 1 := by omega
  have t3 : y.1.toNat = q := by omega
  have t4 : y.2.toNat = j + 1 := by omega
  rw [t1, t2, t3, t4]
  simp (disch := (first | decide | omega)) only [hA, go_sem]
  exact leave_pure (xs := [.v (.bool (befB t (p, i + 1) (q, j + 1))), .v (.int .i64 0)]) (.inr rfl) (by simp (disch := (first | decide | omega)) only [resVs, resV, go_sem, hA]) kO hR hB ⟨rfl, rfl, rfl⟩
 ·have hn0 : (chkE t [x, y] != 0) = true := by simpa using h0
  simp (disch := (first | decide | omega)) only [hA, hn0, go_sem]
  exact leave_pure (xs := [.v (.bool false), .v (.int .i64 (chkE t [x, y]))]) (.inr rfl) (by simp (disch := (first | decide | omega)) only [resVs, resV, go_sem, hA]) kO hR hB ⟨by unfold befR; rw [decide_eq_false h0]; rfl, rfl, rfl⟩
theorem befR_ids {t : Tr} (hval : validL t = true) {a c : Nat × Nat} (ha : a ∈ ids t) (hc : c ∈ ids t) : befR t ((a.1 : Int), (a.2 : Int)) ((c.1 : Int), (c.2 : Int)) = .tup [.v (.bool (befB t a c)), .v (.int .i64 0)] := by
 have h0 : chkE t [((a.1 : Int), (a.2 : Int)), ((c.1 : Int), (c.2 : Int))] = 0 := by
  refine chkE_zero.2 ⟨hval, fun z hz => ?_⟩
  obtain ⟨a1, a2⟩ := a
  obtain ⟨c1, c2⟩ := c
  obtain ⟨a2, rfl⟩ : ∃ k, a2 = k + 1 := ⟨a2 - 1, by have := mem_pos ha; simp only at this; omega⟩
  obtain ⟨c2, rfl⟩ : ∃ k, c2 = k + 1 := ⟨c2 - 1, by have := mem_pos hc; simp only at this; omega⟩
  simp only [List.mem_cons, List.not_mem_nil, or_false] at hz
  rcases hz with rfl | rfl
  ·exact existsB_of ha
  ·exact existsB_of hc
 unfold befR
 rw [h0]
 simp
section
variable {α : Type} {n : Nat} {C : Nat → α} {T : List α}
theorem fa_at {p : Nat} (h : p < n) : (fl n C ++ T)[p]? = some (C p) := by rw [List.getElem?_append_left (by rw [fl_len]; exact h), fl_get h]
theorem fa_tail {j : Nat} : (fl n C ++ T)[n + j]? = T[j]? := by rw [List.getElem?_append_right (by rw [fl_len]; omega), fl_len, Nat.add_sub_cancel_left]
theorem fa_tail0 : (fl n C ++ T)[n]? = T[0]? := fa_tail (j := 0)
theorem fa_set {p : Nat} {x : α} (h : p < n) : (fl n C ++ T).set p x = fl n (fUp C p x) ++ T := by rw [List.set_append_left _ _ (by rw [fl_len]; exact h), fl_set]
theorem fa_settail {j : Nat} {x : α} : (fl n C ++ T).set (n + j) x = fl n C ++ T.set j x := by rw [List.set_append_right _ _ (by rw [fl_len]; omega), fl_len, Nat.add_sub_cancel_left]
theorem fa_settail0 {x : α} : (fl n C ++ T).set n x = fl n C ++ T.set 0 x := fa_settail (j := 0)
end
def Dn (t : Tr) (D : Nat → Nat) : Prop := ∀ p, p < t.length → D p ≤ (evsOf t p).length
def Prg (t : Tr) (D0 D : Nat → Nat) (ag : Bool) (n : Nat) : Prop := Dn t D ∧ (ag = false → D = D0 ∧ ∀ q, q < n → ¬ Rdy t D0 q) ∧ (ag = true → remT t D < remT t D0)
def a_IndE : AFunc := ⟨2,19,[.tmp 4],(.seq (.region [⟨some 4,.mv (.c (.v (.int .i64 0))),none⟩]) (.seq (.seq (.region [⟨some 6,.mv (.t 0),none⟩,⟨some 7,.len (.t 6),none⟩,⟨some 8,.mv (.c (.v (.int .i64 0))),none⟩]) (.block 0 (.loop (.seq (.region [⟨some 9,.bin .lss (.t 8) (.t 7),none⟩]) (.seq (.cond (.t 9) .skip (.exit 0)) (.seq (.block 1 (.seq (.region [⟨some 10,.mv (.t 8),none⟩,⟨some 5,.mv (.t 10),none⟩]) (.seq (.region [⟨some 11,.mv (.t 1),none⟩,⟨some 12,.mv (.t 0),none⟩,⟨some 13,.mv (.t 5),none⟩,⟨some 14,.iaddr 5 (.t 12) (.t 13),none⟩,⟨some 15,.load (some 5) (.t 14),none⟩,⟨some 16,.call (.t 11) [(.t 15)],none⟩]) (.cond (.t 16) (.seq (.region [⟨some 17,.mv (.t 5),none⟩,⟨some 4,.mv (.t 17),none⟩]) .ret) .skip)))) (.region [⟨some 18,.bin .add (.t 8) (.c (.v (.int .i64 1))),none⟩,⟨some 8,.mv (.t 18),none⟩]))))))) (.seq (.region [⟨some 4,.mv (.c (.v (.int .i64 (-1)))),none⟩]) .ret)))⟩
theorem a_IndE_ok : cFunc Tryd.prog 78 = some a_IndE := by kernel_rfl
def r_IndE0 : List (Nat × Nat) := [(4, 5), (8, 18)]
def a_ConE : AFunc := ⟨2,9,[.tmp 4],(.seq (.region [⟨some 4,.mv (.c (.v (.bool false))),none⟩]) (.seq (.region [⟨some 5,.mv (.t 0),none⟩,⟨some 6,.mv (.t 1),none⟩,⟨some 7,.call (.c (.fn 78 [])) [(.t 5),(.t 6)],none⟩,⟨some 8,.bin .geq (.t 7) (.c (.v (.int .i64 0))),none⟩,⟨some 4,.mv (.t 8),none⟩]) .ret))⟩
theorem a_ConE_ok : cFunc Tryd.prog 31 = some a_ConE := by kernel_rfl

end Go.Proofs.YtnihdkfmmbpilaaDoor
