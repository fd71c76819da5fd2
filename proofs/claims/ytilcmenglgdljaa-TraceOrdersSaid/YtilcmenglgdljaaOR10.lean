/- Texts of one proof, laid together: OE, OH. No condition. -/
import Derived.Test.YtilcmenglgdljaaOR6
import Derived.Test.YtilcmenglgdljaaOR7
import Derived.Test.YtilcmenglgdljaaOR8
namespace Go.Proofs.Ytilcmenglgdljaa
set_option linter.unusedVariables false
set_option linter.unusedSimpArgs false
attribute [local go_sem ↓] run_skip run_region run_draw run_seq run_block run_exit run_ret run_cond atN_app seqC_normal seqC_exit seqC_ret seqQ_normal seqQ_exit seqQ_ret blkQ_normal blkQ_exit blkQ_ret runOps_nil runOps_cons runD_nil runD_cons grdO_true grdO_false grdD_true grdD_false ifC_true ifC_false opS_val opS_call opS_two opK_app dS_val dS_call dS_two dK_app kUp_same kUp_ne
attribute [local go_sem] rechks_nil rechks_cons rechk gcase_true gcase_false ex_val ex_val0 gd_none gd_some ev_t ev_c evs_nil evs_cons evo_some evo_none hget_at hget_first hsetB_at hsetB_first hsetL_at hsetL_first ofOpt_some aop aload astore aslice aappend aiaddr aiaddrA afaddr alen alenS acopy amm acall alookup amupdate alenM comma keyEq apick binV binVB binVS isSh intOp strOp boolOp shOp eqC eqF and2 cellsOf setFrom fillA fillS rd rdI elems mk bounds AV.cell List.all_cons List.all_nil Bool.and_true Bool.true_and Bool.and_self List.length_cons List.length_nil List.length_append Nat.reduceAdd Nat.reduceSub Nat.reduceMul Nat.zero_add Nat.add_zero List.cons_append List.nil_append List.append_assoc List.append_nil List.getElem?_cons_zero List.getElem?_cons_succ List.getElem?_nil List.set_cons_zero List.set_cons_succ List.drop_zero List.drop_succ_cons List.take_zero List.take_succ_cons List.take_nil List.drop_nil List.map_cons List.map_nil Option.map_some if_true if_false Bool.false_eq_true and_self true_and and_true Nat.reduceLeDiff Nat.reduceLT Nat.le_refl Nat.reduceEqDiff ite_true ite_false beq_self_eq_true beq_true beq_false Bool.not_true Bool.not_false Bool.true_beq Bool.false_beq map_vs vs_len vs_get vs_take vs_drop vs_snoc1 vs_snoc2 vs_snoc3 vs_snoc5 vs_set1 vs_set2 vs_rep wrap_id le_T lt_T le_F lt_F leI_T ltI_T leI_F ltI_F geI gtI get_T decide_true decide_false room List.getElem?_map List.length_map List.length_take Int.toNat_natCast Nat.min_def Nat.min_self nth_kOf put_kOf put_kNo kOv_cons kOv_nil KHas KArgs List.getElem_cons_zero List.getElem_cons_succ
def a_rCpL : AFunc := ⟨2,108,[.cell 4 (some 1)],(.seq (.region [⟨some 2,.box (.t 0),none⟩,⟨some 4,.alloc [(.v .zsl)],none⟩]) (.seq (.region [⟨some 5,.alloc [(.v .zsl)],none⟩]) (.seq (.seq (.region [⟨some 6,.mv (.c (.v (.int .i64 0))),none⟩]) (.block 0 (.loop (.seq (.seq (.region [⟨some 13,.mv (.t 6),none⟩,⟨some 14,.faddr 0 (.t 2),none⟩,⟨some 15,.load none (.t 14),none⟩,⟨some 16,.len (.t 15),none⟩,⟨some 17,.bin .lss (.t 13) (.t 16),none⟩]) (.cond (.t 17) .skip (.exit 0))) (.seq (.block 1 (.seq (.region [⟨some 20,.faddr 0 (.t 2),none⟩,⟨some 21,.load none (.t 20),none⟩,⟨some 22,.mv (.t 6),none⟩,⟨some 23,.iaddr 3 (.t 21) (.t 22),none⟩,⟨some 24,.faddr 0 (.t 23),none⟩,⟨some 25,.load none (.t 24),none⟩,⟨some 26,.build [(.v (.str ⟨#[]⟩)),(.v .zsl),(.v .zsl)] [(0,1,(.t 25))],none⟩,⟨some 7,.alloc [(.v (.str ⟨#[]⟩)),(.v .zsl),(.v .zsl)],none⟩,⟨none,.store 3 (.t 7) (.t 26),none⟩]) (.seq (.seq (.region [⟨some 8,.mv (.c (.v (.int .i64 0))),none⟩]) (.block 2 (.loop (.seq (.seq (.region [⟨some 27,.mv (.t 8),none⟩,⟨some 28,.faddr 0 (.t 2),none⟩,⟨some 29,.load none (.t 28),none⟩,⟨some 30,.mv (.t 6),none⟩,⟨some 31,.iaddr 3 (.t 29) (.t 30),none⟩,⟨some 32,.faddr 1 (.t 31),none⟩,⟨some 33,.load none (.t 32),none⟩,⟨some 34,.len (.t 33),none⟩,⟨some 35,.bin .lss (.t 27) (.t 34),none⟩]) (.cond (.t 35) .skip (.exit 2))) (.seq (.block 3 (.draw [⟨0,⟨some 38,.faddr 1 (.t 7),none⟩,[]⟩,⟨1,⟨some 39,.load none (.t 38),none⟩,[]⟩,⟨2,⟨some 40,.faddr 0 (.t 2),none⟩,[]⟩,⟨3,⟨some 41,.load none (.t 40),none⟩,[]⟩,⟨4,⟨some 42,.mv (.t 6),none⟩,[]⟩,⟨5,⟨some 43,.iaddr 3 (.t 41) (.t 42),none⟩,[]⟩,⟨6,⟨some 44,.faddr 1 (.t 43),none⟩,[]⟩,⟨7,⟨some 45,.load none (.t 44),none⟩,[]⟩,⟨8,⟨some 46,.mv (.t 8),none⟩,[]⟩,⟨9,⟨some 47,.iaddr 2 (.t 45) (.t 46),none⟩,[]⟩,⟨10,⟨some 48,.load (some 2) (.t 47),none⟩,[]⟩,⟨11,⟨some 49,.bslice 2 [(.v (.str ⟨#[]⟩)),(.v (.int .i64 0))] 1 [(0,(.t 48))],none⟩,[⟨some 38,.faddr 1 (.t 7),none⟩,⟨some 39,.load none (.t 38),none⟩]⟩,⟨12,⟨some 50,.append 2 24 (.t 39) (.t 49),none⟩,[]⟩,⟨13,⟨some 51,.faddr 1 (.t 7),none⟩,[]⟩,⟨14,⟨none,.store 1 (.t 51) (.t 50),none⟩,[]⟩])) (.region [⟨some 36,.mv (.t 8),none⟩,⟨some 37,.bin .add (.t 36) (.c (.v (.int .i64 1))),none⟩,⟨some 8,.mv (.t 37),none⟩])))))) (.seq (.seq (.region [⟨some 9,.mv (.c (.v (.int .i64 0))),none⟩]) (.block 4 (.loop (.seq (.seq (.region [⟨some 52,.mv (.t 9),none⟩,⟨some 53,.mv (.t 1),none⟩,⟨some 54,.mv (.t 6),none⟩,⟨some 55,.iaddr 1 (.t 53) (.t 54),none⟩,⟨some 56,.load none (.t 55),none⟩,⟨some 57,.bin .lss (.t 52) (.t 56),none⟩]) (.cond (.t 57) .skip (.exit 4))) (.seq (.block 5 (.seq (.region [⟨some 60,.faddr 0 (.t 2),none⟩,⟨some 61,.load none (.t 60),none⟩,⟨some 62,.mv (.t 6),none⟩,⟨some 63,.iaddr 3 (.t 61) (.t 62),none⟩,⟨some 64,.faddr 2 (.t 63),none⟩,⟨some 65,.load none (.t 64),none⟩,⟨some 66,.mv (.t 9),none⟩,⟨some 67,.iaddr 5 (.t 65) (.t 66),none⟩,⟨some 68,.load (some 5) (.t 67),none⟩,⟨some 10,.alloc [(.v (.int .i64 0)),(.v (.int .i64 0)),(.v (.int .i64 0)),(.v (.int .i64 0)),(.v .zsl)],none⟩,⟨none,.store 5 (.t 10) (.t 68),none⟩]) (.seq (.region [⟨some 69,.faddr 0 (.t 10),none⟩,⟨some 70,.load none (.t 69),none⟩,⟨some 71,.faddr 1 (.t 10),none⟩,⟨some 72,.load none (.t 71),none⟩,⟨some 73,.faddr 2 (.t 10),none⟩,⟨some 74,.load none (.t 73),none⟩,⟨some 75,.faddr 3 (.t 10),none⟩,⟨some 76,.load none (.t 75),none⟩,⟨some 77,.build [(.v (.int .i64 0)),(.v (.int .i64 0)),(.v (.int .i64 0)),(.v (.int .i64 0)),(.v .zsl)] [(0,1,(.t 70)),(1,1,(.t 72)),(2,1,(.t 74)),(3,1,(.t 76))],none⟩,⟨some 11,.alloc [(.v (.int .i64 0)),(.v (.int .i64 0)),(.v (.int .i64 0)),(.v (.int .i64 0)),(.v .zsl)],none⟩,⟨none,.store 5 (.t 11) (.t 77),none⟩]) (.seq (.seq (.region [⟨some 12,.mv (.c (.v (.int .i64 0))),none⟩]) (.block 6 (.loop (.seq (.seq (.region [⟨some 78,.mv (.t 12),none⟩,⟨some 79,.faddr 4 (.t 10),none⟩,⟨some 80,.load none (.t 79),none⟩,⟨some 81,.len (.t 80),none⟩,⟨some 82,.bin .lss (.t 78) (.t 81),none⟩]) (.cond (.t 82) .skip (.exit 6))) (.seq (.block 7 (.draw [⟨0,⟨some 85,.faddr 4 (.t 11),none⟩,[]⟩,⟨1,⟨some 86,.load none (.t 85),none⟩,[]⟩,⟨2,⟨some 87,.faddr 4 (.t 10),none⟩,[]⟩,⟨3,⟨some 88,.load none (.t 87),none⟩,[]⟩,⟨4,⟨some 89,.mv (.t 12),none⟩,[]⟩,⟨5,⟨some 90,.iaddr 2 (.t 88) (.t 89),none⟩,[]⟩,⟨6,⟨some 91,.load (some 2) (.t 90),none⟩,[]⟩,⟨7,⟨some 92,.bslice 2 [(.v (.int .i64 0)),(.v (.int .i64 0))] 1 [(0,(.t 91))],none⟩,[⟨some 85,.faddr 4 (.t 11),none⟩,⟨some 86,.load none (.t 85),none⟩]⟩,⟨8,⟨some 93,.append 2 16 (.t 86) (.t 92),none⟩,[]⟩,⟨9,⟨some 94,.faddr 4 (.t 11),none⟩,[]⟩,⟨10,⟨none,.store 1 (.t 94) (.t 93),none⟩,[]⟩])) (.region [⟨some 83,.mv (.t 12),none⟩,⟨some 84,.bin .add (.t 83) (.c (.v (.int .i64 1))),none⟩,⟨some 12,.mv (.t 84),none⟩])))))) (.region [⟨some 95,.faddr 2 (.t 7),none⟩,⟨some 96,.load none (.t 95),none⟩,⟨some 97,.load (some 5) (.t 11),none⟩,⟨some 98,.bslice 5 [(.v (.int .i64 0)),(.v (.int .i64 0)),(.v (.int .i64 0)),(.v (.int .i64 0)),(.v .zsl)] 1 [(0,(.t 97))],none⟩,⟨some 99,.append 5 56 (.t 96) (.t 98),none⟩,⟨some 100,.faddr 2 (.t 7),none⟩,⟨none,.store 1 (.t 100) (.t 99),none⟩]))))) (.region [⟨some 58,.mv (.t 9),none⟩,⟨some 59,.bin .add (.t 58) (.c (.v (.int .i64 1))),none⟩,⟨some 9,.mv (.t 59),none⟩])))))) (.region [⟨some 101,.faddr 0 (.t 5),none⟩,⟨some 102,.load none (.t 101),none⟩,⟨some 103,.load (some 3) (.t 7),none⟩,⟨some 104,.bslice 3 [(.v (.str ⟨#[]⟩)),(.v .zsl),(.v .zsl)] 1 [(0,(.t 103))],none⟩,⟨some 105,.append 3 64 (.t 102) (.t 104),none⟩,⟨some 106,.faddr 0 (.t 5),none⟩,⟨none,.store 1 (.t 106) (.t 105),none⟩]))))) (.region [⟨some 18,.mv (.t 6),none⟩,⟨some 19,.bin .add (.t 18) (.c (.v (.int .i64 1))),none⟩,⟨some 6,.mv (.t 19),none⟩])))))) (.seq (.region [⟨some 107,.load (some 1) (.t 5),none⟩,⟨none,.store 1 (.t 4) (.t 107),none⟩]) .ret))))⟩
theorem a_rCpL_ok : cFunc Try.prog 17 = some a_rCpL := by kernel_rfl
def r_rCpL0 : List (Nat × Nat) := [(6, 106)]
def r_rCpL1 : List (Nat × Nat) := [(8, 8), (27, 51)]
def r_rCpL2 : List (Nat × Nat) := [(9, 12), (52, 100)]
def r_rCpL3 : List (Nat × Nat) := [(12, 12), (78, 94)]

theorem frz0_ltX {m id ver sz : Nat} {rows : List (List IV)} {x : AV} (h : AVlt m x) (hm : m ≤ id) : frz0 id ver sz rows x = x := by
 cases h with
 | sl i v o n hi => simp only [frz0]; rw [if_neg oM]
 | _ => rfl
theorem frz_ltX {m id ver sz : Nat} {rows : List (List IV)} {x : AV} (h : AVlt m x) (hm : m ≤ id) : frz id ver sz rows x = x := by
 cases h with
 | agg cs hc =>
   simp only [frz]
   congr 1
   rw [List.map_congr_left (fun c hcc => frz0_ltX (hc c hcc) hm), List.map_id']
 | tup cs hc =>
   simp only [frz]
   congr 1
   rw [List.map_congr_left (fun c hcc => frz0_ltX (hc c hcc) hm), List.map_id']
 | sl i v o n hi => exact frz0_ltX (.sl i v o n hi) hm
 | _ => rfl
theorem KHas.frzX {f : Nat → AV} {m id ver sz : Nat} {rows : List (List IV)} (hm : m ≤ id) : ∀ {ov : List (Nat × AV)}, KHas f ov → KOvLt m ov → KHas (fun n => frz id ver sz rows (f n)) ov
 | [], _, _ => trivial
 | (n, x) :: r, h, ho => ⟨by show Go.Proofs.Ytilcmenglgdljaa.frz id ver sz rows (f n) = x; rw [h.1]; exact frz_ltX ho.1 hm, KHas.frzX hm h.2 ho.2⟩
theorem els_frz {m id ver sz : Nat} {rows : List (List IV)} (hm : m ≤ id) {els : List (List AV)} (h : ∀ r ∈ els, ∀ c ∈ r, AVlt m c) : els.map (·.map (frz0 id ver sz rows)) = els := by
 rw [List.map_congr_left (g := fun r => r) (fun r hr => by rw [List.map_congr_left (fun c hc => frz0_ltX (h r hr c hc) hm), List.map_id']), List.map_id']
theorem rows_frz {m id ver sz : Nat} {rows : List (List IV)} {h : List Row} (hh : RowsLt m h) (hm : m ≤ id) : h.map (rowMap (frz0 id ver sz rows)) = h := by
 refine List.ext_getElem (by simp) (fun i h1 h2 => ?_)
 rw [List.getElem_map]
 cases hr : h[i] with
 | dead v => rfl
 | live v s els =>
   have := hh i v s els (by rw [List.getElem?_eq_getElem h2, hr])
   unfold rowMap
   simp only
   rw [els_frz hm this]
theorem vs_frzX {id ver sz : Nat} {rows r : List (List IV)} : (vs r).map (List.map (frz0 id ver sz rows)) = vs r := by
 simp [vs, frz0, Function.comp_def]
theorem Weak.kfz {N : Nat} {p : List (Nat × Nat)} {ov : List (Nat × AV)} {f g : Nat → AV} {b l l2 l' : List Row} {k i ver sz : Nat} {rows : List (List IV)} (hi : l[i]? = some (.live ver sz (vs rows))) (he : kAny p f = g) (h : KHas f ov) (hl : (l.set i (.dead ver)).map (rowMap (frz0 (b.length + i) ver sz rows)) = l2) (hE : KLt (b.length + k) g) (hki : k ≤ i) (ho : KOvLt (b.length + i) ov)
  (hw : ∀ f', kAny p f' = g → KHas f' ov → Weak (kOf N f') b l2 (kOf N (kOv ov g)) b l') : Weak (kOf N f) b l (kOf N (kOv ov g)) b l' := by
 have h2 := Weak.freezeR (e := kOf N f) (b := b) hi
 have h3 : (kOf N f).map (frz (b.length + i) ver sz rows) = kOf N (fun n => frz (b.length + i) ver sz rows (f n)) := by unfold kOf; rw [List.map_map]; rfl
 rw [h3, hl] at h2
 refine h2.trans (hw _ ?_ (h.frzX (m := b.length + i) (Nat.le_refl _) ho))
 rw [← he]
 funext n
 unfold kAny
 split
 ·rfl
 ·rename_i hn
  have hf : f n = g n := by rw [← he]; unfold kAny; rw [if_neg hn]
  show frz (b.length + i) ver sz rows (f n) = f n
  rw [hf]
  exact frz_ltX (m := b.length + k) (id := b.length + i) (hE n) oM
theorem Weak.nilcellP {e : List AV} {b P X : List Row} {m ver z k j sz : Nat} {els : List (List AV)} {row : List AV} (hi : X[m]? = some (.live ver z els)) (hk : els[k]? = some row) (hj : row[j]? = some (.v .zsl)) :
  Weak e b (P ++ X) e b (P ++ (X.set m (.live ver z (els.set k (row.set j (.sl (b.length + (P.length + X.length)) 0 0 0)))) ++ [.live 0 sz []])) := by
 have := Weak.nilcell (e := e) (b := b) (l := P ++ X) (i := P.length + m) (sz := sz) (by rw [app_at]; exact hi) hk hj
 rw [app_set, List.length_append, List.append_assoc] at this
 exact this
theorem RowsLt.appd {m : Nat} {h k : List Row} (h1 : RowsLt m h) (h2 : RowsLt m k) : RowsLt m (h ++ k) := fun id ver sz els hr row hrow c hc => by
 by_cases hid : id < h.length
 ·rw [List.getElem?_append_left hid] at hr; exact h1 id ver sz els hr row hrow c hc
 ·rw [List.getElem?_append_right oM] at hr; exact h2 _ ver sz els hr row hrow c hc
theorem RowsLt.fl {m n : Nat} {C : Nat → Row} (h : ∀ i, i < n → ∀ ver sz els, C i = .live ver sz els → ∀ row ∈ els, ∀ c ∈ row, AVlt m c) : RowsLt m (fl n C) := fun id ver sz els hr row hrow c hc => by
 by_cases hid : id < n
 ·rw [fl_get hid] at hr; exact h id hid ver sz els (Option.some.inj hr) row hrow c hc
 ·rw [fl_none oM] at hr; cases hr
theorem Weak.kroundP {N : Nat} {p : List (Nat × Nat)} {ov : List (Nat × AV)} {f g : Nat → AV} {b P X X1 junk : List Row} {k : Nat} (pR : RowsLt (b.length + P.length) P) (he : kAny p f = g) (h : KHas f ov) (hl : X = X1 ++ junk) (hE : KLt (b.length + k) g) (hk : k ≤ P.length + X1.length) (ho : KOvLt (b.length + (P.length + X1.length)) ov) (hb : RowsLt b.length b) (h1 : RowsLt (b.length + (P.length + X1.length)) X1) :
  Weak (kOf N f) b (P ++ X) (kOf N (kOv ov g)) b (P ++ X1) := by
 have hl1 : (P ++ X1).length = P.length + X1.length := List.length_append
 exact Weak.kround (p := p) (k := k) (junk := junk) he h (by rw [hl, List.append_assoc]) hE (by rw [hl1]; exact hk) (by rw [hl1]; exact ho) hb (by rw [hl1]; exact (pR.mono oM).appd h1)
theorem Weak.kroundFP {N : Nat} {p : List (Nat × Nat)} {ov : List (Nat × AV)} {f g : Nat → AV} {b P X X1 junk : List Row} {k m ver sz : Nat} {rows : List (List IV)} (pR : RowsLt (b.length + P.length) P) (hi : X[m]? = some (.live ver sz (vs rows))) (he : kAny p f = g) (h : KHas f ov) (hl : (X.set m (.dead ver)).map (rowMap (frz0 (b.length + (P.length + m)) ver sz rows)) = X1 ++ junk) (hE : KLt (b.length + k) g) (hk : k ≤ P.length + X1.length) (hm : X1.length ≤ m) (ho : KOvLt (b.length + (P.length + X1.length)) ov) (hb : RowsLt b.length b) (h1 : RowsLt (b.length + (P.length + X1.length)) X1)
  (ho2 : KOvLt (b.length + (P.length + m)) ov) : Weak (kOf N f) b (P ++ X) (kOf N (kOv ov g)) b (P ++ X1) := by
 refine Weak.kfz (i := P.length + m) (k := k) (by rw [app_at]; exact hi) he h rfl hE oM ho2 (fun f' he' h' => ?_)
 rw [app_set, List.map_append, rows_frz pR oM]
 exact Weak.kroundP pR he' h' hl hE hk ho hb h1
def prA (t : Tr) (k : Nat) : Pr := t.getD k dfPr
def cpE (t : Tr) (p : Nat) : Row := .live (prA t p).evs.length 5 (vs ((prA t p).evs.map eEv))
def cpC (t : Tr) (base o : Nat) (p : Nat) : List AV := [.v (.str (prA t p).name), .v (.isl 2 ((prA t p).vars.map eVr)), .sl (base + (o + p)) (prA t p).evs.length 0 (prA t p).evs.length]
def cpH (t : Tr) (B k : Nat) : List Row := .live 0 1 [[.v (.isl 3 (t.map ePr))]] :: .live 0 1 [[.v .zsl]] :: .live 0 1 [[.sl (B + 3) k 0 k]] :: .live k 3 (fl k (cpC t B 4)) :: fl k (cpE t)
def cpR (t : Tr) (base : Nat) : List Row := .live t.length 3 (fl t.length (cpC t base 1)) :: fl t.length (cpE t)
def lensT (t : Tr) : List Int := t.map fun p => (p.evs.length : Int)
theorem cpH_lt {t : Tr} {B k : Nat} : RowsLt (B + (4 + k)) (cpH t B k) := by
 unfold cpH
 refine RowsLt_live.2 ⟨by simp [AVlt_v], RowsLt_live.2 ⟨by simp [AVlt_v], RowsLt_live.2 ⟨by simp [AVlt_sl]; omega, RowsLt_live.2 ⟨fun row hrow c hc => ?_, RowsLt.fl (fun i hi ver sz els he row hrow c hc => ?_)⟩⟩⟩⟩
 ·obtain ⟨p, hp, rfl⟩ := List.mem_map.1 hrow
  have hp := List.mem_range.1 hp
  unfold cpC at hc
  simp only [List.mem_cons, List.not_mem_nil, or_false] at hc
  rcases hc with rfl | rfl | rfl
  ·exact .v _
  ·exact .v _
  ·exact .sl _ _ _ _ oM
 ·unfold cpE at he
  cases he
  exact vs_lt.2 trivial row hrow c hc
theorem kLr {p : Prop} (h : p := by simp (disch := omega) only [lts.down, Nat.reduceLT, Nat.reduceAdd]) : p := h
theorem kV {p : Prop} (h : p := by simp (disch := omega) only [KOvLt, lts.down, Nat.reduceLT, Nat.reduceAdd]) : p := h
theorem cp_end {N : Nat} {p : List (Nat × Nat)} {f g : Nat → AV} {B P : List Row} {t : Tr} {k : Nat} {nm : ByteArray} {xs : List Vr} {ys : List Ev} {x0 x3 : Row} {s : Nat} (hnm : (prA t k).name = nm) (hxs : (prA t k).vars = xs) (hys : (prA t k).evs = ys) (hP : P = cpH t B.length k)
  (he : kAny p f = g) (h : KHas f [(s, .v (.int .i64 ((k + 1 : Nat) : Int)))]) (hE : KLt (B.length + 4) g) (hR : RowsLt B.length B) :
  Weak (kOf N f) B (((P ++ [x0, .live xs.length 2 (vs (xs.map eVr)), .live ys.length 5 (vs (ys.map eEv)), x3]).set 3 (.live (k + 1) 3 (fl k (cpC t B.length 4) ++ [[.v (.str nm), .sl (B.length + (P.length + 1)) xs.length 0 xs.length, .sl (B.length + (P.length + 2)) ys.length 0 ys.length]]))).set 2 (.live 0 1 [[.sl (B.length + 3) (k + 1) 0 (k + 1)]]))
   (kOf N (kOv [(s, .v (.int .i64 ((k + 1 : Nat) : Int)))] g)) B (cpH t B.length (k + 1)) := by
 have hPl : P.length = 4 + k := by rw [hP]; simp [cpH, fl_len]; omega
 obtain ⟨els, hels⟩ : ∃ els, els = fl k (cpC t B.length 4) := ⟨_, rfl⟩
 have hlq : ((P ++ [x0, .live xs.length 2 (vs (xs.map eVr)), .live ys.length 5 (vs (ys.map eEv)), x3]).set 3 (.live (k + 1) 3 (fl k (cpC t B.length 4) ++ [[.v (.str nm), .sl (B.length + (P.length + 1)) xs.length 0 xs.length, .sl (B.length + (P.length + 2)) ys.length 0 ys.length]]))).set 2 (.live 0 1 [[.sl (B.length + 3) (k + 1) 0 (k + 1)]])
   = (.live 0 1 [[.v (.isl 3 (t.map ePr))]] :: .live 0 1 [[.v .zsl]] :: .live 0 1 [[.sl (B.length + 3) (k + 1) 0 (k + 1)]] :: .live (k + 1) 3 (els ++ [[.v (.str nm), .sl (B.length + (P.length + 1)) xs.length 0 xs.length, .sl (B.length + (P.length + 2)) ys.length 0 ys.length]]) :: fl k (cpE t)) ++ [x0, .live xs.length 2 (vs (xs.map eVr)), .live ys.length 5 (vs (ys.map eEv)), x3] := by
  rw [List.set_append_left _ _ oM, List.set_append_left _ _ (by rw [List.length_set]; omega), hels]
  congr 1
  generalize P.length = q
  rw [hP]; rfl
 rw [hlq]
 have hql : ((.live 0 1 [[.v (.isl 3 (t.map ePr))]] :: .live 0 1 [[.v .zsl]] :: .live 0 1 [[.sl (B.length + 3) (k + 1) 0 (k + 1)]] :: .live (k + 1) 3 (els ++ [[.v (.str nm), .sl (B.length + (P.length + 1)) xs.length 0 xs.length, .sl (B.length + (P.length + 2)) ys.length 0 ys.length]]) :: fl k (cpE t)) : List Row).length = P.length := by rw [hPl]; simp [fl_len]; omega
 generalize hQ : (.live 0 1 [[.v (.isl 3 (t.map ePr))]] :: .live 0 1 [[.v .zsl]] :: .live 0 1 [[.sl (B.length + 3) (k + 1) 0 (k + 1)]] :: .live (k + 1) 3 (els ++ [[.v (.str nm), .sl (B.length + (P.length + 1)) xs.length 0 xs.length, .sl (B.length + (P.length + 2)) ys.length 0 ys.length]]) :: fl k (cpE t) : List Row) = Q at hql ⊢
 have hels2 : ∀ r ∈ els, ∀ c ∈ r, AVlt (B.length + (4 + k)) c := fun r hr c hc => by
  rw [hels] at hr
  obtain ⟨q, hq, rfl⟩ := List.mem_map.1 hr
  have hq := List.mem_range.1 hq
  unfold cpC at hc
  simp only [List.mem_cons, List.not_mem_nil, or_false] at hc
  rcases hc with rfl | rfl | rfl
  ·exact .v _
  ·exact .v _
  ·exact .sl _ _ _ _ oM
 refine Weak.kfz (p := p) (i := P.length + 1) (ver := xs.length) (sz := 2) (rows := xs.map eVr) (k := 4) (by rw [← hql, app_at]; rfl) he h rfl hE oM kV (fun f' he' h' => ?_)
 have hset : ∀ X : List Row, (Q ++ X).set (P.length + 1) (.dead xs.length) = Q ++ X.set 1 (.dead xs.length) := fun X => by rw [← hql]; exact app_set
 rw [hset, List.map_append]
 have hh : frz0 (B.length + (P.length + 1)) xs.length 2 (xs.map eVr) (.sl (B.length + (P.length + 1)) xs.length 0 xs.length) = .v (.isl 2 (xs.map eVr)) := frz_here (by simp)
 have hn1 : frz0 (B.length + (P.length + 1)) xs.length 2 (xs.map eVr) (.sl (B.length + (P.length + 2)) ys.length 0 ys.length) = .sl (B.length + (P.length + 2)) ys.length 0 ys.length := by simp only [frz0]; rw [if_neg oM]
 have hn2 : frz0 (B.length + (P.length + 1)) xs.length 2 (xs.map eVr) (.sl (B.length + 3) (k + 1) 0 (k + 1)) = .sl (B.length + 3) (k + 1) 0 (k + 1) := by simp only [frz0]; rw [if_neg oM]
 have hfl : RowsLt (B.length + 0) (fl k (cpE t)) := RowsLt.fl (fun i hi ver sz els he row hrow c hc => by
  unfold cpE at he
  cases he
  exact vs_lt.2 trivial row hrow c hc)
 have hQm : Q.map (rowMap (frz0 (B.length + (P.length + 1)) xs.length 2 (xs.map eVr))) = .live 0 1 [[.v (.isl 3 (t.map ePr))]] :: .live 0 1 [[.v .zsl]] :: .live 0 1 [[.sl (B.length + 3) (k + 1) 0 (k + 1)]] :: .live (k + 1) 3 (els ++ [[.v (.str nm), .v (.isl 2 (xs.map eVr)), .sl (B.length + (P.length + 2)) ys.length 0 ys.length]]) :: fl k (cpE t) := by
  rw [← hQ]
  simp only [List.map_cons, List.map_nil, rowMap, List.map_append, hh, hn1, hn2]
  rw [rows_frz hfl oM, els_frz (m := B.length + (4 + k)) oM hels2]
  simp only [frz0]
 rw [hQm]
 clear hQm hlq hset
 obtain ⟨σ, s1, s2⟩ : ∃ σ : Nat → Nat, (∀ j, j < 4 + k → σ j = j) ∧ (∀ j, 4 + k ≤ j → σ j = j + 2) := ⟨fun j => if j < 4 + k then j else j + 2, fun j h => if_pos h, fun j h => if_neg oM⟩
 refine Weak.kren (p := p) (k := 4) (m := k + 5) (by simp [cpH, fl_len]) σ he' h' hE oM (fun j hj => s1 j oM) kV hR (fun a c _ _ h => ?_) (fun j r' h => ?_)
 ·by_cases ha : a < 4 + k <;> by_cases hc : c < 4 + k
  ·rw [s1 a ha, s1 c hc] at h; exact h
  ·rw [s1 a ha, s2 c oM] at h; omega
  ·rw [s2 a oM, s1 c hc] at h; omega
  ·rw [s2 a oM, s2 c oM] at h; omega
 ·match j, h with
  | 0, h => rw [s1 0 oM]; cases h; exact ⟨_, rfl, RnR.rnK (k := 4) (fun j hj => s1 j oM) oM kLr⟩
  | 1, h => rw [s1 1 oM]; cases h; exact ⟨_, rfl, RnR.rnK (k := 4) (fun j hj => s1 j oM) oM kLr⟩
  | 2, h => rw [s1 2 oM]; cases h; exact ⟨_, rfl, RnR.rnK (k := 4) (fun j hj => s1 j oM) oM kLr⟩
  | 3, h =>
    rw [s1 3 oM]; cases h
    refine ⟨_, rfl, rfl, rfl, by rw [List.length_append, hels, fl_len, fl_len]; rfl, fun i r r' h1 h2 => ?_⟩
    by_cases hi : i < k
    ·rw [List.getElem?_append_left (by rw [hels, fl_len]; exact hi), hels, fl_get hi] at h1
     rw [fl_get oM] at h2
     cases h1; cases h2
     exact .cons (.v _) (.cons (.v _) (.cons (Rn.slE (j := 4 + i) (s1 _ oM) oM) .nil))
    ·obtain rfl : i = k := by
      have := (List.getElem?_eq_some_iff.1 h2).1
      rw [fl_len] at this; omega
     rw [List.getElem?_append_right (by rw [hels, fl_len]; exact Nat.le_refl _), hels, fl_len, Nat.sub_self] at h1
     rw [fl_get oM] at h2
     cases h1; cases h2
     unfold cpC
     rw [hnm, hxs, hys]
     exact .cons (.v _) (.cons (.v _) (.cons (Rn.slE (j := 4 + i) (by rw [s2 _ (Nat.le_refl _), hPl]) oM) .nil))
  | j + 4, h =>
    have h : (fl (k + 1) (cpE t))[j]? = some r' := h
    by_cases hj : j < k
    ·rw [s1 _ oM]
     rw [fl_get oM] at h; cases h
     exact ⟨cpE t j, by simp only [List.cons_append, List.getElem?_cons_succ]; exact fz_at hj, RnR.plain⟩
    ·obtain rfl : j = k := by
      have := (List.getElem?_eq_some_iff.1 h).1
      rw [fl_len] at this; omega
     rw [fl_get oM] at h; cases h
     rw [s2 _ oM]
     refine ⟨cpE t j, ?_, RnR.plain⟩
     simp only [List.cons_append, List.getElem?_cons_succ]
     rw [fz_tail]
     unfold cpE
     rw [hys]
     show some (Row.live ys.length 5 ((vs (ys.map eEv)).map (List.map _))) = _
     rw [vs_frzX]
set_option maxRecDepth 20000 in
set_option maxHeartbeats 16000000 in
theorem rCopy_live (t : Tr) (hS : Small t) (b l : List Row) : ACalls Try.prog 17 [.agg [.v (eT t)], .v (.isl 1 ((lensT t).map eI))] b l
  (fun r b' l' => r = .agg [.sl (b.length + l.length) t.length 0 t.length] ∧ b' = b ∧ l' = l ++ cpR t (b.length + l.length)) := by
 refine calls_kept a_rCpL_ok rfl (by decide) ?_
 intro B g hB hR hE hA
 simp only [KArgs] at hA
 have hnp := hS.np
 simp (disch := (first | decide | omega)) only [a_rCpL, hA, eT, go_sem]
 refine loop_kept (ι := Nat) r_rCpL0 (fun i => [(6, .v (.int .i64 i))]) 4 (fun i => cpH t B.length i) (fun i => i ≤ t.length) (fun i => t.length - i) 0 (Nat.zero_le _) (by (repeat (first | exact hE.mono oM | refine KLt.up ?_ kLr))) (by ((try simp (disch := decide) only [hA, go_sem]) <;> exact kH)) (fun e => by
  have h := Weak.nilcell (e := e) (b := B) (l := [.live 0 1 [[.v (.isl 3 (t.map ePr))]], .live 0 1 [[.v .zsl]], .live 0 1 [[.v .zsl]]]) (i := 2) (k := 0) (j := 0) (sz := 3) rfl rfl rfl
  exact h) ?_
 intro g1 hE1 hEE1 hg1 k hk
 by_cases hlt : k < t.length
 ·have hne := hS.ne t[k] (List.getElem_mem hlt)
  have hnv := hS.nv t[k] (List.getElem_mem hlt)
  have hna := hS.na t[k] (List.getElem_mem hlt)
  have hget : (t.map ePr)[k]? = some [.str t[k].name, .isl 2 (t[k].vars.map eVr), .isl 5 (t[k].evs.map eEv)] := by rw [List.getElem?_map, List.getElem?_eq_getElem hlt]; rfl
  have hc : ((lensT t).map eI)[k]? = some [.int .i64 (t[k].evs.length : Int)] := by unfold lensT; rw [List.getElem?_map, List.getElem?_map, List.getElem?_eq_getElem hlt]; rfl
  have hpk : prA t k = t[k] := getD_lt dfPr t hlt
  obtain ⟨P, hP⟩ : ∃ P, P = cpH t B.length k := ⟨_, rfl⟩
  have hPl : P.length = 4 + k := by rw [hP]; simp [cpH, fl_len]; omega
  have pR : RowsLt (B.length + P.length) P := by rw [hPl, hP]; exact cpH_lt
  have p0 : ∀ R, (P ++ R)[0]? = some (.live 0 1 [[.v (.isl 3 (t.map ePr))]]) := fun R => by rw [hP]; rfl
  have p0' : P[0]? = some (.live 0 1 [[.v (.isl 3 (t.map ePr))]]) := by rw [hP]; rfl
  have p2 : ∀ R, (P ++ R)[2]? = some (.live 0 1 [[.sl (B.length + 3) k 0 k]]) := fun R => by rw [hP]; rfl
  have p3 : ∀ R, (P ++ R)[3]? = some (.live k 3 (fl k (cpC t B.length 4))) := fun R => by rw [hP]; rfl
  have dk : decide ((k : Int) < (t.length : Int)) = true := decide_eq_true oM
  generalize hvs : t[k].vars = xs at hget hnv
  generalize hes : t[k].evs = ys at hget hne hna hc
  generalize hnm : t[k].name = nm at hget
  change run _ _ _ _ _ (cpH t B.length k) _
  rw [← hP]
  simp (disch := (first | decide | omega)) only [hA, hg1, hget, hc, p0', dk, List.length_map, app_at0, app_at, app_set0, app_set, setFrom, cellsOf, go_sem]
  refine loop_kept (ι := Nat) r_rCpL1 (fun j => [(8, .v (.int .i64 j))]) (P.length + 1) (fun j => P ++ [.live 0 3 [[.v (.str nm), .sl (B.length + (P.length + 1)) j 0 j, .v .zsl]], .live j 2 (vs ((xs.take j).map eVr))]) (fun j => j ≤ xs.length) (fun j => xs.length - j) 0 (Nat.zero_le _) (by (repeat (first | exact hE1.mono oM | refine KLt.up ?_ kLr))) (by ((try simp (disch := decide) only [hA, hg1, go_sem]) <;> exact kH)) (fun e => by
   have h := Weak.nilcellP (e := e) (b := B) (P := P) (X := [.live 0 3 [[.v (.str nm), .v .zsl, .v .zsl]]]) (m := 0) (k := 0) (j := 1) (sz := 2) rfl rfl rfl
   exact h) ?_
  intro g2 hE2 hEE2 hg2 j hj
  by_cases hlj : j < xs.length
  ·have dj : decide ((j : Int) < (xs.length : Int)) = true := decide_eq_true oM
   have hgj : (xs.map eVr)[j]? = some [.str xs[j].name, .int .i64 xs[j].init] := by rw [List.getElem?_map, List.getElem?_eq_getElem hlj]; rfl
   have hel : min j xs.length = j := by omega
   simp (disch := (first | decide | omega)) only [hA, hg1, hg2, p0, hget, hgj, dj, hel, app_at0, app_at, app_set0, app_set, setFrom, cellsOf, List.length_map, List.length_take, fillS, List.replicate_succ, List.replicate_zero, List.set_cons_zero, List.set_cons_succ, go_sem]
   refine ⟨j + 1, hlj, by simp only; omega, ?_⟩
   have hr2 : List.take j (List.map eVr (List.take j xs)) = (xs.take j).map eVr := List.take_of_length_le (by simp; omega)
   have hr : List.take j (List.map eVr (List.take j xs)) ++ [[.str xs[j].name, .int .i64 xs[j].init]] = (xs.take (j + 1)).map eVr := by rw [hr2]; exact mapw_snoc (f := eVr) hlj
   rw [hr]
   exact Weak.kroundP (p := r_rCpL1) (k := P.length + 1) pR (by ((repeat refine (kAny_up rfl).trans ?_); exact hEE2)) (by ((try simp (disch := decide) only [hA, hg1, hg2, go_sem]) <;> exact kH)) rfl hE2 (by simp) kV hR kLr
  ·obtain rfl : j = xs.length := by omega
   have dj : decide ((xs.length : Int) < (xs.length : Int)) = false := by simp
   simp (disch := (first | decide | omega)) only [hA, hg1, hg2, p0, hget, dj, app_at0, app_at, List.length_map, go_sem]
   rw [List.take_of_length_le (Nat.le_refl xs.length)]
   refine loop_kept (ι := Nat) r_rCpL2 (fun j => [(9, .v (.int .i64 j))]) (P.length + 2) (fun j => P ++ [.live 0 3 [[.v (.str nm), .sl (B.length + (P.length + 1)) xs.length 0 xs.length, .sl (B.length + (P.length + 2)) j 0 j]], .live xs.length 2 (vs (xs.map eVr)), .live j 5 (vs ((ys.take j).map eEv))]) (fun j => j ≤ ys.length) (fun j => ys.length - j) 0 (Nat.zero_le _) (by (repeat (first | exact hE2.mono oM | refine KLt.up ?_ kLr))) (by ((try simp (disch := decide) only [hA, hg1, hg2, go_sem]) <;> exact kH)) (fun e => by
    have h := Weak.nilcellP (e := e) (b := B) (P := P) (X := [.live 0 3 [[.v (.str nm), .sl (B.length + (P.length + 1)) xs.length 0 xs.length, .v .zsl]], .live xs.length 2 (vs (xs.map eVr))]) (m := 0) (k := 0) (j := 2) (sz := 5) rfl rfl rfl
    exact h) ?_
   intro g3 hE3 hEE3 hg3 j hj
   by_cases hlj : j < ys.length
   ·have dj : decide ((j : Int) < (ys.length : Int)) = true := decide_eq_true oM
    have hja := hna ys[j] (List.getElem_mem hlj)
    have hgj : (ys.map eEv)[j]? = some [.int .i64 ys[j].kind, .int .i64 ys[j].peer, .int .i64 ys[j].msg, .int .i64 ys[j].time, .isl 2 (ys[j].asg.map eAsg)] := by rw [List.getElem?_map, List.getElem?_eq_getElem hlj]; rfl
    have hel : min j ys.length = j := by omega
    simp (disch := (first | decide | omega)) only [hA, hg1, hg2, hg3, p0, hget, hc, hgj, dj, hel, app_at0, app_at, app_set0, app_set, setFrom, cellsOf, List.length_map, List.length_take, fillS, List.replicate_succ, List.replicate_zero, List.set_cons_zero, List.set_cons_succ, go_sem]
    generalize hev : ys[j] = ev at hja
    refine loop_kept (ι := Nat) r_rCpL3 (fun n => [(12, .v (.int .i64 n))]) (P.length + 5) (fun n => P ++ [.live 0 3 [[.v (.str nm), .sl (B.length + (P.length + 1)) xs.length 0 xs.length, .sl (B.length + (P.length + 2)) j 0 j]], .live xs.length 2 (vs (xs.map eVr)), .live j 5 (vs ((ys.take j).map eEv)),
      .live 0 5 [[.v (.int .i64 ev.kind), .v (.int .i64 ev.peer), .v (.int .i64 ev.msg), .v (.int .i64 ev.time), .v (.isl 2 (ev.asg.map eAsg))]],
      .live 0 5 [[.v (.int .i64 ev.kind), .v (.int .i64 ev.peer), .v (.int .i64 ev.msg), .v (.int .i64 ev.time), .sl (B.length + (P.length + 5)) n 0 n]], .live n 2 (vs ((ev.asg.take n).map eAsg))])
     (fun n => n ≤ ev.asg.length) (fun n => ev.asg.length - n) 0 (Nat.zero_le _) (by (repeat (first | exact hE3.mono oM | refine KLt.up ?_ kLr))) (by ((try simp (disch := decide) only [hA, hg1, hg2, hg3, go_sem]) <;> exact kH)) (fun e => by
      have h := Weak.nilcellP (e := e) (b := B) (P := P) (X := [.live 0 3 [[.v (.str nm), .sl (B.length + (P.length + 1)) xs.length 0 xs.length, .sl (B.length + (P.length + 2)) j 0 j]], .live xs.length 2 (vs (xs.map eVr)), .live j 5 (vs ((ys.take j).map eEv)),
       .live 0 5 [[.v (.int .i64 ev.kind), .v (.int .i64 ev.peer), .v (.int .i64 ev.msg), .v (.int .i64 ev.time), .v (.isl 2 (ev.asg.map eAsg))]],
       .live 0 5 [[.v (.int .i64 ev.kind), .v (.int .i64 ev.peer), .v (.int .i64 ev.msg), .v (.int .i64 ev.time), .v .zsl]]]) (m := 4) (k := 0) (j := 4) (sz := 2) rfl rfl rfl
      exact h) ?_
    intro g4 hE4 hEE4 hg4 n hn
    by_cases hln : n < ev.asg.length
    ·have dn : decide ((n : Int) < (ev.asg.length : Int)) = true := decide_eq_true oM
     have hgn : (ev.asg.map eAsg)[n]? = some [.int .i64 ev.asg[n].v, .int .i64 ev.asg[n].val] := by rw [List.getElem?_map, List.getElem?_eq_getElem hln]; rfl
     have hel2 : min n ev.asg.length = n := by omega
     simp (disch := (first | decide | omega)) only [hA, hg1, hg2, hg3, hg4, hgn, dn, hel2, app_at0, app_at, app_set0, app_set, setFrom, cellsOf, List.length_map, List.length_take, fillS, List.replicate_succ, List.replicate_zero, List.set_cons_zero, List.set_cons_succ, go_sem]
     refine ⟨n + 1, hln, by simp only; omega, ?_⟩
     have hr2 : List.take n (List.map eAsg (List.take n ev.asg)) = (ev.asg.take n).map eAsg := List.take_of_length_le (by simp; omega)
     have hr : List.take n (List.map eAsg (List.take n ev.asg)) ++ [[.int .i64 ev.asg[n].v, .int .i64 ev.asg[n].val]] = (ev.asg.take (n + 1)).map eAsg := by rw [hr2]; exact mapw_snoc (f := eAsg) hln
     rw [hr]
     exact Weak.kroundP (p := r_rCpL3) (k := P.length + 5) pR (by ((repeat refine (kAny_up rfl).trans ?_); exact hEE4)) (by ((try simp (disch := decide) only [hA, hg1, hg2, hg3, hg4, go_sem]) <;> exact kH)) rfl hE4 (by simp) kV hR kLr
    ·obtain rfl : n = ev.asg.length := by omega
     have dn : decide ((ev.asg.length : Int) < (ev.asg.length : Int)) = false := by simp
     rw [List.take_of_length_le (Nat.le_refl ev.asg.length)]
     simp (disch := (first | decide | omega)) only [hA, hg1, hg2, hg3, hg4, dn, hel, app_at0, app_at, app_set0, app_set, setFrom, cellsOf, List.length_map, List.length_take, fillS, List.replicate_succ, List.replicate_zero, List.set_cons_zero, List.set_cons_succ, go_sem]
     refine ⟨j + 1, hlj, by simp only; omega, ?_⟩
     have hr2 : List.take j (List.map eEv (List.take j ys)) = (ys.take j).map eEv := List.take_of_length_le (by simp; omega)
     rw [hr2]
     have hh : frz0 (B.length + (P.length + 5)) ev.asg.length 2 (ev.asg.map eAsg) (.sl (B.length + (P.length + 5)) ev.asg.length 0 ev.asg.length) = .v (.isl 2 (ev.asg.map eAsg)) := frz_here (by simp)
     have hn1 : frz0 (B.length + (P.length + 5)) ev.asg.length 2 (ev.asg.map eAsg) (.sl (B.length + (P.length + 1)) xs.length 0 xs.length) = .sl (B.length + (P.length + 1)) xs.length 0 xs.length := by simp only [frz0]; rw [if_neg oM]
     have hn2 : frz0 (B.length + (P.length + 5)) ev.asg.length 2 (ev.asg.map eAsg) (.sl (B.length + (P.length + 2)) (j + 1) 0 (j + 1)) = .sl (B.length + (P.length + 2)) (j + 1) 0 (j + 1) := by simp only [frz0]; rw [if_neg oM]
     have hv : vs ((ys.take j).map eEv) ++ [[.v (.int .i64 ev.kind), .v (.int .i64 ev.peer), .v (.int .i64 ev.msg), .v (.int .i64 ev.time), .v (.isl 2 (ev.asg.map eAsg))]] = vs ((ys.take (j + 1)).map eEv) := by
      rw [← mapw_snoc (f := eEv) hlj, hev]
      unfold vs
      rw [List.map_append]; rfl
     refine Weak.kroundFP (junk := [.live 0 5 [[.v (.int .i64 ev.kind), .v (.int .i64 ev.peer), .v (.int .i64 ev.msg), .v (.int .i64 ev.time), .v (.isl 2 (ev.asg.map eAsg))]], .live 0 5 [[.v (.int .i64 ev.kind), .v (.int .i64 ev.peer), .v (.int .i64 ev.msg), .v (.int .i64 ev.time), .v (.isl 2 (ev.asg.map eAsg))]], .dead ev.asg.length, .live 0 5 [[.v (.int .i64 ev.kind), .v (.int .i64 ev.peer), .v (.int .i64 ev.msg), .v (.int .i64 ev.time), .v (.isl 2 (ev.asg.map eAsg))]]]) (p := r_rCpL2) (k := P.length + 2) (m := 5) pR rfl (by ((repeat refine (kAny_up rfl).trans ?_); refine (kAny_sub hg4 (kIn_sub rfl)).trans ?_; (repeat refine (kAny_up rfl).trans ?_); exact hEE3)) (by ((try simp (disch := decide) only [hA, hg1, hg2, hg3, hg4, go_sem]) <;> exact kH)) ?_ hE3 (by simp) (by simp) kV hR kLr kV
     simp only [List.set_cons_succ, List.set_cons_zero, List.map_cons, List.map_nil, rowMap, List.map_append, vs_frzX, hh, hn1, hn2]
     simp only [frz0, hv]
     rfl
   ·obtain rfl : j = ys.length := by omega
    have dj : decide ((ys.length : Int) < (ys.length : Int)) = false := by simp
    rw [List.take_of_length_le (Nat.le_refl ys.length)]
    have ht : List.take k (fl k (cpC t B.length 4)) = fl k (cpC t B.length 4) := List.take_of_length_le (by rw [fl_len]; exact Nat.le_refl _)
    have p23 : ∀ R Y, ((P ++ R).set 3 Y)[2]? = some (.live 0 1 [[.sl (B.length + 3) k 0 k]]) := fun R Y => by rw [List.getElem?_set_ne oM]; exact p2 R
    simp (disch := (first | decide | omega)) only [hA, hg1, hg2, hg3, p0, p2, p3, p23, ht, hc, dj, fl_len, app_at0, app_at, app_set0, app_set, setFrom, cellsOf, List.length_map, List.length_take, fillS, List.replicate_succ, List.replicate_zero, List.set_cons_zero, List.set_cons_succ, go_sem]
    refine ⟨k + 1, hlt, by simp only; omega, ?_⟩
    exact cp_end (p := r_rCpL0) (by rw [hpk, hnm]) (by rw [hpk, hvs]) (by rw [hpk, hes]) hP (by ((repeat refine (kAny_up rfl).trans ?_); refine (kAny_sub hg3 (kIn_sub rfl)).trans ?_; (repeat refine (kAny_up rfl).trans ?_); refine (kAny_sub hg2 (kIn_sub rfl)).trans ?_; (repeat refine (kAny_up rfl).trans ?_); exact hEE1)) (by ((try simp (disch := decide) only [hA, hg1, hg2, hg3, go_sem]) <;> exact kH)) hE1 hR
 ·obtain rfl : k = t.length := by omega
  have dk : decide ((t.length : Int) < (t.length : Int)) = false := by simp
  unfold cpH
  simp (disch := (first | decide | omega)) only [hA, hg1, dk, List.length_map, go_sem]
  refine leave_ren (.inr rfl) (xs := [.agg [.sl (B.length + 3) t.length 0 t.length]]) (y := .agg [.sl B.length t.length 0 t.length]) (l' := cpR t B.length) (by simp (disch := (first | decide | omega)) only [resVs, resV, hA, hg1, go_sem]) (m := t.length + 1) (by simp [cpR, fl_len]) (fun j => j + 3) (fun i j _ _ h => by omega) (fun j r' h => ?_) ?_ hR hB ⟨by rw [hB, List.length_append], rfl, by rw [hB, List.length_append]⟩
  ·match j, h with
   | 0, h =>
     cases h
     refine ⟨_, rfl, rfl, rfl, by rw [fl_len, fl_len], fun i r r' h1 h2 => ?_⟩
     by_cases hi : i < t.length
     ·rw [fl_get hi] at h1 h2
      cases h1; cases h2
      exact .cons (.v _) (.cons (.v _) (.cons (Rn.slE (j := 1 + i) oM oM) .nil))
     ·rw [fl_none oM] at h2; cases h2
   | j + 1, h =>
     have h : (fl t.length (cpE t))[j]? = some r' := h
     have hj : j < t.length := by
      have := (List.getElem?_eq_some_iff.1 h).1
      rw [fl_len] at this; omega
     rw [fl_get hj] at h
     cases h
     exact ⟨cpE t j, by simp only [List.getElem?_cons_succ]; exact fl_get hj, RnR.plain⟩
  ·rw [one_agg]
   exact Rn.aggL (.cons (Rn.slE (j := 0) rfl oM) .nil)
end Go.Proofs.Ytilcmenglgdljaa
namespace Go.Proofs.Ytilcmenglgdljaa
set_option linter.unusedVariables false
set_option linter.unusedSimpArgs false
theorem cp_dv {t : Tr} {k j base : Nat} {N : List Row} (h : Sw t k j) (h0 : N[0]? = some (.live t.length 3 (fl t.length (cpC t base 1)))) (hp : ∀ p, p < t.length → N[1 + p]? = some (.live (prA t p).evs.length 5 (vs ((evsOf (swT t k j) p).map eEv)))) :
  Dv base N (.agg [.sl base t.length 0 t.length]) (.agg [.v (eT (swT t k j))]) := by
 refine Dv.aggL (.cons ?_ .nil)
 unfold eT
 refine Dv.slR (i := 0) h0 (by rw [fl_len]; omega) (by rw [List.length_map, swT_len]) (fun p r row h1 h2 => ?_)
 rw [Nat.zero_add] at h1
 have hpl : p < t.length := by
  have := (List.getElem?_eq_some_iff.1 h2).1
  rw [List.length_map, swT_len] at this; exact this
 have hpu : p < (swT t k j).length := by rw [swT_len]; exact hpl
 rw [fl_get hpl] at h1
 rw [List.getElem?_map, List.getElem?_eq_getElem hpu] at h2
 cases h1; cases h2
 obtain ⟨e1, e2⟩ := sw_vars (j := j) h.k p
 rw [getD_lt dfPr _ hpu] at e1 e2
 have e3 : evsOf (swT t k j) p = (swT t k j)[p].evs := evsOf_lt hpu
 have e4 := sw_evlen (j := j) h.k p
 unfold cpC ePr
 rw [e1, e2, ← e3]
 refine .cons (.v _) (.cons (.v _) (.cons ?_ .nil))
 refine Dv.slV (i := 1 + p) (rows := (evsOf (swT t k j) p).map eEv) (hp p hpl) ?_
 rw [List.length_map, e4]; rfl
end Go.Proofs.Ytilcmenglgdljaa
