/- Texts of one proof, laid together: OE, PU, PW. No condition. -/
import Derived.Test.YtanblnhnfkeffaaBU6
import Derived.Test.YtanblnhnfkeffaaBU7
import Derived.Test.YtanblnhnfkeffaaBU11
import Derived.Test.YtanblnhnfkeffaaBU8
namespace Go.Proofs.Ytanblnhnfkeffaa
set_option linter.unusedVariables false
set_option linter.unusedSimpArgs false
attribute [local go_sem ↓] run_skip run_region run_draw run_both run_seq run_block run_exit run_ret run_cond atN_app seqC_normal seqC_exit seqC_ret seqQ_normal seqQ_exit seqQ_ret blkQ_normal blkQ_exit blkQ_ret runOps_nil runOps_cons runD_nil runD_cons grdO_true grdO_false grdD_true grdD_false ifC_true ifC_false opS_val opS_call opS_two opK_app dS_val dS_call dS_two dK_app kUp_same kUp_ne
attribute [local go_sem] rechks_nil rechks_cons rechk gcase_true gcase_false ex_val ex_val0 gd_none gd_some ev_t ev_c evs_nil evs_cons evo_some evo_none hget_at hget_first hsetB_at hsetB_first hsetL_at hsetL_first ofOpt_some aop aload astore aslice aappend aiaddr aiaddrA afaddr alen alenS acopy amm acall alookup amupdate alenM atostr comma keyEq apick binV binVB binVS isSh intOp strOp boolOp shOp eqC eqF and2 cellsOf setFrom fillA fillS rd rdI elems mk bounds AV.cell List.all_cons List.all_nil Bool.and_true Bool.true_and Bool.and_self List.length_cons List.length_nil List.length_append Nat.reduceAdd Nat.reduceSub Nat.reduceMul Nat.zero_add Nat.add_zero List.cons_append List.nil_append List.append_assoc List.append_nil List.getElem?_cons_zero List.getElem?_cons_succ List.getElem?_nil List.set_cons_zero List.set_cons_succ List.drop_zero List.drop_succ_cons List.take_zero List.take_succ_cons List.take_nil List.drop_nil List.map_cons List.map_nil Option.map_some if_true if_false Bool.false_eq_true and_self true_and and_true Nat.reduceLeDiff Nat.reduceLT Nat.le_refl Nat.reduceEqDiff ite_true ite_false beq_self_eq_true beq_true beq_false Bool.not_true Bool.not_false Bool.true_beq Bool.false_beq map_vs vs_len vs_get vs_take vs_drop vs_snoc1 vs_snoc2 vs_snoc3 vs_snoc5 vs_set1 vs_set2 vs_rep wrap_id le_T lt_T le_F lt_F leI_T ltI_T leI_F ltI_F geI gtI get_T decide_true decide_false room List.getElem?_map List.length_map List.length_take Int.toNat_natCast Nat.min_def Nat.min_self nth_kOf put_kOf put_kNo kOv_cons kOv_nil KHas KArgs List.getElem_cons_zero List.getElem_cons_succ
theorem Weak.nilcellP {e : List AV} {b P X : List Row} {m ver z k j sz : Nat} {els : List (List AV)} {row : List AV} (hi : X[m]? = some (.live ver z els)) (hk : els[k]? = some row) (hj : row[j]? = some (.v .zsl)) :
  Weak e b (P ++ X) e b (P ++ (X.set m (.live ver z (els.set k (row.set j (.sl (b.length + (P.length + X.length)) 0 0 0)))) ++ [.live 0 sz []])) := by
 have := Weak.nilcell (e := e) (b := b) (l := P ++ X) (i := P.length + m) (sz := sz) (by rw [app_at]; exact hi) hk hj
 rw [app_set, List.length_append, List.append_assoc] at this
 exact this
theorem RowsLt.appd {m : Nat} {h k : List Row} (h1 : RowsLt m h) (h2 : RowsLt m k) : RowsLt m (h ++ k) := fun id ver sz els hr row hrow c hc => by
 by_cases hid : id < h.length
 ·rw [List.getElem?_append_left hid] at hr; exact h1 id ver sz els hr row hrow c hc
 ·rw [List.getElem?_append_right oM] at hr; exact h2 _ ver sz els hr row hrow c hc
theorem RowsLt.fl {m n : Nat} {C : Nat → Row} (h : ∀ i, i < n → ∀ ver sz els, C i = .live ver sz els → ∀ row ∈ els, ∀ c ∈ row, AVlt m c) : RowsLt m (fl n C) := fun id ver sz els hr row hrow c hc => by
 by_cases hid : id < n
 ·rw [fl_get hid] at hr; exact h id hid ver sz els (Option.some.inj hr) row hrow c hc
 ·rw [fl_none oM] at hr; cases hr
theorem Weak.kroundP {N : Nat} {p : List (Nat × Nat)} {ov : List (Nat × AV)} {f g : Nat → AV} {b P X X1 junk : List Row} {k : Nat} (pR : RowsLt (b.length + P.length) P) (he : kAny p f = g) (h : KHas f ov) (hl : X = X1 ++ junk) (hE : KLt (b.length + k) g) (hk : k ≤ P.length + X1.length) (ho : KOvLt (b.length + (P.length + X1.length)) ov) (hb : RowsLt b.length b) (h1 : RowsLt (b.length + (P.length + X1.length)) X1) :
  Weak (kOf N f) b (P ++ X) (kOf N (kOv ov g)) b (P ++ X1) := by
 have hl1 : (P ++ X1).length = P.length + X1.length := List.length_append
 exact Weak.kround (p := p) (k := k) (junk := junk) he h (by rw [hl, List.append_assoc]) hE (by rw [hl1]; exact hk) (by rw [hl1]; exact ho) hb (by rw [hl1]; exact (pR.mono oM).appd h1)
def prA (t : Tr) (k : Nat) : Pr := t.getD k dfPr
def cpE (t : Tr) (p : Nat) : Row := .live (prA t p).evs.length 5 (vs ((prA t p).evs.map eEv))
def cpC (t : Tr) (base o : Nat) (p : Nat) : List AV := [.v (.str (prA t p).name), .v (.isl 2 ((prA t p).vars.map eVr)), .sl (base + (o + p)) (prA t p).evs.length 0 (prA t p).evs.length]
def cpH (t : Tr) (B k : Nat) : List Row := .live 0 1 [[.v (.isl 3 (t.map ePr))]] :: .live 0 1 [[.v .zsl]] :: .live 0 1 [[.sl (B + 3) k 0 k]] :: .live k 3 (fl k (cpC t B 4)) :: fl k (cpE t)
def cpR (t : Tr) (base : Nat) : List Row := .live t.length 3 (fl t.length (cpC t base 1)) :: fl t.length (cpE t)
def lensT (t : Tr) : List Int := t.map fun p => (p.evs.length : Int)
theorem cpH_lt {t : Tr} {B k : Nat} : RowsLt (B + (4 + k)) (cpH t B k) := by
 unfold cpH
 refine RowsLt_live.2 ⟨by simp [AVlt_v], RowsLt_live.2 ⟨by simp [AVlt_v], RowsLt_live.2 ⟨by simp [AVlt_sl]; omega, RowsLt_live.2 ⟨fun row hrow c hc => ?_, RowsLt.fl (fun i hi ver sz els he row hrow c hc => ?_)⟩⟩⟩⟩
 ·obtain ⟨p, hp, rfl⟩ := List.mem_map.1 hrow
  have hp := List.mem_range.1 hp
  unfold cpC at hc
  simp only [List.mem_cons, List.not_mem_nil, or_false] at hc
  rcases hc with rfl | rfl | rfl
  ·exact .v _
  ·exact .v _
  ·exact .sl _ _ _ _ oM
 ·unfold cpE at he
  cases he
  exact vs_lt.2 trivial row hrow c hc
def a_fstL : AFunc := ⟨2,56,[.cell 4 (some 1)],(.seq (.region [⟨some 2,.box (.t 0),none⟩,⟨some 4,.alloc [(.v .zsl)],none⟩]) (.seq (.region [⟨some 5,.alloc [(.v .zsl)],none⟩]) (.seq (.seq (.region [⟨some 11,.faddr 0 (.t 2),none⟩,⟨some 12,.load none (.t 11),none⟩,⟨some 13,.len (.t 12),none⟩,⟨some 14,.mv (.c (.v (.int .i64 0))),none⟩]) (.block 0 (.loop (.seq (.region [⟨some 15,.bin .lss (.t 14) (.t 13),none⟩]) (.seq (.cond (.t 15) .skip (.exit 0)) (.seq (.block 1 (.seq (.region [⟨some 16,.mv (.t 14),none⟩,⟨some 17,.iaddr 3 (.t 12) (.t 14),none⟩,⟨some 18,.load (some 3) (.t 17),none⟩,⟨some 7,.alloc [(.v (.str ⟨#[]⟩)),(.v .zsl),(.v .zsl)],none⟩,⟨some 6,.mv (.t 16),none⟩,⟨none,.store 3 (.t 7) (.t 18),none⟩]) (.seq (.draw [⟨0,⟨some 19,.faddr 0 (.t 7),none⟩,[]⟩,⟨1,⟨some 20,.load none (.t 19),none⟩,[]⟩,⟨2,⟨some 21,.faddr 1 (.t 7),none⟩,[]⟩,⟨3,⟨some 22,.load none (.t 21),none⟩,[]⟩,⟨4,⟨some 23,.call (.c (.fn 147 [])) [(.t 22)],none⟩,[⟨some 19,.faddr 0 (.t 7),none⟩,⟨some 20,.load none (.t 19),none⟩]⟩,⟨5,⟨some 24,.build [(.v (.str ⟨#[]⟩)),(.v .zsl),(.v .zsl)] [(0,1,(.t 20)),(1,1,(.t 23))],none⟩,[]⟩,⟨6,⟨some 8,.alloc [(.v (.str ⟨#[]⟩)),(.v .zsl),(.v .zsl)],none⟩,[⟨some 19,.faddr 0 (.t 7),none⟩,⟨some 20,.load none (.t 19),none⟩,⟨some 21,.faddr 1 (.t 7),none⟩,⟨some 22,.load none (.t 21),none⟩,⟨some 24,.build [(.v (.str ⟨#[]⟩)),(.v .zsl),(.v .zsl)] [(0,1,(.t 20)),(1,1,(.t 23))],none⟩]⟩,⟨7,⟨none,.store 3 (.t 8) (.t 24),none⟩,[]⟩]) (.seq (.seq (.draw [⟨0,⟨some 25,.faddr 2 (.t 7),none⟩,[]⟩,⟨1,⟨some 26,.load none (.t 25),none⟩,[]⟩,⟨2,⟨some 27,.mv (.t 1),none⟩,[]⟩,⟨3,⟨some 28,.mv (.t 6),none⟩,[]⟩,⟨4,⟨some 29,.iaddr 1 (.t 27) (.t 28),none⟩,[]⟩,⟨5,⟨some 30,.load none (.t 29),none⟩,[]⟩,⟨6,⟨some 31,.slice 5 (.t 26) none (some (.t 30)),none⟩,[]⟩,⟨7,⟨some 32,.len (.t 31),none⟩,[]⟩,⟨8,⟨some 33,.mv (.c (.v (.int .i64 0))),none⟩,[]⟩]) (.block 2 (.loop (.seq (.region [⟨some 34,.bin .lss (.t 33) (.t 32),none⟩]) (.seq (.cond (.t 34) .skip (.exit 2)) (.seq (.block 3 (.seq (.region [⟨some 35,.iaddr 5 (.t 31) (.t 33),none⟩,⟨some 36,.load (some 5) (.t 35),none⟩,⟨some 10,.alloc [(.v (.int .i64 0)),(.v (.int .i64 0)),(.v (.int .i64 0)),(.v (.int .i64 0)),(.v .zsl)],none⟩,⟨none,.store 5 (.t 10) (.t 36),none⟩]) (.seq (.region [⟨some 37,.faddr 4 (.t 10),none⟩,⟨some 38,.load none (.t 37),none⟩,⟨some 39,.call (.c (.fn 84 [])) [(.t 38)],none⟩,⟨some 40,.faddr 4 (.t 10),none⟩,⟨none,.store 1 (.t 40) (.t 39),none⟩]) (.region [⟨some 41,.faddr 2 (.t 8),none⟩,⟨some 42,.load none (.t 41),none⟩,⟨some 43,.load (some 5) (.t 10),none⟩,⟨some 44,.bslice 5 [(.v (.int .i64 0)),(.v (.int .i64 0)),(.v (.int .i64 0)),(.v (.int .i64 0)),(.v .zsl)] 1 [(0,(.t 43))],none⟩,⟨some 45,.append 5 56 (.t 42) (.t 44),none⟩,⟨some 46,.faddr 2 (.t 8),none⟩,⟨none,.store 1 (.t 46) (.t 45),none⟩])))) (.region [⟨some 47,.bin .add (.t 33) (.c (.v (.int .i64 1))),none⟩,⟨some 33,.mv (.t 47),none⟩]))))))) (.region [⟨some 48,.faddr 0 (.t 5),none⟩,⟨some 49,.load none (.t 48),none⟩,⟨some 50,.load (some 3) (.t 8),none⟩,⟨some 51,.bslice 3 [(.v (.str ⟨#[]⟩)),(.v .zsl),(.v .zsl)] 1 [(0,(.t 50))],none⟩,⟨some 52,.append 3 64 (.t 49) (.t 51),none⟩,⟨some 53,.faddr 0 (.t 5),none⟩,⟨none,.store 1 (.t 53) (.t 52),none⟩]))))) (.region [⟨some 54,.bin .add (.t 14) (.c (.v (.int .i64 1))),none⟩,⟨some 14,.mv (.t 54),none⟩]))))))) (.seq (.region [⟨some 55,.load (some 1) (.t 5),none⟩,⟨none,.store 1 (.t 4) (.t 55),none⟩]) .ret))))⟩
theorem a_fstL_ok : cFunc Try.prog 81 = some a_fstL := by kernel_rfl
def r_fstL0 : List (Nat × Nat) := [(6, 8), (10, 10), (14, 54)]
def r_fstL1 : List (Nat × Nat) := [(10, 10), (33, 47)]

theorem fs_end {N : Nat} {p : List (Nat × Nat)} {f g : Nat → AV} {B P : List Row} {t : Tr} {k : Nat} {nm : ByteArray} {xs : List Vr} {ys : List Ev} {x0 x1 x3 : Row} {s : Nat} (hnm : (prA t k).name = nm) (hxs : (prA t k).vars = xs) (hys : (prA t k).evs = ys) (hP : P = cpH t B.length k)
  (he : kAny p f = g) (h : KHas f [(s, .v (.int .i64 ((k + 1 : Nat) : Int)))]) (hE : KLt (B.length + 4) g) (hR : RowsLt B.length B) :
  Weak (kOf N f) B (((P ++ [x0, x1, .live ys.length 5 (vs (ys.map eEv)), x3]).set 3 (.live (k + 1) 3 (fl k (cpC t B.length 4) ++ [[.v (.str nm), .v (.isl 2 (xs.map eVr)), .sl (B.length + (P.length + 2)) ys.length 0 ys.length]]))).set 2 (.live 0 1 [[.sl (B.length + 3) (k + 1) 0 (k + 1)]]))
   (kOf N (kOv [(s, .v (.int .i64 ((k + 1 : Nat) : Int)))] g)) B (cpH t B.length (k + 1)) := by
 have hPl : P.length = 4 + k := by rw [hP]; simp [cpH, fl_len]; omega
 obtain ⟨els, hels⟩ : ∃ els, els = fl k (cpC t B.length 4) := ⟨_, rfl⟩
 have hlq : ((P ++ [x0, x1, .live ys.length 5 (vs (ys.map eEv)), x3]).set 3 (.live (k + 1) 3 (fl k (cpC t B.length 4) ++ [[.v (.str nm), .v (.isl 2 (xs.map eVr)), .sl (B.length + (P.length + 2)) ys.length 0 ys.length]]))).set 2 (.live 0 1 [[.sl (B.length + 3) (k + 1) 0 (k + 1)]])
   = (.live 0 1 [[.v (.isl 3 (t.map ePr))]] :: .live 0 1 [[.v .zsl]] :: .live 0 1 [[.sl (B.length + 3) (k + 1) 0 (k + 1)]] :: .live (k + 1) 3 (els ++ [[.v (.str nm), .v (.isl 2 (xs.map eVr)), .sl (B.length + (P.length + 2)) ys.length 0 ys.length]]) :: fl k (cpE t)) ++ [x0, x1, .live ys.length 5 (vs (ys.map eEv)), x3] := by
  rw [List.set_append_left _ _ oM, List.set_append_left _ _ (by rw [List.length_set]; omega), hels]
  congr 1
  generalize P.length = q
  rw [hP]; rfl
 rw [hlq]
 obtain ⟨σ, s1, s2⟩ : ∃ σ : Nat → Nat, (∀ j, j < 4 + k → σ j = j) ∧ (∀ j, 4 + k ≤ j → σ j = j + 2) := ⟨fun j => if j < 4 + k then j else j + 2, fun j h => if_pos h, fun j h => if_neg oM⟩
 refine Weak.kren (p := p) (k := 4) (m := k + 5) (by simp [cpH, fl_len]) σ he h hE oM (fun j hj => s1 j oM) kV hR (fun a c _ _ h => ?_) (fun j r' h => ?_)
 ·by_cases ha : a < 4 + k <;> by_cases hc : c < 4 + k
  ·rw [s1 a ha, s1 c hc] at h; exact h
  ·rw [s1 a ha, s2 c oM] at h; omega
  ·rw [s2 a oM, s1 c hc] at h; omega
  ·rw [s2 a oM, s2 c oM] at h; omega
 ·match j, h with
  | 0, h => rw [s1 0 oM]; cases h; exact ⟨_, rfl, RnR.rnK (k := 4) (fun j hj => s1 j oM) oM kL⟩
  | 1, h => rw [s1 1 oM]; cases h; exact ⟨_, rfl, RnR.rnK (k := 4) (fun j hj => s1 j oM) oM kL⟩
  | 2, h => rw [s1 2 oM]; cases h; exact ⟨_, rfl, RnR.rnK (k := 4) (fun j hj => s1 j oM) oM kL⟩
  | 3, h =>
    rw [s1 3 oM]; cases h
    refine ⟨_, rfl, rfl, rfl, by rw [List.length_append, hels, fl_len, fl_len]; rfl, fun i r r' h1 h2 => ?_⟩
    by_cases hi : i < k
    ·rw [List.getElem?_append_left (by rw [hels, fl_len]; exact hi), hels, fl_get hi] at h1
     rw [fl_get oM] at h2
     cases h1; cases h2
     exact .cons (.v _) (.cons (.v _) (.cons (Rn.slE (j := 4 + i) (s1 _ oM) oM) .nil))
    ·obtain rfl : i = k := by
      have := (List.getElem?_eq_some_iff.1 h2).1
      rw [fl_len] at this; omega
     rw [List.getElem?_append_right (by rw [hels, fl_len]; exact Nat.le_refl _), hels, fl_len, Nat.sub_self] at h1
     rw [fl_get oM] at h2
     cases h1; cases h2
     unfold cpC
     rw [hnm, hxs, hys]
     exact .cons (.v _) (.cons (.v _) (.cons (Rn.slE (j := 4 + i) (by rw [s2 _ (Nat.le_refl _), hPl]) oM) .nil))
  | j + 4, h =>
    have h : (fl (k + 1) (cpE t))[j]? = some r' := h
    by_cases hj : j < k
    ·rw [s1 _ oM]
     rw [fl_get oM] at h; cases h
     exact ⟨cpE t j, by simp only [List.cons_append, List.getElem?_cons_succ]; exact fz_at hj, RnR.plain⟩
    ·obtain rfl : j = k := by
      have := (List.getElem?_eq_some_iff.1 h).1
      rw [fl_len] at this; omega
     rw [fl_get oM] at h; cases h
     rw [s2 _ oM]
     refine ⟨cpE t j, ?_, RnR.plain⟩
     simp only [List.cons_append, List.getElem?_cons_succ]
     rw [fz_tail]
     unfold cpE
     rw [hys]; rfl
set_option maxRecDepth 20000 in
set_option maxHeartbeats 16000000 in
theorem first_live (t : Tr) (hS : Small t) (b l : List Row) : ACalls Try.prog 81 [.agg [.v (eT t)], .v (.isl 1 ((lensT t).map eI))] b l
  (fun r b' l' => r = .agg [.sl (b.length + l.length) t.length 0 t.length] ∧ b' = b ∧ l' = l ++ cpR t (b.length + l.length)) := by
 refine calls_kept a_fstL_ok rfl (by decide) ?_
 intro B g hB hR hE hA
 simp only [KArgs] at hA
 have hnp := hS.np
 simp (disch := (first | decide | omega)) only [a_fstL, hA, eT, List.length_map, go_sem]
 refine loop_kept (ι := Nat) r_fstL0 (fun i => [(14, .v (.int .i64 i))]) 4 (fun i => cpH t B.length i) (fun i => i ≤ t.length) (fun i => t.length - i) 0 (Nat.zero_le _) (by (repeat (first | exact hE.mono oM | refine KLt.up ?_ kL))) (by ((try simp (disch := decide) only [hA, go_sem]) <;> exact kH)) (fun e => by
  have h := Weak.nilcell (e := e) (b := B) (l := [.live 0 1 [[.v (.isl 3 (t.map ePr))]], .live 0 1 [[.v .zsl]], .live 0 1 [[.v .zsl]]]) (i := 2) (k := 0) (j := 0) (sz := 3) rfl rfl rfl
  exact h) ?_
 intro g1 hE1 hEE1 hg1 k hk
 by_cases hlt : k < t.length
 ·have hne := hS.ne t[k] (List.getElem_mem hlt)
  have hnv := hS.nv t[k] (List.getElem_mem hlt)
  have hna := hS.na t[k] (List.getElem_mem hlt)
  have hget : (t.map ePr)[k]? = some [.str t[k].name, .isl 2 (t[k].vars.map eVr), .isl 5 (t[k].evs.map eEv)] := by rw [List.getElem?_map, List.getElem?_eq_getElem hlt]; rfl
  have hc : ((lensT t).map eI)[k]? = some [.int .i64 (t[k].evs.length : Int)] := by unfold lensT; rw [List.getElem?_map, List.getElem?_map, List.getElem?_eq_getElem hlt]; rfl
  have hpk : prA t k = t[k] := getD_lt dfPr t hlt
  obtain ⟨P, hP⟩ : ∃ P, P = cpH t B.length k := ⟨_, rfl⟩
  have hPl : P.length = 4 + k := by rw [hP]; simp [cpH, fl_len]; omega
  have pR : RowsLt (B.length + P.length) P := by rw [hPl, hP]; exact cpH_lt
  have p0 : ∀ R, (P ++ R)[0]? = some (.live 0 1 [[.v (.isl 3 (t.map ePr))]]) := fun R => by rw [hP]; rfl
  have p2 : ∀ R, (P ++ R)[2]? = some (.live 0 1 [[.sl (B.length + 3) k 0 k]]) := fun R => by rw [hP]; rfl
  have p3 : ∀ R, (P ++ R)[3]? = some (.live k 3 (fl k (cpC t B.length 4))) := fun R => by rw [hP]; rfl
  have dk : decide ((k : Int) < (t.length : Int)) = true := decide_eq_true oM
  generalize hvs : t[k].vars = xs at hget hnv
  generalize hes : t[k].evs = ys at hget hne hna hc
  generalize hnm : t[k].name = nm at hget
  have hcv := fun b l => cloneVar_spec (xs.map eVr) b l (by simp; omega)
  have htk : List.take ys.length (ys.map eEv) = ys.map eEv := List.take_of_length_le (by simp)
  change run _ _ _ _ _ (cpH t B.length k) _
  rw [← hP]
  simp (disch := (first | decide | omega)) only [hA, hg1, hget, dk, List.length_map, app_at0, app_at, app_set0, app_set, setFrom, cellsOf, go_sem]
  refine ACalls.nxt (hcv _ _) ?_
  simp (disch := (first | decide | omega)) only [hA, hg1, hget, hc, htk, List.length_map, app_at0, app_at, app_set0, app_set, setFrom, cellsOf, go_sem]
  refine loop_kept (ι := Nat) r_fstL1 (fun j => [(33, .v (.int .i64 j))]) (P.length + 2) (fun j => P ++ [.live 0 3 [[.v (.str nm), .v (.isl 2 (xs.map eVr)), .v (.isl 5 (ys.map eEv))]], .live 0 3 [[.v (.str nm), .v (.isl 2 (xs.map eVr)), .sl (B.length + (P.length + 2)) j 0 j]], .live j 5 (vs ((ys.take j).map eEv))]) (fun j => j ≤ ys.length) (fun j => ys.length - j) 0 (Nat.zero_le _) (by (repeat (first | exact hE1.mono oM | refine KLt.up ?_ kL))) (by ((try simp (disch := decide) only [hA, hg1, go_sem]) <;> exact kH)) (fun e => by
   have h := Weak.nilcellP (e := e) (b := B) (P := P) (X := [.live 0 3 [[.v (.str nm), .v (.isl 2 (xs.map eVr)), .v (.isl 5 (ys.map eEv))]], .live 0 3 [[.v (.str nm), .v (.isl 2 (xs.map eVr)), .v .zsl]]]) (m := 1) (k := 0) (j := 2) (sz := 5) rfl rfl rfl
   exact h) ?_
  intro g2 hE2 hEE2 hg2 j hj
  by_cases hlj : j < ys.length
  ·have dj : decide ((j : Int) < (ys.length : Int)) = true := decide_eq_true oM
   have hja := hna ys[j] (List.getElem_mem hlj)
   have hgj : (ys.map eEv)[j]? = some [.int .i64 ys[j].kind, .int .i64 ys[j].peer, .int .i64 ys[j].msg, .int .i64 ys[j].time, .isl 2 (ys[j].asg.map eAsg)] := by rw [List.getElem?_map, List.getElem?_eq_getElem hlj]; rfl
   have hel : min j ys.length = j := by omega
   have hca := fun b l => cloneAsg_spec (ys[j].asg.map eAsg) b l (by simp; omega)
   simp (disch := (first | decide | omega)) only [hA, hg1, hg2, hgj, dj, hel, app_at0, app_at, app_set0, app_set, setFrom, cellsOf, List.length_map, List.length_take, fillS, List.replicate_succ, List.replicate_zero, List.set_cons_zero, List.set_cons_succ, go_sem]
   refine ACalls.nxt (hca _ _) ?_
   simp (disch := (first | decide | omega)) only [hA, hg1, hg2, hgj, dj, hel, app_at0, app_at, app_set0, app_set, setFrom, cellsOf, List.length_map, List.length_take, fillS, List.replicate_succ, List.replicate_zero, List.set_cons_zero, List.set_cons_succ, go_sem]
   refine ⟨j + 1, hlj, by simp only; omega, ?_⟩
   have hr2 : List.take j (List.map eEv (List.take j ys)) = (ys.take j).map eEv := List.take_of_length_le (by simp; omega)
   have hr : List.take j (List.map eEv (List.take j ys)) ++ [[.int .i64 ys[j].kind, .int .i64 ys[j].peer, .int .i64 ys[j].msg, .int .i64 ys[j].time, .isl 2 (ys[j].asg.map eAsg)]] = (ys.take (j + 1)).map eEv := by rw [hr2]; exact mapw_snoc (f := eEv) hlj
   rw [hr]
   exact Weak.kroundP (p := r_fstL1) (k := P.length + 2) pR (by ((repeat refine (kAny_up rfl).trans ?_); exact hEE2)) (by ((try simp (disch := decide) only [hA, hg1, hg2, go_sem]) <;> exact kH)) rfl hE2 (by simp) kV hR kL
  ·obtain rfl : j = ys.length := by omega
   have dj : decide ((ys.length : Int) < (ys.length : Int)) = false := by simp
   have ht : List.take k (fl k (cpC t B.length 4)) = fl k (cpC t B.length 4) := List.take_of_length_le (by rw [fl_len]; exact Nat.le_refl _)
   have p23 : ∀ R Y, ((P ++ R).set 3 Y)[2]? = some (.live 0 1 [[.sl (B.length + 3) k 0 k]]) := fun R Y => by rw [List.getElem?_set_ne oM]; exact p2 R
   rw [List.take_of_length_le (Nat.le_refl ys.length)]
   simp (disch := (first | decide | omega)) only [hA, hg1, hg2, p0, p2, p3, p23, ht, dj, fl_len, app_at0, app_at, app_set0, app_set, setFrom, cellsOf, List.length_map, List.length_take, fillS, List.replicate_succ, List.replicate_zero, List.set_cons_zero, List.set_cons_succ, go_sem]
   refine ⟨k + 1, hlt, by simp only; omega, ?_⟩
   exact fs_end (p := r_fstL0) (by rw [hpk, hnm]) (by rw [hpk, hvs]) (by rw [hpk, hes]) hP (by ((repeat refine (kAny_up rfl).trans ?_); refine (kAny_sub hg2 (kIn_sub rfl)).trans ?_; (repeat refine (kAny_up rfl).trans ?_); exact hEE1)) (by ((try simp (disch := decide) only [hA, hg1, hg2, go_sem]) <;> exact kH)) hE1 hR
 ·obtain rfl : k = t.length := by omega
  have dk : decide ((t.length : Int) < (t.length : Int)) = false := by simp
  unfold cpH
  simp (disch := (first | decide | omega)) only [hA, hg1, dk, List.length_map, go_sem]
  refine leave_ren (.inr rfl) (xs := [.agg [.sl (B.length + 3) t.length 0 t.length]]) (y := .agg [.sl B.length t.length 0 t.length]) (l' := cpR t B.length) (by simp (disch := (first | decide | omega)) only [resVs, resV, hA, hg1, go_sem]) (m := t.length + 1) (by simp [cpR, fl_len]) (fun j => j + 3) (fun i j _ _ h => by omega) (fun j r' h => ?_) ?_ hR hB ⟨by rw [hB, List.length_append], rfl, by rw [hB, List.length_append]⟩
  ·match j, h with
   | 0, h =>
     cases h
     refine ⟨_, rfl, rfl, rfl, by rw [fl_len, fl_len], fun i r r' h1 h2 => ?_⟩
     by_cases hi : i < t.length
     ·rw [fl_get hi] at h1 h2
      cases h1; cases h2
      exact .cons (.v _) (.cons (.v _) (.cons (Rn.slE (j := 1 + i) oM oM) .nil))
     ·rw [fl_none oM] at h2; cases h2
   | j + 1, h =>
     have h : (fl t.length (cpE t))[j]? = some r' := h
     have hj : j < t.length := by
      have := (List.getElem?_eq_some_iff.1 h).1
      rw [fl_len] at this; omega
     rw [fl_get hj] at h
     cases h
     exact ⟨cpE t j, by simp only [List.getElem?_cons_succ]; exact fl_get hj, RnR.plain⟩
  ·rw [one_agg]
   exact Rn.aggL (.cons (Rn.slE (j := 0) rfl oM) .nil)
def a_tinP : AFunc := ⟨3,15,[.tmp 6],(.seq (.region [⟨some 6,.mv (.c (.v (.bool false))),none⟩]) (.seq (.region [⟨some 7,.mv (.t 0),none⟩,⟨some 8,.mv (.t 1),none⟩,⟨some 9,.bin .geq (.t 7) (.t 8),none⟩,⟨some 10,.mv (.t 9),none⟩,⟨some 11,.mv (.t 0),some (10,true)⟩,⟨some 12,.mv (.t 2),some (10,true)⟩,⟨some 13,.bin .leq (.t 11) (.t 12),some (10,true)⟩,⟨some 14,.pick (.t 10) (.t 13) (.c (.v (.bool false))),none⟩,⟨some 6,.mv (.t 14),none⟩]) .ret))⟩
theorem a_tinP_ok : cFunc Try.prog 78 = some a_tinP := by kernel_rfl
def a_tLens : AFunc := ⟨1,21,[.tmp 2],(.seq (.region [⟨some 1,.box (.t 0),none⟩,⟨some 2,.mv (.c (.v .zsl)),none⟩]) (.seq (.region [⟨some 3,.mv (.c (.v .zsl)),none⟩]) (.seq (.seq (.region [⟨some 6,.faddr 0 (.t 1),none⟩,⟨some 7,.load none (.t 6),none⟩,⟨some 8,.len (.t 7),none⟩,⟨some 9,.mv (.c (.v (.int .i64 0))),none⟩]) (.block 0 (.loop (.seq (.region [⟨some 10,.bin .lss (.t 9) (.t 8),none⟩]) (.seq (.cond (.t 10) .skip (.exit 0)) (.seq (.block 1 (.seq (.region [⟨some 11,.iaddr 3 (.t 7) (.t 9),none⟩,⟨some 12,.load (some 3) (.t 11),none⟩,⟨some 5,.alloc [(.v (.str ⟨#[]⟩)),(.v .zsl),(.v .zsl)],none⟩,⟨none,.store 3 (.t 5) (.t 12),none⟩]) (.region [⟨some 13,.mv (.t 3),none⟩,⟨some 14,.faddr 2 (.t 5),none⟩,⟨some 15,.load none (.t 14),none⟩,⟨some 16,.len (.t 15),none⟩,⟨some 17,.bslice 1 [(.v (.int .i64 0))] 1 [(0,(.t 16))],none⟩,⟨some 18,.append 1 8 (.t 13) (.t 17),none⟩,⟨some 3,.mv (.t 18),none⟩]))) (.region [⟨some 19,.bin .add (.t 9) (.c (.v (.int .i64 1))),none⟩,⟨some 9,.mv (.t 19),none⟩]))))))) (.seq (.region [⟨some 20,.mv (.t 3),none⟩,⟨some 2,.mv (.t 20),none⟩]) .ret))))⟩
theorem a_tLens_ok : cFunc Try.prog 83 = some a_tLens := by kernel_rfl
def r_tLens0 : List (Nat × Nat) := [(3, 3), (5, 5), (9, 19)]
def a_tApp : AFunc := ⟨3,56,[.cell 6 (some 1),.tmp 7],(.seq (.region [⟨some 3,.box (.t 0),none⟩,⟨some 5,.box (.t 2),none⟩,⟨some 6,.alloc [(.v .zsl)],none⟩,⟨some 7,.mv (.c (.v (.int .i64 0))),none⟩]) (.seq (.block 0 (.seq (.region [⟨some 11,.load (some 1) (.t 3),none⟩,⟨some 12,.call (.c (.fn 15 [])) [(.t 11)],none⟩,⟨some 13,.not (.t 12),none⟩,⟨some 10,.mv (.t 13),none⟩]) (.cond (.t 10) (.seq (.region [⟨some 14,.build [(.v .zsl)] [],none⟩,⟨none,.store 1 (.t 6) (.t 14),none⟩,⟨some 7,.mv (.c (.v (.int .i64 1))),none⟩]) .ret) (.seq (.region [⟨some 16,.mv (.t 1),none⟩,⟨some 17,.faddr 0 (.t 3),none⟩,⟨some 18,.load none (.t 17),none⟩,⟨some 19,.len (.t 18),none⟩,⟨some 20,.bin .sub (.t 19) (.c (.v (.int .i64 1))),none⟩,⟨some 21,.call (.c (.fn 78 [])) [(.t 16),(.c (.v (.int .i64 0))),(.t 20)],none⟩,⟨some 22,.not (.t 21),none⟩,⟨some 15,.mv (.t 22),none⟩]) (.cond (.t 15) (.seq (.region [⟨some 23,.build [(.v .zsl)] [],none⟩,⟨none,.store 1 (.t 6) (.t 23),none⟩,⟨some 7,.mv (.c (.v (.int .i64 2))),none⟩]) .ret) .skip))))) (.seq (.draw [⟨0,⟨some 24,.load (some 1) (.t 3),none⟩,[]⟩,⟨1,⟨some 25,.load (some 1) (.t 3),none⟩,[]⟩,⟨2,⟨some 26,.call (.c (.fn 83 [])) [(.t 25)],none⟩,[⟨some 24,.load (some 1) (.t 3),none⟩]⟩,⟨3,⟨some 27,.call (.c (.fn 81 [])) [(.t 24),(.t 26)],none⟩,[]⟩,⟨4,⟨none,.store 1 (.t 3) (.t 27),none⟩,[]⟩]) (.seq (.region [⟨some 28,.faddr 4 (.t 5),none⟩,⟨some 29,.load none (.t 28),none⟩,⟨some 30,.call (.c (.fn 84 [])) [(.t 29)],none⟩,⟨some 31,.faddr 4 (.t 5),none⟩,⟨none,.store 1 (.t 31) (.t 30),none⟩]) (.seq (.draw [⟨0,⟨some 32,.faddr 0 (.t 3),none⟩,[]⟩,⟨1,⟨some 33,.load none (.t 32),none⟩,[]⟩,⟨2,⟨some 34,.mv (.t 1),none⟩,[]⟩,⟨3,⟨some 35,.faddr 0 (.t 3),none⟩,[]⟩,⟨4,⟨some 36,.load none (.t 35),none⟩,[]⟩,⟨5,⟨some 37,.mv (.t 1),none⟩,[]⟩,⟨6,⟨some 38,.iaddr 3 (.t 36) (.t 37),none⟩,[]⟩,⟨7,⟨some 39,.faddr 2 (.t 38),none⟩,[]⟩,⟨8,⟨some 40,.load none (.t 39),none⟩,[]⟩,⟨9,⟨some 41,.load (some 5) (.t 5),none⟩,[]⟩,⟨10,⟨some 42,.bslice 5 [(.v (.int .i64 0)),(.v (.int .i64 0)),(.v (.int .i64 0)),(.v (.int .i64 0)),(.v .zsl)] 1 [(0,(.t 41))],none⟩,[⟨some 32,.faddr 0 (.t 3),none⟩,⟨some 33,.load none (.t 32),none⟩,⟨some 34,.mv (.t 1),none⟩,⟨some 35,.faddr 0 (.t 3),none⟩,⟨some 36,.load none (.t 35),none⟩,⟨some 37,.mv (.t 1),none⟩,⟨some 38,.iaddr 3 (.t 36) (.t 37),none⟩,⟨some 39,.faddr 2 (.t 38),none⟩,⟨some 40,.load none (.t 39),none⟩]⟩,⟨11,⟨some 43,.append 5 56 (.t 40) (.t 42),none⟩,[⟨some 32,.faddr 0 (.t 3),none⟩,⟨some 33,.load none (.t 32),none⟩,⟨some 34,.mv (.t 1),none⟩]⟩,⟨12,⟨some 44,.iaddr 3 (.t 33) (.t 34),none⟩,[]⟩,⟨13,⟨some 45,.faddr 2 (.t 44),none⟩,[]⟩,⟨14,⟨none,.store 1 (.t 45) (.t 43),none⟩,[]⟩]) (.seq (.seq (.region [⟨some 47,.load (some 1) (.t 3),none⟩,⟨some 48,.call (.c (.fn 77 [])) [(.t 47)],none⟩,⟨some 46,.mv (.t 48),none⟩,⟨some 49,.extract 0 (.t 46),none⟩,⟨some 50,.extract 1 (.t 46),none⟩,⟨some 8,.alloc [(.v (.int .i64 0)),(.v (.int .i64 0))],none⟩,⟨none,.store 2 (.t 8) (.t 49),none⟩,⟨some 9,.mv (.t 50),none⟩]) (.seq (.region [⟨some 51,.mv (.t 9),none⟩,⟨some 52,.bin .neq (.t 51) (.c (.v (.int .i64 0))),none⟩]) (.cond (.t 52) (.seq (.region [⟨some 53,.build [(.v .zsl)] [],none⟩,⟨some 54,.mv (.t 9),none⟩,⟨none,.store 1 (.t 6) (.t 53),none⟩,⟨some 7,.mv (.t 54),none⟩]) .ret) .skip))) (.seq (.region [⟨some 55,.load (some 1) (.t 3),none⟩,⟨none,.store 1 (.t 6) (.t 55),none⟩,⟨some 7,.mv (.c (.v (.int .i64 0))),none⟩]) .ret)))))))⟩
theorem a_tApp_ok : cFunc Try.prog 19 = some a_tApp := by kernel_rfl

theorem tinP_spec (x lo hi : Int) (b l : List Row) : ACalls Try.prog 78 [.v (.int .i64 x), .v (.int .i64 lo), .v (.int .i64 hi)] b l (fun r b' l' => r = .v (.bool (inB x lo hi)) ∧ b' = b ∧ l' = l) := by
 refine calls_kept a_tinP_ok rfl (by decide) ?_
 intro B g hB hR hE hA
 simp only [KArgs] at hA
 unfold inB
 by_cases h1 : lo ≤ x
 ·have d1 : decide (lo ≤ x) = true := decide_eq_true h1
  have d1' : decide (x ≥ lo) = true := d1
  simp (disch := (first | decide | omega)) only [a_tinP, hA, d1, d1', go_sem]
  exact leave_pure (xs := [.v (.bool (decide (x ≤ hi)))]) (.inr rfl) (by simp (disch := (first | decide | omega)) only [resVs, resV, go_sem, hA]) kO hR hB ⟨rfl, rfl, rfl⟩
 ·have d1 : decide (lo ≤ x) = false := decide_eq_false h1
  have d1' : decide (x ≥ lo) = false := d1
  simp (disch := (first | decide | omega)) only [a_tinP, hA, d1, d1', go_sem]
  exact leave_pure (xs := [.v (.bool false)]) (.inr rfl) (by simp (disch := (first | decide | omega)) only [resVs, resV, go_sem, hA]) kO hR hB ⟨rfl, rfl, rfl⟩
theorem tLens_spec (t : Tr) (hS : Small t) (b l : List Row) : ACalls Try.prog 83 [.agg [.v (eT t)]] b l (fun r b' l' => r = .v (.isl 1 ((lensT t).map eI)) ∧ b' = b ∧ l' = l) := by
 refine calls_kept a_tLens_ok rfl (by decide) ?_
 intro B g hB hR hE hA
 simp only [KArgs] at hA
 have hnp := hS.np
 have hll : (lensT t).length = t.length := List.length_map _
 simp (disch := (first | decide | omega)) only [a_tLens, hA, eT, List.length_map, go_sem]
 refine loop_kept_nil (ι := Nat) 3 1 r_tLens0 (fun i => [(3, .sl (B.length + 1) i 0 i), (9, .v (.int .i64 i))]) 2 (fun i => [.live 0 1 [[.v (.isl 3 (t.map ePr))]], .live i 1 (vs (((lensT t).take i).map eI))])
  (fun i => i ≤ t.length) (fun i => t.length - i) 0 (Nat.zero_le _) (by simp (disch := decide) only [hA, go_sem]) (by decide) rfl (by (repeat (first | exact hE.mono oM | refine KLt.up ?_ kL))) (by ((try simp (disch := decide) only [hA, go_sem]) <;> exact kH)) (fun e => by simpa [vs] using Weak.refl _ _ _) ?_
 intro g1 hE1 hEE1 hg1 i hi
 by_cases hlt : i < t.length
 ·have hget : (t.map ePr)[i]? = some [.str t[i].name, .isl 2 (t[i].vars.map eVr), .isl 5 (t[i].evs.map eEv)] := by rw [List.getElem?_map, List.getElem?_eq_getElem hlt]; rfl
  have dk : decide ((i : Int) < (t.length : Int)) = true := decide_eq_true oM
  have hel : min i (lensT t).length = i := by omega
  have hr2 : List.take i (List.map eI (List.take i (lensT t))) = ((lensT t).take i).map eI := List.take_of_length_le (by simp; omega)
  have hr : ((lensT t).take i).map eI ++ [[.int .i64 (t[i].evs.length : Int)]] = ((lensT t).take (i + 1)).map eI := by
   rw [← mapw_snoc (f := eI) (show i < (lensT t).length by omega)]
   unfold lensT
   rw [List.getElem_map]; rfl
  simp (disch := (first | decide | omega)) only [hA, hg1, hget, dk, hel, hr2, hr, List.length_map, List.length_take, fillS, List.replicate_succ, List.replicate_zero, List.set_cons_zero, setFrom, cellsOf, go_sem]
  refine ⟨i + 1, hlt, by simp only; omega, ?_⟩
  exact Weak.kround (p := r_tLens0) (k := 2) (by ((repeat refine (kAny_up rfl).trans ?_); exact hEE1)) (by ((try simp (disch := decide) only [hA, hg1, go_sem]) <;> exact kH)) rfl hE1 (by simp) kV hR kL
 ·obtain rfl : i = t.length := by omega
  have dk : decide ((t.length : Int) < (t.length : Int)) = false := by simp
  simp (disch := (first | decide | omega)) only [hA, hg1, dk, List.length_map, go_sem]
  have htk : (lensT t).take t.length = lensT t := List.take_of_length_le oM
  rw [htk]
  exact leave_frz (i := 1) (ver := t.length) (sz := 1) (n := t.length) (rows := (lensT t).map eI) (.inr rfl) (by simp (disch := (first | decide | omega)) only [resVs, resV, hA, hg1, go_sem]) rfl (by simp; omega) hR hB ⟨rfl, rfl, rfl⟩
def apT (t : Tr) (p : Nat) (x : Ev) : Tr := t.set p { t.getD p dfPr with evs := evsOf t p ++ [x] }
theorem ap_len {t : Tr} {p : Nat} {x : Ev} : (apT t p x).length = t.length := by unfold apT; simp
theorem ap_getk {t : Tr} {p : Nat} {x : Ev} (h : p < t.length) : (apT t p x).getD p dfPr = { t.getD p dfPr with evs := evsOf t p ++ [x] } := by
 unfold apT
 rw [List.getD_eq_getElem?_getD, List.getElem?_set_self h]; rfl
theorem ap_getp {t : Tr} {p q : Nat} {x : Ev} (h : q ≠ p) : (apT t p x).getD q dfPr = t.getD q dfPr := by
 unfold apT
 rw [List.getD_eq_getElem?_getD, List.getElem?_set_ne (fun e => h e.symm), ← List.getD_eq_getElem?_getD]
end Go.Proofs.Ytanblnhnfkeffaa
