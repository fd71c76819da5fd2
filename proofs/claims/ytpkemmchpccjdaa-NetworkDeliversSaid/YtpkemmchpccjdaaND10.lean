/- Texts of one proof, laid together: N6, NR. No condition. -/
import Derived.Test.YtpkemmchpccjdaaND5
import Derived.Test.YtpkemmchpccjdaaND9
import Derived.Test.YtpkemmchpccjdaaND2
namespace Go.Proofs.Ytpkemmchpccjdaa
set_option linter.unusedVariables false
theorem arAt_ub {n : Nw} {m : Ms} {T : Int} (hl : n.l.length = n.tm.length) (h0 : n.now + (n.fates.headD (1, 0)).2 ≤ T) (ht : ∀ x ∈ n.tm, x ≤ T) : ∀ i, i ≤ n.l.length → arAt n m i ≤ T
 | 0, _ => h0
 | i + 1, hi => by
   have ih := arAt_ub (m := m) hl h0 ht i oM
   have := ht (n.tm.getD i 0) (by rw [getD_at oM]; exact List.getElem_mem _)
   simp only [arAt]
   split <;> omega
theorem ins_ub {n : Nw} {m : Ms} {T a : Int} {c : Nat} (ha : a ≤ T) (ht : ∀ x ∈ n.tm, x ≤ T) : ∀ x ∈ (insN n m a c).tm, x ≤ T := by
 intro x hx
 change x ∈ n.tm.take _ ++ _ ++ n.tm.drop _ at hx
 rw [List.mem_append, List.mem_append] at hx
 rcases hx with (hx | hx) | hx
 ·exact ht x (List.mem_of_mem_take hx)
 ·rw [(List.mem_replicate.1 hx).2]; exact ha
 ·exact ht x (List.mem_of_mem_drop hx)
theorem wo_ub {n : Nw} {k : Nat} {T : Int} (ht : ∀ x ∈ n.tm, x ≤ T) : ∀ x ∈ (woN n k).tm, x ≤ T := by
 intro x hx
 rcases List.mem_append.1 (show x ∈ n.tm.take k ++ n.tm.drop (k + 1) from hx) with hx | hx
 ·exact ht x (List.mem_of_mem_take hx)
 ·exact ht x (List.mem_of_mem_drop hx)
theorem leN_more {n : Nw} (hv : NwV n) (hp : leN n.tm n.now < n.tm.length) : n.now < n.tm.getD (leN n.tm n.now) 0 ∧ leN n.tm n.now < leN n.tm (n.tm.getD (leN n.tm n.now) 0) := by
 have h1 := (leN_spec (l := n.tm) (a := n.now)).2 hp
 refine ⟨h1, ?_⟩
 rcases Nat.lt_or_ge (leN n.tm n.now) (leN n.tm (n.tm.getD (leN n.tm n.now) 0)) with h | h
 ·exact h
 ·exfalso
  have h2 := (leN_spec (l := n.tm) (a := n.tm.getD (leN n.tm n.now) 0)).2 oM
  have h3 := hv.sorted _ _ h hp
  omega
def AllIn (n : Nw) : Prop := ∀ j, j < n.l.length → n.tm.getD j 0 ≤ n.now
theorem allIn_of {n : Nw} (hv : NwV n) (h : ¬ leN n.tm n.now < n.tm.length) : AllIn n := fun j hj => (leN_spec (l := n.tm) (a := n.now)).1 j (by have := hv.len; omega)
theorem AllIn.out {n : Nw} (hv : NwV n) (h : AllIn n) {k : Nat} (hk : k < n.l.length) : AllIn (woN n k) := by
 intro j hj
 have hl := hv.len
 have ll : (woN n k).l.length = n.l.length - 1 := cut_length hk
 rw [ll] at hj
 show (n.tm.take k ++ n.tm.drop (k + 1)).getD j 0 ≤ n.now
 rw [cut_getD]
 split
 ·exact h (j + 1) oM
 ·exact h j oM
def Drn (n : Nw) (to : Nat) : Prop := ∀ j, j < n.l.length → (to : Int) ≤ (n.l.getD j dfMs).to
theorem Drn.out {n : Nw} {to : Nat} (h : Drn n to) {k : Nat} (hk : k < n.l.length) : Drn (woN n k) to := by
 intro j hj
 have ll : (woN n k).l.length = n.l.length - 1 := cut_length hk
 rw [ll] at hj
 show (to : Int) ≤ ((n.l.take k ++ n.l.drop (k + 1)).getD j dfMs).to
 rw [cut_getD]
 split
 ·exact h (j + 1) oM
 ·exact h j oM
theorem Drn.next {n : Nw} {to : Nat} (h : Drn n to) (ha : AllIn n) (hf : ∀ j, j < n.l.length → arB n to j = false) : Drn n (to + 1) := by
 intro j hj
 have h1 := h j hj
 have h2 := hf j hj
 unfold arB at h2
 rw [decide_eq_true (ha j hj), Bool.and_true] at h2
 have := of_decide_eq_false h2
 omega
theorem Drn.zero {n : Nw} (hv : NwV n) : Drn n 0 := by
 intro j hj
 have := hv.ms (n.l.getD j dfMs) (by rw [getD_at hj]; exact List.getElem_mem _)
 unfold msB ptB at this
 simp only [Bool.and_eq_true, decide_eq_true_eq] at this
 omega
theorem Drn.end {n : Nw} (hv : NwV n) (h : Drn n 8) : n.l = [] := by
 rcases Nat.eq_zero_or_pos n.l.length with h0 | h0
 ·exact List.eq_nil_of_length_eq_zero h0
 ·exfalso
  have h1 := h 0 h0
  have := hv.ms (n.l.getD 0 dfMs) (by rw [getD_at h0]; exact List.getElem_mem _)
  unfold msB ptB at this
  simp only [Bool.and_eq_true, decide_eq_true_eq] at this
  omega
end Go.Proofs.Ytpkemmchpccjdaa
namespace Go.Proofs.Ytpkemmchpccjdaa
set_option linter.unusedVariables false
set_option linter.unusedSimpArgs false
attribute [local go_sem ↓] run_skip run_region run_draw run_both run_seq run_block run_exit run_ret run_cond atN_app seqC_normal seqC_exit seqC_ret seqQ_normal seqQ_exit seqQ_ret blkQ_normal blkQ_exit blkQ_ret runOps_nil runOps_cons runD_nil runD_cons grdO_true grdO_false grdD_true grdD_false ifC_true ifC_false opS_val opS_call opS_two opK_app dS_val dS_call dS_two dK_app kUp_same kUp_ne
attribute [local go_sem] rechks_nil rechks_cons rechk gcase_true gcase_false ex_val ex_val0 gd_none gd_some ev_t ev_c evs_nil evs_cons evo_some evo_none hget_at hget_first hsetB_at hsetB_first hsetL_at hsetL_first ofOpt_some aop aload astore aslice aappend aiaddr aiaddrA afaddr alen alenS acopy amm acall alookup amupdate alenM atostr aappz comma keyEq apick binV binVB binVS isSh intOp strOp boolOp shOp eqC eqF and2 cellsOf setFrom fillA fillS rowsI rowI rd rdI elems mk bounds AV.cell List.all_cons List.all_nil Bool.and_true Bool.true_and Bool.and_self List.length_cons List.length_nil List.length_append Nat.reduceAdd Nat.reduceSub Nat.reduceMul Nat.zero_add Nat.add_zero List.cons_append List.nil_append List.append_assoc List.append_nil List.getElem?_cons_zero List.getElem?_cons_succ List.getElem?_nil List.set_cons_zero List.set_cons_succ List.drop_zero List.drop_succ_cons List.take_zero List.take_succ_cons List.take_nil List.drop_nil List.map_cons List.map_nil Option.map_some if_true if_false Bool.false_eq_true and_self true_and and_true Nat.reduceLeDiff Nat.reduceLT Nat.le_refl Nat.reduceEqDiff ite_true ite_false beq_self_eq_true beq_true beq_false Bool.not_true Bool.not_false Bool.true_beq Bool.false_beq map_vs vs_len vs_get vs_take vs_drop vs_snoc1 vs_snoc2 vs_snoc3 vs_snoc5 vs_set1 vs_set2 vs_rep wrap_id le_T lt_T le_F lt_F leI_T ltI_T leI_F ltI_F geI gtI get_T decide_true decide_false room List.getElem?_map List.length_map List.length_take Int.toNat_natCast Nat.min_def Nat.min_self nth_kOf put_kOf put_kNo kOv_cons kOv_nil KHas KArgs List.getElem_cons_zero List.getElem_cons_succ
attribute [local go_sem] hget_kBl hget_kB0 hsetB_kBl hsetB_kB0 hsetL_kBl hsetL_kB0 kB_len rUp_same
def a_takeF : AFunc := ⟨8,105,[.tmp 9,.tmp 10],(.seq (.region [⟨some 9,.mv (.c (.v (.bool false))),none⟩,⟨some 10,.mv (.c (.v (.bool false))),none⟩]) (.seq (.region [⟨some 16,.load (some 5) (.t 1),none⟩,⟨some 17,.mv (.t 0),none⟩,⟨some 18,.call (.c (.fn 8 [])) [(.t 16),(.t 17)],none⟩,⟨some 15,.mv (.t 18),none⟩,⟨some 19,.extract 0 (.t 15),none⟩,⟨some 20,.extract 1 (.t 15),none⟩,⟨some 21,.extract 2 (.t 15),none⟩,⟨some 11,.alloc [(.v (.int .i64 0)),(.v (.bool false)),(.v .zsl),(.v .zsl),(.v .zsl)],none⟩,⟨some 12,.alloc [(.v (.int .i64 0)),(.v (.int .i64 0)),(.v (.int .i64 0)),(.v .zsl)],none⟩,⟨none,.store 5 (.t 11) (.t 19),none⟩,⟨none,.store 4 (.t 12) (.t 20),none⟩,⟨some 13,.mv (.t 21),none⟩]) (.seq (.seq (.region [⟨some 22,.mv (.t 13),none⟩,⟨some 23,.bin .eql (.t 22) (.c (.v (.int .i64 7))),none⟩]) (.cond (.t 23) (.seq (.region [⟨some 24,.load (some 5) (.t 1),none⟩,⟨some 25,.mv (.t 0),none⟩,⟨some 26,.call (.c (.fn 9 [])) [(.t 24),(.t 25)],none⟩,⟨some 27,.bin .eql (.t 26) (.c (.v (.int .i64 0))),none⟩,⟨some 9,.mv (.c (.v (.bool false))),none⟩,⟨some 10,.mv (.t 27),none⟩]) .ret) .skip)) (.seq (.seq (.draw [⟨0,⟨some 28,.mv (.t 13),none⟩,[]⟩,⟨1,⟨some 29,.bin .neq (.t 28) (.c (.v (.int .i64 0))),none⟩,[]⟩,⟨2,⟨some 30,.mv (.t 29),none⟩,[]⟩,⟨3,⟨some 31,.faddr 2 (.t 12),some (30,false)⟩,[]⟩,⟨4,⟨some 32,.load none (.t 31),some (30,false)⟩,[]⟩,⟨5,⟨some 33,.bin .lss (.t 32) (.c (.v (.int .i64 0))),some (30,false)⟩,[]⟩,⟨6,⟨some 34,.pick (.t 30) (.c (.v (.bool true))) (.t 33),none⟩,[]⟩,⟨7,⟨some 35,.mv (.t 34),none⟩,[]⟩,⟨8,⟨some 36,.faddr 2 (.t 12),some (35,false)⟩,[]⟩,⟨9,⟨some 37,.load none (.t 36),some (35,false)⟩,[]⟩,⟨10,⟨some 38,.load none (.t 2),some (35,false)⟩,[]⟩,⟨11,⟨some 39,.len (.t 38),some (35,false)⟩,[]⟩,⟨12,⟨some 40,.bin .geq (.t 37) (.t 39),some (35,false)⟩,[]⟩,⟨13,⟨some 41,.pick (.t 35) (.c (.v (.bool true))) (.t 40),none⟩,[]⟩,⟨14,⟨some 42,.mv (.t 41),none⟩,[]⟩,⟨15,⟨some 43,.load (some 4) (.t 12),some (42,false)⟩,[]⟩,⟨16,⟨some 44,.load none (.t 2),some (42,false)⟩,[]⟩,⟨17,⟨some 45,.faddr 2 (.t 12),some (42,false)⟩,[]⟩,⟨18,⟨some 46,.load none (.t 45),some (42,false)⟩,[]⟩,⟨19,⟨some 47,.iaddr 4 (.t 44) (.t 46),some (42,false)⟩,[]⟩,⟨20,⟨some 48,.load (some 4) (.t 47),some (42,false)⟩,[]⟩,⟨21,⟨some 49,.call (.c (.fn 10 [])) [(.t 43),(.t 48)],some (42,false)⟩,[]⟩,⟨22,⟨some 50,.not (.t 49),some (42,false)⟩,[]⟩,⟨23,⟨some 51,.pick (.t 42) (.c (.v (.bool true))) (.t 50),none⟩,[]⟩,⟨24,⟨some 52,.mv (.t 51),none⟩,[]⟩,⟨25,⟨some 53,.faddr 1 (.t 12),some (52,false)⟩,[]⟩,⟨26,⟨some 54,.load none (.t 53),some (52,false)⟩,[]⟩,⟨27,⟨some 55,.mv (.t 0),some (52,false)⟩,[]⟩,⟨28,⟨some 56,.bin .neq (.t 54) (.t 55),some (52,false)⟩,[]⟩,⟨29,⟨some 57,.pick (.t 52) (.c (.v (.bool true))) (.t 56),none⟩,[]⟩,⟨30,⟨some 58,.mv (.t 57),none⟩,[]⟩,⟨31,⟨some 59,.load none (.t 3),some (58,false)⟩,[]⟩,⟨32,⟨some 60,.faddr 2 (.t 12),some (58,false)⟩,[]⟩,⟨33,⟨some 61,.load none (.t 60),some (58,false)⟩,[]⟩,⟨34,⟨some 62,.iaddr 1 (.t 59) (.t 61),some (58,false)⟩,[]⟩,⟨35,⟨some 63,.load none (.t 62),some (58,false)⟩,[]⟩,⟨36,⟨some 64,.faddr 0 (.t 1),some (58,false)⟩,[]⟩,⟨37,⟨some 65,.load none (.t 64),some (58,false)⟩,[]⟩,⟨38,⟨some 66,.bin .gtr (.t 63) (.t 65),some (58,false)⟩,[]⟩,⟨39,⟨some 67,.pick (.t 58) (.c (.v (.bool true))) (.t 66),none⟩,[]⟩]) (.cond (.t 67) (.seq (.region [⟨some 9,.mv (.c (.v (.bool false))),none⟩,⟨some 10,.mv (.c (.v (.bool false))),none⟩]) .ret) .skip)) (.seq (.region [⟨some 68,.load (some 5) (.t 11),none⟩,⟨none,.store 5 (.t 1) (.t 68),none⟩]) (.seq (.region [⟨some 69,.load none (.t 4),none⟩,⟨some 70,.faddr 2 (.t 12),none⟩,⟨some 71,.load none (.t 70),none⟩,⟨some 72,.iaddr 1 (.t 69) (.t 71),none⟩,⟨some 73,.load none (.t 72),none⟩,⟨some 74,.bin .add (.t 73) (.c (.v (.int .i64 1))),none⟩,⟨some 75,.iaddr 1 (.t 69) (.t 71),none⟩,⟨none,.store 1 (.t 75) (.t 74),none⟩]) (.seq (.region [⟨some 76,.faddr 0 (.t 12),none⟩,⟨some 77,.load none (.t 76),none⟩,⟨some 78,.faddr 1 (.t 12),none⟩,⟨some 79,.load none (.t 78),none⟩,⟨some 80,.build [(.v (.int .i64 0)),(.v (.int .i64 0))] [(0,1,(.t 77)),(1,1,(.t 79))],none⟩,⟨some 14,.alloc [(.v (.int .i64 0)),(.v (.int .i64 0))],none⟩,⟨none,.store 2 (.t 14) (.t 80),none⟩]) (.seq (.seq (.draw [⟨0,⟨some 81,.load none (.t 5),none⟩,[]⟩,⟨1,⟨some 82,.mv (.t 81),none⟩,[]⟩,⟨2,⟨some 83,.faddr 2 (.t 12),some (82,true)⟩,[]⟩,⟨3,⟨some 84,.load none (.t 83),some (82,true)⟩,[]⟩,⟨4,⟨some 85,.load none (.t 6),some (82,true)⟩,[]⟩,⟨5,⟨some 86,.load (some 2) (.t 14),some (82,true)⟩,[]⟩,⟨6,⟨some 87,.lookup (.many [.i,.i]) (.v (.int .i64 0)) false (.t 85) (.t 86),some (82,true)⟩,[]⟩,⟨7,⟨some 88,.bin .lss (.t 84) (.t 87),some (82,true)⟩,[]⟩,⟨8,⟨some 89,.pick (.t 82) (.t 88) (.c (.v (.bool false))),none⟩,[]⟩]) (.cond (.t 89) (.seq (.region [⟨some 9,.mv (.c (.v (.bool false))),none⟩,⟨some 10,.mv (.c (.v (.bool false))),none⟩]) .ret) .skip)) (.seq (.region [⟨some 90,.load none (.t 6),none⟩,⟨some 91,.load (some 2) (.t 14),none⟩,⟨some 92,.faddr 2 (.t 12),none⟩,⟨some 93,.load none (.t 92),none⟩,⟨none,.mupdate (.many [.i,.i]) (.t 90) (.t 91) (.t 93),none⟩]) (.seq (.draw [⟨0,⟨some 94,.load none (.t 4),none⟩,[]⟩,⟨1,⟨some 95,.faddr 2 (.t 12),none⟩,[]⟩,⟨2,⟨some 96,.load none (.t 95),none⟩,[]⟩,⟨3,⟨some 97,.iaddr 1 (.t 94) (.t 96),none⟩,[]⟩,⟨4,⟨some 98,.load none (.t 97),none⟩,[]⟩,⟨5,⟨some 99,.load none (.t 7),none⟩,[]⟩,⟨6,⟨some 100,.faddr 2 (.t 12),none⟩,[]⟩,⟨7,⟨some 101,.load none (.t 100),none⟩,[]⟩,⟨8,⟨some 102,.iaddr 1 (.t 99) (.t 101),none⟩,[]⟩,⟨9,⟨some 103,.load none (.t 102),none⟩,[]⟩,⟨10,⟨some 104,.bin .leq (.t 98) (.t 103),none⟩,[]⟩,⟨11,⟨some 9,.mv (.c (.v (.bool true))),none⟩,[]⟩,⟨12,⟨some 10,.mv (.t 104),none⟩,[]⟩]) .ret))))))))))⟩
theorem a_takeF_ok : cFunc Try.prog 7 = some a_takeF := by kernel_rfl

def scR (n : Nat) (s : Sc) (M : ChM) : List Row := [
 .live 0 1 [[.v (.bool s.n.fifo)]],
 .live 0 5 [[.v (.int .i64 s.n.now), .v (.bool s.n.fifo), .v (.isl 4 (s.n.l.map eMs)), .v (.isl 1 (s.n.tm.map eI)), .v (.isl 2 (s.n.fates.map eFt))]],
 .live 0 1 [[.sl (n + 8) s.sent.length 0 s.sent.length]],
 .live 0 1 [[.sl (n + 9) s.sent.length 0 s.sent.length]],
 .live 0 1 [[.sl (n + 10) s.sent.length 0 s.sent.length]],
 .live 0 1 [[.sl (n + 11) s.sent.length 0 s.sent.length]],
 .live 0 0 (chR M),
 .live 0 1 [[.mp (n + 6) 0]],
 .live s.sent.length 4 (vs (s.sent.map eMs)),
 .live s.sent.length 1 (vs (s.due.map eI)),
 .live s.sent.length 1 (vs (s.copies.map eI)),
 .live s.sent.length 1 (vs (s.got.map eI))]
theorem wt_none {n : Nw} {to : Int} : ∀ i, (∀ j, j < i → arB n to j = false) → wtN n to i = 0
 | 0, _ => rfl
 | i + 1, h => by
   simp only [wtN]
   rw [h i oM, wt_none i (fun j hj => h j oM)]; rfl
theorem fiR_not {n : Nw} {to : Int} (h : fiR n to < 0) : ∀ j, j < n.l.length → arB n to j = false := by
 intro j hj
 cases hc : arB n to j with
 | false => rfl
 | true =>
   exfalso
   unfold fiR wIdx at h
   cases hf : (List.range n.l.length).find? (arB n to) with
   | none =>
     have := List.find?_eq_none.1 hf j (List.mem_range.2 hj)
     rw [hc] at this; exact this rfl
   | some k => rw [hf] at h; simp only at h; omega
set_option maxRecDepth 20000 in
set_option maxHeartbeats 4000000 in
theorem take_spec {fs : List (Int × Int)} {s : Sc} (h : ScOk fs s) (h60 : s.sent.length ≤ 60) (M : ChM) (hM : s.last = chF M) (to : Nat) (hto : to < 8) (b l J : List Row) (hl : l = scR b.length s M ++ J) (more : Bool) (l2 : List Row)
  (hcase : (more = false ∧ fiR s.n to < 0 ∧ l2 = l) ∨ (more = true ∧ ∃ k q : Nat, fiR s.n to = k ∧ k < s.n.l.length ∧ q < s.sent.length ∧ s.n.l.getD k dfMs = s.sent.getD q dfMs ∧ (s.n.l.getD k dfMs).nu = q ∧ (s.n.l.getD k dfMs).to = to ∧ s.due.getD q 0 ≤ s.n.now ∧
   (s.n.fifo = true → s.last (s.n.l.getD k dfMs).fr (s.n.l.getD k dfMs).to ≤ q) ∧ 0 ≤ s.got.getD q 0 ∧ s.got.getD q 0 + 1 ≤ s.copies.getD q 0 ∧ s.copies.getD q 0 ≤ 3 ∧
   l2 = scR b.length ⟨woN s.n k, s.sent, s.due, s.copies, s.got.set q (s.got.getD q 0 + 1), s.last⟩ (chU M (s.n.l.getD k dfMs).fr (s.n.l.getD k dfMs).to q) ++ J)) :
  ACalls Try.prog 7 [.v (.int .i64 to), .ptr (b.length + 1) 0 0 0, .ptr (b.length + 2) 0 0 0, .ptr (b.length + 3) 0 0 0, .ptr (b.length + 5) 0 0 0, .ptr b.length 0 0 0, .ptr (b.length + 7) 0 0 0, .ptr (b.length + 4) 0 0 0] b l
   (fun r b' l' => r = .tup [.v (.bool more), .v (.bool true)] ∧ b' = b ∧ l' = l2) := by
 refine calls_kept a_takeF_ok rfl (by decide) ?_
 intro B g hB hR hE hA; simp only [KArgs] at hA
 obtain ⟨n, f, hn, hBf, hf⟩ := kB_of B
 have hnl : n = b.length + 12 + J.length := by rw [hn, hB, List.length_append, hl, List.length_append, ← Nat.add_assoc]; rfl
 have gB : ∀ j r, (scR b.length s M ++ J)[j]? = some r → f (b.length + j) = r := fun j r hj => hf _ _ (by
  rw [hB, List.getElem?_append_right oM, Nat.add_sub_cancel_left, hl]; exact hj)
 have f0 := gB 0 _ rfl
 have f1 := gB 1 _ rfl
 have f2 := gB 2 _ rfl
 have f3 := gB 3 _ rfl
 have f4 := gB 4 _ rfl
 have f5 := gB 5 _ rfl
 have f6 := gB 6 _ rfl
 have f7 := gB 7 _ rfl
 have f8 := gB 8 _ rfl
 have f9 := gB 9 _ rfl
 have f10 := gB 10 _ rfl
 have f11 := gB 11 _ rfl
 rw [Nat.add_zero] at f0
 subst hBf
 rw [kB_len] at hR
 have gk : ∀ {j : Nat} {f : Nat → Row} {L : List Row}, j < 12 → hget (kB n f) L (b.length + j) = some (f (b.length + j)) := fun hj => hget_kB oM
 have kn : ∀ {j : Nat} {f : Nat → Row} {r : Row}, j < 12 → hsetB (kB n f) (b.length + j) r = kB n (rUp f (b.length + j) r) := fun hj => hsetB_kB oM
 have kl : ∀ {j : Nat} {f : Nat → Row} {r : Row} {L : List Row}, j < 12 → hsetL (kB n f) L (b.length + j) r = L := fun hj => hsetL_kB oM
 have gk0 : ∀ {f : Nat → Row} {L : List Row}, hget (kB n f) L b.length = some (f b.length) := hget_kB oM
 have hv := nwB_iff.2 h.v
 have hp : ptB to = true := by unfold ptB; simp; omega
 have cR := fun b l => nRecv_spec s.n to b l
 have cW := fun b l => nWait_spec s.n to b l
 unfold eNw at cR cW
 simp only [List.map_cons, List.map_nil] at cR cW
 rcases hcase with ⟨rfl, hneg, rfl⟩ | ⟨rfl, k, q, hk, hkl, hq, heq, hnu, hmto, hdue, hlast, hg0, hgc, hc3, rfl⟩
 ·have he : rcE s.n to = 7 := by unfold rcE; rw [if_pos hv, if_pos hp, if_pos hneg]
  have hw : waitN s.n to = 0 := by unfold waitN; rw [if_pos ⟨hv, hp⟩, wt_none _ (fiR_not hneg)]
  have n7 : ((7 : Int) == 7) = true := rfl
  have n0 : (((0 : Nat) : Int) == 0) = true := rfl
  rw [he] at cR
  rw [hw] at cW
  simp (disch := (first | decide | omega)) only [a_takeF, hA, gk, gk0, f0, f1, go_sem]
  refine ACalls.nxt (cR _ _) ?_
  simp (disch := (first | decide | omega)) only [hA, gk, gk0, f0, f1, n7, setFrom, cellsOf, nwA_open, eMs_open, go_sem]
  refine ACalls.nxt (cW _ _) ?_
  simp (disch := (first | decide | omega)) only [hA, n0, go_sem]
  exact leave_pure (xs := [.v (.bool false), .v (.bool true)]) (.inr rfl) (by simp (disch := (first | decide | omega)) only [resVs, resV, go_sem, hA]) kO (by rw [kB_len]; exact hR) hB ⟨rfl, rfl, rfl⟩
 ·obtain ⟨m, hm⟩ : ∃ m, s.n.l.getD k dfMs = m := ⟨_, rfl⟩
  rw [hm] at heq hnu hmto hlast ⊢
  have he : rcE s.n to = 0 := by unfold rcE; rw [if_pos hv, if_pos hp, if_neg oM]
  have hkk : (fiR s.n to).toNat = k := by rw [hk]; rfl
  have hN : rcN s.n to = woN s.n k := by unfold rcN; rw [if_pos he, hkk]
  have hMm : rcM s.n to = m := by unfold rcM; rw [if_pos he, hkk, hm]
  rw [he, hN, hMm] at cR
  have n7 : ((0 : Int) == 7) = false := rfl
  have n00 : ((0 : Int) != 0) = false := rfl
  have hbl : m.body.length ≤ 1000000 := h.v.s.body m (by rw [← hm, getD_at hkl]; exact List.getElem_mem hkl)
  have dnu : (m.nu : Int) = q := hnu
  have cM := fun b l => sameM_spec m m hbl b l
  have hd : s.got.length = s.sent.length := h.lg
  have hgs : (s.sent.map eMs)[q]? = some (eMs m) := by rw [List.getElem?_map, List.getElem?_eq_getElem hq, heq, getD_at hq]; rfl
  have hgd : (s.due.map eI)[q]? = some [.int .i64 (s.due.getD q 0)] := by
   have hq2 : q < s.due.length := by rw [h.ld]; exact hq
   rw [List.getElem?_map, List.getElem?_eq_getElem hq2, getD_at hq2]; rfl
  have hgc2 : (s.copies.map eI)[q]? = some [.int .i64 (s.copies.getD q 0)] := by
   have hq2 : q < s.copies.length := by rw [h.lc]; exact hq
   rw [List.getElem?_map, List.getElem?_eq_getElem hq2, getD_at hq2]; rfl
  have hgg : (s.got.map eI)[q]? = some [.int .i64 (s.got.getD q 0)] := by
   have hq2 : q < s.got.length := by rw [h.lg]; exact hq
   rw [List.getElem?_map, List.getElem?_eq_getElem hq2, getD_at hq2]; rfl
  have hwn : (woN s.n k).now = s.n.now := rfl
  have hwf : (woN s.n k).fifo = s.n.fifo := rfl
  rw [eqB_refl] at cM
  simp only [dnu] at cM
  have dto : (m.to != (to : Int)) = false := by rw [hmto]; simp
  have dnu : (m.nu : Int) = q := hnu
  have d1 : decide ((q : Int) < 0) = false := decide_eq_false oM
  have d2 : decide ((q : Int) ≥ (s.sent.length : Int)) = false := decide_eq_false oM
  have d3 : decide (s.due.getD q 0 > s.n.now) = false := decide_eq_false oM
  simp (disch := (first | decide | omega)) only [a_takeF, hA, gk, gk0, f0, f1, go_sem]
  refine ACalls.nxt (cR _ _) ?_
  simp (disch := (first | decide | omega)) only [hA, gk, gk0, f0, f1, f2, f3, f8, f9, n7, n00, dnu, d1, d2, setFrom, cellsOf, nwA_open, eMs_open, hgs, vs_get, vs_len, List.length_map, go_sem]
  have hu := updM_ch m.fr m.to q M
  have two : kB n (rUp (rUp (rUp f (b.length + 1) (.live 0 5 [[.v (.int .i64 s.n.now), .v (.bool s.n.fifo), .v (.isl 4 ((woN s.n k).l.map eMs)), .v (.isl 1 ((woN s.n k).tm.map eI)), .v (.isl 2 ((woN s.n k).fates.map eFt))]]))
    (b.length + 11) (.live s.sent.length 1 (vs ((s.got.map eI).set q [.int .i64 (s.got.getD q 0 + 1)])))) (b.length + 6) (.live 0 0 (chR (chU M m.fr m.to q)))) = b ++ (scR b.length ⟨woN s.n k, s.sent, s.due, s.copies, s.got.set q (s.got.getD q 0 + 1), s.last⟩ (chU M m.fr m.to q) ++ J) := by
   rw [kB_app (kB_app (kB_app hB)), hl]
   have e : (s.got.map eI).set q [.int .i64 (s.got.getD q 0 + 1)] = (s.got.set q (s.got.getD q 0 + 1)).map eI := by rw [List.map_set]; rfl
   rw [e]; rfl
  have hlt3 : RowsLt n (kB n (rUp (rUp (rUp f (b.length + 1) (.live 0 5 [[.v (.int .i64 s.n.now), .v (.bool s.n.fifo), .v (.isl 4 ((woN s.n k).l.map eMs)), .v (.isl 1 ((woN s.n k).tm.map eI)), .v (.isl 2 ((woN s.n k).fates.map eFt))]]))
    (b.length + 11) (.live s.sent.length 1 (vs ((s.got.map eI).set q [.int .i64 (s.got.getD q 0 + 1)])))) (b.length + 6) (.live 0 0 (chR (chU M m.fr m.to q))))) := by
   refine ((hR.kB_up (.live kN)).kB_up .vs).kB_up (.live ?_)
   unfold chR
   intro row hrow c hc
   obtain ⟨z, _, rfl⟩ := List.mem_map.1 hrow
   rcases List.mem_cons.1 hc with rfl | hc
   ·simp only [lts.down, Nat.reduceLT, Nat.reduceAdd]
   ·rcases List.mem_cons.1 hc with rfl | hc
    ·simp only [lts.down, Nat.reduceLT, Nat.reduceAdd]
    ·cases hc
  have hwr : IntKind.i64.wrap (s.got.getD q 0 + 1) = s.got.getD q 0 + 1 := wrap_id oM oM
  have dle : decide (s.got.getD q 0 + 1 ≤ s.copies.getD q 0) = true := decide_eq_true hgc
  have hset : ((s.got.map eI).set q [.int .i64 (s.got.getD q 0 + 1)])[q]? = some [.int .i64 (s.got.getD q 0 + 1)] := List.getElem?_set_self (by rw [List.length_map, hd]; exact hq)
  obtain ⟨y, v, hy, hyv, hvq⟩ : ∃ (y : Option AV) (v : Int), findM (.many [.i, .i]) (.agg [.v (.int .i64 m.fr), .v (.int .i64 m.to)]) (chR M) = some y ∧ ((y = none ∧ v = 0) ∨ y = some (.v (.int .i64 v))) ∧ (s.n.fifo = true → v ≤ q) := by
   rw [findM_ch]
   have hch : s.last m.fr m.to = (chL M m.fr m.to).getD 0 := by rw [hM]; rfl
   cases hc : chL M m.fr m.to with
   | none => exact ⟨none, 0, rfl, .inl ⟨rfl, rfl⟩, fun _ => by omega⟩
   | some v => exact ⟨_, v, rfl, .inr rfl, fun hf => by have := hlast hf; rw [hch, hc] at this; exact this⟩
  refine ACalls.nxt (cM _ _) ?_
  cases hff : s.n.fifo
  case' false =>
   rw [hff] at two hlt3
   simp (disch := (first | decide | omega)) only [hA, gk, gk0, f0, f1, f2, f3, f4, f5, f6, f7, f8, f9, f10, f11, n7, n00, dto, d3, hwn, hwf, dnu, setFrom, cellsOf, hgd, hgg, hgc2, hwr, hset, hff, hu, vs_get, vs_len, List.length_map, kn, kl, rUp_ne, go_sem]
  case' true =>
   rw [hff] at two hlt3
   have dvq : decide ((q : Int) < v) = false := decide_eq_false (by have := hvq hff; omega)
   have dv0 : decide ((q : Int) < 0) = false := d1
   rcases hyv with ⟨rfl, rfl⟩ | rfl <;>
   simp (disch := (first | decide | omega)) only [hA, gk, gk0, f0, f1, f2, f3, f4, f5, f6, f7, f8, f9, f10, f11, n7, n00, dto, d3, hwn, hwf, dnu, setFrom, cellsOf, hgd, hgg, hgc2, hwr, hset, hff, hu, hy, dvq, vs_get, vs_len, List.length_map, kn, kl, rUp_ne, go_sem]
  all_goals
   rw [two]
   exact leave_pure (xs := [.v (.bool true), .v (.bool true)]) (.inr rfl) (by simp (disch := (first | decide | omega)) only [resVs, resV, go_sem, hA]) kO (by rw [← two, kB_len]; exact hlt3) rfl ⟨rfl, rfl, rfl⟩
end Go.Proofs.Ytpkemmchpccjdaa
