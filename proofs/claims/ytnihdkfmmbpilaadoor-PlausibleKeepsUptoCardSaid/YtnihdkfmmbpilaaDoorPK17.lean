/- Texts of one proof, laid together: J7, J8, J9, JB, JC, K1, K6. No condition. -/
import Derived.Test.YtnihdkfmmbpilaaDoorPK12
import Derived.Test.YtnihdkfmmbpilaaDoorPK13
import Derived.Test.YtnihdkfmmbpilaaDoorPK2
import Derived.Test.YtnihdkfmmbpilaaDoorPK16
import Derived.Test.YtnihdkfmmbpilaaDoorPK15
namespace Go.Proofs.YtnihdkfmmbpilaaDoor
set_option linter.unusedVariables false
set_option linter.unusedSimpArgs false
attribute [local go_sem ↓] run_skip run_region run_draw run_both run_seq run_block run_exit run_ret run_cond atN_app seqC_normal seqC_exit seqC_ret seqQ_normal seqQ_exit seqQ_ret blkQ_normal blkQ_exit blkQ_ret runOps_nil runOps_cons runD_nil runD_cons grdO_true grdO_false grdD_true grdD_false ifC_true ifC_false opS_val opS_call opS_two opK_app dS_val dS_call dS_two dK_app kUp_same kUp_ne
attribute [local go_sem] rechks_nil rechks_cons rechk gcase_true gcase_false ex_val ex_val0 gd_none gd_some ev_t ev_c evs_nil evs_cons evo_some evo_none hget_at hget_first hsetB_at hsetB_first hsetL_at hsetL_first ofOpt_some aop aload astore aslice aappend aiaddr aiaddrA afaddr alen alenS acopy amm acall alookup amupdate alenM atostr aappz comma keyEq apick binV binVB binVS isSh intOp strOp boolOp shOp eqC eqF and2 cellsOf setFrom fillA fillS rd rdI elems mk bounds AV.cell List.all_cons List.all_nil Bool.and_true Bool.true_and Bool.and_self List.length_cons List.length_nil List.length_append Nat.reduceAdd Nat.reduceSub Nat.reduceMul Nat.zero_add Nat.add_zero List.cons_append List.nil_append List.append_assoc List.append_nil List.getElem?_cons_zero List.getElem?_cons_succ List.getElem?_nil List.set_cons_zero List.set_cons_succ List.drop_zero List.drop_succ_cons List.take_zero List.take_succ_cons List.take_nil List.drop_nil List.map_cons List.map_nil Option.map_some if_true if_false Bool.false_eq_true and_self true_and and_true Nat.reduceLeDiff Nat.reduceLT Nat.le_refl Nat.reduceEqDiff ite_true ite_false beq_self_eq_true beq_true beq_false Bool.not_true Bool.not_false Bool.true_beq Bool.false_beq map_vs vs_len vs_get vs_take vs_drop vs_snoc1 vs_snoc2 vs_snoc3 vs_snoc5 vs_set1 vs_set2 vs_rep wrap_id le_T lt_T le_F lt_F leI_T ltI_T leI_F ltI_F geI gtI get_T decide_true decide_false room List.getElem?_map List.length_map List.length_take Int.toNat_natCast Nat.min_def Nat.min_self nth_kOf put_kOf put_kNo kOv_cons kOv_nil KHas KArgs List.getElem_cons_zero List.getElem_cons_succ
def a_unord : AFunc := ⟨2,47,[],(.seq (.region [⟨some 2,.box (.t 0),none⟩]) (.seq (.region [⟨some 9,.load (some 1) (.t 2),none⟩,⟨some 10,.call (.c (.fn 40 [])) [(.t 9)],none⟩,⟨some 8,.mv (.t 10),none⟩,⟨some 11,.extract 0 (.t 8),none⟩,⟨some 12,.extract 1 (.t 8),none⟩,⟨some 4,.alloc [(.v .zsl)],none⟩,⟨none,.store 1 (.t 4) (.t 11),none⟩,⟨some 5,.mv (.t 12),none⟩]) (.seq (.region [⟨some 13,.faddr 0 (.t 4),none⟩,⟨some 14,.load none (.t 13),none⟩,⟨some 15,.len (.t 14),none⟩,⟨some 16,.mv (.c (.v (.int .i64 0))),none⟩]) (.block 0 (.loop (.seq (.region [⟨some 17,.bin .lss (.t 16) (.t 15),none⟩]) (.seq (.cond (.t 17) .skip (.exit 0)) (.seq (.block 1 (.seq (.region [⟨some 18,.mv (.t 16),none⟩,⟨some 6,.mv (.t 18),none⟩]) (.seq (.region [⟨some 19,.mv (.t 6),none⟩,⟨some 20,.mv (.c (.v (.int .i64 0))),none⟩]) (.block 2 (.loop (.seq (.region [⟨some 21,.bin .lss (.t 20) (.t 19),none⟩]) (.seq (.cond (.t 21) .skip (.exit 2)) (.seq (.block 3 (.seq (.region [⟨some 22,.mv (.t 20),none⟩,⟨some 7,.mv (.t 22),none⟩]) (.seq (.region [⟨some 23,.faddr 0 (.t 4),none⟩,⟨some 24,.load none (.t 23),none⟩,⟨some 25,.mv (.t 6),none⟩,⟨some 26,.iaddr 2 (.t 24) (.t 25),none⟩,⟨some 27,.load (some 2) (.t 26),none⟩,⟨some 28,.mv (.t 7),none⟩,⟨some 29,.call (.c (.fn 109 [])) [(.t 27),(.t 28)],none⟩,⟨some 30,.not (.t 29),none⟩,⟨some 31,.mv (.t 30),none⟩,⟨some 32,.faddr 0 (.t 4),some (31,true)⟩,⟨some 33,.load none (.t 32),some (31,true)⟩,⟨some 34,.mv (.t 7),some (31,true)⟩,⟨some 35,.iaddr 2 (.t 33) (.t 34),some (31,true)⟩,⟨some 36,.load (some 2) (.t 35),some (31,true)⟩,⟨some 37,.mv (.t 6),some (31,true)⟩,⟨some 38,.call (.c (.fn 109 [])) [(.t 36),(.t 37)],some (31,true)⟩,⟨some 39,.not (.t 38),some (31,true)⟩,⟨some 40,.pick (.t 31) (.t 39) (.c (.v (.bool false))),none⟩]) (.cond (.t 40) (.region [⟨some 41,.mv (.t 1),none⟩,⟨some 42,.mv (.t 7),none⟩,⟨some 43,.mv (.t 6),none⟩,⟨some 44,.call (.t 41) [(.t 42),(.t 43)],none⟩]) .skip)))) (.region [⟨some 45,.bin .add (.t 20) (.c (.v (.int .i64 1))),none⟩,⟨some 20,.mv (.t 45),none⟩]))))))))) (.region [⟨some 46,.bin .add (.t 16) (.c (.v (.int .i64 1))),none⟩,⟨some 16,.mv (.t 46),none⟩])))))))))⟩
theorem a_unord_ok : cFunc Tryd.prog 66 = some a_unord := by kernel_rfl
def r_unord0 : List (Nat × Nat) := [(6, 7), (16, 46)]
def r_unord1 : List (Nat × Nat) := [(7, 7), (20, 45)]

def KRoundC {ι : Type} (N : Nat) (g : Nat → AV) (ov : ι → List (Nat × AV)) (Bs L : ι → List Row) (Cd : ι → Prop) (μ : ι → Nat) (i : ι) : List AV → List Row → List Row → Prop :=
 fun e b l => ∃ i', Cd i' ∧ μ i' < μ i ∧ Weak e b l (kOf N (kOv (ov i') g)) (Bs i') (L i')
theorem loop_keptC {P : Program} {c : ACode} {Q : AExit → List AV → List Row → List Row → Prop} {N : Nat} {f : Nat → AV} {b l : List Row} {ι : Type} (p : List (Nat × Nat)) (ov : ι → List (Nat × AV)) (k : Nat) (Bs L : ι → List Row) (Cd : ι → Prop) (μ : ι → Nat) (i0 : ι) (h0 : Cd i0)
  (hlt : KLt (b.length + k) f) (hov : KHas f (ov i0)) (hb : Bs i0 = b) (hw : ∀ e, Weak e b l e b (L i0))
  (step : ∀ g, KLt (b.length + k) g → kAny p g = g → (∀ n, kIn p n = false → g n = f n) → ∀ i, Cd i → run (ACalls P) Weak c (kOf N (kOv (ov i) g)) (Bs i) (L i) (seqQ (KRoundC N g ov Bs L Cd μ i) Q)) : run (ACalls P) Weak (.loop c) (kOf N f) b l Q :=
 loop_rule (fun i => kOf N (kOv (ov i) (kAny p f))) Bs L Cd μ i0 h0 (by rw [hb]; exact (Weak.named p _ hov).trans (hw _))
  (step (kAny p f) hlt.any kAny_idem (fun _ h => kAny_out h))
def uR {σ : Type} (stp : σ → Nat → Nat → σ) (un : Nat → Nat → Bool) (s : σ) (i : Nat) : Nat → σ
 | 0 => s
 | j + 1 => if un j i = true then stp (uR stp un s i j) j i else uR stp un s i j
def uO {σ : Type} (stp : σ → Nat → Nat → σ) (un : Nat → Nat → Bool) (s0 : σ) : Nat → σ
 | 0 => s0
 | i + 1 => uR stp un (uO stp un s0 i) i i
noncomputable def unB (t : Tr) (j i : Nat) : Bool := !decide (j ∈ relT t i) && !decide (i ∈ relT t j)
set_option maxRecDepth 20000 in
set_option maxHeartbeats 4000000 in
theorem unord_spec (t : Tr) (hv : Vok t) (hval : validL t = true) (hS : Small t) (hN : Nm t) (hC : (ids t).length ≤ 512) {σ : Type} (Ls : σ → List Row) (m : Nat) (b : List Row) (hlen : ∀ s, (Ls s).length = m) (hLR : ∀ s, RowsLt (b.length + m) (b ++ Ls s))
  (stp : σ → Nat → Nat → σ) (s0 : σ) (kf : Nat) (caps : List AV)
  (hf : ∀ s j i l2, j < i → i < (ids t).length → unB t j i = true → ACalls Tryd.prog kf (.v (.int .i64 (j : Nat)) :: .v (.int .i64 (i : Nat)) :: caps) (b ++ Ls s) l2 (fun r b' l' => r = .tup [] ∧ b' = b ++ Ls (stp s j i) ∧ l' = l2)) :
  ACalls Tryd.prog 66 [.agg [.v (eT t)], .fn kf caps] b (Ls s0) (fun r b' l' => r = .tup [] ∧ b' = b ∧ l' = Ls (uO stp (unB t) s0 (ids t).length)) := by
 refine calls_kept a_unord_ok rfl (by decide) ?_
 intro B g hB hR hE hA
 simp only [KArgs] at hA
 obtain ⟨Bx, hBx⟩ : ∃ Bx : σ → List Row, Bx = fun s => b ++ Ls s := ⟨_, rfl⟩
 have hBl : B.length = b.length + m := by rw [hB, List.length_append, hlen]
 have hBxl : ∀ s, (Bx s).length = B.length := fun s => by rw [hBx, hBl]; simp only; rw [List.length_append, hlen]
 have hB0 : Bx s0 = B := by rw [hBx, hB]
 have hBR : ∀ s, RowsLt (Bx s).length (Bx s) := fun s => by rw [hBxl, hBl, hBx]; exact hLR s
 have G0 : ∀ s l, hget (Bx s) l B.length = l[0]? := fun s l => by rw [← hBxl s]; exact hget_first
 have G1 : ∀ s l i, hget (Bx s) l (B.length + i) = l[i]? := fun s l i => by rw [← hBxl s]; exact hget_at
 have hfx : ∀ s j i l2, j < i → i < (ids t).length → unB t j i = true → ACalls Tryd.prog kf (.v (.int .i64 (j : Nat)) :: .v (.int .i64 (i : Nat)) :: caps) (Bx s) l2 (fun r b' l' => r = .tup [] ∧ b' = Bx (stp s j i) ∧ l' = l2) := fun s j i l2 h1 h2 h3 => by rw [hBx]; exact hf s j i l2 h1 h2 h3
 have hord := fun b l => OrderC_run t hv hval hS hN hC b l
 change ∀ b l, ACalls _ _ _ _ _ (fun r b' l' => r = AV.tup [.agg [.v (eRel (ids t).length (relT t))], .v (.int .i64 0)] ∧ b' = b ∧ l' = l) at hord
 have hhas := fun i j (hi : i < (ids t).length) (hj : j < (ids t).length) b l => bHas_spec (ids t).length (relT t i) hC (fun k hk => rel_lt i k hk) j hj b l
 have hgi : ∀ i, i < (ids t).length → (fl (ids t).length fun i => setV (ids t).length (relT t i))[i]? = some [.int .i64 (ids t).length, .isl 1 (wL (ids t).length (relT t i))] := fun i hi => fl_get hi
 simp only [eRel] at hord
 simp (disch := (first | decide | omega)) only [a_unord, hA, go_sem]
 refine ACalls.nxt (hord _ _) ?_
 simp (disch := (first | decide | omega)) only [hA, fl_len, go_sem]
 refine loop_keptC (ι := Nat) r_unord0 (fun i => [(16, .v (.int .i64 i))]) 2 (fun i => Bx (uO stp (unB t) s0 i)) (fun i => [.live 0 1 [[.v (eT t)]], .live 0 1 [[.v (.isl 2 (fl (ids t).length fun i => setV (ids t).length (relT t i)))]]])
  (fun i => i ≤ (ids t).length) (fun i => (ids t).length - i) 0 (Nat.zero_le _) (by (repeat (first | exact hE.mono oM | refine KLt.up ?_ kL))) (by ((try simp (disch := decide) only [hA, go_sem]) <;> exact kH)) hB0 (fun e => Weak.refl _ _ _) ?_
 intro g1 hE1 hEE1 hg1 i hi
 by_cases hil : i < (ids t).length
 ·obtain ⟨si, hsi⟩ : ∃ s, uO stp (unB t) s0 i = s := ⟨_, rfl⟩
  simp only [hsi]
  simp (disch := (first | decide | omega)) only [hA, hg1, go_sem]
  refine loop_keptC (ι := Nat) r_unord1 (fun j => [(20, .v (.int .i64 j))]) 2 (fun j => Bx (uR stp (unB t) si i j)) (fun j => [.live 0 1 [[.v (eT t)]], .live 0 1 [[.v (.isl 2 (fl (ids t).length fun i => setV (ids t).length (relT t i)))]]])
   (fun j => j ≤ i) (fun j => i - j) 0 (Nat.zero_le _) (by rw [hBxl]; (repeat (first | exact hE1.mono oM | refine KLt.up ?_ kL))) (by ((try simp (disch := decide) only [hA, hg1, go_sem]) <;> exact kH)) rfl (fun e => Weak.refl _ _ _) ?_
  intro g2 hE2 hEE2 hg2 j hj
  rw [hBxl] at hE2
  obtain ⟨sj, hsj⟩ : ∃ s, uR stp (unB t) si i j = s := ⟨_, rfl⟩
  simp only [hsj]
  by_cases hjl : j < i
  ·have hjn : j < (ids t).length := by omega
   have gi := hgi i hil
   have gj := hgi j hjn
   have h1 := hhas i j hil hjn
   have h2 := hhas j i hjn hil
   have close : ∀ (s' : σ) (l2 : Nat → AV), uR stp (unB t) si i (j + 1) = s' → True := fun _ _ _ => trivial
   simp (disch := (first | decide | omega)) only [hA, hg1, hg2, G0, G1, gi, gj, hBxl, fl_len, go_sem]
   refine ACalls.nxt (h1 _ _) ?_
   cases c1 : decide (j ∈ relT t i) with
   | true =>
     have hun : unB t j i = false := by unfold unB; rw [c1]; rfl
     have hnx : uR stp (unB t) si i (j + 1) = sj := by rw [uR, hun, if_neg (by decide)]; exact hsj
     simp (disch := (first | decide | omega)) only [hA, hg1, hg2, go_sem]
     refine ⟨j + 1, hjl, by simp only; omega, ?_⟩
     simp only [hnx]
     exact Weak.kround (junk := []) (p := r_unord1) (k := 2) (by ((repeat refine (kAny_up rfl).trans ?_); exact hEE2)) (by ((try simp (disch := decide) only [hA, go_sem]) <;> exact kH)) (List.append_nil _).symm (by rw [hBxl]; exact hE2) (by simp) kV (hBR _) kL
   | false =>
     simp (disch := (first | decide | omega)) only [hA, hg1, hg2, G0, G1, gi, gj, hBxl, fl_len, go_sem]
     refine ACalls.nxt (h2 _ _) ?_
     cases c2 : decide (i ∈ relT t j) with
     | true =>
       have hun : unB t j i = false := by unfold unB; rw [c1, c2]; rfl
       have hnx : uR stp (unB t) si i (j + 1) = sj := by rw [uR, hun, if_neg (by decide)]; exact hsj
       simp (disch := (first | decide | omega)) only [hA, hg1, hg2, go_sem]
       refine ⟨j + 1, hjl, by simp only; omega, ?_⟩
       simp only [hnx]
       exact Weak.kround (junk := []) (p := r_unord1) (k := 2) (by ((repeat refine (kAny_up rfl).trans ?_); exact hEE2)) (by ((try simp (disch := decide) only [hA, go_sem]) <;> exact kH)) (List.append_nil _).symm (by rw [hBxl]; exact hE2) (by simp) kV (hBR _) kL
     | false =>
       have hun : unB t j i = true := by unfold unB; rw [c1, c2]; rfl
       have hnx : uR stp (unB t) si i (j + 1) = stp sj j i := by rw [uR, hun, if_pos rfl, hsj]
       have hcl := fun l2 => hfx sj j i l2 hjl hil hun
       simp (disch := (first | decide | omega)) only [hA, hg1, hg2, go_sem]
       refine ACalls.nxt (hcl _) ?_
       simp (disch := (first | decide | omega)) only [hA, hg1, hg2, go_sem]
       refine ⟨j + 1, hjl, by simp only; omega, ?_⟩
       simp only [hnx]
       exact Weak.kround (junk := []) (p := r_unord1) (k := 2) (by ((repeat refine (kAny_up rfl).trans ?_); exact hEE2)) (by ((try simp (disch := decide) only [hA, go_sem]) <;> exact kH)) (List.append_nil _).symm (by rw [hBxl]; exact hE2) (by simp) kV (hBR _) kL
  ·obtain rfl : j = i := by omega
   have hnx : uO stp (unB t) s0 (j + 1) = sj := by rw [uO, hsi]; exact hsj
   simp (disch := (first | decide | omega)) only [hA, hg1, hg2, go_sem]
   refine ⟨j + 1, hil, by simp only; omega, ?_⟩
   simp only [hnx]
   exact Weak.kround (junk := []) (p := r_unord0) (k := 2) (by ((repeat refine (kAny_up rfl).trans ?_); refine (kAny_sub hg2 (kIn_sub rfl)).trans ?_; (repeat refine (kAny_up rfl).trans ?_); exact hEE1)) (by ((try simp (disch := decide) only [hA, hg1, go_sem]) <;> exact kH)) (List.append_nil _).symm (by rw [hBxl]; exact hE1) (by simp) kV (hBR _) kL
 ·obtain rfl : i = (ids t).length := by omega
  simp (disch := (first | decide | omega)) only [hA, hg1, go_sem]
  exact leave_pure (xs := []) (.inl rfl) (by simp only [resVs]) (by simp only [one]; exact .tup _ (by simp)) (hBR _) (by rw [hBx]) ⟨rfl, rfl, rfl⟩
def a_ppairs1 : AFunc := ⟨3,7,[],(.region [⟨some 5,.load none (.t 2),none⟩,⟨some 6,.bin .add (.t 5) (.c (.v (.int .i64 1))),none⟩,⟨none,.store 1 (.t 2) (.t 6),none⟩])⟩
theorem a_ppairs1_ok : cFunc Tryd.prog 69 = some a_ppairs1 := by kernel_rfl
def a_ppairs : AFunc := ⟨1,22,[.tmp 2,.cell 3 none,.tmp 4],(.seq (.region [⟨some 1,.box (.t 0),none⟩,⟨some 2,.mv (.c (.v (.int .i64 0))),none⟩,⟨some 3,.alloc [(.v (.int .i64 0))],none⟩,⟨some 4,.mv (.c (.v (.int .i64 0))),none⟩]) (.seq (.seq (.region [⟨some 6,.load (some 1) (.t 1),none⟩,⟨some 7,.call (.c (.fn 68 [])) [(.t 6)],none⟩,⟨some 8,.not (.t 7),none⟩]) (.cond (.t 8) (.seq (.region [⟨some 2,.mv (.c (.v (.int .i64 0))),none⟩,⟨none,.store 1 (.t 3) (.c (.v (.int .i64 0))),none⟩,⟨some 4,.mv (.c (.v (.int .i64 1))),none⟩]) .ret) .skip)) (.seq (.region [⟨some 9,.load (some 1) (.t 1),none⟩,⟨some 10,.mkfn 69 [(.t 3)],none⟩,⟨some 11,.call (.c (.fn 66 [])) [(.t 9),(.t 10)],none⟩]) (.seq (.region [⟨some 12,.load (some 1) (.t 1),none⟩,⟨some 13,.call (.c (.fn 70 [])) [(.t 12)],none⟩,⟨some 5,.mv (.t 13),none⟩]) (.seq (.draw [⟨0,⟨some 14,.mv (.t 5),none⟩,[]⟩,⟨1,⟨some 15,.mv (.t 5),none⟩,[]⟩,⟨2,⟨some 16,.bin .sub (.t 15) (.c (.v (.int .i64 1))),none⟩,[]⟩,⟨3,⟨some 17,.bin .mul (.t 14) (.t 16),none⟩,[]⟩,⟨4,⟨some 18,.bin .quo (.t 17) (.c (.v (.int .i64 2))),none⟩,[]⟩,⟨5,⟨some 19,.load none (.t 3),none⟩,[]⟩,⟨6,⟨some 20,.bin .sub (.t 18) (.t 19),none⟩,[]⟩,⟨7,⟨some 21,.load none (.t 3),none⟩,[]⟩,⟨8,⟨some 2,.mv (.t 20),none⟩,[]⟩,⟨9,⟨none,.store 1 (.t 3) (.t 21),none⟩,[]⟩,⟨10,⟨some 4,.mv (.c (.v (.int .i64 0))),none⟩,[]⟩]) .ret)))))⟩
theorem a_ppairs_ok : cFunc Tryd.prog 24 = some a_ppairs := by kernel_rfl

theorem rowsLt_app {m : Nat} {a b : List Row} (ha : RowsLt m a) (hb : RowsLt m b) : RowsLt m (a ++ b) := by
 intro id ver sz els hi
 by_cases hl : id < a.length
 ·rw [List.getElem?_append_left hl] at hi; exact ha id ver sz els hi
 ·rw [List.getElem?_append_right oM] at hi; exact hb _ ver sz els hi
def prR (t : Tr) (n : Int) : List Row := [.live 0 1 [[.v (eT t)]], .live 0 1 [[.v (.int .i64 n)]]]
def wS (n : Int) : Int := IntKind.i64.wrap (n + 1)
theorem ppairs1_spec (t : Tr) (n : Int) (j i : AV) (b l : List Row) :
  ACalls Tryd.prog 69 [j, i, .ptr (b.length + 1) 0 0 0] (b ++ prR t n) l (fun r b' l' => r = .tup [] ∧ b' = b ++ prR t (wS n) ∧ l' = l) := by
 refine calls_kept a_ppairs1_ok rfl (by decide) ?_
 intro B g hB hR hE hA
 simp only [KArgs] at hA
 have hlen : b.length + (prR t n).length = (b ++ prR t (wS n)).length := by rw [List.length_append]; rfl
 have e1 : b.length + 1 < B.length := by rw [hB, List.length_append, List.length_append]; simp only [prR, List.length_cons, List.length_nil]; omega
 have gB : B[b.length + 1]? = some (.live 0 1 [[.v (.int .i64 n)]]) := by rw [hB, List.append_assoc, List.getElem?_append_right oM, Nat.add_sub_cancel_left]; rfl
 have g1 := hget_low gB
 have sB1 : ∀ r, hsetB B (b.length + 1) r = B.set (b.length + 1) r := fun r => by unfold hsetB; rw [if_pos e1]
 have sL1 : ∀ r l', hsetL B l' (b.length + 1) r = l' := fun r l' => by unfold hsetL; rw [if_pos e1]
 have hset : B.set (b.length + 1) (.live 0 1 [[.v (.int .i64 (IntKind.i64.wrap (n + 1)))]]) = b ++ prR t (wS n) ++ l := by
  rw [hB, List.append_assoc, List.set_append_right _ _ oM, Nat.add_sub_cancel_left, List.append_assoc]; rfl
 obtain ⟨NB, hNB⟩ : ∃ NB, NB = B.set (b.length + 1) (.live 0 1 [[.v (.int .i64 (IntKind.i64.wrap (n + 1)))]]) := ⟨_, rfl⟩
 have hNR : RowsLt NB.length NB := by
  rw [hNB, List.length_set]
  exact hR.setR (fun id ver sz els h row hr c hc => by
   cases id with
   | zero => simp at h; obtain ⟨_, _, rfl⟩ := h; simp at hr; subst hr; simp at hc; subst hc; exact .v _
   | succ k => simp at h)
 simp (disch := (first | decide | omega)) only [a_ppairs1, hA, g1, sB1, sL1, List.set_cons_zero, go_sem]
 rw [← hNB, hlen]
 exact leave_pure (xs := []) (.inl rfl) (by simp only [resVs]) (by simp only [one]; exact .tup _ (by simp)) hNR (by rw [hNB, hset]) ⟨rfl, rfl, rfl⟩
theorem prR_lt {t : Tr} {n : Int} {B : List Row} (h : RowsLt B.length B) : RowsLt (B.length + 2) (B ++ prR t n) := by
 refine rowsLt_app (h.mono oM) ?_
 unfold prR
 rw [RowsLt_live, RowsLt_live]
 refine ⟨fun row hr c hc => ?_, fun row hr c hc => ?_, RowsLt_nil⟩ <;> (simp at hr; subst hr; simp at hc; subst hc; exact .v _)
noncomputable def nCo (t : Tr) : Int := uO (fun s _ _ => wS s) (unB t) 0 (ids t).length
noncomputable def pPr (t : Tr) : AV := if validL t = true then .tup [.v (.int .i64 (IntKind.i64.wrap (IntKind.i64.wrap (Int.tdiv (IntKind.i64.wrap (countR t * IntKind.i64.wrap (countR t - 1))) 2) - nCo t))), .v (.int .i64 (nCo t)), .v (.int .i64 0)] else .tup [.v (.int .i64 0), .v (.int .i64 0), .v (.int .i64 1)]
set_option maxRecDepth 20000 in
set_option maxHeartbeats 4000000 in
theorem ppairs_spec (t : Tr) (hS : Small t) (hN : Nm t) (hC : validL t = true → (ids t).length ≤ 512) (b l : List Row) :
  ACalls Tryd.prog 24 [.agg [.v (eT t)]] b l (fun r b' l' => r = pPr t ∧ b' = b ∧ l' = l) := by
 refine calls_kept a_ppairs_ok rfl (by decide) ?_
 intro B g hB hR hE hA
 simp only [KArgs] at hA
 have hva := fun b l => valid_spec t hS hN b l
 simp (disch := (first | decide | omega)) only [a_ppairs, hA, go_sem]
 refine ACalls.nxt (hva _ _) ?_
 unfold pPr
 cases hval : validL t with
 | false =>
   simp (disch := (first | decide | omega)) only [hA, go_sem]
   exact leave_pure (xs := [.v (.int .i64 0), .v (.int .i64 0), .v (.int .i64 1)]) (.inr rfl) (by simp (disch := (first | decide | omega)) only [resVs, resV, go_sem, hA]) kO hR hB ⟨rfl, rfl, rfl⟩
 | true =>
   have hC2 := hC hval
   have h20 : ((2 : Int) = 0) = False := by simp
   have hco := fun b l => count_spec t hS hN b l oM
   have hu : ∀ z, nCo t = z → ACalls Tryd.prog 66 [.agg [.v (eT t)], .fn 69 [.ptr (B.length + 1) 0 0 0]] B [.live 0 1 [[.v (eT t)]], .live 0 1 [[.v (.int .i64 0)]]] (fun r b' l' => r = .tup [] ∧ b' = B ∧ l' = [.live 0 1 [[.v (eT t)]], .live 0 1 [[.v (.int .i64 z)]]]) := fun z hz => by
    have h := unord_spec t (vok hval) hval hS hN hC2 (prR t) 2 B (fun s => rfl) (fun s => prR_lt hR) (fun s _ _ => wS s) 0 69 [.ptr (B.length + 1) 0 0 0] (fun s j i l2 _ _ _ => ppairs1_spec t s _ _ B l2)
    rw [← hz]; exact h
   obtain ⟨z, hz⟩ : ∃ z, nCo t = z := ⟨_, rfl⟩
   have hu := hu z hz
   rw [hz]
   simp (disch := (first | decide | omega)) only [hA, go_sem]
   refine ACalls.nxt hu ?_
   simp (disch := (first | decide | omega)) only [hA, go_sem]
   refine ACalls.nxt (hco _ _) ?_
   simp (disch := (first | decide | omega)) only [hA, h20, if_false, List.set_cons_succ, List.set_cons_zero, go_sem]
   exact leave_pure (xs := [.v (.int .i64 (IntKind.i64.wrap (IntKind.i64.wrap (Int.tdiv (IntKind.i64.wrap (countR t * IntKind.i64.wrap (countR t - 1))) 2) - z))), .v (.int .i64 z), .v (.int .i64 0)]) (.inr rfl) (by simp (disch := (first | decide | omega)) only [resVs, resV, go_sem, hA]) kO hR hB ⟨rfl, rfl, rfl⟩
def a_perr1 : AFunc := ⟨4,20,[],(.seq (.draw [⟨0,⟨some 6,.load none (.t 2),none⟩,[]⟩,⟨1,⟨some 7,.mv (.t 0),none⟩,[]⟩,⟨2,⟨some 8,.iaddr 3 (.t 6) (.t 7),none⟩,[]⟩,⟨3,⟨some 9,.faddr 2 (.t 8),none⟩,[]⟩,⟨4,⟨some 10,.load none (.t 9),none⟩,[]⟩,⟨5,⟨some 11,.load none (.t 2),none⟩,[]⟩,⟨6,⟨some 12,.mv (.t 1),none⟩,[]⟩,⟨7,⟨some 13,.iaddr 3 (.t 11) (.t 12),none⟩,[]⟩,⟨8,⟨some 14,.faddr 2 (.t 13),none⟩,[]⟩,⟨9,⟨some 15,.load none (.t 14),none⟩,[]⟩,⟨10,⟨some 16,.call (.c (.fn 43 [])) [(.t 10),(.t 15)],none⟩,[]⟩,⟨11,⟨some 17,.bin .neq (.t 16) (.c (.v (.int .i64 2))),none⟩,[]⟩]) (.cond (.t 17) (.region [⟨some 18,.load none (.t 3),none⟩,⟨some 19,.bin .add (.t 18) (.c (.v (.int .i64 1))),none⟩,⟨none,.store 1 (.t 3) (.t 19),none⟩]) .skip))⟩
theorem a_perr1_ok : cFunc Tryd.prog 67 = some a_perr1 := by kernel_rfl
def a_perr : AFunc := ⟨2,23,[.tmp 4,.tmp 5],(.seq (.region [⟨some 2,.box (.t 0),none⟩,⟨some 4,.mv (.c (.v (.int .i64 0))),none⟩,⟨some 5,.mv (.c (.v (.int .i64 0))),none⟩]) (.seq (.seq (.region [⟨some 9,.load (some 1) (.t 2),none⟩,⟨some 10,.mv (.t 1),none⟩,⟨some 11,.call (.c (.fn 37 [])) [(.t 9),(.t 10)],none⟩,⟨some 6,.mv (.t 11),none⟩]) (.seq (.region [⟨some 12,.mv (.t 6),none⟩,⟨some 13,.bin .neq (.t 12) (.c (.v (.int .i64 0))),none⟩]) (.cond (.t 13) (.seq (.region [⟨some 14,.mv (.t 6),none⟩,⟨some 4,.mv (.c (.v (.int .i64 0))),none⟩,⟨some 5,.mv (.t 14),none⟩]) .ret) .skip))) (.seq (.region [⟨some 15,.load (some 1) (.t 2),none⟩,⟨some 16,.mv (.t 1),none⟩,⟨some 17,.call (.c (.fn 65 [])) [(.t 15),(.t 16)],none⟩,⟨some 18,.call (.c (.fn 41 [])) [(.t 17)],none⟩,⟨some 7,.alloc [(.v .zsl)],none⟩,⟨none,.store 1 (.t 7) (.t 18),none⟩]) (.seq (.region [⟨some 8,.alloc [(.v (.int .i64 0))],none⟩,⟨none,.store 1 (.t 8) (.c (.v (.int .i64 0))),none⟩]) (.seq (.region [⟨some 19,.load (some 1) (.t 2),none⟩,⟨some 20,.mkfn 67 [(.t 7),(.t 8)],none⟩,⟨some 21,.call (.c (.fn 66 [])) [(.t 19),(.t 20)],none⟩]) (.seq (.region [⟨some 22,.load none (.t 8),none⟩,⟨some 4,.mv (.t 22),none⟩,⟨some 5,.mv (.c (.v (.int .i64 0))),none⟩]) .ret))))))⟩
theorem a_perr_ok : cFunc Tryd.prog 23 = some a_perr := by kernel_rfl

noncomputable def idN (t : Tr) (i : Nat) : Nat × Nat := (ids t).getD i (0, 0)
noncomputable def eFL (t : Tr) (k : Nat) : List (List IV) := (ids t).map (eFe t k)
theorem eFL_get {t : Tr} {k i : Nat} (hi : i < (ids t).length) : (eFL t k)[i]? = some (eFe t k (idN t i)) := by
 unfold eFL idN
 rw [List.getElem?_map, List.getElem?_eq_getElem hi, List.getD_eq_getElem?_getD, List.getElem?_eq_getElem hi]; rfl
noncomputable def erR (t : Tr) (k : Nat) (n : Int) : List Row := [.live 0 1 [[.v (eT t)]], .live 0 1 [[.v (.isl 3 (eFL t k))]], .live 0 1 [[.v (.int .i64 n)]]]
noncomputable def cmN (t : Tr) (k j i : Nat) : Int := cmpV (fcs t k (idN t j)) (fcs t k (idN t i))
noncomputable def erS (t : Tr) (k : Nat) (n : Int) (j i : Nat) : Int := if cmN t k j i = 2 then n else wS n
theorem erR_lt {t : Tr} {k : Nat} {n : Int} {B : List Row} (h : RowsLt B.length B) : RowsLt (B.length + 3) (B ++ erR t k n) := by
 refine rowsLt_app (h.mono oM) ?_
 unfold erR
 rw [RowsLt_live, RowsLt_live, RowsLt_live]
 refine ⟨fun row hr c hc => ?_, fun row hr c hc => ?_, fun row hr c hc => ?_, RowsLt_nil⟩ <;> (simp at hr; subst hr; simp at hc; subst hc; exact .v _)
set_option maxRecDepth 20000 in
set_option maxHeartbeats 4000000 in
theorem perr1_spec (t : Tr) (k : Nat) (hk : k ≤ 8) (n : Int) (j i : Nat) (hj : j < (ids t).length) (hi : i < (ids t).length) (b l : List Row) :
  ACalls Tryd.prog 67 [.v (.int .i64 j), .v (.int .i64 i), .ptr (b.length + 1) 0 0 0, .ptr (b.length + 2) 0 0 0] (b ++ erR t k n) l (fun r b' l' => r = .tup [] ∧ b' = b ++ erR t k (erS t k n j i) ∧ l' = l) := by
 refine calls_kept a_perr1_ok rfl (by decide) ?_
 intro B g hB hR hE hA
 simp only [KArgs] at hA
 have hlen : b.length + (erR t k n).length = (b ++ erR t k (erS t k n j i)).length := by rw [List.length_append]; rfl
 have e2 : b.length + 2 < B.length := by rw [hB, List.length_append, List.length_append]; simp only [erR, List.length_cons, List.length_nil]; omega
 have gB1 : B[b.length + 1]? = some (.live 0 1 [[.v (.isl 3 (eFL t k))]]) := by rw [hB, List.append_assoc, List.getElem?_append_right oM, Nat.add_sub_cancel_left]; rfl
 have gB2 : B[b.length + 2]? = some (.live 0 1 [[.v (.int .i64 n)]]) := by rw [hB, List.append_assoc, List.getElem?_append_right oM, Nat.add_sub_cancel_left]; rfl
 have g1 := hget_low gB1
 have g2 := hget_low gB2
 have sB1 : ∀ r, hsetB B (b.length + 2) r = B.set (b.length + 2) r := fun r => by unfold hsetB; rw [if_pos e2]
 have sL1 : ∀ r l', hsetL B l' (b.length + 2) r = l' := fun r l' => by unfold hsetL; rw [if_pos e2]
 have hset : B.set (b.length + 2) (.live 0 1 [[.v (.int .i64 (IntKind.i64.wrap (n + 1)))]]) = b ++ erR t k (wS n) ++ l := by
  rw [hB, List.append_assoc, List.set_append_right _ _ oM, Nat.add_sub_cancel_left, List.append_assoc]; rfl
 have gj := eFL_get (k := k) hj
 have gi := eFL_get (k := k) hi
 unfold eFe at gj gi
 have hLl : (eFL t k).length = (ids t).length := by unfold eFL; rw [List.length_map]
 have hc := fun b l => pcompare_spec (fcs t k (idN t j)) (fcs t k (idN t i)) (by rw [fcs_len]; omega) (by rw [fcs_len, fcs_len]) b l
 obtain ⟨z, hz⟩ : ∃ z, cmpV (fcs t k (idN t j)) (fcs t k (idN t i)) = z := ⟨_, rfl⟩
 simp only [hz] at hc
 simp (disch := (first | decide | omega)) only [a_perr1, hA, g1, g2, gi, gj, hLl, go_sem]
 refine ACalls.nxt (hc _ _) ?_
 by_cases h2 : z = 2
 ·have hb : (z != 2) = false := by simpa using h2
  have he : erS t k n j i = n := by unfold erS cmN; rw [hz, if_pos h2]
  simp (disch := (first | decide | omega)) only [hA, hb, go_sem]
  rw [hlen]
  exact leave_pure (xs := []) (.inl rfl) (by simp only [resVs]) (by simp only [one]; exact .tup _ (by simp)) hR (by rw [hB, he]) ⟨rfl, rfl, rfl⟩
 ·have hb : (z != 2) = true := by rw [bne_iff_ne]; exact h2
  have he : erS t k n j i = wS n := by unfold erS cmN; rw [hz, if_neg h2]
  obtain ⟨NB, hNB⟩ : ∃ NB, NB = B.set (b.length + 2) (.live 0 1 [[.v (.int .i64 (IntKind.i64.wrap (n + 1)))]]) := ⟨_, rfl⟩
  have hNR : RowsLt NB.length NB := by
   rw [hNB, List.length_set]
   exact hR.setR (fun id ver sz els h row hr c hc => by
    cases id with
    | zero => simp at h; obtain ⟨_, _, rfl⟩ := h; simp at hr; subst hr; simp at hc; subst hc; exact .v _
    | succ k => simp at h)
  simp (disch := (first | decide | omega)) only [hA, hb, g1, g2, sB1, sL1, List.set_cons_zero, go_sem]
  rw [← hNB, hlen]
  exact leave_pure (xs := []) (.inl rfl) (by simp only [resVs]) (by simp only [one]; exact .tup _ (by simp)) hNR (by rw [hNB, hset, he]) ⟨rfl, rfl, rfl⟩
noncomputable def nEr (t : Tr) (k : Nat) : Int := uO (erS t k) (unB t) 0 (ids t).length
open Classical in
noncomputable def pErR (t : Tr) (k : Int) : AV := if givE t k = 0 then .tup [.v (.int .i64 (nEr t k.toNat)), .v (.int .i64 0)] else .tup [.v (.int .i64 0), .v (.int .i64 (givE t k))]
set_option maxRecDepth 20000 in
set_option maxHeartbeats 4000000 in
theorem pErrors_spec (t : Tr) (hS : Small t) (hN : Nm t) (hC : validL t = true → (ids t).length ≤ 512) (k : Int) (b l : List Row) :
  ACalls Tryd.prog 23 [.agg [.v (eT t)], .v (.int .i64 k)] b l (fun r b' l' => r = pErR t k ∧ b' = b ∧ l' = l) := by
 refine calls_kept a_perr_ok rfl (by decide) ?_
 intro B g hB hR hE hA
 simp only [KArgs] at hA
 simp (disch := (first | decide | omega)) only [a_perr, hA, go_sem]
 refine ACalls.nxt (pgiven_spec t hS hN k _ _) ?_
 unfold pErR
 by_cases h0 : givE t k = 0
 ·obtain ⟨hval, n, rfl, h1, h8⟩ := giv_zero h0
  have hn0 : ((0 : Int) != 0) = false := rfl
  have hC2 := hC hval
  have hf := fun b l => pfolded_spec t (vok hval) hval hS hN oM n h1 h8 b l
  have ha := fun b l => pall_spec t hS oM n b l
  have hu : ∀ z, nEr t n = z → ACalls Tryd.prog 66 [.agg [.v (eT t)], .fn 67 [.ptr (B.length + 1) 0 0 0, .ptr (B.length + 2) 0 0 0]] B [.live 0 1 [[.v (eT t)]], .live 0 1 [[.v (.isl 3 ((ids t).map (eFe t n)))]], .live 0 1 [[.v (.int .i64 0)]]] (fun r b' l' => r = .tup [] ∧ b' = B ∧ l' = [.live 0 1 [[.v (eT t)]], .live 0 1 [[.v (.isl 3 ((ids t).map (eFe t n)))]], .live 0 1 [[.v (.int .i64 z)]]]) := fun z hz => by
   have h := unord_spec t (vok hval) hval hS hN hC2 (erR t n) 3 B (fun s => rfl) (fun s => erR_lt hR) (erS t n) 0 67 [.ptr (B.length + 1) 0 0 0, .ptr (B.length + 2) 0 0 0] (fun s j i l2 hji hi _ => perr1_spec t n h8 s j i oM hi B l2)
   rw [← hz]; exact h
  obtain ⟨z, hz⟩ : ∃ z, nEr t n = z := ⟨_, rfl⟩
  have hu := hu z hz
  rw [h0, if_pos rfl, Int.toNat_natCast, hz]
  simp (disch := (first | decide | omega)) only [hA, hn0, go_sem]
  refine ACalls.nxt (hf _ _) ?_
  simp (disch := (first | decide | omega)) only [hA, go_sem]
  refine ACalls.nxt (ha _ _) ?_
  simp (disch := (first | decide | omega)) only [hA, List.set_cons_succ, List.set_cons_zero, go_sem]
  refine ACalls.nxt hu ?_
  simp (disch := (first | decide | omega)) only [hA, go_sem]
  exact leave_pure (xs := [.v (.int .i64 z), .v (.int .i64 0)]) (.inr rfl) (by simp (disch := (first | decide | omega)) only [resVs, resV, go_sem, hA]) kO hR hB ⟨rfl, rfl, rfl⟩
 ·have hn0 : (givE t k != 0) = true := by rw [bne_iff_ne]; exact h0
  rw [if_neg h0]
  simp (disch := (first | decide | omega)) only [hA, hn0, go_sem]
  exact leave_pure (xs := [.v (.int .i64 0), .v (.int .i64 (givE t k))]) (.inr rfl) (by simp (disch := (first | decide | omega)) only [resVs, resV, go_sem, hA]) kO hR hB ⟨rfl, rfl, rfl⟩
def mxI (x y : Int) : Int := if y > x then y else x
def szW (v w : List Int) : Nat → Int
 | 0 => 0
 | i + 1 => IntKind.i64.wrap (szW v w i + mxI (IntKind.i64.wrap (v.getD i 0 - w.getD i 0)) (IntKind.i64.wrap (w.getD i 0 - v.getD i 0)))
noncomputable def szN (t : Tr) (k j i : Nat) : Int := szW (fcs t k (idN t j)) (fcs t k (idN t i)) k
def wGt (s : Int × Nat × Nat) (n : Int) (j i : Nat) : Prop := n > s.1 ∨ n = s.1 ∧ (j < s.2.1 ∨ j = s.2.1 ∧ i < s.2.2)
instance {s : Int × Nat × Nat} {n : Int} {j i : Nat} : Decidable (wGt s n j i) := by unfold wGt; exact inferInstance
end Go.Proofs.YtnihdkfmmbpilaaDoor
namespace Go.Proofs.YtnihdkfmmbpilaaDoor
set_option linter.unusedVariables false
set_option linter.unusedSimpArgs false
noncomputable def lam (t : Tr) (x : Nat × Nat) : Nat := fc t 1 x 0
def Mle (t : Tr) (M : Nat → Nat → Nat) : Prop := ∀ x ∈ ids t, M x.1 x.2 ≤ lam t x
def mUp (M : Nat → Nat → Nat) (x : Nat × Nat) (v : Nat) : Nat → Nat → Nat := fun p i => if p = x.1 ∧ i = x.2 then v else M p i
theorem mUp_same {M : Nat → Nat → Nat} {x : Nat × Nat} {v : Nat} : mUp M x v x.1 x.2 = v := if_pos ⟨rfl, rfl⟩
theorem mUp_ne {M : Nat → Nat → Nat} {x y : Nat × Nat} {v : Nat} (h : y ≠ x) : mUp M x v y.1 y.2 = M y.1 y.2 := if_neg (fun k => h (Prod.ext k.1 k.2))
theorem Mle.up {t : Tr} {M : Nat → Nat → Nat} (hM : Mle t M) {x : Nat × Nat} {v : Nat} (h : v ≤ lam t x) : Mle t (mUp M x v) := by
 intro y hy
 by_cases he : y = x
 ·subst he; rw [mUp_same]; exact h
 ·rw [mUp_ne he]; exact hM y hy
end Go.Proofs.YtnihdkfmmbpilaaDoor
namespace Go.Proofs.YtnihdkfmmbpilaaDoor
set_option linter.unusedVariables false
set_option linter.unusedSimpArgs false
noncomputable def hpB (t : Tr) (i j : Nat) : Bool := befB t (idN t i) (idN t j)
theorem unB_hpB {t : Tr} {i j : Nat} (hi : i < (ids t).length) (hj : j < (ids t).length) : unB t j i = (!hpB t i j && !hpB t j i) := by
 unfold unB hpB
 congr 2
 ·rw [Bool.eq_iff_iff, decide_eq_true_iff, mem_rel]; exact ⟨fun h => h.2, fun h => ⟨hj, h⟩⟩
 ·rw [Bool.eq_iff_iff, decide_eq_true_iff, mem_rel]; exact ⟨fun h => h.2, fun h => ⟨hi, h⟩⟩
def sumTo (f : Nat → Nat) : Nat → Nat
 | 0 => 0
 | n + 1 => sumTo f n + f n
theorem sumTo_congr {f g : Nat → Nat} : ∀ {n : Nat}, (∀ i, i < n → f i = g i) → sumTo f n = sumTo g n
 | 0, _ => rfl
 | n + 1, h => by unfold sumTo; rw [sumTo_congr (fun i hi => h i oM), h n oM]
theorem sumTo_add {f g : Nat → Nat} : ∀ {n : Nat}, sumTo (fun i => f i + g i) n = sumTo f n + sumTo g n
 | 0 => rfl
 | n + 1 => by unfold sumTo; rw [sumTo_add]; omega
theorem sumTo_le {f : Nat → Nat} {m : Nat} : ∀ {n : Nat}, (∀ i, i < n → f i ≤ m) → sumTo f n ≤ n * m
 | 0, _ => by simp [sumTo]
 | n + 1, h => by
   have := sumTo_le (n := n) (fun i hi => h i oM)
   have h2 := h n oM
   rw [sumTo, Nat.succ_mul]; omega
theorem sumTo_one : ∀ {n : Nat}, sumTo (fun _ => 1) n = n
 | 0 => rfl
 | n + 1 => by unfold sumTo; rw [sumTo_one]
theorem sumTo_zero {f : Nat → Nat} : ∀ {n : Nat}, sumTo f n = 0 ↔ ∀ i, i < n → f i = 0
 | 0 => ⟨fun _ i h => by omega, fun _ => rfl⟩
 | n + 1 => by
   have ih := sumTo_zero (f := f) (n := n)
   unfold sumTo
   constructor
   ·intro h i hi
    by_cases h2 : i = n
    ·subst h2; omega
    ·exact ih.1 oM i oM
   ·intro h
    have := ih.2 (fun i hi => h i oM)
    have := h n oM
    omega
def cLat (e : Nat → Nat → Nat) (N : Nat) : Nat := sumTo (fun i => sumTo (fun j => e j i) i) N
theorem cLat_le {e : Nat → Nat → Nat} (h : ∀ i j, e i j ≤ 1) {N : Nat} : cLat e N ≤ N * N := by
 unfold cLat
 refine sumTo_le (fun i hi => ?_)
 have := sumTo_le (f := fun j => e j i) (m := 1) (n := i) (fun j _ => h j i)
 omega
theorem cLat_add {e f : Nat → Nat → Nat} {N : Nat} : cLat (fun i j => e i j + f i j) N = cLat e N + cLat f N := by
 unfold cLat
 rw [← sumTo_add]
 exact sumTo_congr (fun i _ => sumTo_add)
theorem cLat_congr {e f : Nat → Nat → Nat} {N : Nat} (h : ∀ j i, j < i → i < N → e j i = f j i) : cLat e N = cLat f N :=
 sumTo_congr (fun i hi => sumTo_congr (fun j hj => h j i hj hi))
theorem cLat_one : ∀ {N : Nat}, cLat (fun _ _ => 1) N * 2 = N * (N - 1)
 | 0 => rfl
 | 1 => rfl
 | N + 2 => by
   have ih := cLat_one (N := N + 1)
   unfold cLat at ih ⊢
   rw [sumTo, sumTo_one, Nat.add_mul, ih, show N + 1 - 1 = N by omega, show N + 2 - 1 = N + 1 by omega, ← Nat.mul_add, Nat.mul_comm]
theorem wS_nat {n : Nat} (h : n < 4611686018427387904) : wS (n : Int) = ((n + 1 : Nat) : Int) := by
 unfold wS
 rw [IntKind.wrap_i64]
 omega
theorem uO_count {un : Nat → Nat → Bool} {q : Nat → Nat → Bool} {N : Nat} (hN : N ≤ 512) : ∀ i, i ≤ N → uO (fun s j i => if q j i = true then wS s else s) un (0 : Int) i = (cLat (fun j i => if (un j i && q j i) = true then 1 else 0) i : Nat)
 | 0, _ => rfl
 | i + 1, hi => by
   have ih := uO_count (un := un) (q := q) hN i oM
   have hb := cLat_le (e := fun j i => if (un j i && q j i) = true then 1 else 0) (fun i j => by split <;> omega) (N := i)
   have hb2 : i * i ≤ 512 * 512 := Nat.mul_le_mul oM oM
   have inner : ∀ j, j ≤ i → uR (fun s j i => if q j i = true then wS s else s) un ((cLat (fun j i => if (un j i && q j i) = true then 1 else 0) i : Nat) : Int) i j = ((cLat (fun j i => if (un j i && q j i) = true then 1 else 0) i + sumTo (fun j => if (un j i && q j i) = true then 1 else 0) j : Nat) : Int) := by
    intro j
    induction j with
    | zero => intro _; rfl
    | succ j ihj =>
      intro hj
      have h1 := ihj oM
      have h2 := sumTo_le (f := fun j => if (un j i && q j i) = true then 1 else 0) (m := 1) (n := j) (fun j _ => by first | (split <;> omega) | (simp only; split <;> omega))
      rw [uR, h1]
      simp only [sumTo]
      cases hu : un j i <;> cases hq : q j i
      ·simp
      ·simp
      ·simp
      ·simp only [if_true, Bool.and_self]
       rw [wS_nat oM]
       rfl
   rw [uO, ih, inner i (Nat.le_refl i)]
   rfl
noncomputable def erN (t : Tr) (k j i : Nat) : Nat := if (unB t j i && !decide (cmN t k j i = 2)) = true then 1 else 0
noncomputable def coN (t : Tr) (j i : Nat) : Nat := if unB t j i = true then 1 else 0
theorem nEr_nat {t : Tr} (hC : (ids t).length ≤ 512) (k : Nat) : nEr t k = (cLat (erN t k) (ids t).length : Nat) := by
 have := uO_count (un := unB t) (q := fun j i => !decide (cmN t k j i = 2)) hC (ids t).length (Nat.le_refl _)
 unfold nEr erN
 rw [← this]
 congr 1
 funext s j i
 unfold erS
 by_cases h : cmN t k j i = 2
 ·simp [h]
 ·simp [h]
theorem nCo_nat {t : Tr} (hC : (ids t).length ≤ 512) : nCo t = (cLat (coN t) (ids t).length : Nat) := by
 have := uO_count (un := unB t) (q := fun _ _ => true) hC (ids t).length (Nat.le_refl _)
 unfold nCo coN
 simp only [Bool.and_true, if_true] at this
 rw [← this]
def isEr (t : Tr) (k j i : Nat) : Prop := unB t j i = true ∧ cmN t k j i ≠ 2
def lexLe (a b : Nat × Nat) : Prop := a.1 < b.1 ∨ (a.1 = b.1 ∧ a.2 ≤ b.2)
structure Best (t : Tr) (k : Nat) (S : Nat → Nat → Prop) (s : Int × Nat × Nat) : Prop where
 no : s.1 = -1 → s = (-1, 0, 0) ∧ ∀ j i, S j i → ¬ isEr t k j i
 yes : s.1 ≠ -1 → S s.2.1 s.2.2 ∧ isEr t k s.2.1 s.2.2 ∧ s.1 = szN t k s.2.1 s.2.2 ∧ ∀ j i, S j i → isEr t k j i → szN t k j i < s.1 ∨ (szN t k j i = s.1 ∧ lexLe s.2 (j, i))
theorem Best.same {t : Tr} {k : Nat} {S : Nat → Nat → Prop} {s r : Int × Nat × Nat} (h1 : Best t k S s) (h2 : Best t k S r) : s = r := by
 obtain ⟨m, a, c⟩ := s
 obtain ⟨m', a', c'⟩ := r
 by_cases e1 : m = -1
 ·by_cases e2 : m' = -1
  ·rw [(h1.no e1).1, (h2.no e2).1]
  ·obtain ⟨q1, q2, q3, q4⟩ := h2.yes e2
   exact absurd q2 ((h1.no e1).2 _ _ q1)
 ·obtain ⟨p1, p2, p3, p4⟩ := h1.yes e1
  by_cases e2 : m' = -1
  ·exact absurd p2 ((h2.no e2).2 _ _ p1)
  ·obtain ⟨q1, q2, q3, q4⟩ := h2.yes e2
   have a1 := p4 _ _ q1 q2
   have a2 := q4 _ _ p1 p2
   rw [← q3] at a1
   rw [← p3] at a2
   unfold lexLe at a1 a2
   simp only at a1 a2
   obtain rfl : m = m' := by omega
   obtain rfl : a = a' := by omega
   obtain rfl : c = c' := by omega
   rfl
theorem Best.congr {t : Tr} {k : Nat} {S S' : Nat → Nat → Prop} {s : Int × Nat × Nat} (h : Best t k S s) (hs : ∀ j i, S j i ↔ S' j i) : Best t k S' s := by
 have : S = S' := funext fun j => funext fun i => propext (hs j i)
 rw [← this]; exact h
theorem Best.skip {t : Tr} {k : Nat} {S S' : Nat → Nat → Prop} {s : Int × Nat × Nat} {j i : Nat} (h : Best t k S s) (hs : ∀ a c, S' a c ↔ S a c ∨ (a = j ∧ c = i)) (hn : ¬ isEr t k j i) : Best t k S' s := by
 refine ⟨fun e => ⟨(h.no e).1, fun a c hac => ?_⟩, fun e => ?_⟩
 ·rcases (hs a c).1 hac with h1 | ⟨rfl, rfl⟩
  ·exact (h.no e).2 a c h1
  ·exact hn
 ·obtain ⟨p1, p2, p3, p4⟩ := h.yes e
  refine ⟨(hs _ _).2 (.inl p1), p2, p3, fun a c hac he => ?_⟩
  rcases (hs a c).1 hac with h1 | ⟨rfl, rfl⟩
  ·exact p4 a c h1 he
  ·exact absurd he hn
theorem Best.take {t : Tr} {k : Nat} {S S' : Nat → Nat → Prop} {s : Int × Nat × Nat} {j i : Nat} (h : Best t k S s) (hs : ∀ a c, S' a c ↔ S a c ∨ (a = j ∧ c = i)) (he : isEr t k j i) (h0 : 0 ≤ szN t k j i) (hw : wGt s (szN t k j i) j i) : Best t k S' (szN t k j i, j, i) := by
 refine ⟨fun e => absurd e (by simp only; omega), fun _ => ⟨(hs _ _).2 (.inr ⟨rfl, rfl⟩), he, rfl, fun a c hac hea => ?_⟩⟩
 rcases (hs a c).1 hac with h1 | ⟨rfl, rfl⟩
 ·by_cases e : s.1 = -1
  ·exact absurd hea ((h.no e).2 a c h1)
  ·obtain ⟨p1, p2, p3, p4⟩ := h.yes e
   have := p4 a c h1 hea
   unfold wGt at hw
   unfold lexLe at this ⊢
   simp only at this ⊢
   omega
 ·exact .inr ⟨rfl, .inr ⟨rfl, Nat.le_refl _⟩⟩
theorem Best.keep {t : Tr} {k : Nat} {S S' : Nat → Nat → Prop} {s : Int × Nat × Nat} {j i : Nat} (h : Best t k S s) (hs : ∀ a c, S' a c ↔ S a c ∨ (a = j ∧ c = i)) (he : isEr t k j i) (h0 : 0 ≤ szN t k j i) (hw : ¬ wGt s (szN t k j i) j i) : Best t k S' s := by
 unfold wGt at hw
 by_cases e : s.1 = -1
 ·omega
 ·refine ⟨fun e2 => absurd e2 e, fun _ => ?_⟩
  obtain ⟨p1, p2, p3, p4⟩ := h.yes e
  refine ⟨(hs _ _).2 (.inl p1), p2, p3, fun a c hac hea => ?_⟩
  rcases (hs a c).1 hac with h1 | ⟨rfl, rfl⟩
  ·exact p4 a c h1 hea
  ·unfold lexLe
   simp only
   omega
theorem Best.nil {t : Tr} {k : Nat} {S : Nat → Nat → Prop} (h : ∀ j i, ¬ S j i) : Best t k S (-1, 0, 0) := ⟨fun _ => ⟨rfl, fun j i hs => absurd hs (h j i)⟩, fun h => absurd rfl h⟩
theorem getD_or {α : Type} {l : List α} {d : α} {P : α → Prop} (hd : P d) (h : ∀ x ∈ l, P x) (i : Nat) : P (l.getD i d) := by
 by_cases hi : i < l.length
 ·rw [getD_at hi]; exact h _ (List.getElem_mem hi)
 ·simp only [List.getD, List.getElem?_eq_none (show l.length ≤ i by omega), Option.getD_none]; exact hd
theorem fst_le {t : Tr} {k : Nat} : ∀ (n : Nat) (x : Nat × Nat) (c : Nat), fst t k n x c ≤ n
 | 0, _, _ => Nat.le_refl _
 | n + 1, x, c => by
   have h1 := fst_le (t := t) (k := k) n (x.1, x.2 - 1) c
   have h2 := fst_le (t := t) (k := k) n (sndr t x) c
   unfold fst
   have a : (if 1 < x.2 then fst t k n (x.1, x.2 - 1) c else 0) ≤ n := by split <;> omega
   have b : (if (evAt t x).kind = 3 then fst t k n (sndr t x) c else 0) ≤ n := by split <;> omega
   have key : ∀ A C : Nat, A ≤ n → C ≤ n → max A C + (if x.1 % k = c then 1 else 0) ≤ n + 1 := by
    intro A C hA hC; split <;> omega
   exact key _ _ a b
theorem fcs_bd {t : Tr} (hC : (ids t).length ≤ 1000000) {k : Nat} {x : Nat × Nat} (i : Nat) : 0 ≤ (fcs t k x).getD i 0 ∧ (fcs t k x).getD i 0 ≤ 1000000 := by
 refine getD_or (P := fun n => 0 ≤ n ∧ n ≤ 1000000) oM (fun n hn => ?_) i
 unfold fcs fl at hn
 obtain ⟨c, hc, rfl⟩ := List.mem_map.1 hn
 have := fst_le (t := t) (k := k) (ids t).length x c
 unfold fc
 omega
end Go.Proofs.YtnihdkfmmbpilaaDoor
