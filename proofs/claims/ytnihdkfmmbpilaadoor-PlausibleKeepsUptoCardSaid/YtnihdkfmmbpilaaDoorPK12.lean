/- Texts of one proof, laid together: I1, I2, J6, I3, WU, I4. No condition. -/
import Derived.Test.YtnihdkfmmbpilaaDoorPK11
import Derived.Test.YtnihdkfmmbpilaaDoorPK8
import Derived.KernelRfl
namespace Go.Proofs.YtnihdkfmmbpilaaDoor
set_option linter.unusedVariables false
set_option linter.unusedSimpArgs false
attribute [local go_sem ↓] run_skip run_region run_draw run_both run_seq run_block run_exit run_ret run_cond atN_app seqC_normal seqC_exit seqC_ret seqQ_normal seqQ_exit seqQ_ret blkQ_normal blkQ_exit blkQ_ret runOps_nil runOps_cons runD_nil runD_cons grdO_true grdO_false grdD_true grdD_false ifC_true ifC_false opS_val opS_call opS_two opK_app dS_val dS_call dS_two dK_app kUp_same kUp_ne
attribute [local go_sem] rechks_nil rechks_cons rechk gcase_true gcase_false ex_val ex_val0 gd_none gd_some ev_t ev_c evs_nil evs_cons evo_some evo_none hget_at hget_first hsetB_at hsetB_first hsetL_at hsetL_first ofOpt_some aop aload astore aslice aappend aiaddr aiaddrA afaddr alen alenS acopy amm acall alookup amupdate alenM atostr aappz comma keyEq apick binV binVB binVS isSh intOp strOp boolOp shOp eqC eqF and2 cellsOf setFrom fillA fillS rd rdI elems mk bounds AV.cell List.all_cons List.all_nil Bool.and_true Bool.true_and Bool.and_self List.length_cons List.length_nil List.length_append Nat.reduceAdd Nat.reduceSub Nat.reduceMul Nat.zero_add Nat.add_zero List.cons_append List.nil_append List.append_assoc List.append_nil List.getElem?_cons_zero List.getElem?_cons_succ List.getElem?_nil List.set_cons_zero List.set_cons_succ List.drop_zero List.drop_succ_cons List.take_zero List.take_succ_cons List.take_nil List.drop_nil List.map_cons List.map_nil Option.map_some if_true if_false Bool.false_eq_true and_self true_and and_true Nat.reduceLeDiff Nat.reduceLT Nat.le_refl Nat.reduceEqDiff ite_true ite_false beq_self_eq_true beq_true beq_false Bool.not_true Bool.not_false Bool.true_beq Bool.false_beq map_vs vs_len vs_get vs_take vs_drop vs_snoc1 vs_snoc2 vs_snoc3 vs_snoc5 vs_set1 vs_set2 vs_rep wrap_id le_T lt_T le_F lt_F leI_T ltI_T leI_F ltI_F geI gtI get_T decide_true decide_false room List.getElem?_map List.length_map List.length_take Int.toNat_natCast Nat.min_def Nat.min_self nth_kOf put_kOf put_kNo kOv_cons kOv_nil KHas KArgs List.getElem_cons_zero List.getElem_cons_succ
def a_inside : AFunc := ⟨2,13,[.tmp 4],(.seq (.region [⟨some 2,.box (.t 0),none⟩,⟨some 4,.mv (.c (.v (.bool false))),none⟩]) (.seq (.region [⟨some 5,.mv (.t 1),none⟩,⟨some 6,.bin .geq (.t 5) (.c (.v (.int .i64 0))),none⟩,⟨some 7,.mv (.t 6),none⟩,⟨some 8,.mv (.t 1),some (7,true)⟩,⟨some 9,.faddr 0 (.t 2),some (7,true)⟩,⟨some 10,.load none (.t 9),some (7,true)⟩,⟨some 11,.bin .lss (.t 8) (.t 10),some (7,true)⟩,⟨some 12,.pick (.t 7) (.t 11) (.c (.v (.bool false))),none⟩,⟨some 4,.mv (.t 12),none⟩]) .ret))⟩
theorem a_inside_ok : cFunc Tryd.prog 117 = some a_inside := by kernel_rfl
def a_words : AFunc := ⟨1,7,[.tmp 2],(.seq (.region [⟨some 2,.mv (.c (.v (.int .i64 0))),none⟩]) (.seq (.region [⟨some 3,.mv (.t 0),none⟩,⟨some 4,.bin .add (.t 3) (.c (.v (.int .i64 64))),none⟩,⟨some 5,.bin .sub (.t 4) (.c (.v (.int .i64 1))),none⟩,⟨some 6,.bin .quo (.t 5) (.c (.v (.int .i64 64))),none⟩,⟨some 2,.mv (.t 6),none⟩]) .ret))⟩
theorem a_words_ok : cFunc Tryd.prog 116 = some a_words := by kernel_rfl
def a_OfB : AFunc := ⟨2,45,[.cell 4 (some 2),.tmp 5],(.seq (.region [⟨some 4,.alloc [(.v (.int .i64 0)),(.v .zsl)],none⟩,⟨some 5,.mv (.c (.v (.int .i64 0))),none⟩]) (.seq (.seq (.region [⟨some 9,.mv (.t 0),none⟩,⟨some 10,.bin .lss (.t 9) (.c (.v (.int .i64 0))),none⟩,⟨some 11,.mv (.t 10),none⟩,⟨some 12,.mv (.t 0),some (11,false)⟩,⟨some 13,.bin .gtr (.t 12) (.c (.v (.int .i64 512))),some (11,false)⟩,⟨some 14,.pick (.t 11) (.c (.v (.bool true))) (.t 13),none⟩]) (.cond (.t 14) (.seq (.region [⟨some 15,.build [(.v (.int .i64 0)),(.v .zsl)] [],none⟩,⟨none,.store 2 (.t 4) (.t 15),none⟩,⟨some 5,.mv (.c (.v (.int .i64 2))),none⟩]) .ret) .skip)) (.seq (.region [⟨some 16,.mv (.t 0),none⟩,⟨some 17,.mv (.t 0),none⟩,⟨some 18,.call (.c (.fn 116 [])) [(.t 17)],none⟩,⟨some 19,.mkslice 1 [(.v (.int .u64 0))] 8 (.t 18) (.t 18),none⟩,⟨some 20,.build [(.v (.int .i64 0)),(.v .zsl)] [(0,1,(.t 16)),(1,1,(.t 19))],none⟩,⟨some 6,.alloc [(.v (.int .i64 0)),(.v .zsl)],none⟩,⟨none,.store 2 (.t 6) (.t 20),none⟩]) (.seq (.seq (.region [⟨some 21,.mv (.t 1),none⟩,⟨some 22,.len (.t 21),none⟩,⟨some 23,.mv (.c (.v (.int .i64 0))),none⟩]) (.block 0 (.loop (.seq (.region [⟨some 24,.bin .lss (.t 23) (.t 22),none⟩]) (.seq (.cond (.t 24) .skip (.exit 0)) (.seq (.block 1 (.seq (.region [⟨some 25,.iaddr 1 (.t 21) (.t 23),none⟩,⟨some 26,.load none (.t 25),none⟩,⟨some 8,.mv (.t 26),none⟩]) (.seq (.seq (.region [⟨some 27,.load (some 2) (.t 6),none⟩,⟨some 28,.mv (.t 8),none⟩,⟨some 29,.call (.c (.fn 117 [])) [(.t 27),(.t 28)],none⟩,⟨some 30,.not (.t 29),none⟩]) (.cond (.t 30) (.seq (.region [⟨some 31,.build [(.v (.int .i64 0)),(.v .zsl)] [],none⟩,⟨none,.store 2 (.t 4) (.t 31),none⟩,⟨some 5,.mv (.c (.v (.int .i64 2))),none⟩]) .ret) .skip)) (.draw [⟨0,⟨some 32,.faddr 1 (.t 6),none⟩,[]⟩,⟨1,⟨some 33,.load none (.t 32),none⟩,[]⟩,⟨2,⟨some 34,.mv (.t 8),none⟩,[]⟩,⟨3,⟨some 35,.bin .quo (.t 34) (.c (.v (.int .i64 64))),none⟩,[]⟩,⟨4,⟨some 36,.iaddr 1 (.t 33) (.t 35),none⟩,[]⟩,⟨5,⟨some 37,.load none (.t 36),none⟩,[]⟩,⟨6,⟨some 38,.mv (.t 8),none⟩,[]⟩,⟨7,⟨some 39,.bin .rem (.t 38) (.c (.v (.int .i64 64))),none⟩,[]⟩,⟨8,⟨some 40,.bin .shl (.c (.v (.int .u64 1))) (.t 39),none⟩,[]⟩,⟨9,⟨some 41,.bin .or (.t 37) (.t 40),none⟩,[]⟩,⟨10,⟨some 42,.iaddr 1 (.t 33) (.t 35),none⟩,[]⟩,⟨11,⟨none,.store 1 (.t 42) (.t 41),none⟩,[]⟩])))) (.region [⟨some 43,.bin .add (.t 23) (.c (.v (.int .i64 1))),none⟩,⟨some 23,.mv (.t 43),none⟩]))))))) (.seq (.region [⟨some 44,.load (some 2) (.t 6),none⟩,⟨none,.store 2 (.t 4) (.t 44),none⟩,⟨some 5,.mv (.c (.v (.int .i64 0))),none⟩]) .ret)))))⟩
theorem a_OfB_ok : cFunc Tryd.prog 85 = some a_OfB := by kernel_rfl
def r_OfB0 : List (Nat × Nat) := [(5, 5), (8, 8), (23, 43)]

def bw : List Nat → Nat → Nat
 | [], _ => 0
 | i :: L, k => if i / 64 = k then bw L k ||| 2 ^ (i % 64) else bw L k
theorem bw_bit {k j : Nat} (hj : j < 64) : ∀ L, (bw L k).testBit j = decide (64 * k + j ∈ L)
 | [] => by simp [bw]
 | i :: L => by
   have ih := bw_bit (k := k) hj L
   unfold bw
   by_cases h : i / 64 = k
   ·rw [if_pos h, Nat.testBit_or, ih, Nat.testBit_two_pow]
    rw [Bool.eq_iff_iff]
    simp only [Bool.or_eq_true, decide_eq_true_eq, List.mem_cons]
    have := Nat.div_add_mod i 64
    constructor
    ·rintro (h1 | h1)
     ·exact .inr h1
     ·exact .inl oM
    ·rintro (h1 | h1)
     ·exact .inr oM
     ·exact .inl h1
   ·rw [if_neg h, ih, Bool.eq_iff_iff]
    simp only [decide_eq_true_eq, List.mem_cons]
    constructor
    ·exact .inr
    ·rintro (h1 | h1)
     ·exact absurd (show i / 64 = k by omega) h
     ·exact h1
theorem bw_lt {k : Nat} : ∀ L, bw L k < 2 ^ 64
 | [] => by simp [bw]
 | i :: L => by
   have ih := bw_lt (k := k) L
   unfold bw
   split
   ·exact Nat.or_lt_two_pow ih (Nat.pow_lt_pow_right oM (Nat.mod_lt _ oM))
   ·exact ih
def nW (n : Nat) : Nat := (n + 63) / 64
def setV (n : Nat) (L : List Nat) : List IV := [.int .i64 n, .isl 1 (fl (nW n) fun k => [.int .u64 (bw L k)])]
theorem shr_word (a j : Nat) : Int.fdiv (a : Int) (2 ^ j) = ((a / 2 ^ j : Nat) : Int) := by
 have : ((2 : Int) ^ j) = ((2 ^ j : Nat) : Int) := by simp
 rw [this, Int.fdiv_eq_ediv_of_nonneg _ (Int.natCast_nonneg _)]; rfl
def eRel (n : Nat) (T : Nat → List Nat) : IV := .isl 2 (fl n fun i => setV n (T i))
theorem wrap_u {a : Nat} (h : a < 2 ^ 64) : IntKind.u64.wrap (a : Int) = a := by
 unfold IntKind.wrap
 have : (2 : Int) ^ 64 = 18446744073709551616 := by decide
 simp [IntKind.bits, IntKind.signed]
 omega
theorem or_word {a c : Nat} (ha : a < 2 ^ 64) (hc : c < 2 ^ 64) : IntKind.u64.wrap (((BitVec.ofInt 64 (a : Int) ||| BitVec.ofInt 64 (c : Int)).toNat : Nat) : Int) = ((a ||| c : Nat) : Int) := by
 have e1 : BitVec.ofInt 64 (a : Int) = BitVec.ofNat 64 a := by simp
 have e2 : BitVec.ofInt 64 (c : Int) = BitVec.ofNat 64 c := by simp
 rw [e1, e2, BitVec.toNat_or, BitVec.toNat_ofNat, BitVec.toNat_ofNat, Nat.mod_eq_of_lt ha, Nat.mod_eq_of_lt hc, wrap_u (Nat.or_lt_two_pow ha hc)]
theorem shl_word {j : Nat} (h : j < 64) : IntKind.u64.wrap (1 * 2 ^ j) = ((2 ^ j : Nat) : Int) := by
 have : (1 : Int) * 2 ^ j = ((2 ^ j : Nat) : Int) := by simp
 rw [this, wrap_u (Nat.pow_lt_pow_right oM h)]
theorem inside_spec (n a c d : Nat) (i : Nat) (b l : List Row) : ACalls Tryd.prog 117 [.agg [.v (.int .i64 n), .sl a c 0 d], .v (.int .i64 i)] b l (fun r b' l' => r = .v (.bool (decide (i < n))) ∧ b' = b ∧ l' = l) := by
 refine calls_kept a_inside_ok rfl (by decide) ?_
 intro B g hB hR hE hA
 simp only [KArgs] at hA
 have h0 : decide ((i : Int) ≥ 0) = true := decide_eq_true oM
 have h0' : decide ((0 : Int) ≤ (i : Int)) = true := h0
 have h1 : decide ((i : Int) < (n : Int)) = decide (i < n) := by rw [decide_eq_decide]; omega
 simp (disch := (first | decide | omega)) only [a_inside, hA, h0, h0', h1, go_sem]
 exact leave_pure (xs := [.v (.bool (decide (i < n)))]) (.inr rfl) (by simp (disch := (first | decide | omega)) only [resVs, resV, go_sem, hA]) kO hR hB ⟨rfl, rfl, rfl⟩
theorem words_spec (n : Nat) (hn : n ≤ 512) (b l : List Row) : ACalls Tryd.prog 116 [.v (.int .i64 n)] b l (fun r b' l' => r = .v (.int .i64 (nW n)) ∧ b' = b ∧ l' = l) := by
 refine calls_kept a_words_ok rfl (by decide) ?_
 intro B g hB hR hE hA
 simp only [KArgs] at hA
 have h64 : ((64 : Int) = 0) = False := by simp
 have q1 : Int.tdiv ((n : Int) + 64 - 1) 64 = ((nW n : Nat) : Int) := by
  unfold nW
  rw [show (n : Int) + 64 - 1 = ((n + 63 : Nat) : Int) by omega]; rfl
 have hb : nW n ≤ 9 := by unfold nW; omega
 simp (disch := (first | decide | omega)) only [a_words, hA, h64, q1, if_false, go_sem]
 exact leave_pure (xs := [.v (.int .i64 (nW n))]) (.inr rfl) (by simp (disch := (first | decide | omega)) only [resVs, resV, go_sem, hA]) kO hR hB ⟨rfl, rfl, rfl⟩
def eN (i : Nat) : List IV := [.int .i64 i]
def wL (n : Nat) (L : List Nat) : List (List IV) := fl (nW n) fun k => [.int .u64 (bw L k)]
theorem wL_set {n i : Nat} {L : List Nat} : (wL n L).set (i / 64) [.int .u64 ((bw L (i / 64) ||| 2 ^ (i % 64) : Nat) : Int)] = wL n (i :: L) := by
 unfold wL
 rw [fl_set]
 refine fl_congr (fun k _ => ?_)
 by_cases h : k = i / 64
 ·subst h
  rw [fUp_same]
  show _ = [IV.int .u64 ((bw (i :: L) (i / 64) : Nat) : Int)]
  rw [show bw (i :: L) (i / 64) = bw L (i / 64) ||| 2 ^ (i % 64) by rw [bw, if_pos rfl]]
 ·rw [fUp_ne h, show bw (i :: L) k = bw L k by rw [bw, if_neg (fun e => h e.symm)]]
theorem wL_zero {n : Nat} : List.replicate (nW n) [IV.int .u64 0] = wL n [] := by
 unfold wL; rw [← fl_const]; rfl
theorem of_run (n : Nat) (hn : n ≤ 512) (L : List Nat) (hL : ∀ i ∈ L, i < n) (hl : L.length ≤ 1000000) (b l : List Row) :
  ACalls Tryd.prog 85 [.v (.int .i64 n), .v (.isl 1 (L.map eN))] b l (fun r b' l' => r = .tup [.agg [.v (.int .i64 n), .sl (b.length + l.length + 1) 0 0 (nW n)], .v (.int .i64 0)] ∧ b' = b ∧ l' = l ++ [.live 0 2 [[.v (.int .i64 n), .sl (b.length + l.length + 1) 0 0 (nW n)]], .live 0 1 (vs (wL n L.reverse))]) := by
 refine calls_kept a_OfB_ok rfl (by decide) ?_
 intro B g hB hR hE hA
 simp only [KArgs] at hA
 have hBl : B.length = b.length + l.length := by rw [hB, List.length_append]
 have h1 : decide ((n : Int) < 0) = false := decide_eq_false oM
 have h2 : decide ((n : Int) > 512) = false := decide_eq_false oM
 have h2' : decide ((512 : Int) < (n : Int)) = false := h2
 have hnb : nW n ≤ 9 := by unfold nW; omega
 simp (disch := (first | decide | omega)) only [a_OfB, hA, h1, h2, h2', go_sem]
 refine ACalls.nxt (words_spec n hn _ _) ?_
 simp (disch := (first | decide | omega)) only [hA, List.length_map, go_sem]
 refine loop_kept (ι := Nat) r_OfB0 (fun m => [(23, .v (.int .i64 m))]) 3 (fun m => [.live 0 2 [[.v (.int .i64 0), .v .zsl]], .live 0 1 (vs (wL n (L.take m).reverse)), .live 0 2 [[.v (.int .i64 n), .sl (B.length + 1) 0 0 (nW n)]]])
  (fun m => m ≤ L.length) (fun m => L.length - m) 0 (Nat.zero_le _) (by (repeat (first | exact hE.mono oM | refine KLt.up ?_ kL))) (by ((try simp (disch := decide) only [hA, go_sem]) <;> exact kH)) (fun e => by rw [wL_zero]; exact Weak.refl _ _ _) ?_
 intro g1 hE1 hEE1 hg1 m hm
 by_cases hml : m < L.length
 ·have hi := hL _ (List.getElem_mem hml)
  obtain ⟨i, hLi⟩ : ∃ i, L[m] = i := ⟨_, rfl⟩
  rw [hLi] at hi
  have htk : (L.take (m + 1)).reverse = i :: (L.take m).reverse := by
   rw [List.take_add_one, List.getElem?_eq_getElem hml, hLi]; simp
  have hk : i / 64 < nW n := by unfold nW; omega
  have hg : (wL n (L.take m).reverse)[i / 64]? = some [.int .u64 (bw (L.take m).reverse (i / 64))] := fl_get hk
  have hset := wL_set (n := n) (i := i) (L := (L.take m).reverse)
  rw [← htk] at hset
  have h64 : ((64 : Int) = 0) = False := by simp
  have q1 : Int.tdiv (i : Int) 64 = ((i / 64 : Nat) : Int) := rfl
  have q2 : Int.tmod (i : Int) 64 = ((i % 64 : Nat) : Int) := rfl
  have hsh : (((i % 64 : Nat) : Int) < 0) = False := by simp; omega
  have h65 : (i % 64 ≤ IntKind.bits .u64) = True := eq_true (show i % 64 ≤ 64 by omega)
  have hi6 : i / 64 ≤ 8 := by omega
  have q5 := shl_word (Nat.mod_lt i (show 0 < 64 by omega))
  have q6 := or_word (bw_lt (k := i / 64) (L.take m).reverse) (Nat.pow_lt_pow_right (a := 2) oM (Nat.mod_lt i (show 0 < 64 by omega)))
  have hid : decide (i < n) = true := decide_eq_true hi
  simp (disch := (first | decide | omega)) only [hA, hg1, eN, hLi, go_sem]
  refine ACalls.nxt (inside_spec n (B.length + 1) 0 (nW n) i _ _) ?_
  rw [hid]
  simp (disch := (first | decide | omega)) only [hA, hg1, h64, q1, q2, hsh, h65, q5, q6, hg, hset, if_false, setFrom, cellsOf, go_sem]
  refine ⟨m + 1, hml, by simp only; omega, ?_⟩
  erw [q6, hset]
  exact Weak.kround (l1 := [Row.live 0 2 [[AV.v (.int .i64 0), AV.v .zsl]], .live 0 1 (vs (wL n (L.take (m + 1)).reverse)), .live 0 2 [[.v (.int .i64 n), .sl (B.length + 1) 0 0 (nW n)]]]) (p := r_OfB0) (k := 3) (by ((repeat refine (kAny_up rfl).trans ?_); exact hEE1)) (by ((try simp (disch := decide) only [hA, go_sem]) <;> exact kH)) rfl hE1 (by simp) kV hR kL
 ·simp (disch := (first | decide | omega)) only [hA, hg1, go_sem]
  obtain rfl : m = L.length := by omega
  rw [List.take_length]
  exact leave (.inr rfl) (xs := [.agg [.v (.int .i64 n), .sl (B.length + 1) 0 0 (nW n)], .v (.int .i64 0)]) (by simp (disch := (first | decide | omega)) only [resVs, resV, hA, hg1, go_sem]) (y := .tup [.agg [.v (.int .i64 n), .sl (B.length + 1) 0 0 (nW n)], .v (.int .i64 0)]) (l' := [.live 0 2 [[.v (.int .i64 n), .sl (B.length + 1) 0 0 (nW n)]], .live 0 1 (vs (wL n L.reverse))]) (Weak.trim (l1 := [.live 0 2 [[.v (.int .i64 n), .sl (B.length + 1) 0 0 (nW n)]], .live 0 1 (vs (wL n L.reverse))]) (junk := [.live 0 2 [[.v (.int .i64 n), .sl (B.length + 1) 0 0 (nW n)]]]) rfl (by
   intro x hx
   simp only [one, List.mem_singleton] at hx
   subst hx
   simp (disch := (simp; try omega)) only [lts.down, Nat.reduceLT, Nat.reduceAdd]) (hR.mono (by simp)) (by simp (disch := (simp; try omega)) only [lts.down, Nat.reduceLT, Nat.reduceAdd])) hB ⟨by rw [hBl], rfl, by rw [hBl]⟩
theorem ACalls.valdeep {P : Program} {f : Nat} {args : List AV} {b l N : List Row} {i ver sz : Nat} {rows : List (List IV)} {x x' : AV} (n : Nat) (hN : N[i]? = some (.live ver sz (vs rows))) (hx : deep (frz0 (b.length + l.length + i) ver sz rows) n x = x') (hlt : ∀ m, AVlt m x')
  (h : ACalls P f args b l (fun r b' l' => r = x ∧ b' = b ∧ l' = l ++ N)) : ACalls P f args b l (fun r b' l' => r = x' ∧ b' = b ∧ l' = l) := by
 refine ⟨h.1, fun F L w vs s hr => Calls.mono (h.2 F L w vs s hr) ?_⟩
 rintro en w' ⟨v, y, b', l', F', L', h1, h2, h3, h4, h5, rfl, rfl, rfl⟩
 have hbl : (b' ++ l).length = b'.length + l.length := List.length_append
 have hsim : Sim F' L' ((b' ++ l) ++ N) w' := by rw [List.append_assoc]; exact h3
 obtain ⟨F2, s1, _, st1, k4⟩ := freeze_core (e := []) hN F' L' w' { tmps := #[], defers := [] } hsim ⟨rfl, rfl, fun j x v hx hv => by simp at hx⟩
 rw [hbl] at k4
 have hrep : RepA w' F2 L' x' v := by
  rw [← hx]
  exact deep_rep k4 n y v (h2.mono st1.imm (fun _ _ => rfl) (fun _ _ _ h => h))
 have hw : Weak [x'] (b' ++ l) (N.set i (.dead ver)) [x'] (b' ++ l) [] :=
  Weak.trim (l1 := []) rfl (by intro z hz; simp only [List.mem_singleton] at hz; subst hz; exact hlt _) (by simpa using s.rowsLt) RowsLt_nil
 obtain ⟨F3, L3, k1, k2, k3, k5⟩ := hw F2 L' w' { tmps := #[v], defers := [] } s1 ⟨rfl, rfl, fun j z u hz hu => by
  cases j with
  | zero => simp at hz hu; subst hz; subst hu; exact hrep
  | succ j => simp at hz⟩
 rw [List.append_nil] at k1 k3
 refine ⟨v, x', b', l, F3, L3, h1, k2.2.2 0 _ v rfl rfl, k1, ?_, h5, rfl, rfl, rfl⟩
 refine h4.trans ?_
 rw [← List.append_assoc]
 exact st1.trans k3
theorem Of_spec (n : Nat) (hn : n ≤ 512) (L : List Nat) (hL : ∀ i ∈ L, i < n) (hl : L.length ≤ 1000000) (b l : List Row) :
  ACalls Tryd.prog 85 [.v (.int .i64 n), .v (.isl 1 (L.map eN))] b l (fun r b' l' => r = .tup [.agg ((setV n L.reverse).map .v), .v (.int .i64 0)] ∧ b' = b ∧ l' = l) := by
 refine ACalls.valdeep (i := 1) (ver := 0) (sz := 1) (rows := wL n L.reverse) 6 rfl ?_ ?_ (of_run n hn L hL hl b l)
 ·have hw : (wL n L.reverse).length = nW n := fl_len
  have tk : List.take (nW n) (wL n L.reverse) = wL n L.reverse := List.take_of_length_le oM
  simp [deep, frz0, setV, hw, tk]
  rfl
 ·intro m
  refine .tup _ (fun c hc => ?_)
  simp only [List.mem_cons, List.not_mem_nil, or_false] at hc
  rcases hc with rfl | rfl
  ·refine .agg _ (fun c hc => ?_)
   simp only [setV, List.map_cons, List.map_nil, List.mem_cons, List.not_mem_nil, or_false] at hc
   rcases hc with rfl | rfl <;> exact .v _
  ·exact .v _
def a_bValid : AFunc := ⟨1,39,[.tmp 2],(.seq (.region [⟨some 1,.box (.t 0),none⟩,⟨some 2,.mv (.c (.v (.bool false))),none⟩]) (.seq (.seq (.draw [⟨0,⟨some 4,.faddr 0 (.t 1),none⟩,[]⟩,⟨1,⟨some 5,.load none (.t 4),none⟩,[]⟩,⟨2,⟨some 6,.bin .lss (.t 5) (.c (.v (.int .i64 0))),none⟩,[]⟩,⟨3,⟨some 7,.mv (.t 6),none⟩,[]⟩,⟨4,⟨some 8,.faddr 0 (.t 1),some (7,false)⟩,[]⟩,⟨5,⟨some 9,.load none (.t 8),some (7,false)⟩,[]⟩,⟨6,⟨some 10,.bin .gtr (.t 9) (.c (.v (.int .i64 512))),some (7,false)⟩,[]⟩,⟨7,⟨some 11,.pick (.t 7) (.c (.v (.bool true))) (.t 10),none⟩,[]⟩,⟨8,⟨some 12,.mv (.t 11),none⟩,[]⟩,⟨9,⟨some 13,.faddr 1 (.t 1),some (12,false)⟩,[]⟩,⟨10,⟨some 14,.load none (.t 13),some (12,false)⟩,[]⟩,⟨11,⟨some 15,.len (.t 14),some (12,false)⟩,[]⟩,⟨12,⟨some 16,.faddr 0 (.t 1),some (12,false)⟩,[]⟩,⟨13,⟨some 17,.load none (.t 16),some (12,false)⟩,[]⟩,⟨14,⟨some 18,.call (.c (.fn 116 [])) [(.t 17)],some (12,false)⟩,[⟨some 13,.faddr 1 (.t 1),some (12,false)⟩,⟨some 14,.load none (.t 13),some (12,false)⟩,⟨some 15,.len (.t 14),some (12,false)⟩]⟩,⟨15,⟨some 19,.bin .neq (.t 15) (.t 18),some (12,false)⟩,[]⟩,⟨16,⟨some 20,.pick (.t 12) (.c (.v (.bool true))) (.t 19),none⟩,[]⟩]) (.cond (.t 20) (.seq (.region [⟨some 2,.mv (.c (.v (.bool false))),none⟩]) .ret) .skip)) (.seq (.region [⟨some 21,.faddr 0 (.t 1),none⟩,⟨some 22,.load none (.t 21),none⟩,⟨some 23,.bin .rem (.t 22) (.c (.v (.int .i64 64))),none⟩,⟨some 3,.mv (.t 23),none⟩]) (.seq (.region [⟨some 24,.mv (.t 3),none⟩,⟨some 25,.bin .eql (.t 24) (.c (.v (.int .i64 0))),none⟩,⟨some 26,.mv (.t 25),none⟩,⟨some 27,.faddr 1 (.t 1),some (26,false)⟩,⟨some 28,.load none (.t 27),some (26,false)⟩,⟨some 29,.faddr 1 (.t 1),some (26,false)⟩,⟨some 30,.load none (.t 29),some (26,false)⟩,⟨some 31,.len (.t 30),some (26,false)⟩,⟨some 32,.bin .sub (.t 31) (.c (.v (.int .i64 1))),some (26,false)⟩,⟨some 33,.iaddr 1 (.t 28) (.t 32),some (26,false)⟩,⟨some 34,.load none (.t 33),some (26,false)⟩,⟨some 35,.mv (.t 3),some (26,false)⟩,⟨some 36,.bin .shr (.t 34) (.t 35),some (26,false)⟩,⟨some 37,.bin .eql (.t 36) (.c (.v (.int .u64 0))),some (26,false)⟩,⟨some 38,.pick (.t 26) (.c (.v (.bool true))) (.t 37),none⟩,⟨some 2,.mv (.t 38),none⟩]) .ret))))⟩
theorem a_bValid_ok : cFunc Tryd.prog 86 = some a_bValid := by kernel_rfl
def a_bhas : AFunc := ⟨2,16,[.tmp 4],(.seq (.region [⟨some 2,.box (.t 0),none⟩,⟨some 4,.mv (.c (.v (.bool false))),none⟩]) (.seq (.region [⟨some 5,.faddr 1 (.t 2),none⟩,⟨some 6,.load none (.t 5),none⟩,⟨some 7,.mv (.t 1),none⟩,⟨some 8,.bin .quo (.t 7) (.c (.v (.int .i64 64))),none⟩,⟨some 9,.iaddr 1 (.t 6) (.t 8),none⟩,⟨some 10,.load none (.t 9),none⟩,⟨some 11,.mv (.t 1),none⟩,⟨some 12,.bin .rem (.t 11) (.c (.v (.int .i64 64))),none⟩,⟨some 13,.bin .shr (.t 10) (.t 12),none⟩,⟨some 14,.bin .and (.t 13) (.c (.v (.int .u64 1))),none⟩,⟨some 15,.bin .eql (.t 14) (.c (.v (.int .u64 1))),none⟩,⟨some 4,.mv (.t 15),none⟩]) .ret))⟩
theorem a_bhas_ok : cFunc Tryd.prog 127 = some a_bhas := by kernel_rfl
def a_bHas : AFunc := ⟨2,17,[.tmp 4],(.seq (.region [⟨some 2,.box (.t 0),none⟩,⟨some 4,.mv (.c (.v (.bool false))),none⟩]) (.seq (.region [⟨some 5,.load (some 2) (.t 2),none⟩,⟨some 6,.call (.c (.fn 86 [])) [(.t 5)],none⟩,⟨some 7,.mv (.t 6),none⟩,⟨some 8,.load (some 2) (.t 2),some (7,true)⟩,⟨some 9,.mv (.t 1),some (7,true)⟩,⟨some 10,.call (.c (.fn 117 [])) [(.t 8),(.t 9)],some (7,true)⟩,⟨some 11,.pick (.t 7) (.t 10) (.c (.v (.bool false))),none⟩,⟨some 12,.mv (.t 11),none⟩,⟨some 13,.load (some 2) (.t 2),some (12,true)⟩,⟨some 14,.mv (.t 1),some (12,true)⟩,⟨some 15,.call (.c (.fn 127 [])) [(.t 13),(.t 14)],some (12,true)⟩,⟨some 16,.pick (.t 12) (.t 15) (.c (.v (.bool false))),none⟩,⟨some 4,.mv (.t 16),none⟩]) .ret))⟩
theorem a_bHas_ok : cFunc Tryd.prog 109 = some a_bHas := by kernel_rfl

theorem bw_top {n : Nat} {L : List Nat} (hL : ∀ i ∈ L, i < n) (h : n % 64 ≠ 0) : bw L (nW n - 1) / 2 ^ (n % 64) = 0 := by
 refine Nat.div_eq_of_lt (Nat.lt_pow_two_of_testBit _ (fun j hj => ?_))
 by_cases hj64 : j < 64
 ·rw [bw_bit hj64, decide_eq_false_iff_not]
  intro hm
  have := hL _ hm
  have e : nW n - 1 = n / 64 := by unfold nW; omega
  rw [e] at this
  omega
 ·have h1 := bw_lt (k := nW n - 1) L
  have h64 : (2 : Nat) ^ 64 ≤ 2 ^ j := Nat.pow_le_pow_right oM oM
  exact Nat.testBit_lt_two_pow oM
theorem and_word {a : Nat} (ha : a < 2 ^ 64) : IntKind.u64.wrap (((BitVec.ofInt 64 (a : Int) &&& BitVec.ofInt 64 (1 : Int)).toNat : Nat) : Int) = ((a % 2 : Nat) : Int) := by
 have e1 : BitVec.ofInt 64 (a : Int) = BitVec.ofNat 64 a := by simp
 have e2 : BitVec.ofInt 64 (1 : Int) = BitVec.ofNat 64 1 := by decide
 rw [e1, e2, BitVec.toNat_and, BitVec.toNat_ofNat, BitVec.toNat_ofNat, Nat.mod_eq_of_lt ha, Nat.mod_eq_of_lt (by decide), Nat.and_one_is_mod, wrap_u oM]
theorem inside2_spec (n : Nat) (x : IV) (i : Nat) (b l : List Row) : ACalls Tryd.prog 117 [.agg [.v (.int .i64 n), .v x], .v (.int .i64 i)] b l (fun r b' l' => r = .v (.bool (decide (i < n))) ∧ b' = b ∧ l' = l) := by
 refine calls_kept a_inside_ok rfl (by decide) ?_
 intro B g hB hR hE hA
 simp only [KArgs] at hA
 have h0 : decide ((i : Int) ≥ 0) = true := decide_eq_true oM
 have h0' : decide ((0 : Int) ≤ (i : Int)) = true := h0
 have h1 : decide ((i : Int) < (n : Int)) = decide (i < n) := by rw [decide_eq_decide]; omega
 simp (disch := (first | decide | omega)) only [a_inside, hA, h0, h0', h1, go_sem]
 exact leave_pure (xs := [.v (.bool (decide (i < n)))]) (.inr rfl) (by simp (disch := (first | decide | omega)) only [resVs, resV, go_sem, hA]) kO hR hB ⟨rfl, rfl, rfl⟩
theorem bValid_spec (n : Nat) (L : List Nat) (hn : n ≤ 512) (hL : ∀ i ∈ L, i < n) (b l : List Row) : ACalls Tryd.prog 86 [.agg [.v (.int .i64 n), .v (.isl 1 (wL n L))]] b l (fun r b' l' => r = .v (.bool true) ∧ b' = b ∧ l' = l) := by
 refine calls_kept a_bValid_ok rfl (by decide) ?_
 intro B g hB hR hE hA
 simp only [KArgs] at hA
 have hnn : ∀ n : Int, (n != n) = false := fun n => by simp
 have h1 : decide ((n : Int) < 0) = false := decide_eq_false oM
 have h2 : decide ((n : Int) > 512) = false := decide_eq_false oM
 have h2' : decide ((512 : Int) < (n : Int)) = false := h2
 have hwl : (wL n L).length = nW n := fl_len
 have h64 : ((64 : Int) = 0) = False := by simp
 have q2 : Int.tmod (n : Int) 64 = ((n % 64 : Nat) : Int) := rfl
 simp (disch := (first | decide | omega)) only [a_bValid, hA, h1, h2, h2', go_sem]
 refine ACalls.nxt (words_spec n hn _ _) ?_
 by_cases h0 : n % 64 = 0
 ·have d0 : (((n % 64 : Nat) : Int) == 0) = true := by rw [h0]; rfl
  simp (disch := (first | decide | omega)) only [hA, hwl, hnn, h64, q2, d0, if_false, go_sem]
  exact leave_pure (xs := [.v (.bool true)]) (.inr rfl) (by simp (disch := (first | decide | omega)) only [resVs, resV, go_sem, hA]) kO hR hB ⟨rfl, rfl, rfl⟩
 ·have d0 : (((n % 64 : Nat) : Int) == 0) = false := by rw [beq_eq_false_iff_ne]; omega
  have hw : nW n = (nW n - 1) + 1 := by unfold nW; omega
  have hlast : ((nW n : Nat) : Int) - 1 = ((nW n - 1 : Nat) : Int) := by unfold nW; omega
  have hg : (wL n L)[nW n - 1]? = some [.int .u64 (bw L (nW n - 1))] := fl_get oM
  have hb : nW n ≤ 9 := by unfold nW; omega
  have q5 := shr_word (bw L (nW n - 1)) (n % 64)
  rw [bw_top hL h0] at q5
  have hsh : (((n % 64 : Nat) : Int) < 0) = False := by simp; omega
  have hbi : IntKind.bits .u64 = 64 := rfl
  have h65 : (n % 64 ≤ 64) = True := eq_true oM
  have e0 : ((((0 : Nat)) : Int) == 0) = true := rfl
  simp (disch := (first | decide | omega)) only [hA, hwl, hnn, h64, q2, d0, hlast, hg, hsh, hbi, h65, q5, e0, if_false, go_sem]
  exact leave_pure (xs := [.v (.bool true)]) (.inr rfl) (by simp (disch := (first | decide | omega)) only [resVs, resV, go_sem, hA]) kO hR hB ⟨rfl, rfl, rfl⟩
theorem bhas_spec (n : Nat) (L : List Nat) (hn : n ≤ 512) (i : Nat) (hi : i < n) (b l : List Row) : ACalls Tryd.prog 127 [.agg [.v (.int .i64 n), .v (.isl 1 (wL n L))], .v (.int .i64 i)] b l (fun r b' l' => r = .v (.bool (decide (i ∈ L))) ∧ b' = b ∧ l' = l) := by
 refine calls_kept a_bhas_ok rfl (by decide) ?_
 intro B g hB hR hE hA
 simp only [KArgs] at hA
 have hwl : (wL n L).length = nW n := fl_len
 have hk : i / 64 < nW n := by unfold nW; omega
 have hg : (wL n L)[i / 64]? = some [.int .u64 (bw L (i / 64))] := fl_get hk
 have hb := bw_bit (k := i / 64) (Nat.mod_lt i (show 0 < 64 by omega)) L
 rw [show 64 * (i / 64) + i % 64 = i from Nat.div_add_mod i 64] at hb
 have q1 : Int.tdiv (i : Int) 64 = ((i / 64 : Nat) : Int) := rfl
 have q2 : Int.tmod (i : Int) 64 = ((i % 64 : Nat) : Int) := rfl
 have q5 := shr_word (bw L (i / 64)) (i % 64)
 have hlt : bw L (i / 64) / 2 ^ (i % 64) < 2 ^ 64 := Nat.lt_of_le_of_lt (Nat.div_le_self _ _) (bw_lt L)
 have q6 := and_word hlt
 have q7 : ((((bw L (i / 64) / 2 ^ (i % 64)) % 2 : Nat) : Int) == 1) = decide (i ∈ L) := by
  rw [← hb, Nat.testBit_eq_decide_div_mod_eq, Bool.eq_iff_iff]
  simp only [beq_iff_eq, decide_eq_true_eq]
  omega
 have h64 : ((64 : Int) = 0) = False := by simp
 have hsh : (((i % 64 : Nat) : Int) < 0) = False := by simp; omega
 have h65 : (i % 64 ≤ IntKind.bits .u64) = True := eq_true (show i % 64 ≤ 64 by omega)
 have hi6 : i / 64 ≤ 8 := by omega
 have hbb : nW n ≤ 9 := by unfold nW; omega
 simp (disch := (first | decide | omega)) only [a_bhas, hA, hwl, q1, q2, hg, h64, hsh, h65, q5, if_false, go_sem]
 erw [q6, q7]
 exact leave_pure (xs := [.v (.bool (decide (i ∈ L)))]) (.inr rfl) (by simp (disch := (first | decide | omega)) only [resVs, resV, go_sem, hA]) kO hR hB ⟨rfl, rfl, rfl⟩
theorem bHas_spec (n : Nat) (L : List Nat) (hn : n ≤ 512) (hL : ∀ i ∈ L, i < n) (i : Nat) (hi : i < n) (b l : List Row) : ACalls Tryd.prog 109 [.agg [.v (.int .i64 n), .v (.isl 1 (wL n L))], .v (.int .i64 i)] b l (fun r b' l' => r = .v (.bool (decide (i ∈ L))) ∧ b' = b ∧ l' = l) := by
 refine calls_kept a_bHas_ok rfl (by decide) ?_
 intro B g hB hR hE hA
 simp only [KArgs] at hA
 have hd : decide (i < n) = true := decide_eq_true hi
 simp (disch := (first | decide | omega)) only [a_bHas, hA, go_sem]
 refine ACalls.nxt (bValid_spec n L hn hL _ _) ?_
 simp (disch := (first | decide | omega)) only [hA, go_sem]
 refine ACalls.nxt (inside2_spec n _ i _ _) ?_
 rw [hd]
 simp (disch := (first | decide | omega)) only [hA, go_sem]
 refine ACalls.nxt (bhas_spec n L hn i hi _ _) ?_
 simp (disch := (first | decide | omega)) only [hA, go_sem]
 exact leave_pure (xs := [.v (.bool (decide (i ∈ L)))]) (.inr rfl) (by simp (disch := (first | decide | omega)) only [resVs, resV, go_sem, hA]) kO hR hB ⟨rfl, rfl, rfl⟩
def a_eventsC : AFunc := ⟨1,31,[.tmp 2],(.seq (.region [⟨some 1,.box (.t 0),none⟩,⟨some 2,.mv (.c (.v .zsl)),none⟩]) (.seq (.region [⟨some 3,.mv (.c (.v .zsl)),none⟩]) (.seq (.seq (.region [⟨some 7,.faddr 0 (.t 1),none⟩,⟨some 8,.load none (.t 7),none⟩,⟨some 9,.len (.t 8),none⟩,⟨some 10,.mv (.c (.v (.int .i64 0))),none⟩]) (.block 0 (.loop (.seq (.region [⟨some 11,.bin .lss (.t 10) (.t 9),none⟩]) (.seq (.cond (.t 11) .skip (.exit 0)) (.seq (.block 1 (.seq (.region [⟨some 12,.mv (.t 10),none⟩,⟨some 13,.iaddr 3 (.t 8) (.t 10),none⟩,⟨some 14,.load (some 3) (.t 13),none⟩,⟨some 5,.alloc [(.v (.str ⟨#[]⟩)),(.v .zsl),(.v .zsl)],none⟩,⟨some 4,.mv (.t 12),none⟩,⟨none,.store 3 (.t 5) (.t 14),none⟩]) (.seq (.region [⟨some 15,.faddr 2 (.t 5),none⟩,⟨some 16,.load none (.t 15),none⟩,⟨some 17,.len (.t 16),none⟩,⟨some 18,.mv (.c (.v (.int .i64 0))),none⟩]) (.block 2 (.loop (.seq (.region [⟨some 19,.bin .lss (.t 18) (.t 17),none⟩]) (.seq (.cond (.t 19) .skip (.exit 2)) (.seq (.block 3 (.seq (.region [⟨some 20,.mv (.t 18),none⟩,⟨some 6,.mv (.t 20),none⟩]) (.region [⟨some 21,.mv (.t 3),none⟩,⟨some 22,.mv (.t 4),none⟩,⟨some 23,.mv (.t 6),none⟩,⟨some 24,.bin .add (.t 23) (.c (.v (.int .i64 1))),none⟩,⟨some 25,.build [(.v (.int .i64 0)),(.v (.int .i64 0))] [(0,1,(.t 22)),(1,1,(.t 24))],none⟩,⟨some 26,.bslice 2 [(.v (.int .i64 0)),(.v (.int .i64 0))] 1 [(0,(.t 25))],none⟩,⟨some 27,.append 2 16 (.t 21) (.t 26),none⟩,⟨some 3,.mv (.t 27),none⟩]))) (.region [⟨some 28,.bin .add (.t 18) (.c (.v (.int .i64 1))),none⟩,⟨some 18,.mv (.t 28),none⟩]))))))))) (.region [⟨some 29,.bin .add (.t 10) (.c (.v (.int .i64 1))),none⟩,⟨some 10,.mv (.t 29),none⟩]))))))) (.seq (.region [⟨some 30,.mv (.t 3),none⟩,⟨some 2,.mv (.t 30),none⟩]) .ret))))⟩
theorem a_eventsC_ok : cFunc Tryd.prog 83 = some a_eventsC := by kernel_rfl
def r_eventsC0 : List (Nat × Nat) := [(3, 6), (10, 29)]
def r_eventsC1 : List (Nat × Nat) := [(3, 3), (6, 6), (18, 28)]

def evL (t : Tr) (p i : Nat) : Nat := (idsTo t p i).length
def evV (t : Tr) (p i : Nat) : List (List IV) := (idsTo t p i).map eId
theorem evL_le {t : Tr} {p i : Nat} (hp : p < t.length) (hi : i ≤ t[p].evs.length) : evL t p i ≤ (ids t).length := by
 obtain ⟨c, hc⟩ := idsTo_prefix t p i hp hi
 unfold evL
 rw [← hc, List.length_append]; omega
theorem eventsC_run (t : Tr) (hS : Small t) (hC : (ids t).length ≤ 1000000) (b l : List Row) :
  ACalls Tryd.prog 83 [.agg [.v (eT t)]] b l (fun r b' l' => r = .v (.isl 2 ((ids t).map eId)) ∧ b' = b ∧ l' = l) := by
 refine calls_kept a_eventsC_ok rfl (by decide) ?_
 intro B g hB hR hE hA
 simp only [KArgs] at hA
 have hnp := hS.np
 have l0 : evL t 0 0 = 0 := rfl
 simp (disch := (first | decide | omega)) only [a_eventsC, hA, eT, List.length_map, go_sem]
 refine loop_kept_nil (ι := Nat) 3 2 r_eventsC0 (fun p => [(10, .v (.int .i64 p)), (3, .sl (B.length + 1) (evL t p 0) 0 (evL t p 0))]) 2 (fun p => [.live 0 1 [[.v (.isl 3 (t.map ePr))]], .live (evL t p 0) 2 (vs (evV t p 0))])
  (fun p => p ≤ t.length) (fun p => t.length - p) 0 (Nat.zero_le _) rfl (by decide) (by decide) (by (repeat (first | exact hE.mono oM | refine KLt.up ?_ kL))) (by ((try simp (disch := decide) only [hA, l0, go_sem]) <;> exact kH)) (fun e => Weak.refl _ _ _) ?_
 intro g1 hE1 hEE1 hg1 p hp
 by_cases hpl : p < t.length
 ·have hne := hS.ne _ (List.getElem_mem hpl)
  simp (disch := (first | decide | omega)) only [hA, hg1, ePr, List.length_map, go_sem]
  refine loop_kept (ι := Nat) r_eventsC1 (fun i => [(18, .v (.int .i64 i)), (3, .sl (B.length + 1) (evL t p i) 0 (evL t p i))]) 3 (fun i => [.live 0 1 [[.v (.isl 3 (t.map ePr))]], .live (evL t p i) 2 (vs (evV t p i)), .live 0 3 [[.v (.str t[p].name), .v (.isl 2 (t[p].vars.map eVr)), .v (.isl 5 (t[p].evs.map eEv))]]])
   (fun i => i ≤ t[p].evs.length) (fun i => t[p].evs.length - i) 0 (Nat.zero_le _) (by (repeat (first | exact hE1.mono oM | refine KLt.up ?_ kL))) (by ((try simp (disch := decide) only [hA, hg1, go_sem]) <;> exact kH)) (fun e => Weak.refl _ _ _) ?_
  intro g2 hE2 hEE2 hg2 i hi
  by_cases hil : i < t[p].evs.length
  ·have hle := evL_le hpl (show i + 1 ≤ t[p].evs.length by omega)
   have hsl : evL t p (i + 1) = evL t p i + 1 := by unfold evL; rw [idsTo_succ, List.length_append]; rfl
   have hvl : (evV t p i).length = evL t p i := by unfold evV evL; rw [List.length_map]
   have tk : List.take (evL t p i) (evV t p i) = evV t p i := List.take_of_length_le oM
   have hck : (i : Int) + 1 = ((i + 1 : Nat) : Int) := by omega
   have hsn : evV t p i ++ [[.int .i64 p, .int .i64 ((i + 1 : Nat) : Int)]] = evV t p (i + 1) := by unfold evV; rw [idsTo_succ, List.map_append]; rfl
   simp (disch := (first | decide | omega)) only [hA, hg1, hg2, hvl, tk, List.replicate_succ, List.replicate_zero, reduceCtorEq, hck, hsn, setFrom, cellsOf, go_sem]
   rw [← hsl]
   refine ⟨i + 1, hil, by simp only; omega, ?_⟩
   exact Weak.kround (p := r_eventsC1) (k := 3) (by ((repeat refine (kAny_up rfl).trans ?_); exact hEE2)) (by ((try simp (disch := decide) only [hA, go_sem]) <;> exact kH)) rfl hE2 (by simp) kV hR kL
  ·simp (disch := (first | decide | omega)) only [hA, hg1, hg2, go_sem]
   obtain rfl : i = t[p].evs.length := by omega
   have hnl : evL t p t[p].evs.length = evL t (p + 1) 0 := by unfold evL; rw [idsTo_next t p hpl]
   have hnv : evV t p t[p].evs.length = evV t (p + 1) 0 := by unfold evV; rw [idsTo_next t p hpl]
   rw [hnl, hnv]
   refine ⟨p + 1, hpl, by simp only; omega, ?_⟩
   exact Weak.kround (p := r_eventsC0) (k := 2) (by ((repeat refine (kAny_up rfl).trans ?_); refine (kAny_sub hg2 (kIn_sub rfl)).trans ?_; (repeat refine (kAny_up rfl).trans ?_); exact hEE1)) (by ((try simp (disch := decide) only [hA, hg1, go_sem]) <;> exact kH)) rfl hE1 (by simp) kV hR kL
 ·simp (disch := (first | decide | omega)) only [hA, hg1, go_sem]
  obtain rfl : p = t.length := by omega
  have hv : evV t t.length 0 = (ids t).map eId := by unfold evV; rw [idsTo_all]
  have hl2 : evL t t.length 0 = (ids t).length := by unfold evL; rw [idsTo_all]
  rw [hv, hl2]
  exact leave_frz (i := 1) (ver := (ids t).length) (sz := 2) (n := (ids t).length) (rows := (ids t).map eId) (.inr rfl) (by simp (disch := (first | decide | omega)) only [resVs, resV, hA, hg1, go_sem]) rfl (by simp) hR hB ⟨rfl, rfl, rfl⟩
end Go.Proofs.YtnihdkfmmbpilaaDoor
namespace Go.Proofs.YtnihdkfmmbpilaaDoor
set_option linter.unusedVariables false
set_option linter.unusedSimpArgs false

inductive IVle : IV → IV → Prop where
 | refl (x : IV) : IVle x x
 | zsl (sz : Nat) : IVle .zsl (.isl sz [])
 | isl (sz : Nat) (rows rows' : List (List IV)) (hl : rows.length = rows'.length) (hl2 : ∀ (k : Nat) (row row' : List IV), rows[k]? = some row → rows'[k]? = some row' → row.length = row'.length)
   (hr : ∀ (k : Nat) (row row' : List IV) (j : Nat) (a a' : IV), rows[k]? = some row → rows'[k]? = some row' → row[j]? = some a → row'[j]? = some a' → IVle a a') : IVle (.isl sz rows) (.isl sz rows')

theorem RepI.le {w : World} {F : Nat → Prop} {x y : IV} (h : IVle x y) : ∀ {v : Value}, RepI w F x v → RepI w F y v := by
 induction h with
 | refl x => exact fun h => h
 | zsl sz => intro v h; cases h; exact .isl0 _ _ _ (Nat.zero_le _)
 | isl sz rows rows' hl hl2 hr ih =>
   intro v h
   obtain ⟨A, c, rfl, h2, h3, h4⟩ := repI_isl h
   rw [hl] at h2 h4 ⊢
   refine isl_repI h2 h3 (fun h0 => ?_)
   obtain ⟨b, off, h5, h6, h7⟩ := h4 h0
   refine ⟨b, off, h5, h6, fun k row' hk' => ?_⟩
   have hk : k < rows.length := by rw [hl]; exact (List.getElem?_eq_some_iff.1 hk').1
   obtain ⟨g1, g2⟩ := h7 k rows[k] (List.getElem?_eq_getElem hk)
   have hll := hl2 k rows[k] row' (List.getElem?_eq_getElem hk) hk'
   refine ⟨by rw [← hll]; exact g1, fun j a' hj' => ?_⟩
   have hj : j < rows[k].length := by rw [hll]; exact (List.getElem?_eq_some_iff.1 hj').1
   obtain ⟨v, hv, hrep⟩ := g2 j rows[k][j] (List.getElem?_eq_getElem hj)
   exact ⟨v, hv, ih k _ _ j _ _ (List.getElem?_eq_getElem hk) hk' (List.getElem?_eq_getElem hj) hj' hrep⟩

def RowsLe : List (List IV) → List (List IV) → Prop
 | [], [] => True
 | r :: rs, q :: qs => (r.length = q.length ∧ ∀ (j : Nat) (a a' : IV), r[j]? = some a → q[j]? = some a' → IVle a a') ∧ RowsLe rs qs
 | _, _ => False
theorem RowsLe.len : ∀ {r q : List (List IV)}, RowsLe r q → r.length = q.length
 | [], [], _ => rfl
 | _ :: _, _ :: _, h => by simp [RowsLe.len h.2]
 | [], _ :: _, h => h.elim
 | _ :: _, [], h => h.elim
theorem RowsLe.get : ∀ {r q : List (List IV)}, RowsLe r q → ∀ (k : Nat) (row row' : List IV), r[k]? = some row → q[k]? = some row' → row.length = row'.length ∧ ∀ (j : Nat) (a a' : IV), row[j]? = some a → row'[j]? = some a' → IVle a a'
 | [], [], _, k, row, row', h, _ => by simp at h
 | r :: rs, q :: qs, h, k, row, row', h1, h2 => by
   cases k with
   | zero => simp at h1 h2; subst h1; subst h2; exact h.1
   | succ k => simp at h1 h2; exact RowsLe.get h.2 k row row' h1 h2
 | [], _ :: _, h, _, _, _, _, _ => h.elim
 | _ :: _, [], h, _, _, _, _, _ => h.elim
theorem IVle.rows {sz : Nat} {r q : List (List IV)} (h : RowsLe r q) : IVle (.isl sz r) (.isl sz q) :=
 .isl sz r q h.len (fun k row row' h1 h2 => (h.get k row row' h1 h2).1) (fun k row row' j a a' h1 h2 => (h.get k row row' h1 h2).2 j a a')

inductive AVle : AV → AV → Prop where
 | refl (x : AV) : AVle x x
 | v (x y : IV) (h : IVle x y) : AVle (.v x) (.v y)
 | agg (cs ds : List AV) (hl : cs.length = ds.length) (h : ∀ (i : Nat) (a c : AV), cs[i]? = some a → ds[i]? = some c → AVle a c) : AVle (.agg cs) (.agg ds)
theorem RepA.le {w : World} {F : Nat → Prop} {L : LMap} {x y : AV} (h : AVle x y) : ∀ {v : Value}, RepA w F L x v → RepA w F L y v := by
 induction h with
 | refl x => exact fun h => h
 | v x y h => intro v hx; exact .v _ _ (hx.vI.le h)
 | agg cs ds hl h ih =>
   intro v hx
   obtain ⟨vs, rfl, hr⟩ := hx.aggL
   refine RepL.agg ⟨by rw [← hl]; exact hr.1, fun i c u hc hu => ?_⟩
   have hi : i < cs.length := by rw [hl]; exact (List.getElem?_eq_some_iff.1 hc).1
   exact ih i cs[i] c (List.getElem?_eq_getElem hi) hc (hr.2 i _ u (List.getElem?_eq_getElem hi) hu)
theorem ACalls.le {P : Program} {f : Nat} {args args' : List AV} {b l : List Row} {Q : AV → List Row → List Row → Prop} (h : ACalls P f args b l Q) (hl : args'.length = args.length) (hle : ∀ (i : Nat) (a c : AV), args'[i]? = some a → args[i]? = some c → AVle a c) : ACalls P f args' b l Q :=
 ⟨h.1, fun F L w vs s hr => h.2 F L w vs s ⟨by rw [← hl]; exact hr.1, fun i c v hc hv => by
  have hi : i < args'.length := by rw [hl]; exact (List.getElem?_eq_some_iff.1 hc).1
  exact RepA.le (hle i args'[i] c (List.getElem?_eq_getElem hi) hc) (hr.2 i _ v (List.getElem?_eq_getElem hi) hv)⟩⟩
theorem Weak.le {e e' : List AV} {b l : List Row} (hl : e.length = e'.length) (h : ∀ (i : Nat) (x y : AV), e[i]? = some x → e'[i]? = some y → AVle x y) : Weak e b l e' b l := by
 intro F L w a s hea
 refine ⟨F, L, s, ⟨hea.1, by rw [← hl]; exact hea.2.1, fun i y v hy hv => ?_⟩, Step.refl _ _ _ _ _, rfl⟩
 have hi : i < e.length := by rw [hl]; exact (List.getElem?_eq_some_iff.1 hy).1
 exact RepA.le (h i e[i] y (List.getElem?_eq_getElem hi) hy) (hea.2.2 i _ v (List.getElem?_eq_getElem hi) hv)
def a_indexN (sz : Nat) : AFunc := ⟨2, 19, [.tmp 4],
 (.seq (.region [⟨(some 4), .mv (.c (.v (.int .i64 0))), none⟩])
 (.seq (.seq (.region [⟨(some 6), .mv (.t 0), none⟩, ⟨(some 7), .len (.t 6), none⟩, ⟨(some 8), .mv (.c (.v (.int .i64 0))), none⟩])
 (.block 0 (.loop (.seq (.region [⟨(some 9), .bin .lss (.t 8) (.t 7), none⟩])
 (.seq (.cond (.t 9) .skip
 (.exit 0))
 (.seq (.block 1 (.seq (.region [⟨(some 10), .mv (.t 8), none⟩, ⟨(some 5), .mv (.t 10), none⟩])
 (.seq (.region [⟨(some 11), .mv (.t 1), none⟩, ⟨(some 12), .mv (.t 0), none⟩, ⟨(some 13), .mv (.t 5), none⟩, ⟨(some 14), .iaddr sz (.t 12) (.t 13), none⟩, ⟨(some 15), .load (some sz) (.t 14), none⟩, ⟨(some 16), .call (.t 11) [(.t 15)], none⟩])
 (.cond (.t 16) (.seq (.region [⟨(some 17), .mv (.t 5), none⟩, ⟨(some 4), .mv (.t 17), none⟩])
 .ret)
 .skip))))
 (.region [⟨(some 18), .bin .add (.t 8) (.c (.v (.int .i64 1))), none⟩, ⟨(some 8), .mv (.t 18), none⟩])))))))
 (.seq (.region [⟨(some 4), .mv (.c (.v (.int .i64 (-1)))), none⟩])
 .ret)))⟩
def a_containsN (g : Nat) : AFunc := ⟨2, 9, [.tmp 4],
 (.seq (.region [⟨(some 4), .mv (.c (.v (.bool false))), none⟩])
 (.seq (.region [⟨(some 5), .mv (.t 0), none⟩, ⟨(some 6), .mv (.t 1), none⟩, ⟨(some 7), .call (.c (.fn g [])) [(.t 5), (.t 6)], none⟩, ⟨(some 8), .bin .geq (.t 7) (.c (.v (.int .i64 0))), none⟩, ⟨(some 4), .mv (.t 8), none⟩])
 .ret))⟩
def wIdx (p : Nat → Bool) (n : Nat) : Int := match (List.range n).find? p with
 | some i => i
 | none => -1
theorem wIdx_at {p : Nat → Bool} {n i : Nat} (h : i < n) (h0 : ∀ j, j < i → p j = false) (hi : p i = true) : wIdx p n = i := by
 have hf : (List.range n).find? p = some i := by
  rw [show n = i + (1 + (n - i - 1)) by omega, List.range_add, List.find?_append]
  have : (List.range i).find? p = none := by
   rw [List.find?_eq_none]; intro q hq; simp [h0 q (List.mem_range.1 hq)]
  rw [this, Nat.add_comm 1, List.range_succ_eq_map]
  simp [hi]
 unfold wIdx; rw [hf]
theorem wIdx_none {p : Nat → Bool} {n : Nat} (h0 : ∀ j, j < n → p j = false) : wIdx p n = -1 := by
 have : (List.range n).find? p = none := by
  rw [List.find?_eq_none]; intro q hq; simp [h0 q (List.mem_range.1 hq)]
 unfold wIdx; rw [this]
theorem index_spec {P : Program} {f sz : Nat} (hf : cFunc P f = some (a_indexN sz)) (rows : List (List IV)) (k : Nat) (caps : List AV) (p : Nat → Bool) (hlen : ∀ row ∈ rows, row.length = sz) (hn : rows.length ≤ 1000000) (b l : List Row)
  (hp : ∀ (i : Nat) (row : List IV), rows[i]? = some row → ACalls P k ([.agg (row.map .v)] ++ caps) (b ++ l) [] (fun r b' l' => r = .v (.bool (p i)) ∧ b' = b ++ l ∧ l' = [])) :
  ACalls P f [.v (.isl sz rows), .fn k caps] b l (fun r b' l' => r = .v (.int .i64 (wIdx p rows.length)) ∧ b' = b ∧ l' = l) := by
 refine calls_of hf rfl ?_
 intro B hB hR hA
 simp only [a_indexN, ↓run_skip, ↓run_region, ↓run_draw, ↓run_both, ↓run_seq, ↓run_block, ↓run_exit, ↓run_ret, ↓run_cond, ↓atN_app, ↓seqC_normal, ↓seqC_exit, ↓seqC_ret, ↓seqQ_normal, ↓seqQ_exit, ↓seqQ_ret, ↓blkQ_normal, ↓blkQ_exit, ↓blkQ_ret, ↓runOps_nil, ↓runOps_cons, ↓runD_nil, ↓runD_cons, ↓grdO_true, ↓grdO_false, ↓grdD_true, ↓grdD_false, ↓ifC_true, ↓ifC_false, ↓opS_val, ↓opS_call, ↓opS_two, ↓opK_app, ↓dS_val, ↓dS_call, ↓dS_two, ↓dK_app, rechks_nil, rechks_cons, rechk, gcase_true, gcase_false, ex_val, ex_val0, gd_none, gd_some, nth_zero, nth_succ, upd_zero, upd_succ, put_some, put_none, ev_t, ev_c, evs_nil, evs_cons, evo_some, evo_none, hget_at, hget_first, hsetB_at, hsetB_first, hsetL_at, hsetL_first, ofOpt_some, aop, aload, astore, aslice, aappend, aiaddr, aiaddrA, afaddr, alen, alenS, acopy, amm, acall, alookup, amupdate, alenM, atostr, aappz, comma, keyEq, apick, binV, binVB, binVS, isSh, intOp, strOp, boolOp, shOp, eqC, eqF, and2, cellsOf, setFrom, fillA, fillS, rd, rdI, elems, mk, bounds, AV.cell, List.all_cons, List.all_nil, Bool.and_true, Bool.true_and, Bool.and_self, List.length_cons, List.length_nil, List.length_append, Nat.reduceAdd, Nat.reduceSub, Nat.reduceMul, Nat.zero_add, Nat.add_zero, List.replicate_succ, List.replicate_zero, List.cons_append, List.nil_append, List.append_assoc, List.append_nil, List.getElem?_cons_zero, List.getElem?_cons_succ, List.getElem?_nil, List.set_cons_zero, List.set_cons_succ, List.drop_zero, List.drop_succ_cons, List.take_zero, List.take_succ_cons, List.take_nil, List.drop_nil, List.map_cons, List.map_nil, Option.map_some, if_true, if_false, Bool.false_eq_true, and_self, true_and, and_true, Nat.reduceLeDiff, Nat.reduceLT, Nat.le_refl, Nat.reduceEqDiff, ite_true, ite_false, beq_self_eq_true, beq_true, beq_false, Bool.not_true, Bool.not_false, Bool.true_beq, Bool.false_beq]
 refine loop_rule (ι := Nat) (fun i => [.v (.isl sz rows), .fn k caps, .any, .any, .any, .any, .any, .v (.int .i64 rows.length), .v (.int .i64 i), .any, .any, .any, .any, .any, .any, .any, .any, .any, .any])
  (fun _ => B) (fun _ => []) (fun i => i ≤ rows.length ∧ ∀ j, j < i → p j = false) (fun i => rows.length - i) 0 ⟨Nat.zero_le _, fun j hj => by omega⟩ (Weak.forget (by simp [Fgt])) ?_
 rintro i ⟨hi, h0⟩
 by_cases hlt : i < rows.length
 ·have hl := hlen rows[i] (List.getElem_mem hlt)
  have ht : List.take sz rows[i] = rows[i] := List.take_of_length_le oM
  simp (disch := omega) only [ht, ↓run_skip, ↓run_region, ↓run_draw, ↓run_both, ↓run_seq, ↓run_block, ↓run_exit, ↓run_ret, ↓run_cond, ↓atN_app, ↓seqC_normal, ↓seqC_exit, ↓seqC_ret, ↓seqQ_normal, ↓seqQ_exit, ↓seqQ_ret, ↓blkQ_normal, ↓blkQ_exit, ↓blkQ_ret, ↓runOps_nil, ↓runOps_cons, ↓runD_nil, ↓runD_cons, ↓grdO_true, ↓grdO_false, ↓grdD_true, ↓grdD_false, ↓ifC_true, ↓ifC_false, ↓opS_val, ↓opS_call, ↓opS_two, ↓opK_app, ↓dS_val, ↓dS_call, ↓dS_two, ↓dK_app, rechks_nil, rechks_cons, rechk, gcase_true, gcase_false, ex_val, ex_val0, gd_none, gd_some, nth_zero, nth_succ, upd_zero, upd_succ, put_some, put_none, ev_t, ev_c, evs_nil, evs_cons, evo_some, evo_none, hget_at, hget_first, hsetB_at, hsetB_first, hsetL_at, hsetL_first, ofOpt_some, aop, aload, astore, aslice, aappend, aiaddr, aiaddrA, afaddr, alen, alenS, acopy, amm, acall, alookup, amupdate, alenM, atostr, aappz, comma, keyEq, apick, binV, binVB, binVS, isSh, intOp, strOp, boolOp, shOp, eqC, eqF, and2, cellsOf, setFrom, fillA, fillS, rd, rdI, elems, mk, bounds, AV.cell, List.all_cons, List.all_nil, Bool.and_true, Bool.true_and, Bool.and_self, List.length_cons, List.length_nil, List.length_append, Nat.reduceAdd, Nat.reduceSub, Nat.reduceMul, Nat.zero_add, Nat.add_zero, List.replicate_succ, List.replicate_zero, List.cons_append, List.nil_append, List.append_assoc, List.append_nil, List.getElem?_cons_zero, List.getElem?_cons_succ, List.getElem?_nil, List.set_cons_zero, List.set_cons_succ, List.drop_zero, List.drop_succ_cons, List.take_zero, List.take_succ_cons, List.take_nil, List.drop_nil, List.map_cons, List.map_nil, Option.map_some, if_true, if_false, Bool.false_eq_true, and_self, true_and, and_true, Nat.reduceLeDiff, Nat.reduceLT, Nat.le_refl, Nat.reduceEqDiff, ite_true, ite_false, beq_self_eq_true, beq_true, beq_false, Bool.not_true, Bool.not_false, Bool.true_beq, Bool.false_beq, map_vs, vs_len, vs_get, vs_take, vs_drop, vs_snoc1, vs_snoc2, vs_snoc3, vs_snoc5, vs_set1, vs_set2, vs_rep, wrap_id, le_T, lt_T, le_F, lt_F, leI_T, ltI_T, leI_F, ltI_F, geI, gtI, get_T, decide_true, decide_false, room, List.getElem?_map, List.length_map, List.length_take, Int.toNat_natCast, Nat.min_def, Nat.min_self]
  refine ACalls_mono _ _ _ _ _ _ (hB ▸ hp i rows[i] (List.getElem?_eq_getElem hlt)) ?_
  rintro r b' l' ⟨rfl, rfl, rfl⟩
  simp (disch := omega) only [↓run_skip, ↓run_region, ↓run_draw, ↓run_both, ↓run_seq, ↓run_block, ↓run_exit, ↓run_ret, ↓run_cond, ↓atN_app, ↓seqC_normal, ↓seqC_exit, ↓seqC_ret, ↓seqQ_normal, ↓seqQ_exit, ↓seqQ_ret, ↓blkQ_normal, ↓blkQ_exit, ↓blkQ_ret, ↓runOps_nil, ↓runOps_cons, ↓runD_nil, ↓runD_cons, ↓grdO_true, ↓grdO_false, ↓grdD_true, ↓grdD_false, ↓ifC_true, ↓ifC_false, ↓opS_val, ↓opS_call, ↓opS_two, ↓opK_app, ↓dS_val, ↓dS_call, ↓dS_two, ↓dK_app, rechks_nil, rechks_cons, rechk, gcase_true, gcase_false, ex_val, ex_val0, gd_none, gd_some, nth_zero, nth_succ, upd_zero, upd_succ, put_some, put_none, ev_t, ev_c, evs_nil, evs_cons, evo_some, evo_none, hget_at, hget_first, hsetB_at, hsetB_first, hsetL_at, hsetL_first, ofOpt_some, aop, aload, astore, aslice, aappend, aiaddr, aiaddrA, afaddr, alen, alenS, acopy, amm, acall, alookup, amupdate, alenM, atostr, aappz, comma, keyEq, apick, binV, binVB, binVS, isSh, intOp, strOp, boolOp, shOp, eqC, eqF, and2, cellsOf, setFrom, fillA, fillS, rd, rdI, elems, mk, bounds, AV.cell, List.all_cons, List.all_nil, Bool.and_true, Bool.true_and, Bool.and_self, List.length_cons, List.length_nil, List.length_append, Nat.reduceAdd, Nat.reduceSub, Nat.reduceMul, Nat.zero_add, Nat.add_zero, List.replicate_succ, List.replicate_zero, List.cons_append, List.nil_append, List.append_assoc, List.append_nil, List.getElem?_cons_zero, List.getElem?_cons_succ, List.getElem?_nil, List.set_cons_zero, List.set_cons_succ, List.drop_zero, List.drop_succ_cons, List.take_zero, List.take_succ_cons, List.take_nil, List.drop_nil, List.map_cons, List.map_nil, Option.map_some, if_true, if_false, Bool.false_eq_true, and_self, true_and, and_true, Nat.reduceLeDiff, Nat.reduceLT, Nat.le_refl, Nat.reduceEqDiff, ite_true, ite_false, beq_self_eq_true, beq_true, beq_false, Bool.not_true, Bool.not_false, Bool.true_beq, Bool.false_beq, map_vs, vs_len, vs_get, vs_take, vs_drop, vs_snoc1, vs_snoc2, vs_snoc3, vs_snoc5, vs_set1, vs_set2, vs_rep, wrap_id, le_T, lt_T, le_F, lt_F, leI_T, ltI_T, leI_F, ltI_F, geI, gtI, get_T, decide_true, decide_false, room, List.getElem?_map, List.length_map, List.length_take, Int.toNat_natCast, Nat.min_def, Nat.min_self]
  refine ifC_split (fun h => ?_) (fun h => ?_)
  ·simp (disch := omega) only [↓run_skip, ↓run_region, ↓run_draw, ↓run_both, ↓run_seq, ↓run_block, ↓run_exit, ↓run_ret, ↓run_cond, ↓atN_app, ↓seqC_normal, ↓seqC_exit, ↓seqC_ret, ↓seqQ_normal, ↓seqQ_exit, ↓seqQ_ret, ↓blkQ_normal, ↓blkQ_exit, ↓blkQ_ret, ↓runOps_nil, ↓runOps_cons, ↓runD_nil, ↓runD_cons, ↓grdO_true, ↓grdO_false, ↓grdD_true, ↓grdD_false, ↓ifC_true, ↓ifC_false, ↓opS_val, ↓opS_call, ↓opS_two, ↓opK_app, ↓dS_val, ↓dS_call, ↓dS_two, ↓dK_app, rechks_nil, rechks_cons, rechk, gcase_true, gcase_false, ex_val, ex_val0, gd_none, gd_some, nth_zero, nth_succ, upd_zero, upd_succ, put_some, put_none, ev_t, ev_c, evs_nil, evs_cons, evo_some, evo_none, hget_at, hget_first, hsetB_at, hsetB_first, hsetL_at, hsetL_first, ofOpt_some, aop, aload, astore, aslice, aappend, aiaddr, aiaddrA, afaddr, alen, alenS, acopy, amm, acall, alookup, amupdate, alenM, atostr, aappz, comma, keyEq, apick, binV, binVB, binVS, isSh, intOp, strOp, boolOp, shOp, eqC, eqF, and2, cellsOf, setFrom, fillA, fillS, rd, rdI, elems, mk, bounds, AV.cell, List.all_cons, List.all_nil, Bool.and_true, Bool.true_and, Bool.and_self, List.length_cons, List.length_nil, List.length_append, Nat.reduceAdd, Nat.reduceSub, Nat.reduceMul, Nat.zero_add, Nat.add_zero, List.replicate_succ, List.replicate_zero, List.cons_append, List.nil_append, List.append_assoc, List.append_nil, List.getElem?_cons_zero, List.getElem?_cons_succ, List.getElem?_nil, List.set_cons_zero, List.set_cons_succ, List.drop_zero, List.drop_succ_cons, List.take_zero, List.take_succ_cons, List.take_nil, List.drop_nil, List.map_cons, List.map_nil, Option.map_some, if_true, if_false, Bool.false_eq_true, and_self, true_and, and_true, Nat.reduceLeDiff, Nat.reduceLT, Nat.le_refl, Nat.reduceEqDiff, ite_true, ite_false, beq_self_eq_true, beq_true, beq_false, Bool.not_true, Bool.not_false, Bool.true_beq, Bool.false_beq, map_vs, vs_len, vs_get, vs_take, vs_drop, vs_snoc1, vs_snoc2, vs_snoc3, vs_snoc5, vs_set1, vs_set2, vs_rep, wrap_id, le_T, lt_T, le_F, lt_F, leI_T, ltI_T, leI_F, ltI_F, geI, gtI, get_T, decide_true, decide_false, room, List.getElem?_map, List.length_map, List.length_take, Int.toNat_natCast, Nat.min_def, Nat.min_self]
   exact leave_pure (.inr rfl) rfl (.v _) hR hB ⟨by rw [wIdx_at hlt h0 h]; rfl, rfl, rfl⟩
  ·simp (disch := omega) only [↓run_skip, ↓run_region, ↓run_draw, ↓run_both, ↓run_seq, ↓run_block, ↓run_exit, ↓run_ret, ↓run_cond, ↓atN_app, ↓seqC_normal, ↓seqC_exit, ↓seqC_ret, ↓seqQ_normal, ↓seqQ_exit, ↓seqQ_ret, ↓blkQ_normal, ↓blkQ_exit, ↓blkQ_ret, ↓runOps_nil, ↓runOps_cons, ↓runD_nil, ↓runD_cons, ↓grdO_true, ↓grdO_false, ↓grdD_true, ↓grdD_false, ↓ifC_true, ↓ifC_false, ↓opS_val, ↓opS_call, ↓opS_two, ↓opK_app, ↓dS_val, ↓dS_call, ↓dS_two, ↓dK_app, rechks_nil, rechks_cons, rechk, gcase_true, gcase_false, ex_val, ex_val0, gd_none, gd_some, nth_zero, nth_succ, upd_zero, upd_succ, put_some, put_none, ev_t, ev_c, evs_nil, evs_cons, evo_some, evo_none, hget_at, hget_first, hsetB_at, hsetB_first, hsetL_at, hsetL_first, ofOpt_some, aop, aload, astore, aslice, aappend, aiaddr, aiaddrA, afaddr, alen, alenS, acopy, amm, acall, alookup, amupdate, alenM, atostr, aappz, comma, keyEq, apick, binV, binVB, binVS, isSh, intOp, strOp, boolOp, shOp, eqC, eqF, and2, cellsOf, setFrom, fillA, fillS, rd, rdI, elems, mk, bounds, AV.cell, List.all_cons, List.all_nil, Bool.and_true, Bool.true_and, Bool.and_self, List.length_cons, List.length_nil, List.length_append, Nat.reduceAdd, Nat.reduceSub, Nat.reduceMul, Nat.zero_add, Nat.add_zero, List.replicate_succ, List.replicate_zero, List.cons_append, List.nil_append, List.append_assoc, List.append_nil, List.getElem?_cons_zero, List.getElem?_cons_succ, List.getElem?_nil, List.set_cons_zero, List.set_cons_succ, List.drop_zero, List.drop_succ_cons, List.take_zero, List.take_succ_cons, List.take_nil, List.drop_nil, List.map_cons, List.map_nil, Option.map_some, if_true, if_false, Bool.false_eq_true, and_self, true_and, and_true, Nat.reduceLeDiff, Nat.reduceLT, Nat.le_refl, Nat.reduceEqDiff, ite_true, ite_false, beq_self_eq_true, beq_true, beq_false, Bool.not_true, Bool.not_false, Bool.true_beq, Bool.false_beq, map_vs, vs_len, vs_get, vs_take, vs_drop, vs_snoc1, vs_snoc2, vs_snoc3, vs_snoc5, vs_set1, vs_set2, vs_rep, wrap_id, le_T, lt_T, le_F, lt_F, leI_T, ltI_T, leI_F, ltI_F, geI, gtI, get_T, decide_true, decide_false, room, List.getElem?_map, List.length_map, List.length_take, Int.toNat_natCast, Nat.min_def, Nat.min_self]
   refine ⟨i + 1, ⟨hlt, fun j hj => ?_⟩, by simp only; omega, Weak.forget (by simp [Fgt])⟩
   rcases Nat.lt_or_ge j i with hji | hji
   ·exact h0 j hji
   ·have : j = i := by omega
    rw [this]; exact h
 ·simp (disch := omega) only [↓run_skip, ↓run_region, ↓run_draw, ↓run_both, ↓run_seq, ↓run_block, ↓run_exit, ↓run_ret, ↓run_cond, ↓atN_app, ↓seqC_normal, ↓seqC_exit, ↓seqC_ret, ↓seqQ_normal, ↓seqQ_exit, ↓seqQ_ret, ↓blkQ_normal, ↓blkQ_exit, ↓blkQ_ret, ↓runOps_nil, ↓runOps_cons, ↓runD_nil, ↓runD_cons, ↓grdO_true, ↓grdO_false, ↓grdD_true, ↓grdD_false, ↓ifC_true, ↓ifC_false, ↓opS_val, ↓opS_call, ↓opS_two, ↓opK_app, ↓dS_val, ↓dS_call, ↓dS_two, ↓dK_app, rechks_nil, rechks_cons, rechk, gcase_true, gcase_false, ex_val, ex_val0, gd_none, gd_some, nth_zero, nth_succ, upd_zero, upd_succ, put_some, put_none, ev_t, ev_c, evs_nil, evs_cons, evo_some, evo_none, hget_at, hget_first, hsetB_at, hsetB_first, hsetL_at, hsetL_first, ofOpt_some, aop, aload, astore, aslice, aappend, aiaddr, aiaddrA, afaddr, alen, alenS, acopy, amm, acall, alookup, amupdate, alenM, atostr, aappz, comma, keyEq, apick, binV, binVB, binVS, isSh, intOp, strOp, boolOp, shOp, eqC, eqF, and2, cellsOf, setFrom, fillA, fillS, rd, rdI, elems, mk, bounds, AV.cell, List.all_cons, List.all_nil, Bool.and_true, Bool.true_and, Bool.and_self, List.length_cons, List.length_nil, List.length_append, Nat.reduceAdd, Nat.reduceSub, Nat.reduceMul, Nat.zero_add, Nat.add_zero, List.replicate_succ, List.replicate_zero, List.cons_append, List.nil_append, List.append_assoc, List.append_nil, List.getElem?_cons_zero, List.getElem?_cons_succ, List.getElem?_nil, List.set_cons_zero, List.set_cons_succ, List.drop_zero, List.drop_succ_cons, List.take_zero, List.take_succ_cons, List.take_nil, List.drop_nil, List.map_cons, List.map_nil, Option.map_some, if_true, if_false, Bool.false_eq_true, and_self, true_and, and_true, Nat.reduceLeDiff, Nat.reduceLT, Nat.le_refl, Nat.reduceEqDiff, ite_true, ite_false, beq_self_eq_true, beq_true, beq_false, Bool.not_true, Bool.not_false, Bool.true_beq, Bool.false_beq, map_vs, vs_len, vs_get, vs_take, vs_drop, vs_snoc1, vs_snoc2, vs_snoc3, vs_snoc5, vs_set1, vs_set2, vs_rep, wrap_id, le_T, lt_T, le_F, lt_F, leI_T, ltI_T, leI_F, ltI_F, geI, gtI, get_T, decide_true, decide_false, room, List.getElem?_map, List.length_map, List.length_take, Int.toNat_natCast, Nat.min_def, Nat.min_self]
  obtain rfl : i = rows.length := by omega
  exact leave_pure (.inr rfl) rfl (.v _) hR hB ⟨by rw [wIdx_none h0]; rfl, rfl, rfl⟩

theorem wIdx_ge {p : Nat → Bool} {n : Nat} : decide (wIdx p n ≥ 0) = (List.range n).any p := by
 unfold wIdx
 cases h : (List.range n).find? p with
 | none =>
   have := List.find?_eq_none.1 h
   have hn : (List.range n).any p = false := by rw [List.any_eq_false]; exact this
   rw [hn]; rfl
 | some i =>
   have h1 := List.find?_some h
   have h2 := List.mem_of_find?_eq_some h
   have hn : (List.range n).any p = true := List.any_eq_true.2 ⟨i, h2, h1⟩
   rw [hn]; simp

theorem contains_spec {P : Program} {f g sz : Nat} (hf : cFunc P f = some (a_containsN g)) (hg : cFunc P g = some (a_indexN sz)) (rows : List (List IV)) (k : Nat) (caps : List AV) (p : Nat → Bool) (hlen : ∀ row ∈ rows, row.length = sz) (hn : rows.length ≤ 1000000) (b l : List Row)
  (hp : ∀ (i : Nat) (row : List IV), rows[i]? = some row → ACalls P k ([.agg (row.map .v)] ++ caps) (b ++ l) [] (fun r b' l' => r = .v (.bool (p i)) ∧ b' = b ++ l ∧ l' = [])) :
  ACalls P f [.v (.isl sz rows), .fn k caps] b l (fun r b' l' => r = .v (.bool ((List.range rows.length).any p)) ∧ b' = b ∧ l' = l) := by
 refine calls_of hf rfl ?_
 intro B hB hR hA
 simp only [a_containsN, ↓run_skip, ↓run_region, ↓run_draw, ↓run_both, ↓run_seq, ↓run_block, ↓run_exit, ↓run_ret, ↓run_cond, ↓atN_app, ↓seqC_normal, ↓seqC_exit, ↓seqC_ret, ↓seqQ_normal, ↓seqQ_exit, ↓seqQ_ret, ↓blkQ_normal, ↓blkQ_exit, ↓blkQ_ret, ↓runOps_nil, ↓runOps_cons, ↓runD_nil, ↓runD_cons, ↓grdO_true, ↓grdO_false, ↓grdD_true, ↓grdD_false, ↓ifC_true, ↓ifC_false, ↓opS_val, ↓opS_call, ↓opS_two, ↓opK_app, ↓dS_val, ↓dS_call, ↓dS_two, ↓dK_app, rechks_nil, rechks_cons, rechk, gcase_true, gcase_false, ex_val, ex_val0, gd_none, gd_some, nth_zero, nth_succ, upd_zero, upd_succ, put_some, put_none, ev_t, ev_c, evs_nil, evs_cons, evo_some, evo_none, hget_at, hget_first, hsetB_at, hsetB_first, hsetL_at, hsetL_first, ofOpt_some, aop, aload, astore, aslice, aappend, aiaddr, aiaddrA, afaddr, alen, alenS, acopy, amm, acall, alookup, amupdate, alenM, atostr, aappz, comma, keyEq, apick, binV, binVB, binVS, isSh, intOp, strOp, boolOp, shOp, eqC, eqF, and2, cellsOf, setFrom, fillA, fillS, rd, rdI, elems, mk, bounds, AV.cell, List.all_cons, List.all_nil, Bool.and_true, Bool.true_and, Bool.and_self, List.length_cons, List.length_nil, List.length_append, Nat.reduceAdd, Nat.reduceSub, Nat.reduceMul, Nat.zero_add, Nat.add_zero, List.replicate_succ, List.replicate_zero, List.cons_append, List.nil_append, List.append_assoc, List.append_nil, List.getElem?_cons_zero, List.getElem?_cons_succ, List.getElem?_nil, List.set_cons_zero, List.set_cons_succ, List.drop_zero, List.drop_succ_cons, List.take_zero, List.take_succ_cons, List.take_nil, List.drop_nil, List.map_cons, List.map_nil, Option.map_some, if_true, if_false, Bool.false_eq_true, and_self, true_and, and_true, Nat.reduceLeDiff, Nat.reduceLT, Nat.le_refl, Nat.reduceEqDiff, ite_true, ite_false, beq_self_eq_true, beq_true, beq_false, Bool.not_true, Bool.not_false, Bool.true_beq, Bool.false_beq]
 refine ACalls_mono _ _ _ _ _ _ (index_spec hg rows k caps p hlen hn B [] (by rw [List.append_nil, hB]; exact hp)) ?_
 rintro r b' l' ⟨rfl, rfl, rfl⟩
 simp only [↓run_skip, ↓run_region, ↓run_draw, ↓run_both, ↓run_seq, ↓run_block, ↓run_exit, ↓run_ret, ↓run_cond, ↓atN_app, ↓seqC_normal, ↓seqC_exit, ↓seqC_ret, ↓seqQ_normal, ↓seqQ_exit, ↓seqQ_ret, ↓blkQ_normal, ↓blkQ_exit, ↓blkQ_ret, ↓runOps_nil, ↓runOps_cons, ↓runD_nil, ↓runD_cons, ↓grdO_true, ↓grdO_false, ↓grdD_true, ↓grdD_false, ↓ifC_true, ↓ifC_false, ↓opS_val, ↓opS_call, ↓opS_two, ↓opK_app, ↓dS_val, ↓dS_call, ↓dS_two, ↓dK_app, rechks_nil, rechks_cons, rechk, gcase_true, gcase_false, ex_val, ex_val0, gd_none, gd_some, nth_zero, nth_succ, upd_zero, upd_succ, put_some, put_none, ev_t, ev_c, evs_nil, evs_cons, evo_some, evo_none, hget_at, hget_first, hsetB_at, hsetB_first, hsetL_at, hsetL_first, ofOpt_some, aop, aload, astore, aslice, aappend, aiaddr, aiaddrA, afaddr, alen, alenS, acopy, amm, acall, alookup, amupdate, alenM, atostr, aappz, comma, keyEq, apick, binV, binVB, binVS, isSh, intOp, strOp, boolOp, shOp, eqC, eqF, and2, cellsOf, setFrom, fillA, fillS, rd, rdI, elems, mk, bounds, AV.cell, List.all_cons, List.all_nil, Bool.and_true, Bool.true_and, Bool.and_self, List.length_cons, List.length_nil, List.length_append, Nat.reduceAdd, Nat.reduceSub, Nat.reduceMul, Nat.zero_add, Nat.add_zero, List.replicate_succ, List.replicate_zero, List.cons_append, List.nil_append, List.append_assoc, List.append_nil, List.getElem?_cons_zero, List.getElem?_cons_succ, List.getElem?_nil, List.set_cons_zero, List.set_cons_succ, List.drop_zero, List.drop_succ_cons, List.take_zero, List.take_succ_cons, List.take_nil, List.drop_nil, List.map_cons, List.map_nil, Option.map_some, if_true, if_false, Bool.false_eq_true, and_self, true_and, and_true, Nat.reduceLeDiff, Nat.reduceLT, Nat.le_refl, Nat.reduceEqDiff, ite_true, ite_false, beq_self_eq_true, beq_true, beq_false, Bool.not_true, Bool.not_false, Bool.true_beq, Bool.false_beq]
 exact leave_pure (.inr rfl) rfl (.v _) hR hB ⟨by rw [← wIdx_ge]; rfl, rfl, rfl⟩
end Go.Proofs.YtnihdkfmmbpilaaDoor
namespace Go.Proofs.YtnihdkfmmbpilaaDoor
set_option linter.unusedVariables false
set_option linter.unusedSimpArgs false
theorem Weak.nils {e : List AV} {b pre : List Row} {N v0 : Nat} (k : Nat) (hk : pre.length = k) : ∀ i, i ≤ N → Weak e b (pre ++ [.live v0 1 (List.replicate N [.v .zsl])]) e b
  (pre ++ .live v0 1 (fl N fun p => if p < i then [.sl (b.length + (k + 1 + p)) 0 0 0] else [.v .zsl]) :: fl i (fun _ => Row.live 0 1 []))
 | 0, _ => by
   have : (fl N fun p => if p < 0 then [.sl (b.length + (k + 1 + p)) 0 0 0] else [AV.v .zsl]) = List.replicate N [.v .zsl] := by
    rw [← fl_const]; exact fl_congr (fun j _ => if_neg oM)
   rw [this]
   exact Weak.refl _ _ _
 | i + 1, hi => by
   refine (Weak.nils k hk i oM).trans ?_
   have := Weak.nilcell (e := e) (b := b) (sz := 1) (i := k) (ver := v0) (z := 1) (k := i) (j := 0) (row := [.v .zsl]) (l := pre ++ .live v0 1 (fl N fun p => if p < i then [.sl (b.length + (k + 1 + p)) 0 0 0] else [.v .zsl]) :: fl i (fun _ => Row.live 0 1 [])) (by rw [List.getElem?_append_right oM, hk, Nat.sub_self]; rfl) (by rw [fl_get oM, if_neg oM]) rfl
   refine Weak.trans this ?_
   have e2 : (fl N fun p => if p < i then [.sl (b.length + (k + 1 + p)) 0 0 0] else [AV.v .zsl]).set i [.sl (b.length + (k + 1 + i)) 0 0 0] = fl N fun p => if p < i + 1 then [.sl (b.length + (k + 1 + p)) 0 0 0] else [.v .zsl] := by
    rw [fl_set]
    refine fl_congr (fun j _ => ?_)
    unfold fUp
    by_cases hj : j = i
    ·subst hj; rw [if_pos rfl, if_pos oM]
    ·rw [if_neg hj]
     show (if j < i then _ else _) = _
     by_cases hji : j < i
     ·rw [if_pos hji, if_pos oM]
     ·rw [if_neg hji, if_neg oM]
   have e3 : fl i (fun _ => Row.live 0 1 []) ++ [.live 0 1 []] = fl (i + 1) (fun _ => Row.live 0 1 []) := fl_next rfl
   have hlen : (pre ++ Row.live v0 1 (fl N fun p => if p < i then [.sl (b.length + (k + 1 + p)) 0 0 0] else [.v .zsl]) :: fl i (fun _ => Row.live 0 1 [])).length = k + 1 + i := by
    simp [fl_len, hk]; omega
   rw [hlen]
   simp only [List.set_cons_zero, List.set_append_right _ _ (show pre.length ≤ k by omega), hk, Nat.sub_self]
   rw [e2, List.append_assoc, List.cons_append, e3]
   exact Weak.refl _ _ _
theorem Weak.nilsAll {e : List AV} {b pre : List Row} {N v0 : Nat} (k : Nat) (hk : pre.length = k) : Weak e b (pre ++ [.live v0 1 (List.replicate N [.v .zsl])]) e b
  (pre ++ .live v0 1 (fl N fun p => [.sl (b.length + (k + 1 + p)) 0 0 0]) :: fl N (fun _ => Row.live 0 1 [])) := by
 have h := Weak.nils (e := e) (b := b) (pre := pre) (N := N) (v0 := v0) k hk N (Nat.le_refl _)
 have e2 : (fl N fun p => if p < N then [.sl (b.length + (k + 1 + p)) 0 0 0] else [AV.v IV.zsl]) = fl N fun p => [.sl (b.length + (k + 1 + p)) 0 0 0] := fl_congr (fun j hj => if_pos hj)
 rwa [e2] at h
theorem Weak.deepx {b l : List Row} {i ver sz : Nat} {rows : List (List IV)} (n : Nat) {x : AV} (hi : l[i]? = some (.live ver sz (vs rows))) : Weak [x] b l [deep (frz0 (b.length + i) ver sz rows) n x] b (l.set i (.dead ver)) := by
 intro F L w a s he
 obtain ⟨F2, s1, _, st1, k4⟩ := freeze_core (e := []) hi F L w { tmps := #[], defers := [] } s ⟨rfl, rfl, fun j x v hx hv => by simp at hx⟩
 refine ⟨F2, L, s1, ⟨he.1, by rw [he.2.1]; rfl, fun j y v hy hv => ?_⟩, st1, rfl⟩
 cases j with
 | zero =>
   simp at hy
   subst hy
   exact deep_rep k4 n x v ((he.2.2 0 x v rfl hv).mono st1.imm (fun _ _ => rfl) (fun _ _ _ h => h))
 | succ j => simp at hy
theorem leave_deepI {rs : List ARes} {Q : AV → List Row → List Row → Prop} {B e l : _} {ex : AExit} (hex : ex = .normal ∨ ex = .ret) {i ver sz : Nat} {rows : List (List IV)} (n : Nat) {xs : List AV} {y : AV} (hx : resVs e B l rs = some xs) (hi : l[i]? = some (.live ver sz (vs rows))) (hy : deep (frz0 (B.length + i) ver sz rows) n (one xs) = y) (hlt : AVlt B.length y)
  (hR : RowsLt B.length B) {b0 l0 : List Row} (hB : B = b0 ++ l0) (hq : Q y b0 l0) : Leaves rs Q b0.length ex e B l := by
 refine leave hex hx (y := y) (l' := []) ((Weak.deepx n hi).trans ?_) hB (by simpa using hq)
 rw [hy]
 exact Weak.trim (l1 := []) rfl (by intro z hz; simp only [List.mem_singleton] at hz; subst hz; simpa using hlt) (by simpa using hR) RowsLt_nil
end Go.Proofs.YtnihdkfmmbpilaaDoor
