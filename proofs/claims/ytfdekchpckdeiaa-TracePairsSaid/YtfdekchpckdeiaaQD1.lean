/- Texts of one proof, laid together: WQ, PJ. No condition. -/
import Derived.Test.YtfdekchpckdeiaaQB1
/- Runs whose frame is kept as a function of the slot, with what was put since. No condition. -/
namespace Go.Proofs.Ytfdekchpckdeiaa
set_option linter.unusedVariables false

/-- The frame of N slots that a function says. -/
def kOf (N : Nat) (f : Nat → AV) : List AV := (List.range N).map f
def kUp (f : Nat → AV) (n : Nat) (x : AV) : Nat → AV := fun m => if n = m then x else f m
theorem kUp_same {f : Nat → AV} {n : Nat} {x : AV} : kUp f n x n = x := by unfold kUp; rw [if_pos rfl]
theorem kUp_ne {f : Nat → AV} {n m : Nat} {x : AV} (h : n ≠ m) : kUp f n x m = f m := by unfold kUp; rw [if_neg h]
theorem kOf_len {N : Nat} {f : Nat → AV} : (kOf N f).length = N := by simp [kOf]
theorem kOf_get {N : Nat} {f : Nat → AV} {i : Nat} : (kOf N f)[i]? = if i < N then some (f i) else none := by
  unfold kOf
  rw [List.getElem?_map]
  split
  · rename_i h; rw [List.getElem?_range h]; rfl
  · rename_i h; rw [List.getElem?_eq_none (by simp; omega)]; rfl
theorem nth_kOf {N : Nat} {f : Nat → AV} {m : Nat} (h : m < N) : nth (kOf N f) m = f m := by
  rw [nth_eq, kOf_get, if_pos h]; rfl
theorem put_kOf {N : Nat} {f : Nat → AV} {n : Nat} {x : AV} : put (kOf N f) (some n) x = kOf N (kUp f n x) := by
  apply List.ext_getElem?
  intro i
  rw [put_some, upd_eq, kOf_get]
  by_cases hi : n = i
  · subst hi
    rw [List.getElem?_set, kOf_len]
    simp only [if_true]
    split
    · rw [kUp_same]
    · rfl
  · rw [List.getElem?_set_ne hi, kOf_get, kUp_ne hi]
theorem put_kNo {N : Nat} {f : Nat → AV} {x : AV} : put (kOf N f) none x = kOf N f := nr rfl

/-- Slots in these stretches are assigned. -/
def kIn : List (Nat × Nat) → Nat → Bool
  | [], _ => false
  | (a, c) :: r, n => (Nat.ble a n && Nat.ble n c) || kIn r n
def kAny (p : List (Nat × Nat)) (f : Nat → AV) : Nat → AV := fun m => if kIn p m = true then .any else f m
theorem kAny_up {p : List (Nat × Nat)} {f : Nat → AV} {n : Nat} {x : AV} (h : kIn p n = true) : kAny p (kUp f n x) = kAny p f := by
  funext m
  unfold kAny kUp
  by_cases hn : n = m
  · subst hn; rw [if_pos h, if_pos h]
  · rw [if_neg hn]
theorem kAny_idem {p : List (Nat × Nat)} {f : Nat → AV} : kAny p (kAny p f) = kAny p f := by
  funext m; unfold kAny; split <;> rfl
theorem kAny_out {p : List (Nat × Nat)} {f : Nat → AV} {n : Nat} (h : kIn p n = false) : kAny p f n = f n := by unfold kAny; rw [h]; simp

/-- The slots that are named hold what is said of them. -/
def KHas (f : Nat → AV) : List (Nat × AV) → Prop
  | [] => True
  | (n, x) :: r => f n = x ∧ KHas f r
def kOv : List (Nat × AV) → (Nat → AV) → Nat → AV
  | [], f => f
  | (n, x) :: r, f => kUp (kOv r f) n x
theorem kOv_nil {f : Nat → AV} : kOv [] f = f := nr rfl
theorem kOv_cons {n : Nat} {x : AV} {r : List (Nat × AV)} {f : Nat → AV} : kOv ((n, x) :: r) f = kUp (kOv r f) n x := nr rfl
def KLt (m : Nat) (f : Nat → AV) : Prop := ∀ i, AVlt m (f i)
theorem KLt.up {m n : Nat} {f : Nat → AV} {x : AV} (h : KLt m f) (hx : AVlt m x) : KLt m (kUp f n x) := by
  intro i; unfold kUp; split
  · exact hx
  · exact h i
theorem KLt.mono {m m' : Nat} {f : Nat → AV} (h : KLt m f) (hm : m ≤ m') : KLt m' f := fun i => (h i).mono hm
theorem KLt.any {m : Nat} {p : List (Nat × Nat)} {f : Nat → AV} (h : KLt m f) : KLt m (kAny p f) := by
  intro i; unfold kAny; split
  · exact .any
  · exact h i
def KOvLt (m : Nat) : List (Nat × AV) → Prop
  | [] => True
  | (_, x) :: r => AVlt m x ∧ KOvLt m r
theorem KLt.ov {m : Nat} {f : Nat → AV} (h : KLt m f) : ∀ {ov : List (Nat × AV)}, KOvLt m ov → KLt m (kOv ov f)
  | [], _ => h
  | (n, x) :: r, ho => by rw [kOv_cons]; exact KLt.up (KLt.ov h ho.2) ho.1
theorem KLt.env {m N : Nat} {f : Nat → AV} (h : KLt m f) : ∀ x ∈ kOf N f, AVlt m x := by
  intro x hx
  unfold kOf at hx
  obtain ⟨i, _, rfl⟩ := List.mem_map.1 hx
  exact h i

theorem kOv_get {f : Nat → AV} {i : Nat} : ∀ {ov : List (Nat × AV)}, kOv ov f i = f i ∨ (i, kOv ov f i) ∈ ov
  | [] => .inl rfl
  | (n, x) :: r => by
    rw [kOv_cons]
    by_cases hi : n = i
    · subst hi; rw [kUp_same]; exact .inr (by simp)
    · rw [kUp_ne hi]; exact (kOv_get (ov := r)).imp id (fun h => by simp [h])
theorem KHas.mem {f : Nat → AV} {n : Nat} {x : AV} : ∀ {ov : List (Nat × AV)}, KHas f ov → (n, x) ∈ ov → f n = x
  | [], _, h => by simp at h
  | (m, y) :: r, hh, h => by
    rcases List.mem_cons.1 h with h | h
    · cases h; exact hh.1
    · exact KHas.mem hh.2 h
theorem Weak.named {N : Nat} {f : Nat → AV} {b l : List Row} (p : List (Nat × Nat)) (ov : List (Nat × AV)) (h : KHas f ov) : Weak (kOf N f) b l (kOf N (kOv ov (kAny p f))) b l := by
  intro F L w a s he
  refine ⟨F, L, s, ⟨he.1, by rw [he.2.1, kOf_len, kOf_len], fun i x v hx hv => ?_⟩, Step.refl _ _ _ _ _, rfl⟩
  rw [kOf_get] at hx
  split at hx
  · rename_i hi
    cases hx
    rcases kOv_get (ov := ov) (f := kAny p f) (i := i) with hg | hg
    · rw [hg]
      unfold kAny
      split
      · exact .any v
      · exact he.2.2 i _ v (by rw [kOf_get, if_pos hi]) hv
    · rw [← h.mem hg]
      exact he.2.2 i _ v (by rw [kOf_get, if_pos hi]) hv
  · cases hx

/-- What a round must hand on. -/
def KRound {ι : Type} (N : Nat) (g : Nat → AV) (ov : ι → List (Nat × AV)) (B : List Row) (L : ι → List Row) (Cd : ι → Prop) (μ : ι → Nat) (i : ι) : List AV → List Row → List Row → Prop :=
  fun e b l => ∃ i', Cd i' ∧ μ i' < μ i ∧ Weak e b l (kOf N (kOv (ov i') g)) B (L i')

theorem loop_kept {P : Program} {c : ACode} {Q : AExit → List AV → List Row → List Row → Prop} {N : Nat} {f : Nat → AV} {b l : List Row} {ι : Type} (p : List (Nat × Nat)) (ov : ι → List (Nat × AV)) (k : Nat) (L : ι → List Row) (Cd : ι → Prop) (μ : ι → Nat) (i0 : ι) (h0 : Cd i0)
    (hlt : KLt (b.length + k) f) (hov : KHas f (ov i0)) (hw : ∀ e, Weak e b l e b (L i0))
    (step : ∀ g, KLt (b.length + k) g → kAny p g = g → (∀ n, kIn p n = false → g n = f n) → ∀ i, Cd i → run (ACalls P) Weak c (kOf N (kOv (ov i) g)) b (L i) (seqQ (KRound N g ov b L Cd μ i) Q)) : run (ACalls P) Weak (.loop c) (kOf N f) b l Q :=
  loop_rule (fun i => kOf N (kOv (ov i) (kAny p f))) (fun _ => b) L Cd μ i0 h0 ((Weak.named p _ hov).trans (hw _))
    (step (kAny p f) hlt.any kAny_idem (fun _ h => kAny_out h))

/-- The end of a round. -/
theorem Weak.kround {N : Nat} {p : List (Nat × Nat)} {ov : List (Nat × AV)} {f g : Nat → AV} {b l l1 junk : List Row} {k : Nat} (he : kAny p f = g) (h : KHas f ov) (hl : l = l1 ++ junk) (hE : KLt (b.length + k) g) (hk : k ≤ l1.length) (ho : KOvLt (b.length + l1.length) ov) (hb : RowsLt b.length b) (h1 : RowsLt (b.length + l1.length) l1) :
    Weak (kOf N f) b l (kOf N (kOv ov g)) b l1 := by
  subst he
  exact (Weak.named p ov h).trans (Weak.trim hl (((hE.mono (by omega)).ov ho).env) (hb.mono (by omega)) h1)

def KArgs (f : Nat → AV) : Nat → List AV → Prop
  | _, [] => True
  | i, a :: r => f i = a ∧ KArgs f (i + 1) r
theorem kArgs_of {args : List AV} : ∀ {r pre : List AV}, args = pre ++ r → KArgs (fun i => args.getD i (.tup [])) pre.length r
  | [], _, _ => trivial
  | a :: r, pre, h => by
    refine ⟨?_, ?_⟩
    · simp only [h, List.getD_eq_getElem?_getD]; rw [List.getElem?_append_right (Nat.le_refl _)]; simp
    · have := kArgs_of (args := args) (r := r) (pre := pre ++ [a]) (by rw [h]; simp)
      simpa using this
theorem calls_kept {P : Program} {f : Nat} {af : AFunc} (hf : cFunc P f = some af) {args : List AV} (ha : args.length = af.nargs) (hn : af.nargs ≤ af.ntmps) {b l : List Row} {Q : AV → List Row → List Row → Prop}
    (h : ∀ B g, B = b ++ l → RowsLt B.length B → KLt B.length g → KArgs g 0 args → run (ACalls P) Weak af.body (kOf af.ntmps g) B [] (Leaves af.res Q b.length)) : ACalls P f args b l Q := by
  refine calls_of hf ha (fun B hB hR hA => ?_)
  have := h B (fun i => args.getD i (.tup [])) hB hR ?_ (kArgs_of (pre := []) rfl)
  · have e : kOf af.ntmps (fun i => args.getD i (.tup [])) = args ++ List.replicate (af.ntmps - args.length) (.tup []) := by
      apply List.ext_getElem?
      intro i
      rw [kOf_get]
      by_cases hi : i < args.length
      · rw [if_pos (by omega), List.getElem?_append_left hi, List.getD_eq_getElem?_getD, List.getElem?_eq_getElem hi]; rfl
      · rw [List.getElem?_append_right (by omega), List.getElem?_replicate, List.getD_eq_getElem?_getD, List.getElem?_eq_none (by omega)]
        by_cases h2 : i < af.ntmps
        · rw [if_pos h2, if_pos (by omega)]; rfl
        · rw [if_neg h2, if_neg (by omega)]
    rw [← e]; exact this
  · intro i
    simp only [List.getD_eq_getElem?_getD]
    cases hq : args[i]? with
    | none => exact .tup _ (by simp)
    | some x => exact hA x (List.mem_of_getElem? hq)
theorem kAny_sub {p q : List (Nat × Nat)} {g f : Nat → AV} (hg : ∀ n, kIn q n = false → g n = f n) (hs : ∀ n, kIn q n = true → kIn p n = true) : kAny p g = kAny p f := by
  funext m
  unfold kAny
  cases hq : kIn q m with
  | true => rw [hs m hq]; simp
  | false => rw [hg m hq]
theorem kIn_one {p : List (Nat × Nat)} {a c n : Nat} : ∀ {p : List (Nat × Nat)}, p.any (fun y => Nat.ble y.1 a && Nat.ble c y.2) = true → a ≤ n → n ≤ c → kIn p n = true
  | [], h, _, _ => by simp at h
  | (x, y) :: r, h, h1, h2 => by
    simp only [List.any_cons, Bool.or_eq_true, Bool.and_eq_true, Nat.ble_eq] at h
    simp only [kIn, Bool.or_eq_true, Bool.and_eq_true, Nat.ble_eq]
    rcases h with h | h
    · exact .inl ⟨by omega, by omega⟩
    · exact .inr (kIn_one (p := p) h h1 h2)
theorem kIn_sub {p : List (Nat × Nat)} : ∀ {q : List (Nat × Nat)}, q.all (fun x => p.any (fun y => Nat.ble y.1 x.1 && Nat.ble x.2 y.2)) = true → ∀ n, kIn q n = true → kIn p n = true
  | [], _, n, hn => by simp [kIn] at hn
  | (a, c) :: r, h, n, hn => by
    simp only [List.all_cons, Bool.and_eq_true] at h
    simp only [kIn, Bool.or_eq_true, Bool.and_eq_true, Nat.ble_eq] at hn
    rcases hn with hn | hn
    · exact kIn_one (p := p) h.1 hn.1 hn.2
    · exact kIn_sub h.2 n hn
end Go.Proofs.Ytfdekchpckdeiaa

/- The law TracePairs, as a run. No condition but on lengths. -/
namespace Go.Proofs.Ytfdekchpckdeiaa
set_option linter.unusedVariables false
set_option linter.unusedSimpArgs false
attribute [local go_sem ↓] run_skip run_region run_draw run_seq run_block run_exit run_ret run_cond atN_app seqC_normal seqC_exit seqC_ret seqQ_normal seqQ_exit seqQ_ret blkQ_normal blkQ_exit blkQ_ret runOps_nil runOps_cons runD_nil runD_cons grdO_true grdO_false grdD_true grdD_false ifC_true ifC_false opS_val opS_call opS_two opK_app dS_val dS_call dS_two dK_app kUp_same kUp_ne
attribute [local go_sem] rechks_nil rechks_cons rechk gcase_true gcase_false ex_val ex_val0 gd_none gd_some ev_t ev_c evs_nil evs_cons evo_some evo_none hget_at hget_first hsetB_at hsetB_first hsetL_at hsetL_first ofOpt_some aop aload astore aslice aappend aiaddr aiaddrA afaddr alen alenS acopy amm acall apick binV binVB binVS isSh intOp strOp boolOp shOp eqC eqF and2 cellsOf setFrom fillA fillS rd rdI elems mk bounds AV.cell List.all_cons List.all_nil Bool.and_true Bool.true_and Bool.and_self List.length_cons List.length_nil List.length_append Nat.reduceAdd Nat.reduceSub Nat.reduceMul Nat.zero_add Nat.add_zero List.cons_append List.nil_append List.append_assoc List.append_nil List.getElem?_cons_zero List.getElem?_cons_succ List.getElem?_nil List.set_cons_zero List.set_cons_succ List.drop_zero List.drop_succ_cons List.take_zero List.take_succ_cons List.take_nil List.drop_nil List.map_cons List.map_nil Option.map_some if_true if_false Bool.false_eq_true and_self true_and and_true Nat.reduceLeDiff Nat.reduceLT Nat.le_refl Nat.reduceEqDiff ite_true ite_false beq_self_eq_true beq_true beq_false Bool.not_true Bool.not_false Bool.true_beq Bool.false_beq map_vs vs_len vs_get vs_take vs_drop vs_snoc1 vs_snoc2 vs_snoc3 vs_snoc5 vs_set1 vs_set2 vs_rep wrap_id le_T lt_T le_F lt_F leI_T ltI_T leI_F ltI_F geI gtI get_T decide_true decide_false room List.getElem?_map List.length_map List.length_take Int.toNat_natCast Nat.min_def Nat.min_self nth_kOf put_kOf put_kNo kOv_cons kOv_nil KHas KArgs List.getElem_cons_zero List.getElem_cons_succ
def a_TracePairs : AFunc := ⟨1, 173, [.tmp 2],
  (.seq (.region [⟨(some 1), .box (.t 0), none⟩, ⟨(some 2), .mv (.c (.v (.bool false))), none⟩])
  (.seq (.seq (.region [⟨(some 19), .call (.c (.fn 15 [])) [], none⟩, ⟨(some 20), .not (.t 19), none⟩])
  (.cond (.t 20) (.seq (.region [⟨(some 2), .mv (.c (.v (.bool false))), none⟩])
  .ret)
  .skip))
  (.seq (.seq (.region [⟨(some 21), .load (some 1) (.t 1), none⟩, ⟨(some 22), .call (.c (.fn 16 [])) [(.t 21)], none⟩, ⟨(some 23), .not (.t 22), none⟩, ⟨(some 24), .mv (.t 23), none⟩, ⟨(some 25), .load (some 1) (.t 1), some (24, false)⟩, ⟨(some 26), .call (.c (.fn 19 [])) [(.t 25)], some (24, false)⟩, ⟨(some 27), .not (.t 26), some (24, false)⟩, ⟨(some 28), .pick (.t 24) (.c (.v (.bool true))) (.t 27), none⟩])
  (.cond (.t 28) (.seq (.region [⟨(some 2), .mv (.c (.v (.bool true))), none⟩])
  .ret)
  .skip))
  (.seq (.region [⟨(some 3), .mv (.c (.v (.int .i64 0))), none⟩, ⟨(some 4), .mv (.c (.v (.int .i64 0))), none⟩])
  (.seq (.seq (.region [⟨(some 29), .faddr 0 (.t 1), none⟩, ⟨(some 30), .load none (.t 29), none⟩, ⟨(some 31), .len (.t 30), none⟩, ⟨(some 32), .mv (.c (.v (.int .i64 0))), none⟩])
  (.block 0 (.loop (.seq (.region [⟨(some 33), .bin .lss (.t 32) (.t 31), none⟩])
  (.seq (.cond (.t 33) .skip
  (.exit 0))
  (.seq (.block 1 (.seq (.region [⟨(some 34), .mv (.t 32), none⟩, ⟨(some 35), .iaddr 3 (.t 30) (.t 32), none⟩, ⟨(some 36), .load (some 3) (.t 35), none⟩, ⟨(some 6), .alloc [(.v (.str ⟨#[]⟩)), (.v .zsl), (.v .zsl)], none⟩, ⟨(some 5), .mv (.t 34), none⟩, ⟨none, .store 3 (.t 6) (.t 36), none⟩])
  (.seq (.region [⟨(some 37), .faddr 2 (.t 6), none⟩, ⟨(some 38), .load none (.t 37), none⟩, ⟨(some 39), .len (.t 38), none⟩, ⟨(some 40), .mv (.c (.v (.int .i64 0))), none⟩])
  (.block 2 (.loop (.seq (.region [⟨(some 41), .bin .lss (.t 40) (.t 39), none⟩])
  (.seq (.cond (.t 41) .skip
  (.exit 2))
  (.seq (.block 3 (.seq (.region [⟨(some 42), .mv (.t 40), none⟩, ⟨(some 43), .iaddr 5 (.t 38) (.t 40), none⟩, ⟨(some 44), .load (some 5) (.t 43), none⟩, ⟨(some 8), .alloc [(.v (.int .i64 0)), (.v (.int .i64 0)), (.v (.int .i64 0)), (.v (.int .i64 0)), (.v .zsl)], none⟩, ⟨(some 7), .mv (.t 42), none⟩, ⟨none, .store 5 (.t 8) (.t 44), none⟩])
  (.seq (.region [⟨(some 45), .mv (.t 5), none⟩, ⟨(some 46), .mv (.t 7), none⟩, ⟨(some 47), .bin .add (.t 46) (.c (.v (.int .i64 1))), none⟩, ⟨(some 48), .build [(.v (.int .i64 0)), (.v (.int .i64 0))] [(0, 1, (.t 45)), (1, 1, (.t 47))], none⟩, ⟨(some 9), .alloc [(.v (.int .i64 0)), (.v (.int .i64 0))], none⟩, ⟨none, .store 2 (.t 9) (.t 48), none⟩])
  (.seq (.region [⟨(some 50), .load (some 1) (.t 1), none⟩, ⟨(some 51), .faddr 2 (.t 8), none⟩, ⟨(some 52), .load none (.t 51), none⟩, ⟨(some 53), .call (.c (.fn 27 [])) [(.t 50), (.t 52)], none⟩, ⟨(some 49), .mv (.t 53), none⟩, ⟨(some 54), .extract 0 (.t 49), none⟩, ⟨(some 55), .extract 1 (.t 49), none⟩, ⟨(some 10), .alloc [(.v (.int .i64 0)), (.v (.int .i64 0))], none⟩, ⟨none, .store 2 (.t 10) (.t 54), none⟩, ⟨(some 11), .mv (.t 55), none⟩])
  (.seq (.region [⟨(some 57), .load (some 1) (.t 1), none⟩, ⟨(some 58), .faddr 2 (.t 8), none⟩, ⟨(some 59), .load none (.t 58), none⟩, ⟨(some 60), .call (.c (.fn 28 [])) [(.t 57), (.t 59)], none⟩, ⟨(some 56), .mv (.t 60), none⟩, ⟨(some 61), .extract 0 (.t 56), none⟩, ⟨(some 62), .extract 1 (.t 56), none⟩, ⟨(some 12), .alloc [(.v (.int .i64 0)), (.v (.int .i64 0))], none⟩, ⟨none, .store 2 (.t 12) (.t 61), none⟩, ⟨(some 13), .mv (.t 62), none⟩])
  (.seq (.region [⟨(some 63), .faddr 0 (.t 8), none⟩, ⟨(some 64), .load none (.t 63), none⟩])
  (.block 4 (.seq (.region [⟨(some 66), .bin .eql (.t 64) (.c (.v (.int .i64 2))), none⟩, ⟨(some 65), .mv (.t 66), none⟩])
  (.cond (.t 65) (.seq (.region [⟨(some 67), .mv (.t 3), none⟩, ⟨(some 68), .bin .add (.t 67) (.c (.v (.int .i64 1))), none⟩, ⟨(some 3), .mv (.t 68), none⟩])
  (.seq (.region [⟨(some 69), .load (some 2) (.t 10), none⟩, ⟨(some 70), .load (some 2) (.t 9), none⟩, ⟨(some 71), .eqs true [.i, .i] (.t 69) (.t 70), none⟩, ⟨(some 72), .mv (.t 71), none⟩, ⟨(some 73), .mv (.t 11), some (72, false)⟩, ⟨(some 74), .not (.t 73), some (72, false)⟩, ⟨(some 75), .pick (.t 72) (.c (.v (.bool true))) (.t 74), none⟩, ⟨(some 76), .mv (.t 75), none⟩, ⟨(some 77), .mv (.t 13), some (76, false)⟩, ⟨(some 78), .mv (.t 77), some (76, false)⟩, ⟨(some 79), .faddr 0 (.t 12), some (78, true)⟩, ⟨(some 80), .load none (.t 79), some (78, true)⟩, ⟨(some 81), .faddr 1 (.t 8), some (78, true)⟩, ⟨(some 82), .load none (.t 81), some (78, true)⟩, ⟨(some 83), .bin .neq (.t 80) (.t 82), some (78, true)⟩, ⟨(some 84), .pick (.t 78) (.t 83) (.c (.v (.bool false))), some (76, false)⟩, ⟨(some 85), .pick (.t 76) (.c (.v (.bool true))) (.t 84), none⟩])
  (.cond (.t 85) (.seq (.region [⟨(some 2), .mv (.c (.v (.bool false))), none⟩])
  .ret)
  .skip)))
  (.seq (.region [⟨(some 87), .bin .eql (.t 64) (.c (.v (.int .i64 3))), none⟩, ⟨(some 86), .mv (.t 87), none⟩])
  (.cond (.t 86) (.seq (.region [⟨(some 88), .mv (.t 4), none⟩, ⟨(some 89), .bin .add (.t 88) (.c (.v (.int .i64 1))), none⟩, ⟨(some 4), .mv (.t 89), none⟩])
  (.seq (.draw [⟨0, ⟨(some 90), .load (some 2) (.t 12), none⟩, []⟩, ⟨1, ⟨(some 91), .load (some 2) (.t 9), none⟩, []⟩, ⟨2, ⟨(some 92), .eqs true [.i, .i] (.t 90) (.t 91), none⟩, []⟩, ⟨3, ⟨(some 93), .mv (.t 92), none⟩, []⟩, ⟨4, ⟨(some 94), .mv (.t 13), some (93, false)⟩, []⟩, ⟨5, ⟨(some 95), .not (.t 94), some (93, false)⟩, []⟩, ⟨6, ⟨(some 96), .pick (.t 93) (.c (.v (.bool true))) (.t 95), none⟩, []⟩, ⟨7, ⟨(some 97), .mv (.t 96), none⟩, []⟩, ⟨8, ⟨(some 98), .mv (.t 11), some (97, false)⟩, []⟩, ⟨9, ⟨(some 99), .not (.t 98), some (97, false)⟩, []⟩, ⟨10, ⟨(some 100), .pick (.t 97) (.c (.v (.bool true))) (.t 99), none⟩, []⟩, ⟨11, ⟨(some 101), .mv (.t 100), none⟩, []⟩, ⟨12, ⟨(some 102), .faddr 0 (.t 10), some (101, false)⟩, []⟩, ⟨13, ⟨(some 103), .load none (.t 102), some (101, false)⟩, []⟩, ⟨14, ⟨(some 104), .faddr 1 (.t 8), some (101, false)⟩, []⟩, ⟨15, ⟨(some 105), .load none (.t 104), some (101, false)⟩, []⟩, ⟨16, ⟨(some 106), .bin .neq (.t 103) (.t 105), some (101, false)⟩, []⟩, ⟨17, ⟨(some 107), .pick (.t 101) (.c (.v (.bool true))) (.t 106), none⟩, []⟩, ⟨18, ⟨(some 108), .mv (.t 107), none⟩, []⟩, ⟨19, ⟨(some 109), .faddr 1 (.t 10), some (108, false)⟩, []⟩, ⟨20, ⟨(some 110), .load none (.t 109), some (108, false)⟩, []⟩, ⟨21, ⟨(some 111), .bin .lss (.t 110) (.c (.v (.int .i64 1))), some (108, false)⟩, []⟩, ⟨22, ⟨(some 112), .pick (.t 108) (.c (.v (.bool true))) (.t 111), none⟩, []⟩, ⟨23, ⟨(some 113), .mv (.t 112), none⟩, []⟩, ⟨24, ⟨(some 114), .faddr 1 (.t 10), some (113, false)⟩, []⟩, ⟨25, ⟨(some 115), .load none (.t 114), some (113, false)⟩, []⟩, ⟨26, ⟨(some 116), .faddr 0 (.t 1), some (113, false)⟩, []⟩, ⟨27, ⟨(some 117), .load none (.t 116), some (113, false)⟩, []⟩, ⟨28, ⟨(some 118), .faddr 0 (.t 10), some (113, false)⟩, []⟩, ⟨29, ⟨(some 119), .load none (.t 118), some (113, false)⟩, []⟩, ⟨30, ⟨(some 120), .iaddr 3 (.t 117) (.t 119), some (113, false)⟩, []⟩, ⟨31, ⟨(some 121), .faddr 2 (.t 120), some (113, false)⟩, []⟩, ⟨32, ⟨(some 122), .load none (.t 121), some (113, false)⟩, []⟩, ⟨33, ⟨(some 123), .len (.t 122), some (113, false)⟩, []⟩, ⟨34, ⟨(some 124), .bin .gtr (.t 115) (.t 123), some (113, false)⟩, []⟩, ⟨35, ⟨(some 125), .pick (.t 113) (.c (.v (.bool true))) (.t 124), none⟩, []⟩, ⟨36, ⟨(some 126), .mv (.t 125), none⟩, []⟩, ⟨37, ⟨(some 127), .faddr 0 (.t 1), some (126, false)⟩, []⟩, ⟨38, ⟨(some 128), .load none (.t 127), some (126, false)⟩, []⟩, ⟨39, ⟨(some 129), .faddr 0 (.t 10), some (126, false)⟩, []⟩, ⟨40, ⟨(some 130), .load none (.t 129), some (126, false)⟩, []⟩, ⟨41, ⟨(some 131), .iaddr 3 (.t 128) (.t 130), some (126, false)⟩, []⟩, ⟨42, ⟨(some 132), .faddr 2 (.t 131), some (126, false)⟩, []⟩, ⟨43, ⟨(some 133), .load none (.t 132), some (126, false)⟩, []⟩, ⟨44, ⟨(some 134), .faddr 1 (.t 10), some (126, false)⟩, []⟩, ⟨45, ⟨(some 135), .load none (.t 134), some (126, false)⟩, []⟩, ⟨46, ⟨(some 136), .bin .sub (.t 135) (.c (.v (.int .i64 1))), some (126, false)⟩, []⟩, ⟨47, ⟨(some 137), .iaddr 5 (.t 133) (.t 136), some (126, false)⟩, []⟩, ⟨48, ⟨(some 138), .faddr 1 (.t 137), some (126, false)⟩, []⟩, ⟨49, ⟨(some 139), .load none (.t 138), some (126, false)⟩, []⟩, ⟨50, ⟨(some 140), .mv (.t 5), some (126, false)⟩, []⟩, ⟨51, ⟨(some 141), .bin .neq (.t 139) (.t 140), some (126, false)⟩, []⟩, ⟨52, ⟨(some 142), .pick (.t 126) (.c (.v (.bool true))) (.t 141), none⟩, []⟩])
  (.cond (.t 142) (.seq (.region [⟨(some 2), .mv (.c (.v (.bool false))), none⟩])
  .ret)
  .skip)))
  .skip)))))))))))
  (.region [⟨(some 143), .bin .add (.t 40) (.c (.v (.int .i64 1))), none⟩, ⟨(some 40), .mv (.t 143), none⟩])))))))))
  (.region [⟨(some 144), .bin .add (.t 32) (.c (.v (.int .i64 1))), none⟩, ⟨(some 32), .mv (.t 144), none⟩])))))))
  (.seq (.seq (.region [⟨(some 14), .mv (.c (.v (.int .i64 (-1)))), none⟩])
  (.block 5 (.loop (.seq (.seq (.region [⟨(some 145), .mv (.t 14), none⟩, ⟨(some 146), .bin .leq (.t 145) (.c (.v (.int .i64 200))), none⟩])
  (.cond (.t 146) .skip
  (.exit 5)))
  (.seq (.block 6 (.seq (.seq (.region [⟨(some 150), .load (some 1) (.t 1), none⟩, ⟨(some 151), .mv (.t 14), none⟩, ⟨(some 152), .call (.c (.fn 27 [])) [(.t 150), (.t 151)], none⟩, ⟨(some 149), .mv (.t 152), none⟩, ⟨(some 153), .extract 0 (.t 149), none⟩, ⟨(some 154), .extract 1 (.t 149), none⟩, ⟨(some 15), .alloc [(.v (.int .i64 0)), (.v (.int .i64 0))], none⟩, ⟨none, .store 2 (.t 15) (.t 153), none⟩, ⟨(some 16), .mv (.t 154), none⟩])
  (.seq (.region [⟨(some 155), .mv (.t 16), none⟩])
  (.cond (.t 155) (.region [⟨(some 156), .mv (.t 3), none⟩, ⟨(some 157), .bin .sub (.t 156) (.c (.v (.int .i64 1))), none⟩, ⟨(some 3), .mv (.t 157), none⟩])
  .skip)))
  (.seq (.region [⟨(some 159), .load (some 1) (.t 1), none⟩, ⟨(some 160), .mv (.t 14), none⟩, ⟨(some 161), .call (.c (.fn 28 [])) [(.t 159), (.t 160)], none⟩, ⟨(some 158), .mv (.t 161), none⟩, ⟨(some 162), .extract 0 (.t 158), none⟩, ⟨(some 163), .extract 1 (.t 158), none⟩, ⟨(some 17), .alloc [(.v (.int .i64 0)), (.v (.int .i64 0))], none⟩, ⟨none, .store 2 (.t 17) (.t 162), none⟩, ⟨(some 18), .mv (.t 163), none⟩])
  (.seq (.region [⟨(some 164), .mv (.t 18), none⟩])
  (.cond (.t 164) (.region [⟨(some 165), .mv (.t 4), none⟩, ⟨(some 166), .bin .sub (.t 165) (.c (.v (.int .i64 1))), none⟩, ⟨(some 4), .mv (.t 166), none⟩])
  .skip)))))
  (.region [⟨(some 147), .mv (.t 14), none⟩, ⟨(some 148), .bin .add (.t 147) (.c (.v (.int .i64 1))), none⟩, ⟨(some 14), .mv (.t 148), none⟩]))))))
  (.seq (.region [⟨(some 167), .mv (.t 3), none⟩, ⟨(some 168), .bin .eql (.t 167) (.c (.v (.int .i64 0))), none⟩, ⟨(some 169), .mv (.t 168), none⟩, ⟨(some 170), .mv (.t 4), some (169, true)⟩, ⟨(some 171), .bin .eql (.t 170) (.c (.v (.int .i64 0))), some (169, true)⟩, ⟨(some 172), .pick (.t 169) (.t 171) (.c (.v (.bool false))), none⟩, ⟨(some 2), .mv (.t 172), none⟩])
  .ret)))))))⟩
theorem a_TracePairs_ok : cFunc Try.prog 6 = some a_TracePairs := by kernel_rfl
def r_TracePairs0 : List (Nat × Nat) := [(2, 13), (32, 144)]
def r_TracePairs1 : List (Nat × Nat) := [(2, 4), (7, 13), (40, 143)]
def r_TracePairs2 : List (Nat × Nat) := [(3, 4), (14, 18), (145, 166)]


theorem evsOf_at' {t : Tr} {p : Nat} (h : p < t.length) : evsOf t p = t[p].evs := by unfold evsOf; simp [List.getD, h]
/-! What pairs senders and receivers in a valid trace. -/
section
variable {t : Tr}
theorem findV_of {k m : Int} {x : Nat × Nat} (h : findL t k m = some x) : findV t k m = x := (firstOf_find h).1
theorem pair_self (hv : validL t = true) {x : Nat × Nat} (hx : x ∈ ids t) (hk : (evAt t x).kind = 2 ∨ (evAt t x).kind = 3) : findL t (evAt t x).kind (evAt t x).msg = some x := by
  have h := (valid_ok hv).pair x hx
  unfold pairF at h
  rcases hk with hk | hk
  · rw [hk] at h ⊢
    rw [if_pos (show ((2 : Int) == 2) = true from rfl)] at h
    split at h
    · rename_i q; simpa using q
    · simp at h
  · rw [hk] at h ⊢
    rw [if_neg (show ¬ ((3 : Int) == 2) = true by decide), if_pos (show ((3 : Int) == 3) = true from rfl)] at h
    split at h
    · rename_i q; simpa using q
    · simp at h
theorem pair_recv (hv : validL t = true) {x : Nat × Nat} (hx : x ∈ ids t) (hk : (evAt t x).kind = 3) : ∃ q : Nat, (evAt t x).peer = q ∧ q < t.length ∧ sendsB t q (evAt t x).msg x.1 = true := by
  obtain ⟨m, q, hm, hm2, hq, hq2, _⟩ := formed_open (valid_form hv x hx) (by rw [hk]; rfl)
  refine ⟨q, hq, hq2, ?_⟩
  have h := (valid_ok hv).pair x hx
  unfold pairF at h
  rw [hk] at h
  have h1 := pair_self hv hx (.inr hk)
  rw [hk] at h1
  rw [h1, hq] at h
  simp at h
  simpa using h
/-- The sender that a receive names. -/
theorem pair_sender (hv : validL t = true) {x : Nat × Nat} (hx : x ∈ ids t) (hk : (evAt t x).kind = 3) : ∃ y ∈ ids t, findV t 2 (evAt t x).msg = y ∧ (evAt t y).kind = 2 ∧ (evAt t y).msg = (evAt t x).msg ∧ (evAt t y).peer = x.1 ∧ (evAt t x).peer = y.1 := by
  obtain ⟨q, hq, hq2, hs⟩ := pair_recv hv hx hk
  unfold sendsB at hs
  obtain ⟨e, he, hb⟩ := List.any_eq_true.1 hs
  simp only [Bool.and_eq_true, beq_iff_eq] at hb
  rw [evsOf_at' hq2] at he
  obtain ⟨j, hj⟩ := List.mem_iff_getElem?.1 he
  have hjl := (List.getElem?_eq_some_iff.1 hj).1
  have hyi : (q, j + 1) ∈ ids t := mem_ids.2 ⟨hq2, by simp, by simp; omega⟩
  have hye : evAt t (q, j + 1) = e := by rw [evAt_at hq2 hjl]; exact (List.getElem?_eq_some_iff.1 hj).2
  have hf := pair_self hv hyi (by rw [hye]; exact .inl hb.1.1)
  rw [hye, hb.1.1, hb.1.2] at hf
  exact ⟨(q, j + 1), hyi, findV_of hf, by rw [hye]; exact hb.1.1, by rw [hye]; exact hb.1.2, by rw [hye]; exact hb.2, hq⟩
theorem findV_some {k m : Int} (h : 0 < (findV t k m).2) : findV t k m ∈ ids t ∧ (evAt t (findV t k m)).kind = k ∧ (evAt t (findV t k m)).msg = m := by
  obtain ⟨h1, h2⟩ := firstOf_mem h
  have h3 := find_key h2
  exact ⟨h1, h3⟩
theorem nodup_map_of {α β : Type} {f : α → β} : ∀ {l : List α}, l.Nodup → (∀ a ∈ l, ∀ c ∈ l, f a = f c → a = c) → (l.map f).Nodup
  | [], _, _ => by simp
  | a :: l, h, hf => by
    obtain ⟨h1, h2⟩ := List.nodup_cons.1 h
    rw [List.map_cons, List.nodup_cons]
    refine ⟨fun hm => ?_, nodup_map_of h2 (fun x hx y hy => hf x (by simp [hx]) y (by simp [hy]))⟩
    obtain ⟨c, hc, he⟩ := List.mem_map.1 hm
    exact h1 (hf c (by simp [hc]) a (by simp) he ▸ hc)
def cK (t : Tr) (k : Int) (l : List (Nat × Nat)) : Nat := l.countP fun x => (evAt t x).kind == k
def fnd (t : Tr) (k : Int) (j : Nat) : Bool := decide (0 < (findV t k ((j : Int) - 1)).2)
/-- As many numbers are found as there are events. -/
theorem count_eq (hv : validL t = true) {k : Int} (hk : k = 2 ∨ k = 3) : cK t k (ids t) = (List.range 202).countP (fnd t k) := by
  unfold cK
  rw [List.countP_eq_length_filter, List.countP_eq_length_filter]
  have msg : ∀ x ∈ (ids t).filter (fun x => (evAt t x).kind == k), x ∈ ids t ∧ (evAt t x).kind = k ∧ ∃ m : Nat, (evAt t x).msg = m ∧ m < 200 ∧ findL t k m = some x := by
    intro x hx
    obtain ⟨h1, h2⟩ := List.mem_filter.1 hx
    have h2 : (evAt t x).kind = k := by simpa using h2
    obtain ⟨m, _, hm, hm2, _⟩ := formed_open (valid_form hv x h1) (by rw [h2]; rcases hk with rfl | rfl <;> rfl)
    have h3 := pair_self hv h1 (by rw [h2]; exact hk)
    rw [h2, hm] at h3
    exact ⟨h1, h2, m, hm, hm2, h3⟩
  have hS : (((ids t).filter (fun x => (evAt t x).kind == k)).map (fun x => ((evAt t x).msg + 1).toNat)).Nodup := by
    refine nodup_map_of ((nodup_ids t).filter _) (fun x hx y hy he => ?_)
    obtain ⟨_, _, m, hm, _, h1⟩ := msg x hx
    obtain ⟨_, _, m', hm', _, h2⟩ := msg y hy
    have : m = m' := by rw [hm, hm'] at he; omega
    subst this
    rw [h1] at h2; cases h2; rfl
  have hL : ((List.range 202).filter (fnd t k)).Nodup := List.nodup_range.filter _
  rw [← List.length_map (fun x => ((evAt t x).msg + 1).toNat)]
  refine Nat.le_antisymm (nodup_le hS (fun n hn => ?_)) (nodup_le hL (fun n hn => ?_))
  · obtain ⟨x, hx, rfl⟩ := List.mem_map.1 hn
    obtain ⟨h0, _, m, hm, hm2, h1⟩ := msg x hx
    refine List.mem_filter.2 ⟨List.mem_range.2 (by rw [hm]; omega), ?_⟩
    unfold fnd
    rw [hm, show (((m : Int) + 1).toNat : Int) - 1 = m by omega, findV_of h1]
    exact decide_eq_true (mem_pos h0)
  · obtain ⟨h1, h2⟩ := List.mem_filter.1 hn
    have h2 : 0 < (findV t k ((n : Int) - 1)).2 := by simpa [fnd] using h2
    obtain ⟨g1, g2, g3⟩ := findV_some h2
    refine List.mem_map.2 ⟨_, List.mem_filter.2 ⟨g1, by simpa using g2⟩, ?_⟩
    rw [g3]; omega
theorem cK_le (t : Tr) (k : Int) (p i : Nat) (hp : p < t.length) (hi : i ≤ t[p].evs.length) : cK t k (idsTo t p i) ≤ (ids t).length := by
  obtain ⟨c, hc⟩ := idsTo_prefix t p i hp hi
  have h1 := List.countP_le_length (p := fun x => (evAt t x).kind == k) (l := idsTo t p i)
  unfold cK
  rw [← hc, List.length_append]; omega
theorem cK_snoc (t : Tr) (k : Int) (l : List (Nat × Nat)) (x : Nat × Nat) : cK t k (l ++ [x]) = cK t k l + if (evAt t x).kind == k then 1 else 0 := by
  unfold cK; rw [List.countP_append, List.countP_cons, List.countP_nil]; simp
theorem cnt_snoc (t : Tr) (k : Int) (n : Nat) : (List.range (n + 1)).countP (fnd t k) = (List.range n).countP (fnd t k) + if fnd t k n then 1 else 0 := by
  rw [List.range_succ, List.countP_append, List.countP_cons, List.countP_nil]; simp
end

theorem ids_le {t : Tr} {N : Nat} (h : ∀ x ∈ t, x.evs.length ≤ N) : ∀ p, p ≤ t.length → (idsTo t p 0).length ≤ p * N
  | 0, _ => by simp [idsTo]
  | p + 1, hp => by
    have ih := ids_le h p (by omega)
    have hl := h _ (List.getElem_mem (show p < t.length by omega))
    rw [← idsTo_next t p (by omega), Nat.add_mul]
    have : (idsTo t p t[p].evs.length).length = (idsTo t p 0).length + t[p].evs.length := by simp [idsTo]
    omega
theorem few_ids {t : Tr} (h : fewB t = true) : (ids t).length ≤ 1000 := by
  unfold fewB at h
  simp only [Bool.and_eq_true, decide_eq_true_eq, List.all_eq_true, List.mem_range, Bool.not_eq_true'] at h
  obtain ⟨h1, h2⟩ := h
  have key : ∀ x ∈ t, x.evs.length ≤ 70 := by
    intro x hx
    obtain ⟨i, hi⟩ := List.mem_iff_getElem?.1 hx
    have hb := h2 i (List.getElem?_eq_some_iff.1 hi).1
    unfold badAt at hb
    rw [hi] at hb
    simp only [longP, Bool.or_eq_false_iff, decide_eq_false_iff_not] at hb
    omega
  have := ids_le key t.length (Nat.le_refl _)
  rw [idsTo_all] at this
  have h3 : t.length * 70 ≤ 12 * 70 := Nat.mul_le_mul_right 70 h1
  omega

def cntN (t : Tr) (k : Int) (n : Nat) : Nat := (List.range n).countP (fnd t k)
theorem cntN_snoc (t : Tr) (k : Int) (n : Nat) : cntN t k (n + 1) = cntN t k n + if fnd t k n then 1 else 0 := cnt_snoc t k n
theorem cntN_le (t : Tr) (k : Int) (n : Nat) : cntN t k n ≤ n := by
  have := List.countP_le_length (p := fnd t k) (l := List.range n)
  rwa [List.length_range] at this
set_option maxRecDepth 20000 in
set_option maxHeartbeats 4000000 in
theorem tracePairs_run (t : Tr) (hF : Fits t) (hN : Nm t) (b l : List Row) :
    ACalls Try.prog 6 [.agg [.v (eT t)]] b l (fun r b' l' => r = .v (.bool true) ∧ b' = b ∧ l' = l) := by
  refine calls_kept a_TracePairs_ok rfl (by decide) ?_
  intro B g hB hR hE hA
  simp only [KArgs] at hA
  simp (disch := decide) only [a_TracePairs, eT, hA, go_sem]
  refine ACalls_mono _ _ _ _ _ _ (awake_spec _ _) ?_
  rintro r b' l' ⟨rfl, rfl, rfl⟩
  simp (disch := decide) only [hA, go_sem]
  refine ACalls_mono _ _ _ _ _ _ (few_spec t hF _ _) ?_
  rintro r b' l' ⟨rfl, rfl, rfl⟩
  cases hf : fewB t
  · simp (disch := decide) only [hA, go_sem]
    exact leave_pure (xs := [.v (.bool true)]) (.inr rfl) (by simp (disch := (first | decide | omega)) only [resVs, resV, go_sem, hA]) (by simp only [one, AVlt_v, AVlt_any, AVlt_sl, AVlt_ptr, AVlt_agg, AVlt_tup, AVlt_fn, RowsLt_nil, RowsLt_live, RowsLt_dead, List.mem_cons, List.not_mem_nil, List.forall_mem_cons, List.forall_mem_nil, or_false, false_or, forall_eq_or_imp, forall_eq, vs_lt, Nat.add_lt_add_iff_left, Nat.reduceLT, true_and, and_true, and_self, List.length_cons, List.length_nil, Nat.reduceAdd, Nat.zero_add, implies_true, false_imp_iff, lt_T, List.mem_map]) hR hB ⟨rfl, rfl, rfl⟩
  have hS := few_small hf
  have hnp := hS.np
  have hcnt := few_ids hf
  simp (disch := decide) only [hA, go_sem]
  refine ACalls_mono _ _ _ _ _ _ (valid_spec t hS hN _ _) ?_
  rintro r b' l' ⟨rfl, rfl, rfl⟩
  cases hv : validL t
  · simp (disch := decide) only [hA, go_sem]
    exact leave_pure (xs := [.v (.bool true)]) (.inr rfl) (by simp (disch := (first | decide | omega)) only [resVs, resV, go_sem, hA]) (by simp only [one, AVlt_v, AVlt_any, AVlt_sl, AVlt_ptr, AVlt_agg, AVlt_tup, AVlt_fn, RowsLt_nil, RowsLt_live, RowsLt_dead, List.mem_cons, List.not_mem_nil, List.forall_mem_cons, List.forall_mem_nil, or_false, false_or, forall_eq_or_imp, forall_eq, vs_lt, Nat.add_lt_add_iff_left, Nat.reduceLT, true_and, and_true, and_self, List.length_cons, List.length_nil, Nat.reduceAdd, Nat.zero_add, implies_true, false_imp_iff, lt_T, List.mem_map]) hR hB ⟨rfl, rfl, rfl⟩
  simp (disch := decide) only [hA, List.length_map, go_sem]
  have fR : ∀ k m, findR t k m = findV t k m := fun k m => by unfold findR; rw [if_pos hv]
  have z0 : ∀ k, cK t k (idsTo t 0 0) = 0 := fun k => rfl
  refine loop_kept (ι := Nat) r_TracePairs0 (fun p => [(3, .v (.int .i64 (cK t 2 (idsTo t p 0)))), (4, .v (.int .i64 (cK t 3 (idsTo t p 0)))), (32, .v (.int .i64 p))]) 1 (fun _ => [.live 0 1 [[.v (.isl 3 (t.map ePr))]]])
    (fun p => p ≤ t.length) (fun p => t.length - p) 0 (Nat.zero_le _) (by (repeat (first | exact hE.mono (by omega) | refine KLt.up ?_ (by simp (disch := omega) only [AVlt_v, AVlt_any, AVlt_sl, AVlt_ptr, AVlt_agg, AVlt_tup, AVlt_fn, RowsLt_nil, RowsLt_live, RowsLt_dead, List.mem_cons, List.not_mem_nil, List.forall_mem_cons, List.forall_mem_nil, or_false, false_or, forall_eq_or_imp, forall_eq, vs_lt, Nat.add_lt_add_iff_left, Nat.reduceLT, true_and, and_true, and_self, List.length_cons, List.length_nil, Nat.reduceAdd, Nat.zero_add, implies_true, false_imp_iff, lt_T, List.mem_map])))) (by ((try simp (disch := decide) only [hA, z0, go_sem]) <;> (repeat' (first | exact trivial | refine And.intro ?_ ?_)) <;> (first | rfl | (congr 2; omega)))) (fun e => Weak.refl _ _ _) ?_
  intro g1 hE1 hEE1 hg1 p hp
  by_cases hpl : p < t.length
  · have hne := hS.ne _ (List.getElem_mem hpl)
    simp (disch := (first | decide | omega)) only [hA, hg1, ePr, go_sem]
    refine loop_kept (ι := Nat) r_TracePairs1 (fun i => [(3, .v (.int .i64 (cK t 2 (idsTo t p i)))), (4, .v (.int .i64 (cK t 3 (idsTo t p i)))), (40, .v (.int .i64 i))]) 2 (fun _ => [.live 0 1 [[.v (.isl 3 (t.map ePr))]], .live 0 3 [[.v (.str t[p].name), .v (.isl 2 (t[p].vars.map eVr)), .v (.isl 5 (t[p].evs.map eEv))]]])
      (fun i => i ≤ t[p].evs.length) (fun i => t[p].evs.length - i) 0 (Nat.zero_le _) (by (repeat (first | exact hE1.mono (by omega) | refine KLt.up ?_ (by simp (disch := omega) only [AVlt_v, AVlt_any, AVlt_sl, AVlt_ptr, AVlt_agg, AVlt_tup, AVlt_fn, RowsLt_nil, RowsLt_live, RowsLt_dead, List.mem_cons, List.not_mem_nil, List.forall_mem_cons, List.forall_mem_nil, or_false, false_or, forall_eq_or_imp, forall_eq, vs_lt, Nat.add_lt_add_iff_left, Nat.reduceLT, true_and, and_true, and_self, List.length_cons, List.length_nil, Nat.reduceAdd, Nat.zero_add, implies_true, false_imp_iff, lt_T, List.mem_map])))) (by ((try simp (disch := decide) only [hA, hg1, go_sem]) <;> (repeat' (first | exact trivial | refine And.intro ?_ ?_)) <;> (first | rfl | (congr 2; omega)))) (fun e => Weak.refl _ _ _) ?_
    intro g2 hE2 hEE2 hg2 i hi
    by_cases hil : i < t[p].evs.length
    · have hx : (p, i + 1) ∈ ids t := mem_ids.2 ⟨hpl, by simp, by simp; omega⟩
      have hev := evAt_at hpl hil
      have c2 := cK_le t 2 p i hpl hi
      have c3 := cK_le t 3 p i hpl hi
      have n2 := cK_snoc t 2 (idsTo t p i) (p, i + 1)
      have n3 := cK_snoc t 3 (idsTo t p i) (p, i + 1)
      rw [← idsTo_succ, hev] at n2 n3
      have hcast : ((i + 1 : Nat) : Int) = (i : Int) + 1 := by omega
      have beqs : ∀ n : Int, (n == n) = true := by intro n; simp
      by_cases hk2 : t[p].evs[i].kind = 2
      · have hs := pair_self hv hx (.inl (by rw [hev]; exact hk2))
        rw [hev, hk2] at hs
        have hs := findV_of hs
        have hk2b : (t[p].evs[i].kind == 2) = true := by rw [hk2]; rfl
        have hk3b : (t[p].evs[i].kind == 3) = false := by rw [hk2]; rfl
        rw [hk2b, if_pos rfl] at n2
        rw [hk3b] at n3
        have n2 : cK t 2 (idsTo t p (i + 1)) = cK t 2 (idsTo t p i) + 1 := n2
        have n3 : cK t 3 (idsTo t p (i + 1)) = cK t 3 (idsTo t p i) := n3
        have n2c : ((cK t 2 (idsTo t p (i + 1)) : Nat) : Int) = (cK t 2 (idsTo t p i) : Int) + 1 := by omega
        have hrp : 0 < (findV t 3 t[p].evs[i].msg).2 → t[p].evs[i].peer = (findV t 3 t[p].evs[i].msg).1 := by
          intro h
          obtain ⟨g1, g2, g3⟩ := findV_some h
          obtain ⟨y, _, e1, _, _, e4, _⟩ := pair_sender hv g1 g2
          rw [g3, hs] at e1
          subst e1
          rw [hev] at e4
          exact e4
        simp (disch := (first | decide | omega)) only [hA, hg1, hg2, eEv, go_sem]
        refine ACalls_mono _ _ _ _ _ _ (sender_spec t hS hN _ _ _) ?_
        rintro r b' l' ⟨rfl, rfl, rfl⟩
        simp only [fR, hs, idA, hcast]
        simp (disch := (first | decide | omega)) only [hA, hg1, hg2, go_sem]
        refine ACalls_mono _ _ _ _ _ _ (receiver_spec t hS hN _ _ _) ?_
        rintro r b' l' ⟨rfl, rfl, rfl⟩
        simp only [fR, idA]
        have hp1 : decide (0 < i + 1) = true := decide_eq_true (by omega)
        by_cases hr : 0 < (findV t 3 t[p].evs[i].msg).2
        · have hrd := decide_eq_true hr
          have hne2 : (((findV t 3 t[p].evs[i].msg).1 : Int) != t[p].evs[i].peer) = false := by rw [hrp hr]; simp
          simp (disch := (first | decide | omega)) only [hA, hg1, hg2, hk2b, hp1, hrd, hne2, beqs, go_sem]
          refine ⟨i + 1, hil, by simp only; omega, ?_⟩
          exact Weak.kround (p := r_TracePairs1) (k := 2) (by ((repeat refine (kAny_up rfl).trans ?_); exact hEE2)) (by ((try simp (disch := decide) only [n2c, n3, go_sem]) <;> (repeat' (first | exact trivial | refine And.intro ?_ ?_)) <;> (first | rfl | (congr 2; omega)))) rfl hE2 (by simp) (by simp (disch := omega) only [KOvLt, AVlt_v, AVlt_any, AVlt_sl, AVlt_ptr, AVlt_agg, AVlt_tup, AVlt_fn, RowsLt_nil, RowsLt_live, RowsLt_dead, List.mem_cons, List.not_mem_nil, List.forall_mem_cons, List.forall_mem_nil, or_false, false_or, forall_eq_or_imp, forall_eq, vs_lt, Nat.add_lt_add_iff_left, Nat.reduceLT, true_and, and_true, and_self, List.length_cons, List.length_nil, Nat.reduceAdd, Nat.zero_add, implies_true, false_imp_iff, lt_T, List.mem_map]) hR (by simp (disch := omega) only [AVlt_v, AVlt_any, AVlt_sl, AVlt_ptr, AVlt_agg, AVlt_tup, AVlt_fn, RowsLt_nil, RowsLt_live, RowsLt_dead, List.mem_cons, List.not_mem_nil, List.forall_mem_cons, List.forall_mem_nil, or_false, false_or, forall_eq_or_imp, forall_eq, vs_lt, Nat.add_lt_add_iff_left, Nat.reduceLT, true_and, and_true, and_self, List.length_cons, List.length_nil, Nat.reduceAdd, Nat.zero_add, implies_true, false_imp_iff, lt_T, List.mem_map])
        · have hrd := decide_eq_false hr
          simp (disch := (first | decide | omega)) only [hA, hg1, hg2, hk2b, hp1, hrd, beqs, go_sem]
          refine ⟨i + 1, hil, by simp only; omega, ?_⟩
          exact Weak.kround (p := r_TracePairs1) (k := 2) (by ((repeat refine (kAny_up rfl).trans ?_); exact hEE2)) (by ((try simp (disch := decide) only [n2c, n3, go_sem]) <;> (repeat' (first | exact trivial | refine And.intro ?_ ?_)) <;> (first | rfl | (congr 2; omega)))) rfl hE2 (by simp) (by simp (disch := omega) only [KOvLt, AVlt_v, AVlt_any, AVlt_sl, AVlt_ptr, AVlt_agg, AVlt_tup, AVlt_fn, RowsLt_nil, RowsLt_live, RowsLt_dead, List.mem_cons, List.not_mem_nil, List.forall_mem_cons, List.forall_mem_nil, or_false, false_or, forall_eq_or_imp, forall_eq, vs_lt, Nat.add_lt_add_iff_left, Nat.reduceLT, true_and, and_true, and_self, List.length_cons, List.length_nil, Nat.reduceAdd, Nat.zero_add, implies_true, false_imp_iff, lt_T, List.mem_map]) hR (by simp (disch := omega) only [AVlt_v, AVlt_any, AVlt_sl, AVlt_ptr, AVlt_agg, AVlt_tup, AVlt_fn, RowsLt_nil, RowsLt_live, RowsLt_dead, List.mem_cons, List.not_mem_nil, List.forall_mem_cons, List.forall_mem_nil, or_false, false_or, forall_eq_or_imp, forall_eq, vs_lt, Nat.add_lt_add_iff_left, Nat.reduceLT, true_and, and_true, and_self, List.length_cons, List.length_nil, Nat.reduceAdd, Nat.zero_add, implies_true, false_imp_iff, lt_T, List.mem_map])
      have hk2b : (t[p].evs[i].kind == 2) = false := by simpa using hk2
      rw [hk2b] at n2
      have n2 : cK t 2 (idsTo t p (i + 1)) = cK t 2 (idsTo t p i) := n2
      by_cases hk3 : t[p].evs[i].kind = 3
      · have hs := pair_self hv hx (.inr (by rw [hev]; exact hk3))
        rw [hev, hk3] at hs
        have hs := findV_of hs
        have hk3b : (t[p].evs[i].kind == 3) = true := by rw [hk3]; rfl
        rw [hk3b, if_pos rfl] at n3
        have n3 : cK t 3 (idsTo t p (i + 1)) = cK t 3 (idsTo t p i) + 1 := n3
        have n3c : ((cK t 3 (idsTo t p (i + 1)) : Nat) : Int) = (cK t 3 (idsTo t p i) : Int) + 1 := by omega
        obtain ⟨⟨q, j1⟩, hy, e1, e2, e3, e4, e5⟩ := pair_sender hv hx (by rw [hev]; exact hk3)
        obtain ⟨q1, q2, q3⟩ := mem_ids.1 hy
        simp only at q1 q2 q3
        obtain ⟨j, rfl⟩ : ∃ j, j1 = j + 1 := ⟨j1 - 1, by omega⟩
        have hjl : j < t[q].evs.length := by omega
        have hnq := hS.ne _ (List.getElem_mem q1)
        rw [hev] at e1 e5
        rw [evAt_at q1 hjl] at e4
        simp only at e4 e5
        have hcj : ((j + 1 : Nat) : Int) = (j : Int) + 1 := by omega
        have hp1 : decide (0 < i + 1) = true := decide_eq_true (by omega)
        have hp2 : decide (0 < j + 1) = true := decide_eq_true (by omega)
        have nes : ∀ n : Int, (n != n) = false := by intro n; simp
        have hl1 : decide ((j : Int) + 1 < 1) = false := by simp; omega
        have hl2 : decide ((j : Int) + 1 > (t[q].evs.length : Int)) = false := by simp; omega
        have hj3 : ((j : Int) + 1 - 1) = j := by omega
        simp (disch := (first | decide | omega)) only [hA, hg1, hg2, eEv, go_sem]
        refine ACalls_mono _ _ _ _ _ _ (sender_spec t hS hN _ _ _) ?_
        rintro r b' l' ⟨rfl, rfl, rfl⟩
        simp only [fR, e1, idA, hcj]
        simp (disch := (first | decide | omega)) only [hA, hg1, hg2, go_sem]
        refine ACalls_mono _ _ _ _ _ _ (receiver_spec t hS hN _ _ _) ?_
        rintro r b' l' ⟨rfl, rfl, rfl⟩
        simp only [fR, hs, idA, hcast]
        simp (disch := (first | decide | omega)) only [hA, hg1, hg2, hk2b, hk3b, hp1, hp2, beqs, e5, nes, hl1, hl2, hj3, ePr, eEv, e4, go_sem]
        refine ⟨i + 1, hil, by simp only; omega, ?_⟩
        exact Weak.kround (p := r_TracePairs1) (k := 2) (by ((repeat refine (kAny_up rfl).trans ?_); exact hEE2)) (by ((try simp (disch := decide) only [n2, n3c, go_sem]) <;> (repeat' (first | exact trivial | refine And.intro ?_ ?_)) <;> (first | rfl | (congr 2; omega)))) rfl hE2 (by simp) (by simp (disch := omega) only [KOvLt, AVlt_v, AVlt_any, AVlt_sl, AVlt_ptr, AVlt_agg, AVlt_tup, AVlt_fn, RowsLt_nil, RowsLt_live, RowsLt_dead, List.mem_cons, List.not_mem_nil, List.forall_mem_cons, List.forall_mem_nil, or_false, false_or, forall_eq_or_imp, forall_eq, vs_lt, Nat.add_lt_add_iff_left, Nat.reduceLT, true_and, and_true, and_self, List.length_cons, List.length_nil, Nat.reduceAdd, Nat.zero_add, implies_true, false_imp_iff, lt_T, List.mem_map]) hR (by simp (disch := omega) only [AVlt_v, AVlt_any, AVlt_sl, AVlt_ptr, AVlt_agg, AVlt_tup, AVlt_fn, RowsLt_nil, RowsLt_live, RowsLt_dead, List.mem_cons, List.not_mem_nil, List.forall_mem_cons, List.forall_mem_nil, or_false, false_or, forall_eq_or_imp, forall_eq, vs_lt, Nat.add_lt_add_iff_left, Nat.reduceLT, true_and, and_true, and_self, List.length_cons, List.length_nil, Nat.reduceAdd, Nat.zero_add, implies_true, false_imp_iff, lt_T, List.mem_map])
      · have hk3b : (t[p].evs[i].kind == 3) = false := by simpa using hk3
        rw [hk3b] at n3
        have n3 : cK t 3 (idsTo t p (i + 1)) = cK t 3 (idsTo t p i) := n3
        simp (disch := (first | decide | omega)) only [hA, hg1, hg2, eEv, go_sem]
        refine ACalls_mono _ _ _ _ _ _ (sender_spec t hS hN _ _ _) ?_
        rintro r b' l' ⟨rfl, rfl, rfl⟩
        simp only [fR, idA]
        simp (disch := (first | decide | omega)) only [hA, hg1, hg2, go_sem]
        refine ACalls_mono _ _ _ _ _ _ (receiver_spec t hS hN _ _ _) ?_
        rintro r b' l' ⟨rfl, rfl, rfl⟩
        simp only [fR, idA]
        simp (disch := (first | decide | omega)) only [hA, hg1, hg2, hk2b, hk3b, go_sem]
        refine ⟨i + 1, hil, by simp only; omega, ?_⟩
        exact Weak.kround (p := r_TracePairs1) (k := 2) (by ((repeat refine (kAny_up rfl).trans ?_); exact hEE2)) (by ((try simp (disch := decide) only [n2, n3, go_sem]) <;> (repeat' (first | exact trivial | refine And.intro ?_ ?_)) <;> (first | rfl | (congr 2; omega)))) rfl hE2 (by simp) (by simp (disch := omega) only [KOvLt, AVlt_v, AVlt_any, AVlt_sl, AVlt_ptr, AVlt_agg, AVlt_tup, AVlt_fn, RowsLt_nil, RowsLt_live, RowsLt_dead, List.mem_cons, List.not_mem_nil, List.forall_mem_cons, List.forall_mem_nil, or_false, false_or, forall_eq_or_imp, forall_eq, vs_lt, Nat.add_lt_add_iff_left, Nat.reduceLT, true_and, and_true, and_self, List.length_cons, List.length_nil, Nat.reduceAdd, Nat.zero_add, implies_true, false_imp_iff, lt_T, List.mem_map]) hR (by simp (disch := omega) only [AVlt_v, AVlt_any, AVlt_sl, AVlt_ptr, AVlt_agg, AVlt_tup, AVlt_fn, RowsLt_nil, RowsLt_live, RowsLt_dead, List.mem_cons, List.not_mem_nil, List.forall_mem_cons, List.forall_mem_nil, or_false, false_or, forall_eq_or_imp, forall_eq, vs_lt, Nat.add_lt_add_iff_left, Nat.reduceLT, true_and, and_true, and_self, List.length_cons, List.length_nil, Nat.reduceAdd, Nat.zero_add, implies_true, false_imp_iff, lt_T, List.mem_map])
    · simp (disch := (first | decide | omega)) only [hA, hg1, hg2, go_sem]
      obtain rfl : i = t[p].evs.length := by omega
      refine ⟨p + 1, hpl, by simp only; omega, ?_⟩
      have hnx := idsTo_next t p hpl
      exact Weak.kround (p := r_TracePairs0) (k := 1) (by ((repeat refine (kAny_up rfl).trans ?_); refine (kAny_sub hg2 (kIn_sub rfl)).trans ?_; (repeat refine (kAny_up rfl).trans ?_); exact hEE1)) (by ((try simp (disch := decide) only [hnx, go_sem]) <;> (repeat' (first | exact trivial | refine And.intro ?_ ?_)) <;> (first | rfl | (congr 2; omega)))) rfl hE1 (by simp) (by simp (disch := omega) only [KOvLt, AVlt_v, AVlt_any, AVlt_sl, AVlt_ptr, AVlt_agg, AVlt_tup, AVlt_fn, RowsLt_nil, RowsLt_live, RowsLt_dead, List.mem_cons, List.not_mem_nil, List.forall_mem_cons, List.forall_mem_nil, or_false, false_or, forall_eq_or_imp, forall_eq, vs_lt, Nat.add_lt_add_iff_left, Nat.reduceLT, true_and, and_true, and_self, List.length_cons, List.length_nil, Nat.reduceAdd, Nat.zero_add, implies_true, false_imp_iff, lt_T, List.mem_map]) hR (by simp (disch := omega) only [AVlt_v, AVlt_any, AVlt_sl, AVlt_ptr, AVlt_agg, AVlt_tup, AVlt_fn, RowsLt_nil, RowsLt_live, RowsLt_dead, List.mem_cons, List.not_mem_nil, List.forall_mem_cons, List.forall_mem_nil, or_false, false_or, forall_eq_or_imp, forall_eq, vs_lt, Nat.add_lt_add_iff_left, Nat.reduceLT, true_and, and_true, and_self, List.length_cons, List.length_nil, Nat.reduceAdd, Nat.zero_add, implies_true, false_imp_iff, lt_T, List.mem_map])
  · simp (disch := (first | decide | omega)) only [hA, hg1, go_sem]
    obtain rfl : p = t.length := by omega
    rw [idsTo_all]
    have t2 : cK t 2 (ids t) = cntN t 2 202 := count_eq hv (.inl rfl)
    have t3 : cK t 3 (ids t) = cntN t 3 202 := count_eq hv (.inr rfl)
    have s0 : ∀ k, (cK t k (ids t) : Int) - (cntN t k 0 : Nat) = (cK t k (ids t) : Int) := fun k => by simp [cntN]
    refine loop_kept (ι := Nat) r_TracePairs2 (fun k => [(3, .v (.int .i64 ((cK t 2 (ids t) : Int) - (cntN t 2 k : Nat)))), (4, .v (.int .i64 ((cK t 3 (ids t) : Int) - (cntN t 3 k : Nat)))), (14, .v (.int .i64 ((k : Int) - 1)))]) 1 (fun _ => [.live 0 1 [[.v (.isl 3 (t.map ePr))]]])
      (fun k => k ≤ 202) (fun k => 202 - k) 0 (Nat.zero_le _) (by (repeat (first | exact hE1.mono (by omega) | refine KLt.up ?_ (by simp (disch := omega) only [AVlt_v, AVlt_any, AVlt_sl, AVlt_ptr, AVlt_agg, AVlt_tup, AVlt_fn, RowsLt_nil, RowsLt_live, RowsLt_dead, List.mem_cons, List.not_mem_nil, List.forall_mem_cons, List.forall_mem_nil, or_false, false_or, forall_eq_or_imp, forall_eq, vs_lt, Nat.add_lt_add_iff_left, Nat.reduceLT, true_and, and_true, and_self, List.length_cons, List.length_nil, Nat.reduceAdd, Nat.zero_add, implies_true, false_imp_iff, lt_T, List.mem_map])))) (by ((try simp (disch := decide) only [hA, hg1, s0, go_sem]) <;> (repeat' (first | exact trivial | refine And.intro ?_ ?_)) <;> (first | rfl | (congr 2; omega)))) (fun e => Weak.refl _ _ _) ?_
    intro g3 hE3 hEE3 hg3 k hk
    by_cases hkl : k < 202
    · have c2 := cntN_le t 2 k
      have c3 := cntN_le t 3 k
      have b2 : cK t 2 (ids t) ≤ 202 := by rw [t2]; exact cntN_le t 2 202
      have b3 : cK t 3 (ids t) ≤ 202 := by rw [t3]; exact cntN_le t 3 202
      have hle : decide ((k : Int) - 1 ≤ 200) = true := by simp; omega
      have hinc : (k : Int) - 1 + 1 = ((k + 1 : Nat) : Int) - 1 := by omega
      have stay : ∀ k', fnd t k' k = false → (cK t k' (ids t) : Int) - (cntN t k' (k + 1) : Nat) = (cK t k' (ids t) : Int) - (cntN t k' k : Nat) := fun k' h => by rw [cntN_snoc, h]; simp
      have down : ∀ k', fnd t k' k = true → (cK t k' (ids t) : Int) - (cntN t k' (k + 1) : Nat) = (cK t k' (ids t) : Int) - (cntN t k' k : Nat) - 1 := fun k' h => by rw [cntN_snoc, h, if_pos rfl]; omega
      simp (disch := (first | decide | omega)) only [hA, hg1, hg3, hle, go_sem]
      refine ACalls_mono _ _ _ _ _ _ (sender_spec t hS hN _ _ _) ?_
      rintro r b' l' ⟨rfl, rfl, rfl⟩
      simp only [fR, idA]
      cases q2 : fnd t 2 k <;> have q2' : decide (0 < (findV t 2 ((k : Int) - 1)).2) = _ := q2
      · have e2 := stay 2 q2
        simp (disch := (first | decide | omega)) only [hA, hg1, hg3, q2', go_sem]
        refine ACalls_mono _ _ _ _ _ _ (receiver_spec t hS hN _ _ _) ?_
        rintro r b' l' ⟨rfl, rfl, rfl⟩
        simp only [fR, idA]
        cases q3 : fnd t 3 k <;> have q3' : decide (0 < (findV t 3 ((k : Int) - 1)).2) = _ := q3
        · have e3 := stay 3 q3
          simp (disch := (first | decide | omega)) only [hA, hg1, hg3, q3', hinc, go_sem]
          refine ⟨k + 1, hkl, by simp only; omega, ?_⟩
          exact Weak.kround (p := r_TracePairs2) (k := 1) (by ((repeat refine (kAny_up rfl).trans ?_); exact hEE3)) (by ((try simp (disch := decide) only [e2, e3, go_sem]) <;> (repeat' (first | exact trivial | refine And.intro ?_ ?_)) <;> (first | rfl | (congr 2; omega)))) rfl hE3 (by simp) (by simp (disch := omega) only [KOvLt, AVlt_v, AVlt_any, AVlt_sl, AVlt_ptr, AVlt_agg, AVlt_tup, AVlt_fn, RowsLt_nil, RowsLt_live, RowsLt_dead, List.mem_cons, List.not_mem_nil, List.forall_mem_cons, List.forall_mem_nil, or_false, false_or, forall_eq_or_imp, forall_eq, vs_lt, Nat.add_lt_add_iff_left, Nat.reduceLT, true_and, and_true, and_self, List.length_cons, List.length_nil, Nat.reduceAdd, Nat.zero_add, implies_true, false_imp_iff, lt_T, List.mem_map]) hR (by simp (disch := omega) only [AVlt_v, AVlt_any, AVlt_sl, AVlt_ptr, AVlt_agg, AVlt_tup, AVlt_fn, RowsLt_nil, RowsLt_live, RowsLt_dead, List.mem_cons, List.not_mem_nil, List.forall_mem_cons, List.forall_mem_nil, or_false, false_or, forall_eq_or_imp, forall_eq, vs_lt, Nat.add_lt_add_iff_left, Nat.reduceLT, true_and, and_true, and_self, List.length_cons, List.length_nil, Nat.reduceAdd, Nat.zero_add, implies_true, false_imp_iff, lt_T, List.mem_map])
        · have e3 := down 3 q3
          simp (disch := (first | decide | omega)) only [hA, hg1, hg3, q3', hinc, go_sem]
          refine ⟨k + 1, hkl, by simp only; omega, ?_⟩
          exact Weak.kround (p := r_TracePairs2) (k := 1) (by ((repeat refine (kAny_up rfl).trans ?_); exact hEE3)) (by ((try simp (disch := decide) only [e2, e3, go_sem]) <;> (repeat' (first | exact trivial | refine And.intro ?_ ?_)) <;> (first | rfl | (congr 2; omega)))) rfl hE3 (by simp) (by simp (disch := omega) only [KOvLt, AVlt_v, AVlt_any, AVlt_sl, AVlt_ptr, AVlt_agg, AVlt_tup, AVlt_fn, RowsLt_nil, RowsLt_live, RowsLt_dead, List.mem_cons, List.not_mem_nil, List.forall_mem_cons, List.forall_mem_nil, or_false, false_or, forall_eq_or_imp, forall_eq, vs_lt, Nat.add_lt_add_iff_left, Nat.reduceLT, true_and, and_true, and_self, List.length_cons, List.length_nil, Nat.reduceAdd, Nat.zero_add, implies_true, false_imp_iff, lt_T, List.mem_map]) hR (by simp (disch := omega) only [AVlt_v, AVlt_any, AVlt_sl, AVlt_ptr, AVlt_agg, AVlt_tup, AVlt_fn, RowsLt_nil, RowsLt_live, RowsLt_dead, List.mem_cons, List.not_mem_nil, List.forall_mem_cons, List.forall_mem_nil, or_false, false_or, forall_eq_or_imp, forall_eq, vs_lt, Nat.add_lt_add_iff_left, Nat.reduceLT, true_and, and_true, and_self, List.length_cons, List.length_nil, Nat.reduceAdd, Nat.zero_add, implies_true, false_imp_iff, lt_T, List.mem_map])
      · have e2 := down 2 q2
        simp (disch := (first | decide | omega)) only [hA, hg1, hg3, q2', go_sem]
        refine ACalls_mono _ _ _ _ _ _ (receiver_spec t hS hN _ _ _) ?_
        rintro r b' l' ⟨rfl, rfl, rfl⟩
        simp only [fR, idA]
        cases q3 : fnd t 3 k <;> have q3' : decide (0 < (findV t 3 ((k : Int) - 1)).2) = _ := q3
        · have e3 := stay 3 q3
          simp (disch := (first | decide | omega)) only [hA, hg1, hg3, q3', hinc, go_sem]
          refine ⟨k + 1, hkl, by simp only; omega, ?_⟩
          exact Weak.kround (p := r_TracePairs2) (k := 1) (by ((repeat refine (kAny_up rfl).trans ?_); exact hEE3)) (by ((try simp (disch := decide) only [e2, e3, go_sem]) <;> (repeat' (first | exact trivial | refine And.intro ?_ ?_)) <;> (first | rfl | (congr 2; omega)))) rfl hE3 (by simp) (by simp (disch := omega) only [KOvLt, AVlt_v, AVlt_any, AVlt_sl, AVlt_ptr, AVlt_agg, AVlt_tup, AVlt_fn, RowsLt_nil, RowsLt_live, RowsLt_dead, List.mem_cons, List.not_mem_nil, List.forall_mem_cons, List.forall_mem_nil, or_false, false_or, forall_eq_or_imp, forall_eq, vs_lt, Nat.add_lt_add_iff_left, Nat.reduceLT, true_and, and_true, and_self, List.length_cons, List.length_nil, Nat.reduceAdd, Nat.zero_add, implies_true, false_imp_iff, lt_T, List.mem_map]) hR (by simp (disch := omega) only [AVlt_v, AVlt_any, AVlt_sl, AVlt_ptr, AVlt_agg, AVlt_tup, AVlt_fn, RowsLt_nil, RowsLt_live, RowsLt_dead, List.mem_cons, List.not_mem_nil, List.forall_mem_cons, List.forall_mem_nil, or_false, false_or, forall_eq_or_imp, forall_eq, vs_lt, Nat.add_lt_add_iff_left, Nat.reduceLT, true_and, and_true, and_self, List.length_cons, List.length_nil, Nat.reduceAdd, Nat.zero_add, implies_true, false_imp_iff, lt_T, List.mem_map])
        · have e3 := down 3 q3
          simp (disch := (first | decide | omega)) only [hA, hg1, hg3, q3', hinc, go_sem]
          refine ⟨k + 1, hkl, by simp only; omega, ?_⟩
          exact Weak.kround (p := r_TracePairs2) (k := 1) (by ((repeat refine (kAny_up rfl).trans ?_); exact hEE3)) (by ((try simp (disch := decide) only [e2, e3, go_sem]) <;> (repeat' (first | exact trivial | refine And.intro ?_ ?_)) <;> (first | rfl | (congr 2; omega)))) rfl hE3 (by simp) (by simp (disch := omega) only [KOvLt, AVlt_v, AVlt_any, AVlt_sl, AVlt_ptr, AVlt_agg, AVlt_tup, AVlt_fn, RowsLt_nil, RowsLt_live, RowsLt_dead, List.mem_cons, List.not_mem_nil, List.forall_mem_cons, List.forall_mem_nil, or_false, false_or, forall_eq_or_imp, forall_eq, vs_lt, Nat.add_lt_add_iff_left, Nat.reduceLT, true_and, and_true, and_self, List.length_cons, List.length_nil, Nat.reduceAdd, Nat.zero_add, implies_true, false_imp_iff, lt_T, List.mem_map]) hR (by simp (disch := omega) only [AVlt_v, AVlt_any, AVlt_sl, AVlt_ptr, AVlt_agg, AVlt_tup, AVlt_fn, RowsLt_nil, RowsLt_live, RowsLt_dead, List.mem_cons, List.not_mem_nil, List.forall_mem_cons, List.forall_mem_nil, or_false, false_or, forall_eq_or_imp, forall_eq, vs_lt, Nat.add_lt_add_iff_left, Nat.reduceLT, true_and, and_true, and_self, List.length_cons, List.length_nil, Nat.reduceAdd, Nat.zero_add, implies_true, false_imp_iff, lt_T, List.mem_map])
    · obtain rfl : k = 202 := by omega
      have hle : decide (((202 : Nat) : Int) - 1 ≤ 200) = false := by simp
      have z2 : ((cK t 2 (ids t) : Int) - (cntN t 2 202 : Nat) == 0) = true := by rw [t2]; simp
      have z3 : ((cK t 3 (ids t) : Int) - (cntN t 3 202 : Nat) == 0) = true := by rw [t3]; simp
      simp (disch := (first | decide | omega)) only [hA, hg1, hg3, hle, z2, z3, go_sem]
      exact leave_pure (xs := [.v (.bool true)]) (.inr rfl) (by simp (disch := (first | decide | omega)) only [resVs, resV, go_sem, hA, hg1, hg3]) (by simp only [one, AVlt_v, AVlt_any, AVlt_sl, AVlt_ptr, AVlt_agg, AVlt_tup, AVlt_fn, RowsLt_nil, RowsLt_live, RowsLt_dead, List.mem_cons, List.not_mem_nil, List.forall_mem_cons, List.forall_mem_nil, or_false, false_or, forall_eq_or_imp, forall_eq, vs_lt, Nat.add_lt_add_iff_left, Nat.reduceLT, true_and, and_true, and_self, List.length_cons, List.length_nil, Nat.reduceAdd, Nat.zero_add, implies_true, false_imp_iff, lt_T, List.mem_map]) hR hB ⟨rfl, rfl, rfl⟩
end Go.Proofs.Ytfdekchpckdeiaa
