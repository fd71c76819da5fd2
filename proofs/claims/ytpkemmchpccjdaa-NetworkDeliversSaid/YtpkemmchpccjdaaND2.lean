/- Texts of one proof, laid together: WD, WC, WE, WP, WQ, WZ, E0, E1, WR, DV, DR, WY, DP, DQ. No condition. -/
import Derived.Test.YtpkemmchpccjdaaND1
namespace Go.Proofs.Ytpkemmchpccjdaa
set_option linter.unusedVariables false

section
variable {e e' : List AV} {b l b' l' : List Row}

theorem ev_congr {x : Opd} (h : ∀ s ∈ x.slot, nth e s = nth e' s) : ev e x = ev e' x := by
 cases x with
 | t n => exact h n (by simp [Opd.slot])
 | c x => rfl
theorem evs_congr : ∀ {xs : List Opd}, (∀ s ∈ slots xs, nth e s = nth e' s) → evs e xs = evs e' xs
 | [], _ => rfl
 | x :: xs, h => by
   simp only [evs]
   rw [ev_congr (x := x) (fun s hs => h s (by simp [slots, hs])), evs_congr (xs := xs) (fun s hs => h s (by simp [slots, hs]))]
theorem evo_congr {x : Option Opd} (h : ∀ s ∈ slotO x, nth e s = nth e' s) : evo e x = evo e' x := by
 cases x with
 | none => rfl
 | some x => simp only [evo]; rw [ev_congr (x := x) h]
theorem fillA_congr : ∀ {ps : List (Nat × Nat × Opd)} {row : List AV}, (∀ s ∈ slots (ps.map (·.2.2)), nth e s = nth e' s) → fillA e row ps = fillA e' row ps
 | [], _, _ => rfl
 | (i, n, x) :: ps, row, h => by
   simp only [fillA]
   rw [ev_congr (x := x) (fun s hs => h s (by simp [slots, hs]))]
   split
   ·split
    ·exact fillA_congr (fun s hs => h s (by simp [slots, hs]))
    ·rfl
   ·rfl
theorem fillS_congr {sz : Nat} : ∀ {ps : List (Nat × Opd)} {els : List (List AV)}, (∀ s ∈ slots (ps.map (·.2)), nth e s = nth e' s) → fillS e sz els ps = fillS e' sz els ps
 | [], _, _ => rfl
 | (i, x) :: ps, els, h => by
   simp only [fillS]
   rw [ev_congr (x := x) (fun s hs => h s (by simp [slots, hs]))]
   split
   ·split
    ·exact fillS_congr (fun s hs => h s (by simp [slots, hs]))
    ·rfl
   ·rfl

theorem aop_congr {o : AOp} (h : ∀ s ∈ o.looks, nth e s = nth e' s) : aop e b l o = aop e' b l o := by
 cases o <;> simp only [AOp.looks, List.mem_append] at h <;> simp only [aop]
 case mv x => rw [ev_congr (x := x) h]
 case nilck x => rw [ev_congr (x := x) h]
 case pick c x y => rw [ev_congr (x := c) (fun s hs => h s (.inl (.inl hs))), ev_congr (x := x) (fun s hs => h s (.inl (.inr hs))), ev_congr (x := y) (fun s hs => h s (.inr hs))]
 case mupdate kk m x y => rw [ev_congr (x := m) (fun s hs => h s (.inl (.inl hs))), ev_congr (x := x) (fun s hs => h s (.inl (.inr hs))), ev_congr (x := y) (fun s hs => h s (.inr hs))]
 case build zs ps => rw [fillA_congr (ps := ps) h]
 case bslice sz zs len ps => rw [fillS_congr (ps := ps) h]
 case islb sz zs len ps => rw [fillS_congr (ps := ps) h]
 case slice sz x lo hi => rw [ev_congr (x := x) (fun s hs => h s (.inl (.inl hs))), evo_congr (x := lo) (fun s hs => h s (.inl (.inr hs))), evo_congr (x := hi) (fun s hs => h s (.inr hs))]
 case sliceS x lo hi => rw [ev_congr (x := x) (fun s hs => h s (.inl (.inl hs))), evo_congr (x := lo) (fun s hs => h s (.inl (.inr hs))), evo_congr (x := hi) (fun s hs => h s (.inr hs))]
 case mkfn f cs => rw [evs_congr (xs := cs) h]
 case call f az => rw [ev_congr (x := f) (fun s hs => h s (.inl hs)), evs_congr (xs := az) (fun s hs => h s (.inr hs))]
 all_goals first
  | rfl
  | (rename_i x; rw [ev_congr (x := x) h]; done)
  | (rename_i x y; rw [ev_congr (x := x) (fun s hs => h s (.inl hs)), ev_congr (x := y) (fun s hs => h s (.inr hs))]; done)

theorem gd_congr {g : Option (Nat × Bool)} (h : ∀ s ∈ (match g with | some (g, _) => [g] | none => []), nth e s = nth e' s) : gd e g = gd e' g := by
 cases g with
 | none => rfl
 | some gw => obtain ⟨g, w⟩ := gw; simp only [gd]; rw [h g (by simp)]

theorem aoper_congr {o : AOper} (h : ∀ s ∈ o.looks, nth e s = nth e' s) : aop e b l o.op = aop e' b l o.op ∧ gd e o.guard = gd e' o.guard :=
 ⟨aop_congr (fun s hs => h s (by simp [AOper.looks, hs])), gd_congr (fun s hs => h s (by simp only [AOper.looks, List.mem_append]; exact .inr hs))⟩

theorem quiet_plain {o : AOp} (h : o.quiet = true) : o.plain = true := by cases o <;> first | rfl | cases h

theorem quiet_keeps {o : AOp} (h : o.quiet = true) {x : AV} (hv : aop e b l o = .val x b' l') : b' = b ∧ l' = l := by
 have opt : ∀ (y : Option AV), ofOpt y b l = .val x b' l' → b' = b ∧ l' = l := fun y hy => (ofOpt_val hy).2
 cases o <;> first | (cases h; done) | skip
 all_goals simp only [aop, aload, aslice, aiaddr, aiaddrA, afaddr, alookup, alenM, atostr] at hv
 all_goals (repeat' split at hv)
 all_goals first | exact opt _ hv | (cases hv; exact ⟨rfl, rfl⟩) | (cases hv; done)

theorem nth_upd_ne {e : List AV} {d s : Nat} {x : AV} (h : d ≠ s) : nth (upd e d x) s = nth e s := by
 rw [nth_eq, nth_eq, upd_eq, List.getElem?_set_ne h]
theorem nth_put_ne {e : List AV} {d : Option Nat} {s : Nat} {x : AV} (h : ∀ n, d = some n → n ≠ s) : nth (put e d x) s = nth e s := by
 cases d with
 | none => rfl
 | some n => exact nth_upd_ne (h n rfl)
theorem put_comm {e : List AV} {d d' : Option Nat} {x y : AV} (h : ∀ n, d = some n → d' ≠ some n) : put (put e d x) d' y = put (put e d' y) d x := by
 cases d with
 | none => cases d' <;> rfl
 | some n =>
   cases d' with
   | none => rfl
   | some m =>
     have hne : n ≠ m := fun e => h n rfl (by rw [e])
     simp only [put, upd_eq]
     rw [List.set_comm _ _ hne]
def evalQ : List DOper → List AV → List Row → List Row → Option (List AV)
 | [], e, _, _ => some e
 | d :: ds, e, b, l =>
   match gd e d.o.guard with
   | some true => match aop e b l d.o.op with
     | .val x _ _ => evalQ ds (put e d.o.dst x) b l
     | _ => none
   | some false => evalQ ds (put e d.o.dst (.tup [])) b l
   | none => none

theorem runD_quiet {C : CallP} {K : List AV → List Row → List Row → Prop} : ∀ {ps qs : List DOper} {e : List AV}, (∀ d ∈ ps, d.o.op.quiet = true) → runD C (ps ++ qs) e b l K → ∃ e1, evalQ ps e b l = some e1 ∧ runD C qs e1 b l K
 | [], qs, e, _, h => ⟨e, rfl, h⟩
 | d :: ps, qs, e, hq, h => by
   simp only [List.cons_append, runD] at h
   simp only [evalQ]
   unfold gcase at h
   split at h
   case h_2 => exact h.elim
   rename_i t hg
   have hd := hq d (by simp)
   rw [hg]
   cases t
   ·simp only [Bool.false_eq_true, if_false] at h
    exact runD_quiet (fun x hx => hq x (by simp [hx])) h
   ·simp only [if_true] at h
    cases hr : aop e b l d.o.op with
    | val x b1 l1 =>
      rw [hr] at h
      obtain ⟨k1, k2⟩ := quiet_keeps hd hr
      rw [k1, k2] at h
      exact runD_quiet (fun x hx => hq x (by simp [hx])) h.2
    | bad => rw [hr] at h; exact h.elim
    | call f az => have := aop_plain (e := e) (b := b) (l := l) (quiet_plain hd); rw [hr] at this; cases this
    | two c x y => have := aop_plain (e := e) (b := b) (l := l) (quiet_plain hd); rw [hr] at this; cases this

theorem runD_of_quiet {C : CallP} {K : List AV → List Row → List Row → Prop} : ∀ {ps qs : List DOper} {e e1 : List AV}, (∀ d ∈ ps, d.o.op.quiet = true ∧ d.re = []) → evalQ ps e b l = some e1 → runD C qs e1 b l K → runD C (ps ++ qs) e b l K
 | [], qs, e, e1, _, he, h => by cases he; exact h
 | d :: ps, qs, e, e1, hq, he, h => by
   simp only [List.cons_append, runD]
   simp only [evalQ] at he
   have hd := hq d (by simp)
   unfold gcase
   split at he
   ·rename_i hg
    rw [hg]
    simp only [if_true]
    split at he
    ·rename_i x b1 l1 hr
     rw [hr]
     obtain ⟨k1, k2⟩ := quiet_keeps hd.1 hr
     rw [k1, k2]
     exact ⟨by rw [hd.2]; trivial, runD_of_quiet (fun x hx => hq x (by simp [hx])) he h⟩
    ·cases he
   ·rename_i hg
    rw [hg]
    simp only [Bool.false_eq_true, if_false]
    exact runD_of_quiet (fun x hx => hq x (by simp [hx])) he h
   ·cases he

theorem evalQ_nth : ∀ {ps : List DOper} {e e1 : List AV} {s : Nat}, evalQ ps e b l = some e1 → (∀ d ∈ ps, d.o.dst ≠ some s) → nth e1 s = nth e s
 | [], e, e1, s, he, _ => by cases he; rfl
 | d :: ps, e, e1, s, he, h => by
   simp only [evalQ] at he
   have hd : ∀ n, d.o.dst = some n → n ≠ s := fun n hn e => h d (by simp) (by rw [hn, e])
   split at he
   ·split at he
    ·rw [evalQ_nth he (fun x hx => h x (by simp [hx])), nth_put_ne hd]
    ·cases he
   ·rw [evalQ_nth he (fun x hx => h x (by simp [hx])), nth_put_ne hd]
   ·cases he

def QApart : List DOper → Prop
 | [] => True
 | d :: ds => (∀ n, d.o.dst = some n → n ∉ d.o.looks) ∧ (∀ c ∈ ds, ∀ n, c.o.dst = some n → n ∉ d.o.looks ∧ d.o.dst ≠ some n) ∧ QApart ds

theorem put_len {e : List AV} {d : Option Nat} {x : AV} : (put e d x).length = e.length := by
 cases d with
 | none => rfl
 | some d => simp [put, upd_eq]
theorem evalQ_len : ∀ {ps : List DOper} {e e1 : List AV}, evalQ ps e b l = some e1 → e1.length = e.length
 | [], e, e1, he => by cases he; rfl
 | d :: ps, e, e1, he => by
   simp only [evalQ] at he
   split at he
   ·split at he
    ·rw [evalQ_len he, put_len]
    ·cases he
   ·rw [evalQ_len he, put_len]
   ·cases he
theorem put_back {e : List AV} {d : Nat} {x v : AV} (h : nth (put e (some d) x) d = v ∨ e.length ≤ d) : put e (some d) v = put e (some d) x := by
 simp only [put, upd_eq, nth_eq] at h ⊢
 rcases Nat.lt_or_ge d e.length with hl | hl
 ·rcases h with h | h
  ·rw [List.getElem?_set_self hl] at h
   have : x = v := h
   rw [this]
  ·omega
 ·rw [List.set_eq_of_length_le hl, List.set_eq_of_length_le hl]
theorem nth_back {e : List AV} {d : Nat} {x : AV} : nth (put e (some d) x) d = x ∨ e.length ≤ d := by
 simp only [put, upd_eq, nth_eq]
 rcases Nat.lt_or_ge d e.length with hl | hl
 ·rw [List.getElem?_set_self hl]; exact .inl rfl
 ·exact .inr hl

theorem evalQ_move {di : Option Nat} {v : AV} : ∀ {ps : List DOper} {e e1 : List AV}, evalQ ps e b l = some e1 → QApart ps → (∀ d ∈ ps, d.o.op.quiet = true ∧ ∀ n, di = some n → n ∉ d.o.looks ∧ d.o.dst ≠ some n) →
  (∀ d ∈ ps, rechk e1 b' l' d.o) → evalQ ps (put e di v) b' l' = some (put e1 di v)
 | [], e, e1, he, _, _, _ => by cases he; rfl
 | d :: ps, e, e1, he, hap, hi, hre => by
   obtain ⟨hq, hdi⟩ := hi d (by simp)
   obtain ⟨hself, hap1, hap2⟩ := hap
   have hre0 := hre d (by simp)
   have hi' : ∀ c ∈ ps, c.o.op.quiet = true ∧ ∀ n, di = some n → n ∉ c.o.looks ∧ c.o.dst ≠ some n := fun c hc => hi c (by simp [hc])
   have hre' : ∀ c ∈ ps, rechk e1 b' l' c.o := fun c hc => hre c (by simp [hc])
   simp only [evalQ] at he ⊢
   have hlook : ∀ s ∈ d.o.looks, nth (put e di v) s = nth e s := fun s hs => nth_put_ne (fun n hn => fun hns => (hdi n hn).1 (hns ▸ hs))
   obtain ⟨hc1, hc2⟩ := aoper_congr (b := b') (l := l') (o := d.o) hlook
   rw [hc2, hc1]
   have hpast : ∀ {x : AV}, evalQ ps (put e d.o.dst x) b l = some e1 → ∀ s ∈ d.o.looks, nth e1 s = nth e s := by
    intro x hx s hs
    rw [evalQ_nth hx (fun c hc hcs => (hap1 c hc s hcs).1 hs)]
    exact nth_put_ne (fun n hn => fun hns => hself n hn (hns ▸ hs))
   have hcomm : ∀ u, put (put e di v) d.o.dst u = put (put e d.o.dst u) di v := fun u => put_comm (fun n hn => (hdi n hn).2)
   split at he
   ·rename_i hg
    split at he
    case h_2 => cases he
    rename_i x b1 l1 hr
    obtain ⟨k1, k2⟩ := aoper_congr (b := b') (l := l') (o := d.o) (hpast he)
    unfold rechk gcase at hre0
    rw [k2, hg] at hre0
    simp only [if_true] at hre0
    rw [k1] at hre0
    obtain ⟨u, hu, hun⟩ := hre0
    rw [hu]
    simp only
    rw [hcomm]
    have hback : put e d.o.dst u = put e d.o.dst x := by
     cases hd : d.o.dst with
     | none => rfl
     | some n =>
       rw [hd] at hun he
       simp only at hun
       rw [evalQ_nth he (fun c hc hcs => (hap1 c hc n hcs).2 hd), evalQ_len he, put_len] at hun
       exact put_back hun
    rw [hback]
    exact evalQ_move he hap2 hi' hre'
   ·rename_i hg
    rw [hcomm]
    exact evalQ_move he hap2 hi' hre'
   ·cases he

theorem evalQ_rechk : ∀ {ps : List DOper} {e e1 : List AV}, evalQ ps e b l = some e1 → QApart ps → (∀ d ∈ ps, d.o.op.quiet = true) → ∀ d ∈ ps, rechk e1 b l d.o
 | [], e, e1, he, _, _, d, hd => by simp at hd
 | c :: ps, e, e1, he, hap, hq, d, hd => by
   obtain ⟨hself, hap1, hap2⟩ := hap
   have hqc := hq c (by simp)
   simp only [evalQ] at he
   have hpast : ∀ {x : AV}, evalQ ps (put e c.o.dst x) b l = some e1 → ∀ s ∈ c.o.looks, nth e1 s = nth e s := by
    intro x hx s hs
    rw [evalQ_nth hx (fun c' hc hcs => (hap1 c' hc s hcs).1 hs)]
    exact nth_put_ne (fun n hn => fun hns => hself n hn (hns ▸ hs))
   rcases List.mem_cons.1 hd with rfl | hd'
   ·split at he
    ·rename_i hg
     split at he
     case h_2 => cases he
     rename_i x b1 l1 hr
     obtain ⟨k1, k2⟩ := aoper_congr (b := b) (l := l) (o := d.o) (hpast he)
     obtain ⟨q1, q2⟩ := quiet_keeps hqc hr
     unfold rechk gcase
     rw [k2, hg, k1, hr, q1, q2]
     simp only [if_true]
     refine ⟨x, rfl, ?_⟩
     cases hdd : d.o.dst with
     | none => trivial
     | some n =>
       rw [hdd] at he
       simp only
       rw [evalQ_nth he (fun c' hc hcs => (hap1 c' hc n hcs).2 hdd), evalQ_len he, put_len]
       exact nth_back
    ·rename_i hg
     obtain ⟨k1, k2⟩ := aoper_congr (b := b) (l := l) (o := d.o) (hpast he)
     unfold rechk gcase
     rw [k2, hg]
     simp
    ·cases he
   ·split at he
    ·split at he
     ·exact evalQ_rechk he hap2 (fun c' hc => hq c' (by simp [hc])) d hd'
     ·cases he
    ·exact evalQ_rechk he hap2 (fun c' hc => hq c' (by simp [hc])) d hd'
    ·cases he

theorem rechks_mem : ∀ {rs : List AOper} {e : List AV}, rechks e b l rs → ∀ r ∈ rs, rechk e b l r
 | [], _, _, r, hr => by simp at hr
 | x :: rs, e, h, r, hr => by
   rcases List.mem_cons.1 hr with rfl | hr
   ·exact h.1
   ·exact rechks_mem h.2 r hr

theorem bubble {C : CallP} (hCm : ∀ f args b l (Q Q' : AV → List Row → List Row → Prop), C f args b l Q → (∀ x b' l', Q x b' l' → Q' x b' l') → C f args b l Q')
  {K : List AV → List Row → List Row → Prop} {p1 p2 : List DOper} {i : DOper} (h : runD C (p1 ++ i :: p2) e b l K) (hq : ∀ d ∈ p1, d.o.op.quiet = true ∧ d.re = []) (hap : QApart p1)
  (h1 : ∀ d ∈ p1, ∀ n, i.o.dst = some n → n ∉ d.o.looks ∧ d.o.dst ≠ some n) (h2 : ∀ d ∈ p1, ∀ n, d.o.dst = some n → n ∉ i.o.looks) (hre : i.o.op.quiet = true ∨ ∀ d ∈ p1, d.o ∈ i.re) :
  gcase (gd e i.o.guard) (stepR C b l (fun x b' l' => runD C (p1 ++ p2) (put e i.o.dst x) b' l' K) (aop e b l i.o.op)) (runD C (p1 ++ p2) (put e i.o.dst (.tup [])) b l K) := by
 obtain ⟨e1, he, h⟩ := runD_quiet (fun d hd => (hq d hd).1) h
 obtain ⟨k1, k2⟩ := aoper_congr (e := e1) (e' := e) (b := b) (l := l) (o := i.o) (fun s hs => evalQ_nth he (fun d hd hds => h2 d hd s hds hs))
 have hsame := evalQ_rechk he hap (fun d hd => (hq d hd).1)
 have move : ∀ {b' l' : List Row} (x : AV), (∀ d ∈ p1, rechk e1 b' l' d.o) → runD C p2 (put e1 i.o.dst x) b' l' K → runD C (p1 ++ p2) (put e i.o.dst x) b' l' K := by
  intro b' l' x hr hk
  exact runD_of_quiet hq (evalQ_move he hap (fun d hd => ⟨(hq d hd).1, fun n hn => h1 d hd n hn⟩) hr) hk
 simp only [runD] at h
 rw [k1, k2] at h
 unfold gcase at h ⊢
 split at h
 case h_2 => exact h.elim
 rename_i t hg
 cases t
 ·simp only [Bool.false_eq_true, if_false] at h ⊢
  exact move _ hsame h
 ·simp only [if_true] at h ⊢
  cases hr : aop e b l i.o.op with
  | bad => rw [hr] at h; exact h.elim
  | val x b' l' =>
    rw [hr] at h
    refine move _ ?_ h.2
    rcases hre with hre | hre
    ·obtain ⟨q1, q2⟩ := quiet_keeps hre hr
     rw [q1, q2]; exact hsame
    ·exact fun d hd => rechks_mem h.1 _ (hre d hd)
  | two c x y =>
    rw [hr] at h
    exact ⟨fun hc => move _ hsame (h.1 hc).2, move _ hsame h.2.2⟩
  | call f az =>
    rw [hr] at h
    refine hCm _ _ _ _ _ _ h ?_
    rintro x b' l' ⟨g1, g2⟩
    refine move _ ?_ g2
    rcases hre with hre | hre
    ·have := aop_plain (e := e) (b := b) (l := l) (quiet_plain hre); rw [hr] at this; cases this
    ·exact fun d hd => rechks_mem g1 _ (hre d hd)

theorem rechk_congr {e e' : List AV} {b l : List Row} {r : AOper} (h : ∀ s ∈ r.looks, nth e s = nth e' s) (hd : ∀ n, r.dst = some n → nth e n = nth e' n) (hl : e.length = e'.length) (hr : rechk e b l r) : rechk e' b l r := by
 obtain ⟨k1, k2⟩ := aoper_congr (b := b) (l := l) h
 unfold rechk at hr ⊢
 rw [k1, k2] at hr
 cases hdd : r.dst with
 | none => rw [hdd] at hr; exact hr
 | some n => rw [hdd] at hr; simp only at hr ⊢; rw [hd n hdd, hl] at hr; exact hr

theorem rechks_congr {e e' : List AV} {b l : List Row} : ∀ {rs : List AOper}, (∀ r ∈ rs, (∀ s ∈ r.looks, nth e s = nth e' s) ∧ ∀ n, r.dst = some n → nth e n = nth e' n) → e.length = e'.length → rechks e b l rs → rechks e' b l rs
 | [], _, _, _ => trivial
 | r :: rs, h, hl, hr => ⟨rechk_congr (h r (by simp)).1 (h r (by simp)).2 hl hr.1, rechks_congr (fun x hx => h x (by simp [hx])) hl hr.2⟩

theorem runD_put {C : CallP} (hCm : ∀ f args b l (Q Q' : AV → List Row → List Row → Prop), C f args b l Q → (∀ x b' l', Q x b' l' → Q' x b' l') → C f args b l Q')
  {K : List AV → List Row → List Row → Prop} {d : Nat} {zs : List AV} {i : Nat} {re : List AOper} {p2 : List DOper} (hre : ∀ r ∈ re, d ∉ r.looks ∧ r.dst ≠ some d) :
  ∀ {p1 : List DOper} {e : List AV} {b l : List Row} {x : AV}, (∀ c ∈ p1, d ∉ c.o.looks ∧ c.o.dst ≠ some d ∧ ∀ r ∈ c.re, d ∉ r.looks ∧ r.dst ≠ some d) →
   runD C (p1 ++ ⟨i, ⟨some d, .alloc zs, none⟩, re⟩ :: p2) e b l K → runD C (p1 ++ ⟨i, ⟨some d, .alloc zs, none⟩, re⟩ :: p2) (put e (some d) x) b l K
 | [], e, b, l, x, _, h => by
   simp only [List.nil_append, runD, gd, gcase, if_true, aop, mk, stepR] at h ⊢
   obtain ⟨h1, h2⟩ := h
   refine ⟨rechks_congr (fun r hr => ⟨fun s hs => ?_, fun n hn => ?_⟩) (by simp [put_len]) h1, ?_⟩
   ·rw [nth_put_ne]; intro n hn hns; cases hn; exact (hre r hr).1 (hns ▸ hs)
   ·rw [nth_put_ne]; intro m hm hmn; cases hm; exact (hre r hr).2 (by rw [hn, hmn])
   ·simp only [put, upd_eq, List.set_set] at h2 ⊢; exact h2
 | c :: p1, e, b, l, x, hp, h => by
   obtain ⟨c1, c2, c3⟩ := hp c (by simp)
   have hp' : ∀ c' ∈ p1, d ∉ c'.o.looks ∧ c'.o.dst ≠ some d ∧ ∀ r ∈ c'.re, d ∉ r.looks ∧ r.dst ≠ some d := fun c' hc => hp c' (by simp [hc])
   simp only [List.cons_append, runD] at h ⊢
   obtain ⟨k1, k2⟩ := aoper_congr (e := put e (some d) x) (e' := e) (b := b) (l := l) (o := c.o) (fun s hs => nth_put_ne (fun n hn hns => by cases hn; exact c1 (hns ▸ hs)))
   rw [k1, k2]
   have hcomm : ∀ v, put (put e (some d) x) c.o.dst v = put (put e c.o.dst v) (some d) x := fun v => put_comm (fun n hn => by cases hn; exact c2)
   have hrs : ∀ {b' l' : List Row}, rechks e b' l' c.re → rechks (put e (some d) x) b' l' c.re := fun hr => rechks_congr (fun r hrr => ⟨fun s hs => by rw [nth_put_ne]; intro n hn hns; cases hn; exact (c3 r hrr).1 (hns ▸ hs), fun n hn => by rw [nth_put_ne]; intro m hm hmn; cases hm; exact (c3 r hrr).2 (by rw [hn, hmn])⟩) (by simp [put_len]) hr
   unfold gcase at h ⊢
   split at h
   case h_2 => exact h.elim
   rename_i t hg
   cases t
   ·simp only [Bool.false_eq_true, if_false] at h ⊢
    rw [hcomm]
    exact runD_put hCm hre hp' h
   ·simp only [if_true] at h ⊢
    cases hr : aop e b l c.o.op with
    | bad => rw [hr] at h; exact h.elim
    | val y b' l' =>
      rw [hr] at h
      simp only [stepR] at h ⊢
      rw [hcomm]
      exact ⟨hrs h.1, runD_put hCm hre hp' h.2⟩
    | two t y z =>
      rw [hr] at h
      simp only [stepR] at h ⊢
      rw [hcomm, hcomm]
      exact ⟨fun ht => ⟨hrs (h.1 ht).1, runD_put hCm hre hp' (h.1 ht).2⟩, hrs h.2.1, runD_put hCm hre hp' h.2.2⟩
    | call f az =>
      rw [hr] at h
      simp only [stepR] at h ⊢
      refine hCm _ _ _ _ _ _ h ?_
      rintro y b' l' ⟨g1, g2⟩
      rw [hcomm]
      exact ⟨hrs g1, runD_put hCm hre hp' g2⟩
end
end Go.Proofs.Ytpkemmchpccjdaa
namespace Go.Proofs.Ytpkemmchpccjdaa
set_option linter.unusedVariables false

def ACalls (P : Program) : CallP := fun f args b l Q =>
 (∃ fn, P.funcs[f]? = some fn ∧ (fn.name == "runtime.NumGoroutine") = false ∧ fn.body.isSome = true) ∧
 ∀ F L w (vs : Array Value), Sim F L (b ++ l) w → RepL w F L args vs.toList → Calls P f vs w fun en w' =>
  ∃ v x b' l' F' L', en = .returned v ∧ RepA w' F' L' x v ∧ Sim F' L' (b' ++ l') w' ∧ Step (b ++ l).length F L (b ++ l) w F' L' (b' ++ l') w' ∧ b'.length = b.length ∧ Q x b' l'

def Weak : WeakP := fun e b l e' b' l' =>
 ∀ F L w a, Sim F L (b ++ l) w → EnvR w F L e a → ∃ F' L', Sim F' L' (b' ++ l') w ∧ EnvR w F' L' e' a ∧ Step b.length F L (b ++ l) w F' L' (b' ++ l') w ∧ b'.length = b.length

def ExR : Exit → AExit → Prop
 | .normal, .normal => True
 | .exit i, .exit j => i = j
 | .ret, .ret => True
 | _, _ => False

def Aft (nb : Nat) (F : Nat → Prop) (L : LMap) (h : List Row) (w : World) (Q : AExit → List AV → List Row → List Row → Prop) : Exit → Act → World → Prop := fun ex a' w' =>
 ∃ ax e' b' l' F' L', ExR ex ax ∧ Sim F' L' (b' ++ l') w' ∧ EnvR w' F' L' e' a' ∧ Step nb F L h w F' L' (b' ++ l') w' ∧ b'.length = nb ∧ Q ax e' b' l'

section
variable {P : Program}

theorem gd_ok {w : World} {F : Nat → Prop} {L : LMap} {e : List AV} {a : Act} (he : EnvR w F L e a) {ops : Array Oper} {o : Oper} {g : Option (Nat × Bool)} (hg : cGuard ops o.guard = some g) {t : Bool} (h : gd e g = some t) :
  Region.wanted o (yielded ops a.tmps) = t := by
 unfold cGuard at hg
 unfold Region.wanted
 cases hgu : o.guard with
 | none => rw [hgu] at hg; simp at hg; subst hg; simp [gd] at h; subst h; rfl
 | some jw =>
   obtain ⟨j, want⟩ := jw
   rw [hgu] at hg
   simp only at hg
   cases hd : (ops[j]?).bind (·.dst) with
   | none => rw [hd] at hg; cases hg
   | some d =>
     rw [hd] at hg
     cases hg
     simp only [gd] at h
     have hr := he.nth d
     simp only [yielded, hd, Option.bind_some]
     have hget : a.tmps.getD d undef = (a.tmps[d]?).getD undef := by simp [Array.getD_eq_getD_getElem?]
     rw [hget] at hr
     generalize nth e d = q at *
     split at h
     ·rename_i t'
      cases h
      have := repB hr
      cases hq : a.tmps[d]? with
      | none => rw [hq] at this; cases this
      | some v => rw [hq] at this; simp only [Option.getD_some] at this; subst this; cases t' <;> cases want <;> rfl
     ·cases h
      obtain ⟨vs, hv, hl⟩ := hr.tupL
      cases hq : a.tmps[d]? with
      | none => cases want <;> rfl
      | some v => rw [hq] at hv; simp only [Option.getD_some] at hv; subst hv; cases want <;> rfl
     ·cases h

theorem op_ok {imm : Bool} {o : Oper} {ao : AOp} (hc : cOpX P imm o.op = some ao) {C : CallP} (hC : ∀ f args b l Q, C f args b l Q → ACalls P f args b l Q)
  {e : List AV} {b l : List Row} {K : List AV → List Row → List Row → Prop} (h : stepR C b l (fun x b' l' => K (put e o.dst x) b' l') (aop e b l ao))
  {F : Nat → Prop} {L : LMap} {w : World} {a : Act} (s : Sim F L (b ++ l) w) (he : EnvR w F L e a) (Q : Exit → Act → World → Prop) {next : Act → World → Prop}
  (hn : ∀ e' b' l' F' L' a' w', K e' b' l' → Sim F' L' (b' ++ l') w' → EnvR w' F' L' e' a' → Step b.length F L (b ++ l) w F' L' (b' ++ l') w' → b'.length = b.length → (∃ v, a' = a.put o.dst v) → next a' w') : o.wp P a w next Q := by
 have hlen : b.length ≤ (b ++ l).length := by simp
 obtain ⟨h1, h2, h3⟩ := aop_okX (P := P) hc s he
 unfold Oper.wp
 have key : ∀ x b' l', OpOkF P o a w F L b l x b' l' → K (put e o.dst x) b' l' → o.upon P a next Q ((execOp a.eval o).run P w) := by
  rintro x b' l' ⟨v, w', F', L', hend, hx, s', st, hb⟩ hk
  have he' := (he.step s st).put o.dst hx
  rcases hend with hend | ⟨hend, rfl⟩
  ·rw [hend]; exact hn _ _ _ _ _ _ _ hk s' he' (st.weaken hlen) hb ⟨_, rfl⟩
  ·rw [hend]; exact hn _ _ _ _ _ _ _ hk s' he' (st.weaken hlen) hb ⟨_, rfl⟩
 cases hr : aop e b l ao with
 | bad => rw [hr] at h; exact h.elim
 | two c x y =>
   rw [hr] at h
   rcases h3 c x y hr with ⟨hc1, hk⟩ | hk
   ·exact key x b l hk (h.1 hc1)
   ·exact key y b l hk h.2
 | val x b' l' =>
   rw [hr] at h
   exact key x b' l' (h1 x b' l' hr) h
 | call f args =>
   rw [hr] at h
   obtain ⟨⟨fn, g1, g2, g3⟩, g4⟩ := hC _ _ _ _ _ h
   obtain ⟨vs, k1, k2⟩ := h2 f args hr
   rw [k2 fn g1 g2 g3]
   refine Calls.mono (g4 F L w vs s k1) ?_
   rintro en w' ⟨v, x, b', l', F', L', rfl, hx, s', st, hb, hq⟩
   exact hn _ _ _ _ _ _ _ hq s' ((he.step s st).put o.dst hx) (st.weaken hlen) hb ⟨_, rfl⟩

theorem ops_ok {imm : Bool} {C : CallP} (hC : ∀ f args b l Q, C f args b l Q → ACalls P f args b l Q) (ops : Array Oper) {nb : Nat} {F0 : Nat → Prop} {L0 : LMap} {h0 : List Row} {w0 : World} {Q : List AV → List Row → List Row → Prop} {Q' : Exit → Act → World → Prop} :
  ∀ (os : List Oper) (is : List Nat) (aos : List AOper), cOps P imm ops os = some aos → is.map (ops[·]?) = os.map some → ∀ e b l, runOps C aos e b l Q → b.length = nb → ∀ F L w a, Sim F L (b ++ l) w → EnvR w F L e a → Step nb F0 L0 h0 w0 F L (b ++ l) w →
   (∀ e' b' l' F' L' a' w', Q e' b' l' → Sim F' L' (b' ++ l') w' → EnvR w' F' L' e' a' → Step nb F0 L0 h0 w0 F' L' (b' ++ l') w' → b'.length = nb → Q' .normal a' w') → wpOps P ops Q' is a w
 | [], is, aos, hc, hi, e, b, l, h, hb, F, L, w, a, s, he, st, hQ => by
   have : is = [] := by simpa using hi
   subst this
   simp [cOps] at hc
   subst hc
   exact hQ _ _ _ _ _ _ _ h s he st hb
 | o :: os, [], aos, hc, hi, e, b, l, h, hb, F, L, w, a, s, he, st, hQ => by simp at hi
 | o :: os, i :: is, aos, hc, hi, e, b, l, h, hb, F, L, w, a, s, he, st, hQ => by
   simp only [List.map_cons, List.cons.injEq] at hi
   obtain ⟨hi1, hi2⟩ := hi
   unfold cOps at hc
   split at hc
   case h_2 => cases hc
   rename_i ao g aos' c1 c2 c3
   cases hc
   simp only [runOps] at h
   simp only [wpOps, hi1]
   unfold gcase at h
   split at h
   case h_2 => exact h.elim
   rename_i t hg
   rw [gd_ok he c2 hg]
   cases t
   ·simp only [Bool.false_eq_true, if_false] at h ⊢
    exact ops_ok hC ops os is aos' c3 hi2 _ _ _ h hb F L w _ s (he.put o.dst (RepA.undef _ _ _)) st hQ
   ·simp only [if_true] at h ⊢
    refine .inl (op_ok c1 hC (K := fun e b l => runOps C aos' e b l Q) h s he Q' ?_)
    intro e' b' l' F' L' a' w' hk s' he' st' hb' _
    exact ops_ok hC ops os is aos' c3 hi2 _ _ _ hk (hb'.trans hb) F' L' w' a' s' he' (st.trans (hb ▸ st')) hQ

theorem ACalls_mono : ∀ f args b l (Q Q' : AV → List Row → List Row → Prop), ACalls P f args b l Q → (∀ x b' l', Q x b' l' → Q' x b' l') → ACalls P f args b l Q' := by
 rintro f args b l Q Q' ⟨h1, h2⟩ hq
 refine ⟨h1, fun F L w vs s hr => Calls.mono (h2 F L w vs s hr) ?_⟩
 rintro en w' ⟨v, x, b', l', F', L', k1, k2, k3, k4, k5, k6⟩
 exact ⟨v, x, b', l', F', L', k1, k2, k3, k4, k5, hq _ _ _ k6⟩

theorem cOps_get {imm : Bool} {ops : Array Oper} : ∀ {os : List Oper} {aos : List AOper}, cOps P imm ops os = some aos → aos.length = os.length ∧ ∀ (i : Nat) (ao : AOper), aos[i]? = some ao → ∃ (o : Oper), os[i]? = some o ∧ cOpX P imm o.op = some ao.op ∧ cGuard ops o.guard = some ao.guard ∧ ao.dst = o.dst
 | [], aos, h => by simp [cOps] at h; subst h; simp
 | o :: os, aos, h => by
   unfold cOps at h
   split at h
   case h_2 => cases h
   rename_i x g xs h1 h2 h3
   cases h
   obtain ⟨h4, h5⟩ := cOps_get h3
   refine ⟨by simp [h4], fun i ao hi => ?_⟩
   cases i with
   | zero => simp at hi; subst hi; exact ⟨o, rfl, h1, h2, rfl⟩
   | succ i => simp at hi; simpa using h5 i ao hi

theorem reOf_mem {ops : Array Oper} {aos : List AOper} {i : Nat} : ∀ {js : List Nat} {j : Nat} {r : AOper}, j ∈ js → aos[j]? = some r → r.op.quiet = true → anc ops j ops.size i = false → r ∈ reOf ops aos i js
 | [], j, r, h, _, _, _ => by simp at h
 | k :: js, j, r, h, hr, hq, ha => by
   simp only [reOf]
   rcases List.mem_cons.1 h with rfl | h
   ·rw [hr]; simp [hq, ha]
   ·have := reOf_mem h hr hq ha
    split
    ·split
     ·exact List.mem_cons_of_mem _ this
     ·exact this
    ·exact this

def PairR (ops : Array Oper) (fin : List Nat) (a c : DOper) : Prop :=
 pairOk ops fin a c = true ∧ (a.o.op.quiet = true → anc ops a.i ops.size c.i = false → c.o.op.quiet = true ∨ a.o ∈ c.re)

theorem mkD_facts {ops : Array Oper} {aos : List AOper} : ∀ {is done : List Nat}, (∀ d ∈ mkD ops aos done is, aos[d.i]? = some d.o ∧ (d.o.op.quiet = true → d.re = []) ∧ (∀ j ∈ done, ∀ (r : AOper), aos[j]? = some r → r.op.quiet = true → anc ops j ops.size d.i = false → d.o.op.quiet = true ∨ r ∈ d.re)) ∧
  (mkD ops aos done is).Pairwise (fun a c => a.o.op.quiet = true → anc ops a.i ops.size c.i = false → c.o.op.quiet = true ∨ a.o ∈ c.re)
 | [], done => by simp [mkD]
 | i :: is, done => by
   simp only [mkD]
   cases hi : aos[i]? with
   | none => simp
   | some o =>
     simp only
     obtain ⟨h1, h2⟩ := mkD_facts (ops := ops) (aos := aos) (is := is) (done := done ++ [i])
     refine ⟨fun d hd => ?_, List.Pairwise.cons (fun c hc hq ha => ?_) h2⟩
     ·rcases List.mem_cons.1 hd with rfl | hd
      ·refine ⟨hi, fun hq => by simp only at hq ⊢; rw [if_pos hq], fun j hj r hr hq ha => ?_⟩
       simp only
       cases hqq : o.op.quiet
       ·rw [if_neg (by simp)]
        exact .inr (reOf_mem hj hr hq ha)
       ·exact .inl rfl
      ·obtain ⟨g1, g2, g3⟩ := h1 d hd
       exact ⟨g1, g2, fun j hj => g3 j (by simp [hj])⟩
     ·exact (h1 c hc).2.2 i (by simp) o hi hq ha

theorem pairsOk_spec {ops : Array Oper} {fin : List Nat} : ∀ {ds : List DOper}, pairsOk ops fin ds = true → (∀ d ∈ ds, selfOk d = true) ∧ ds.Pairwise (fun a c => pairOk ops fin a c = true)
 | [], _ => by simp
 | a :: ds, h => by
   simp only [pairsOk, Bool.and_eq_true] at h
   obtain ⟨⟨h1, h2⟩, h3⟩ := h
   obtain ⟨g1, g2⟩ := pairsOk_spec h3
   exact ⟨fun d hd => by rcases List.mem_cons.1 hd with rfl | hd
                         ·exact h1
                         ·exact g1 d hd, List.Pairwise.cons (fun c hc => List.all_eq_true.1 h2 c hc) g2⟩

theorem pairOk_spec {ops : Array Oper} {fin : List Nat} {a c : DOper} (h : pairOk ops fin a c = true) : (∀ n, c.o.dst = some n → (a.o.op.quiet = true ∨ c.o.op.isAlloc = true → c.i ∉ fin ∨ anc ops a.i ops.size c.i = false ∨ c.o.op.isAlloc = true → n ∉ a.o.looks) ∧ a.o.dst ≠ some n ∧ (c.o.op.isAlloc = true → ∀ r ∈ a.re, n ∉ r.looks ∧ r.dst ≠ some n)) ∧
  (anc ops a.i ops.size c.i = false → (a.o.op.quiet = true ∨ c.o.op.isAlloc = true) ∧ ∀ n, a.o.dst = some n → n ∉ c.o.looks) ∧ (a.i ∈ fin → anc ops a.i ops.size c.i = true) := by
 simp only [pairOk, Bool.and_eq_true] at h
 obtain ⟨⟨hf, h1⟩, h2⟩ := h
 refine ⟨fun n hn => ?_, fun ha => ?_, fun hm => by
  rw [Bool.or_eq_true] at hf
  refine hf.resolve_left (fun h => ?_)
  rw [List.contains_iff_mem.2 hm] at h
  cases h⟩
 ·rw [hn] at h1
  simp only [Bool.and_eq_true] at h1
  refine ⟨fun hqa hw => ?_, by simpa using h1.1.2, fun hal r hr => ?_⟩
  ·have h3 := h1.1.1
   rw [show (a.o.op.quiet || c.o.op.isAlloc) = true by simpa using hqa] at h3
   have h4 : (fin.contains c.i && !c.o.op.isAlloc && anc ops a.i ops.size c.i) = false := by
    rcases hw with hw | hw | hw
    ·simp [hw]
    ·rw [hw]; simp
    ·rw [hw]; simp
   rw [h4] at h3
   simpa using h3
  ·have h3 := h1.2
   rw [hal] at h3
   simp only [Bool.not_true, Bool.false_or] at h3
   have := List.all_eq_true.1 h3 r hr
   simpa using this
 ·rw [ha] at h2
  simp only [Bool.false_or, Bool.and_eq_true, Bool.or_eq_true] at h2
  refine ⟨h2.1, fun n hn => ?_⟩
  have := h2.2
  rw [hn] at this
  simpa using this

theorem anc_listed {ops : Array Oper} {listed : Array Bool} (hcl : ∀ j o, ops[j]? = some o → listed.getD j false = true → ∀ ed ∈ o.after, Region.binds .any ed = true → listed.getD ed.on false = true) {x : Nat} :
  ∀ {n i : Nat}, (∀ o, ops[i]? = some o → ∀ ed ∈ o.after, Region.binds .any ed = true → listed.getD ed.on false = true) → anc ops x n i = true → listed.getD x false = true
 | 0, i, _, h => by cases h
 | n + 1, i, hi, h => by
   simp only [anc] at h
   split at h
   case h_2 => cases h
   rename_i o ho
   obtain ⟨ed, hed, hb⟩ := List.any_eq_true.1 h
   simp only [Bool.and_eq_true, Bool.or_eq_true, beq_iff_eq] at hb
   have hl := hi o ho ed (by simpa using hed) hb.1
   rcases hb.2 with rfl | hb
   ·exact hl
   ·exact anc_listed hcl (n := n) (i := ed.on) (fun o' ho' => hcl ed.on o' ho' hl) hb

theorem selfOk_spec {a : DOper} (h : selfOk a = true) (hqa : a.o.op.quiet = true ∨ a.o.op.isAlloc = true) : ∀ n, a.o.dst = some n → n ∉ a.o.looks ∧ ∀ r ∈ a.re, n ∉ r.looks ∧ r.dst ≠ some n := by
 intro n hn
 unfold selfOk at h
 rw [hn, show (a.o.op.quiet || a.o.op.isAlloc) = true by simpa using hqa] at h
 simp only [Bool.not_true, Bool.false_or, Bool.and_eq_true] at h
 refine ⟨by simpa using h.1, fun r hr => ?_⟩
 have := List.all_eq_true.1 h.2 r hr
 simpa using this

theorem quiet_not_alloc {o : AOp} (h : o.quiet = true) : o.isAlloc = false := by cases o <;> first | rfl | cases h

theorem filt_set {listed : Array Bool} {i : Nat} {ps : List DOper} (h : ∀ x ∈ ps, i ≠ x.i) : ps.filter (fun d => !(listed.setIfInBounds i true).getD d.i false) = ps.filter (fun d => !listed.getD d.i false) :=
 List.filter_congr (fun x hx => by rw [getD_set_ne false (h x hx)])

theorem cvL_v : ∀ {vs : List Value} {xs : List AV}, cvL vs = some xs → ∀ x ∈ xs, ∃ y, x = .v y
 | [], xs, h => by cases h; simp
 | v :: vs, xs, h => by
   unfold cvL at h
   split at h
   case h_2 => cases h
   rename_i y ys h1 h2
   cases h
   intro x hx
   rcases List.mem_cons.1 hx with rfl | hx
   ·exact ⟨y, rfl⟩
   ·exact cvL_v h2 x hx

theorem reserve {F : Nat → Prop} {L : LMap} {h : List Row} {w : World} (s : Sim F L h w) (blk : Obj) (nb : Nat) :
  Sim F L h (w.alloc blk) ∧ Step nb F L h w F L h (w.alloc blk) ∧ ¬ F w.heap.size ∧ ¬ Owned L h w.heap.size := by
 have hh : ∀ k, k < w.heap.size → (w.alloc blk).heap[k]? = w.heap[k]? := fun k hk => by
  show (w.heap.push blk)[k]? = _
  rw [Array.getElem?_push_lt hk, Array.getElem?_eq_getElem hk]
 have hsz : (w.alloc blk).heap.size = w.heap.size + 1 := by show (w.heap.push blk).size = _; simp
 have hF : ¬ F w.heap.size := fun hf => Nat.lt_irrefl _ (s.imm _ hf).1
 have hO : ∀ k, Owned L h k → k < w.heap.size := by
  rintro k ⟨i, v, z, e1, q1, h1, h2, h3⟩
  obtain ⟨q, g1, g2⟩ := s.row _ _ _ _ h1
  rw [h2] at g1
  cases g1
  exact g2.lt h3
 refine ⟨⟨fun i v z els hi => ?_, s.born, s.apart, fun b hb => ⟨by have := (s.imm b hb).1; omega, (s.imm b hb).2⟩, s.glob.mono (fun _ h => h) (fun b hb => hh b (s.imm b hb).1)⟩,
  ⟨fun _ h => h, fun _ _ _ _ h => h, rfl, rfl, rfl, by omega, fun b hb _ => hh b hb, fun _ _ h => h, fun _ _ _ h => h, fun _ _ h => .inl h⟩, hF, fun ho => Nat.lt_irrefl _ (hO _ ho)⟩
 obtain ⟨q, g1, g2⟩ := s.row i v z els hi
 exact ⟨q, g1, g2.mono (fun b hb => hh b (g2.lt hb)) (fun _ _ hx => hx.mono (fun _ h => h) (fun b hb => hh b (s.imm b hb).1) (fun _ _ _ h => h))⟩

theorem qapart_of {ops : Array Oper} {fin : List Nat} : ∀ {ps : List DOper}, (∀ d ∈ ps, d.o.op.quiet = true ∧ d.i ∉ fin) → (∀ d ∈ ps, selfOk d = true) → ps.Pairwise (PairR ops fin) → QApart ps
 | [], _, _, _ => trivial
 | d :: ps, hq, hs, hp => by
   cases hp with
   | cons h1 h2 =>
     refine ⟨fun n hn => ?_, fun c hc n hn => ⟨((pairOk_spec (h1 c hc).1).1 n hn).1 (.inl (hq d (by simp)).1) (.inl (hq c (by simp [hc])).2), ((pairOk_spec (h1 c hc).1).1 n hn).2.1⟩, qapart_of (fun x hx => hq x (by simp [hx])) (fun x hx => hs x (by simp [hx])) h2⟩
     exact (selfOk_spec (hs d (by simp)) (.inl (hq d (by simp)).1) n hn).1

def ResOne (w0 w : World) (F : Nat → Prop) (L : LMap) (h : List Row) (a : Act) (d : DOper) (k : Nat) : Prop :=
 ∃ zs dd cur T, d.o = ⟨some dd, .alloc zs, none⟩ ∧ (dd < a.tmps.size → a.tmps[dd]? = some (.pointer (some ⟨k, 0, none⟩))) ∧ w0.heap.size ≤ k ∧ w.heap[k]? = some (.cells cur T (0, 0)) ∧ zs.length ≤ cur.size ∧
  (∀ (j : Nat) (x : AV), zs[j]? = some x → ∃ y v, x = .v y ∧ cur[j]? = some v ∧ RepI w F y v) ∧ ¬ F k ∧ ¬ Owned L h k

theorem ResOne.step {w0 w w' : World} {F F' : Nat → Prop} {L L' : LMap} {h h' : List Row} {a a' : Act} {d : DOper} {k nb : Nat} (r : ResOne w0 w F L h a d k) (s : Sim F L h w) (st : Step nb F L h w F' L' h' w')
  (ha : ∀ dd, d.o.dst = some dd → a'.tmps.size = a.tmps.size ∧ a'.tmps[dd]? = a.tmps[dd]?) : ResOne w0 w' F' L' h' a' d k := by
 obtain ⟨zs, dd, cur, T, h1, h2, h3, h4, h5, h6, h7, h8⟩ := r
 have hk : k < w.heap.size := (Array.getElem?_eq_some_iff.1 h4).1
 obtain ⟨e1, e2⟩ := ha dd (by rw [h1])
 refine ⟨zs, dd, cur, T, h1, fun hd => by rw [e2]; exact h2 oM, h3, by rw [st.block k hk h8]; exact h4, h5, fun j x hx => ?_, fun hf => (st.fnew k hk hf).elim h7 h8, fun ho => h8 (st.own k hk ho)⟩
 obtain ⟨y, v, g1, g2, g3⟩ := h6 j x hx
 exact ⟨y, v, g1, g2, g3.mono st.imm (st.immEq s)⟩

theorem adopt {nb : Nat} {F0 F : Nat → Prop} {L0 L : LMap} {h0 b l : List Row} {w0 w : World} (s : Sim F L (b ++ l) w) (st : Step nb F0 L0 h0 w0 F L (b ++ l) w) (hb : b.length = nb) {k : Nat} {zs : List AV} {cur : Array Value} {T : TypeId}
  (hk : w0.heap.size ≤ k) (hcur : w.heap[k]? = some (.cells cur T (0, 0))) (hlen : zs.length ≤ cur.size) (hz : ∀ (j : Nat) (x : AV), zs[j]? = some x → ∃ y v, x = .v y ∧ cur[j]? = some v ∧ RepI w F y v) (hF : ¬ F k) (hO : ¬ Owned L (b ++ l) k) :
  ∃ L' : LMap, Sim F L' (b ++ (l ++ [.live 0 zs.length [zs]])) w ∧ Step nb F0 L0 h0 w0 F L' (b ++ (l ++ [.live 0 zs.length [zs]])) w ∧ L' (b.length + l.length) 0 = some (.pl k 0 zs.length 1) ∧ (∀ i v q, L i v = some q → L' i v = some q) ∧
   ∀ k', Owned L' (b ++ (l ++ [.live 0 zs.length [zs]])) k' → k' = k ∨ Owned L (b ++ l) k' := by
 have hblen : (b ++ l).length = b.length + l.length := by simp
 have hnone : L (b.length + l.length) 0 = none := by
  cases hq : L (b.length + l.length) 0 with
  | none => rfl
  | some q => exact absurd (s.lt hq) oM
 obtain ⟨L', hLn, hLm, hLo⟩ : ∃ L' : LMap, L' (b.length + l.length) 0 = some (.pl k 0 zs.length 1) ∧ (∀ i v q, L i v = some q → L' i v = some q) ∧ ∀ i v, (i ≠ b.length + l.length ∨ v ≠ 0) → L' i v = L i v := by
  refine ⟨fun i v => if i = b.length + l.length ∧ v = 0 then some (.pl k 0 zs.length 1) else L i v, by simp, ?_, ?_⟩
  ·intro i v q hl
   by_cases hi : i = b.length + l.length ∧ v = 0
   ·obtain ⟨rfl, rfl⟩ := hi
    rw [hnone] at hl; cases hl
   ·simp [hi, hl]
  ·intro i v hi
   have : ¬ (i = b.length + l.length ∧ v = 0) := fun ⟨a, b⟩ => hi.elim (fun h => h a) (fun h => h b)
   simp [this]
 have hold : ∀ j, j ≠ b.length + l.length → (b ++ (l ++ [Row.live 0 zs.length [zs]]))[j]? = (b ++ l)[j]? := by
  intro j hj
  rw [← List.append_assoc]
  by_cases hjl : j < (b ++ l).length
  ·rw [List.getElem?_append_left hjl]
  ·rw [List.getElem?_eq_none (by simp; omega), List.getElem?_eq_none oM]
 have hnew : (b ++ (l ++ [Row.live 0 zs.length [zs]]))[b.length + l.length]? = some (.live 0 zs.length [zs]) := by
  rw [← List.append_assoc, List.getElem?_append_right oM]; simp
 have own : ∀ k', Owned L' (b ++ (l ++ [Row.live 0 zs.length [zs]])) k' → k' = k ∨ Owned L (b ++ l) k' := by
  rintro k' ⟨i, v, z, e1, q1, h1, h2, h3⟩
  by_cases hi : i = b.length + l.length
  ·subst hi
   rw [hnew] at h1; cases h1
   rw [hLn] at h2; cases h2
   exact .inl h3.symm
  ·rw [hold i hi] at h1
   rw [hLo i v (.inl hi)] at h2
   exact .inr ⟨i, v, z, e1, q1, h1, h2, h3⟩
 have mono : ∀ {x : AV} {v : Value}, RepA w F L x v → RepA w F L' x v := fun hx => hx.mono (fun _ h => h) (fun _ _ => rfl) hLm
 have notk : ∀ {j v z els q1}, (b ++ l)[j]? = some (.live v z els) → L j v = some q1 → ¬ q1.on k := fun h1 h2 e => hO ⟨_, _, _, _, _, h1, h2, e⟩
 refine ⟨L', ⟨?_, ?_, ?_, fun q hq => ⟨(s.imm q hq).1, fun ho => (own q ho).elim (fun e => hF (e ▸ hq)) (fun ho => (s.imm q hq).2 ho)⟩, s.glob⟩,
  ⟨st.imm, fun i v q hi hq => hLm i v q (st.loc i v q hi hq), st.os, st.tape, st.output, st.size, st.block, fun q hq ho => (own q ho).elim (fun e => by omega) (fun ho => st.own q hq ho), fun i hi v hv => ?_, st.fnew⟩, hLn, hLm, own⟩
 ·intro j v z e1 hj
  by_cases hji : j = b.length + l.length
  ·subst hji
   rw [hnew] at hj
   cases hj
   refine ⟨_, hLn, rfl, by simp, by decide, cur, T, hcur, by omega, fun k' row hk' => ?_, fun k' row jj c hk' hj' => ?_⟩
   ·cases k' with
    | zero => simp at hk'; subst hk'; rfl
    | succ k' => simp at hk'
   ·cases k' with
    | zero =>
      simp at hk'; subst hk'
      obtain ⟨y, v, g1, g2, g3⟩ := hz jj c hj'
      subst g1
      exact ⟨rfl, v, by simpa using g2, .v _ _ g3⟩
    | succ k' => simp at hk'
  ·rw [hold j hji] at hj
   obtain ⟨q, hl1, hl2⟩ := s.row j v z e1 hj
   exact ⟨q, hLm _ _ _ hl1, hl2.mono (fun _ _ => rfl) (fun _ _ => mono)⟩
 ·intro i v q hl1
  by_cases hi : i = b.length + l.length
  ·subst hi
   refine ⟨_, hnew, ?_⟩
   by_cases hv : v = 0
   ·subst hv; exact Nat.le_refl _
   ·rw [hLo _ v (.inr hv)] at hl1
    exact absurd (s.lt hl1) oM
  ·rw [hLo i v (.inl hi)] at hl1
   obtain ⟨r, h1, h2⟩ := s.born _ _ _ hl1
   exact ⟨r, by rw [hold i hi]; exact h1, h2⟩
 ·intro i i' v v' z z' e1 e2 bb q1 q2 h1 h2 h3 h4 h5 h6
  by_cases hi : i = b.length + l.length
  ·by_cases hi' : i' = b.length + l.length
   ·rw [hi, hi']
   ·subst hi
    rw [hnew] at h1; cases h1
    rw [hLn] at h3; cases h3
    rw [hold i' hi'] at h2
    rw [hLo i' v' (.inl hi')] at h4
    have h5 : k = bb := h5
    exact absurd (h5 ▸ h6) (notk h2 h4)
  ·by_cases hi' : i' = b.length + l.length
   ·subst hi'
    rw [hnew] at h2; cases h2
    rw [hLn] at h4; cases h4
    rw [hold i hi] at h1
    rw [hLo i v (.inl hi)] at h3
    have h6 : k = bb := h6
    exact absurd (h6 ▸ h5) (notk h1 h3)
   ·rw [hold i hi] at h1
    rw [hold i' hi'] at h2
    rw [hLo i v (.inl hi)] at h3
    rw [hLo i' v' (.inl hi')] at h4
    exact s.apart i i' v v' z z' e1 e2 bb q1 q2 h1 h2 h3 h4 h5 h6
 ·rw [hold i oM]; exact st.base i hi v hv

structure DSt (P : Program) (imm : Bool) (ops : Array Oper) (fin : List Nat) (π : List DOper) (listed : Array Bool) : Prop where
 size : listed.size = ops.size
 unl : ∀ j, j < ops.size → listed.getD j true = false → j ∈ π.map (·.i)
 al : ∀ d ∈ π, listed.getD d.i false = true → d.o.op.isAlloc = true
 lt : ∀ d ∈ π, d.i < ops.size
 cl : ∀ (j : Nat) (o : Oper), ops[j]? = some o → listed.getD j false = true → ∀ ed ∈ o.after, Region.binds .any ed = true → listed.getD ed.on false = true
 nd : (π.map (·.i)).Nodup
 facts : ∀ d ∈ π, selfOk d = true ∧ (d.o.op.quiet = true → d.re = []) ∧ allocOk d.o = true ∧ ∃ o, ops[d.i]? = some o ∧ cOpX P imm o.op = some d.o.op ∧ cGuard ops o.guard = some d.o.guard ∧ d.o.dst = o.dst
 pw : π.Pairwise (PairR ops fin)

theorem DSt.sub {imm : Bool} {ops : Array Oper} {fin : List Nat} {π π' : List DOper} {listed : Array Bool} (h : DSt P imm ops fin π listed) (hs : π'.Sublist π) (hu : ∀ j, j < ops.size → listed.getD j true = false → j ∈ π'.map (·.i)) : DSt P imm ops fin π' listed :=
 ⟨h.size, hu, fun d hd => h.al d (hs.subset hd), fun d hd => h.lt d (hs.subset hd), h.cl, h.nd.sublist (hs.map _), fun d hd => h.facts d (hs.subset hd), h.pw.sublist hs⟩

structure DInv (C : CallP) (Q : List AV → List Row → List Row → Prop) (nb : Nat) (F0 : Nat → Prop) (L0 : LMap) (h0 : List Row) (w0 : World) (π : List DOper) (listed : Array Bool)
  (e : List AV) (b l : List Row) (F : Nat → Prop) (L : LMap) (w : World) (a : Act) (f : Nat → Nat) : Prop where
 run : runD C π e b l Q
 len : b.length = nb
 sim : Sim F L (b ++ l) w
 env : EnvR w F L e a
 step : Step nb F0 L0 h0 w0 F L (b ++ l) w
 res : ∀ d ∈ π, listed.getD d.i false = true → ResOne w0 w F L (b ++ l) a d (f d.i)
 inj : ∀ d ∈ π, ∀ d' ∈ π, listed.getD d.i false = true → listed.getD d'.i false = true → f d.i = f d'.i → d.i = d'.i

theorem alloc_eq {o : AOper} (h : allocOk o = true) (ha : o.op.isAlloc = true) : ∃ zs dd, o = ⟨some dd, .alloc zs, none⟩ := by
 obtain ⟨d, op, g⟩ := o
 cases op <;> first | (cases ha; done) | skip
 rename_i zs
 simp only [allocOk, AOp.isAlloc, Bool.not_true, Bool.false_or, Bool.and_eq_true, Option.isNone_iff_eq_none] at h
 obtain ⟨h1, h2⟩ := h
 cases d with
 | none => cases h2
 | some d => exact ⟨zs, d, by rw [h1]⟩

theorem cOp_alloc {o : Op} {zs : List AV} (hc1 : cOp P o = some (.alloc zs)) : ∃ t, o = .alloc t ∧ zeroT P t = some zs := by
 unfold cOp at hc1
 repeat' split at hc1
 all_goals first
  | (cases hc1; done)
  | (obtain ⟨y, h1, h2⟩ := map_some hc1; cases h2; exact ⟨_, rfl, h1⟩)
  | (obtain ⟨_, _, h⟩ := map_some hc1; cases h; done)
  | (obtain ⟨_, _, hc1⟩ := bind_some hc1; obtain ⟨_, _, hc1⟩ := bind_some hc1; cases hc1; done)
  | (obtain ⟨_, _, hc1⟩ := bind_some hc1; obtain ⟨_, _, hc1⟩ := bind_some hc1; obtain ⟨_, _, hc1⟩ := bind_some hc1; cases hc1; done)

theorem cOpX_alloc {imm : Bool} {o : Op} {zs : List AV} (hc1 : cOpX P imm o = some (.alloc zs)) : ∃ t, o = .alloc t ∧ zeroT P t = some zs := by
 unfold cOpX at hc1
 split at hc1
 ·obtain ⟨y, h1, h2⟩ := map_some hc1
  cases y <;> first | (cases h2; done) | skip
  cases h2
  exact cOp_alloc h1
 ·exact cOp_alloc hc1

theorem adoptAll {imm : Bool} {C : CallP} (hCm : ∀ f args b l (Q Q' : AV → List Row → List Row → Prop), C f args b l Q → (∀ x b' l', Q x b' l' → Q' x b' l') → C f args b l Q')
  {ops : Array Oper} {fin : List Nat} {nb : Nat} {F0 : Nat → Prop} {L0 : LMap} {h0 : List Row} {w0 : World} {Q : List AV → List Row → List Row → Prop} {listed : Array Bool} {rest : List DOper} {a : Act} {w : World} {f : Nat → Nat} {F : Nat → Prop} :
  ∀ (n : Nat) (p1 : List DOper) (e : List AV) (b l : List Row) (L : LMap), p1.length = n → (∀ d ∈ p1, d.o.op.quiet = true ∨ listed.getD d.i false = true) → DSt P imm ops fin (p1 ++ rest) listed → DInv C Q nb F0 L0 h0 w0 (p1 ++ rest) listed e b l F L w a f →
   ∃ p1' e' l' L', (∀ d ∈ p1', d.o.op.quiet = true ∧ d ∈ p1) ∧ p1'.Sublist p1 ∧ p1'.filter (fun d => !listed.getD d.i false) = p1.filter (fun d => !listed.getD d.i false) ∧ DSt P imm ops fin (p1' ++ rest) listed ∧ DInv C Q nb F0 L0 h0 w0 (p1' ++ rest) listed e' b l' F L' w a f := by
 intro n
 induction n with
 | zero =>
   intro p1 e b l L hn _ hd hi
   have : p1 = [] := List.eq_nil_of_length_eq_zero hn
   subst this
   exact ⟨[], e, l, L, by simp, List.Sublist.refl _, rfl, hd, hi⟩
 | succ n ih =>
   intro p1 e b l L hn hq hd hi
   by_cases hall : ∀ d ∈ p1, d.o.op.quiet = true
   ·exact ⟨p1, e, l, L, fun d hdd => ⟨hall d hdd, hdd⟩, List.Sublist.refl _, rfl, hd, hi⟩
   ·-- the first that is not quiet
    obtain ⟨q1, A, q2, hp1, hq1, hA⟩ : ∃ q1 A q2, p1 = q1 ++ A :: q2 ∧ (∀ d ∈ q1, d.o.op.quiet = true) ∧ ¬ A.o.op.quiet = true := by
     clear ih hn hd hi hq
     induction p1 with
     | nil => exact absurd (by simp) hall
     | cons x p1 ihp =>
       by_cases hx : x.o.op.quiet = true
       ·obtain ⟨q1, A, q2, h1, h2, h3⟩ := ihp (fun h => hall (by
         intro d hd
         rcases List.mem_cons.1 hd with rfl | hd
         ·exact hx
         ·exact h d hd))
        exact ⟨x :: q1, A, q2, by rw [h1]; rfl, fun d hd => by
         rcases List.mem_cons.1 hd with rfl | hd
         ·exact hx
         ·exact h2 d hd, h3⟩
       ·exact ⟨[], x, p1, rfl, by simp, hx⟩
    subst hp1
    have hAl : listed.getD A.i false = true := (hq A (by simp)).resolve_left hA
    have hAmem : A ∈ (q1 ++ A :: q2) ++ rest := by simp
    obtain ⟨hself, _, hok, _⟩ := hd.facts A hAmem
    obtain ⟨zs, dd, hAo⟩ := alloc_eq hok (hd.al A hAmem hAl)
    obtain ⟨zs', dd', cur, T, g1, g2, g3, g4, g5, g6, g7, g8⟩ := hi.res A hAmem hAl
    rw [hAo] at g1
    cases g1
    have hpw := hd.pw
    rw [List.append_assoc, List.cons_append] at hpw
    have hpw2 := List.pairwise_append.1 hpw
    have hpr : ∀ x ∈ q1, PairR ops fin x A := fun x hx => hpw2.2.2 x hx A (by simp)
    have hun : ∀ x ∈ q1, anc ops x.i ops.size A.i = false := by
     intro x hx
     cases ha : anc ops x.i ops.size A.i with
     | false => rfl
     | true =>
       exfalso
       have hl := anc_listed hd.cl (fun o2 ho2 ed hed hbd => hd.cl A.i o2 ho2 hAl ed hed hbd) ha
       have := hd.al x (by simp [hx]) hl
       have hxq := hq1 x hx
       rw [quiet_not_alloc hxq] at this; cases this
    have hrun := hi.run
    rw [List.append_assoc, List.cons_append] at hrun
    have hstep := bubble hCm hrun (fun x hx => ⟨hq1 x hx, (hd.facts x (by simp [hx])).2.1 (hq1 x hx)⟩) (qapart_of (fun x hx => ⟨hq1 x hx, fun hm => by
     have := (pairOk_spec (hpr x hx).1).2.2 hm
     rw [hun x hx] at this; cases this⟩) (fun x hx => (hd.facts x (by simp [hx])).1) hpw2.1)
     (fun x hx n hn => ⟨((pairOk_spec (hpr x hx).1).1 n hn).1 (.inl (hq1 x hx)) (.inr (.inl (hun x hx))), ((pairOk_spec (hpr x hx).1).1 n hn).2.1⟩) (fun x hx n hn => ((pairOk_spec (hpr x hx).1).2.1 (hun x hx)).2 n hn)
     (.inr fun x hx => ((hpr x hx).2 (hq1 x hx) (hun x hx)).resolve_left hA)
    rw [hAo] at hstep
    simp only [gd, gcase, if_true, aop, mk, stepR] at hstep
    obtain ⟨L', r1, r2, r3, r4, r5⟩ := adopt hi.sim hi.step hi.len g3 g4 g5 g6 g7 g8
    have hsub : (q1 ++ q2 ++ rest).Sublist ((q1 ++ A :: q2) ++ rest) := List.Sublist.append (List.Sublist.append (List.Sublist.refl _) (List.sublist_cons_self _ _)) (List.Sublist.refl _)
    have hAnot : ∀ x ∈ q1 ++ q2 ++ rest, x.i ≠ A.i := by
     intro x hx hxi
     have hnd := hd.nd
     simp only [List.map_append, List.map_cons, List.append_assoc, List.cons_append] at hnd
     rw [List.nodup_append] at hnd
     obtain ⟨n1, n2, n3⟩ := hnd
     simp only [List.append_assoc, List.mem_append] at hx
     rcases hx with hx | hx
     ·exact n3 _ (List.mem_map.2 ⟨x, hx, rfl⟩) _ (by simp) hxi
     ·exact (List.nodup_cons.1 n2).1 (by rw [← hxi, List.mem_append]; exact hx.elim (fun hx => .inl (List.mem_map.2 ⟨x, hx, rfl⟩)) (fun hx => .inr (List.mem_map.2 ⟨x, hx, rfl⟩)))
    have hd' : DSt P imm ops fin (q1 ++ q2 ++ rest) listed := hd.sub hsub (fun j hj hjl => by
     have := hd.unl j hj hjl
     simp only [List.map_append, List.map_cons, List.mem_append, List.mem_cons] at this ⊢
     rcases this with (h | h | h) | h
     ·exact .inl (.inl h)
     ·exfalso
      subst h
      have : A.i < listed.size := by rw [hd.size]; exact hj
      simp [this] at hAl hjl
      rw [hAl] at hjl; cases hjl
     ·exact .inl (.inr h)
     ·exact .inr h)
    have henv : EnvR w F L' (put e (some dd) (.ptr (b.length + l.length) 0 0 0)) a := by
     have he := hi.env.mono (L' := L') (fun _ h => h) (fun _ _ => rfl) r4
     refine ⟨he.1, by rw [he.2.1, put_len], fun i x v hx hv => ?_⟩
     simp only [put, upd_eq] at hx
     by_cases hid : dd = i
     ·subst hid
      have hds : dd < a.tmps.size := (Array.getElem?_eq_some_iff.1 hv).1
      rw [List.getElem?_set_self (by rw [← he.2.1]; exact hds)] at hx
      cases hx
      rw [g2 hds] at hv
      cases hv
      have := RepA.ptr (w := w) (F := F) (b.length + l.length) 0 0 0 _ _ _ _ r3
      simpa using this
     ·rw [List.getElem?_set_ne hid] at hx
      exact he.2.2 i x v hx hv
    have hres : ∀ d ∈ q1 ++ q2 ++ rest, listed.getD d.i false = true → ResOne w0 w F L' (b ++ (l ++ [.live 0 zs.length [zs]])) a d (f d.i) := by
     intro d hdm hdl
     obtain ⟨zs2, dd2, cur2, T2, h1, h2, h3, h4, h5, h6, h7, h8⟩ := hi.res d (hsub.subset hdm) hdl
     refine ⟨zs2, dd2, cur2, T2, h1, h2, h3, h4, h5, h6, h7, fun ho => (r5 _ ho).elim (fun hk => ?_) h8⟩
     exact hAnot d hdm (hi.inj d (hsub.subset hdm) A hAmem hdl hAl hk)
    have hi' : DInv C Q nb F0 L0 h0 w0 (q1 ++ q2 ++ rest) listed (put e (some dd) (.ptr (b.length + l.length) 0 0 0)) b (l ++ [.live 0 zs.length [zs]]) F L' w a f :=
     ⟨by rw [List.append_assoc]; exact hstep, hi.len, r1, henv, r2, hres, fun d hdm d' hdm' h1 h2 h3 => hi.inj d (hsub.subset hdm) d' (hsub.subset hdm') h1 h2 h3⟩
    have hmv : ∀ d ∈ q1 ++ q2, d ∈ q1 ++ A :: q2 := fun d hdm => by
     rw [List.mem_append] at hdm ⊢
     exact hdm.elim .inl (fun h => .inr (List.mem_cons_of_mem _ h))
    obtain ⟨p1', e', l', L2, k1, k2, k3, k4, k5⟩ := ih (q1 ++ q2) _ b _ L' (by simp at hn ⊢; omega) (fun d hdm => hq d (hmv d hdm)) hd' hi'
    refine ⟨p1', e', l', L2, fun d hdm => ⟨(k1 d hdm).1, hmv d (k1 d hdm).2⟩, k2.trans (List.Sublist.append (List.Sublist.refl _) (List.sublist_cons_self _ _)), ?_, k4, k5⟩
    rw [k3]
    rw [List.filter_append, List.filter_append, List.filter_cons]
    simp only [hAl, Bool.not_true, Bool.false_eq_true, if_false]

theorem draw_any {imm : Bool} {C : CallP} (hC : ∀ f args b l Q, C f args b l Q → ACalls P f args b l Q) (hCm : ∀ f args b l (Q Q' : AV → List Row → List Row → Prop), C f args b l Q → (∀ x b' l', Q x b' l' → Q' x b' l') → C f args b l Q')
  {ops : Array Oper} {fin : List Nat} {rk : Nat → Nat} (hedge : ∀ (i : Nat) (o : Oper), ops[i]? = some o → ∀ ed ∈ o.after, Region.binds .any ed = true → ed.on < ops.size ∧ rk ed.on < rk i) {nb : Nat} {F0 : Nat → Prop} {L0 : LMap} {h0 : List Row} {w0 : World} {Q : List AV → List Row → List Row → Prop} {Q' : Exit → Act → World → Prop}
  (hQ : ∀ e' b' l' F' L' a' w', Q e' b' l' → Sim F' L' (b' ++ l') w' → EnvR w' F' L' e' a' → Step nb F0 L0 h0 w0 F' L' (b' ++ l') w' → b'.length = nb → Q' .normal a' w') :
  ∀ (n : Nat) (π : List DOper) (listed : Array Bool), (π.filter (fun d => !listed.getD d.i false)).length = n → DSt P imm ops fin π listed →
   ∀ e b l F L w a f, DInv C Q nb F0 L0 h0 w0 π listed e b l F L w a f → wpAny P .any ops Q' n listed a w := by
 intro n
 induction n with
 | zero =>
   intro π listed hn hd e b l F L w a f hi
   have hlist : ∀ d ∈ π, listed.getD d.i false = true := by
    intro d hdm
    have := List.eq_nil_of_length_eq_zero hn
    have := List.filter_eq_nil_iff.1 this d hdm
    simpa using this
   obtain ⟨p1', e', l', L', k1, k2, k3, k4, k5⟩ := adoptAll hCm π.length π e b l L rfl (fun d hdm => .inr (hlist d hdm)) (rest := []) (by simpa using hd) (by simpa using hi)
   have hnil : p1' = [] := by
    cases hp : p1' with
    | nil => rfl
    | cons d ds =>
      exfalso
      have hd1 := k1 d (by rw [hp]; simp)
      have ha := hd.al d hd1.2 (hlist d hd1.2)
      rw [quiet_not_alloc hd1.1] at ha; cases ha
   subst hnil
   refine ⟨?_, hQ _ _ _ _ _ _ _ k5.run k5.sim k5.env k5.step k5.len⟩
   cases hr : Region.ready .any ops listed with
   | nil => rfl
   | cons j js =>
     have hj : j ∈ Region.ready .any ops listed := by rw [hr]; simp
     obtain ⟨h1, o, h2, _⟩ := mem_ready.1 hj
     have := k4.unl j (Array.getElem?_eq_some_iff.1 h2).1 h1
     simp at this
 | succ n ih =>
   intro π listed hn hd e b l F L w a f hi
   have unlD : ∀ d ∈ π, listed.getD d.i false = false → listed.getD d.i true = false := by
    intro d hdm hl
    have : d.i < listed.size := by rw [hd.size]; exact hd.lt d hdm
    simp [this] at hl ⊢; exact hl
   refine ⟨fun hr => ?_, fun j hj => ?_⟩
   ·-- there is always one that is ready: the least that is left
    exfalso
    have hex : ∃ m, (m < ops.size ∧ listed.getD m true = false) ∧ ∀ m', (m' < ops.size ∧ listed.getD m' true = false) → rk m ≤ rk m' := by
     cases hπ : π.filter (fun d => !listed.getD d.i false) with
     | nil => rw [hπ] at hn; simp at hn
     | cons d ds =>
       have hdf : d ∈ π.filter (fun d => !listed.getD d.i false) := by rw [hπ]; simp
       obtain ⟨hd1, hd2⟩ := List.mem_filter.1 hdf
       obtain ⟨r, ⟨m, hm1, hm2, hm3⟩, hleast⟩ := exists_least (p := fun r => ∃ m, m < ops.size ∧ listed.getD m true = false ∧ rk m = r) ⟨rk d.i, d.i, hd.lt d hd1, unlD d hd1 (by simpa using hd2), rfl⟩
       exact ⟨m, ⟨hm1, hm2⟩, fun m' h' => by rw [hm3]; exact hleast _ ⟨m', h'.1, h'.2, rfl⟩⟩
    obtain ⟨m, ⟨hm1, hm2⟩, hm3⟩ := hex
    have hmr : m ∈ Region.ready .any ops listed := by
     refine mem_ready.2 ⟨hm2, ops[m], Array.getElem?_eq_getElem hm1, fun ed hed hbd => ?_⟩
     obtain ⟨hons, hon⟩ := hedge m _ (Array.getElem?_eq_getElem hm1) ed hed hbd
     cases hl : listed.getD ed.on false with
     | true => rfl
     | false =>
       have hon2 : ed.on < listed.size := by rw [hd.size]; exact hons
       have hlf : listed.getD ed.on true = false := by simp [hon2] at hl ⊢; exact hl
       have := hm3 ed.on ⟨hons, hlf⟩
       omega
    rw [hr] at hmr
    cases hmr
   ·obtain ⟨hj1, o, ho, hj2⟩ := mem_ready.1 hj
    have hjs : j < ops.size := (Array.getElem?_eq_some_iff.1 ho).1
    obtain ⟨d, hdm, rfl⟩ := List.mem_map.1 (hd.unl j hjs hj1)
    have hdls : d.i < listed.size := by rw [hd.size]; exact hjs
    have hdl : listed.getD d.i false = false := by simp [hdls] at hj1 ⊢; exact hj1
    obtain ⟨hself, hquiet, hok, o', ho', hc1, hc2, hc3⟩ := hd.facts d hdm
    rw [ho] at ho'
    cases ho'
    have setSize : (listed.setIfInBounds d.i true).size = ops.size := by simp [hd.size]
    have setCl : ∀ (j : Nat) (o : Oper), ops[j]? = some o → (listed.setIfInBounds d.i true).getD j false = true → ∀ ed ∈ o.after, Region.binds .any ed = true → (listed.setIfInBounds d.i true).getD ed.on false = true := by
     intro j o2 ho2 hjl ed hed hbd
     by_cases hjd : d.i = j
     ·subst hjd
      rw [ho] at ho2; cases ho2
      exact getD_set_true (hj2 ed hed hbd)
     ·rw [getD_set_ne false hjd] at hjl
      exact getD_set_true (hd.cl j o2 ho2 hjl ed hed hbd)
    by_cases hal : d.o.op.isAlloc = true
    ·-- a new variable, ahead of its turn
     obtain ⟨zs, dd, hdo⟩ := alloc_eq hok hal
     rw [hdo] at hc1 hc2 hc3
     obtain ⟨t, hot, hzt⟩ : ∃ t, o.op = .alloc t ∧ zeroT P t = some zs := by
      exact cOpX_alloc hc1
     obtain ⟨p1, p2, hπ⟩ := List.append_of_mem hdm
     have hdeq : d = ⟨d.i, ⟨some dd, .alloc zs, none⟩, d.re⟩ := by rw [← hdo]
     have hw : Region.wanted o (yielded ops a.tmps) = true := gd_ok hi.env hc2 rfl
     unfold wpOp
     rw [ho]
     simp only [hw, if_true]
     unfold zeroT at hzt
     split at hzt
     case h_2 => cases hzt
     rename_i inf hinf
     split at hzt
     case h_2 => cases hzt
     rename_i z hzz
     have hex : (execOp a.eval o).run P w = .ok (.value (.pointer (some ⟨w.heap.size, 0, none⟩))) (w.alloc (.cells z.cells t)) := by
      simp [execOp, hot, Instr.alloc, zeroValue, typeInfo, hinf, hzz, newVar, newRow]
     refine .inl ?_
     unfold Oper.wp
     rw [hex]
     show wpAny P .any ops Q' n (listed.setIfInBounds d.i true) (a.put o.dst (.pointer (some ⟨w.heap.size, 0, none⟩))) (w.alloc (.cells z.cells t))
     have hdst : o.dst = some dd := hc3.symm
     rw [hdst]
     obtain ⟨s1, st1, nF, nO⟩ := reserve hi.sim (.cells z.cells t) nb
     obtain ⟨c1, c2⟩ := cvL_rep (w := w.alloc (.cells z.cells t)) (F := F) (L := L) hzt
     have hpw := hd.pw
     have hnd := hd.nd
     rw [hπ] at hpw hnd
     have hpw2 := List.pairwise_append.1 hpw
     rw [List.map_append, List.map_cons, List.nodup_append] at hnd
     obtain ⟨n1, n2, n3⟩ := hnd
     have ne1 : ∀ x ∈ p1, d.i ≠ x.i := fun x hx hxi => n3 _ (List.mem_map.2 ⟨x, hx, rfl⟩) _ (by simp) hxi.symm
     have ne2 : ∀ x ∈ p2, d.i ≠ x.i := fun x hx hxi => (List.nodup_cons.1 n2).1 (by rw [hxi]; exact List.mem_map.2 ⟨x, hx, rfl⟩)
     have hddst : d.o.dst = some dd := by rw [hdo]
     have hoth : ∀ x ∈ π, x.i ≠ d.i → x.o.dst ≠ some dd := by
      intro x hx hxi
      rw [hπ, List.mem_append] at hx
      rcases hx with hx | hx
      ·exact ((pairOk_spec (hpw2.2.2 x hx d (by simp)).1).1 dd hddst).2.1
      ·rcases List.mem_cons.1 hx with rfl | hx
       ·exact absurd rfl hxi
       ·intro hxd
        exact ((pairOk_spec ((List.pairwise_cons.1 hpw2.2.1).1 x hx).1).1 dd hxd).2.1 hddst
     have hps : (a.put (some dd) (.pointer (some ⟨w.heap.size, 0, none⟩))).tmps.size = a.tmps.size := by simp [Act.put]
     have hpo : ∀ j, dd ≠ j → (a.put (some dd) (.pointer (some ⟨w.heap.size, 0, none⟩))).tmps[j]? = a.tmps[j]? := fun j hj => by
      simp only [Act.put]; rw [Array.getElem?_setIfInBounds_ne hj]
     have hrun : runD C π (put e (some dd) .any) b l Q := by
      have hr := hi.run
      rw [hπ, hdeq] at hr ⊢
      refine runD_put hCm (selfOk_spec hself (.inr hal) dd hddst).2 (fun c hc => ?_) hr
      have := (pairOk_spec (hpw2.2.2 c hc d (by simp)).1).1 dd hddst
      exact ⟨this.1 (.inr hal) (.inr (.inr hal)), this.2.1, this.2.2 hal⟩
     have old : ∀ c ∈ π, c.i ≠ d.i → (listed.setIfInBounds d.i true).getD c.i false = true → listed.getD c.i false = true := fun c hc hci hcl => by rw [getD_set_ne false hci.symm] at hcl; exact hcl
     have lt : ∀ c ∈ π, listed.getD c.i false = true → f c.i < w.heap.size := fun c hc hcl => by
      obtain ⟨_, _, cur, T, _, _, _, h4, _⟩ := hi.res c hc hcl
      exact (Array.getElem?_eq_some_iff.1 h4).1
     have uniq : ∀ c ∈ π, c.i = d.i → c = d := by
      intro c hc hci
      rw [hπ, List.mem_append] at hc
      rcases hc with hc | hc
      ·exact absurd hci.symm (ne1 c hc)
      ·rcases List.mem_cons.1 hc with h | hc
       ·exact h
       ·exact absurd hci.symm (ne2 c hc)
     refine ih π (listed.setIfInBounds d.i true) ?_ ⟨setSize, fun j hj hjl => ?_, fun c hc hcl => ?_, hd.lt, setCl, hd.nd, hd.facts, hd.pw⟩ (put e (some dd) .any) b l F L _ _ (fun i => if i = d.i then w.heap.size else f i)
      ⟨hrun, hi.len, s1, (hi.env.mono (fun _ h => h) (st1.immEq hi.sim) (fun _ _ _ h => h)).put (some dd) (RepA.any _), hi.step.trans st1, fun c hc hcl => ?_, fun c hc c' hc' hcl hcl' hcc => ?_⟩
     ·have e1 := filt_set (listed := listed) ne1
      have e2 := filt_set (listed := listed) ne2
      rw [hπ, List.filter_append, List.filter_cons] at hn ⊢
      rw [e1, e2]
      rw [hdl] at hn
      have : (listed.setIfInBounds d.i true).getD d.i false = true := by simp [hdls]
      rw [this]
      simp at hn ⊢
      omega
     ·by_cases hjd : d.i = j
      ·subst hjd; simp [hdls] at hjl
      ·rw [getD_set_ne true hjd] at hjl; exact hd.unl j hj hjl
     ·by_cases hci : c.i = d.i
      ·rw [uniq c hc hci]; exact hal
      ·exact hd.al c hc (old c hc hci hcl)
     ·by_cases hci : c.i = d.i
      ·rw [if_pos hci, uniq c hc hci]
       refine ⟨zs, dd, z.cells, t, hdo, fun hdd => ?_, hi.step.size, ?_, ?_, fun j x hx => ?_, nF, nO⟩
       ·simp only [Act.put] at hdd ⊢
        rw [Array.getElem?_setIfInBounds]
        simp at hdd ⊢
        exact hdd
       ·show (w.heap.push _)[w.heap.size]? = _
        simp
       ·have := c1.1; simp at this; omega
       ·obtain ⟨y, rfl⟩ := cvL_v hzt x (List.mem_of_getElem? hx)
        obtain ⟨u, hu, hr⟩ := c1.get hx
        cases hr with
        | v _ _ hr => exact ⟨y, u, rfl, by simpa using hu, hr⟩
      ·rw [if_neg hci]
       refine (hi.res c hc (old c hc hci hcl)).step hi.sim st1 (fun j hj => ⟨hps, hpo j ?_⟩)
       rintro rfl
       exact hoth c hc hci hj
     ·by_cases hci : c.i = d.i
      ·by_cases hci' : c'.i = d.i
       ·rw [hci, hci']
       ·rw [if_pos hci, if_neg hci'] at hcc
        have := lt c' hc' (old c' hc' hci' hcl')
        omega
      ·by_cases hci' : c'.i = d.i
       ·rw [if_neg hci, if_pos hci'] at hcc
        have := lt c hc (old c hc hci hcl)
        omega
       ·rw [if_neg hci, if_neg hci'] at hcc
        exact hi.inj c hc c' hc' (old c hc hci hcl) (old c' hc' hci' hcl') hcc
    ·obtain ⟨p1, p2, hπ⟩ := List.append_of_mem hdm
     subst hπ
     have hal : d.o.op.isAlloc = false := by simpa using hal
     have hnotA : ∀ x, x ∈ p1 → listed.getD x.i false = false → anc ops x.i ops.size d.i = false := by
      intro x hx hxl
      cases ha : anc ops x.i ops.size d.i with
      | false => rfl
      | true =>
        have hl := anc_listed hd.cl (fun o2 ho2 ed hed hbd => by rw [ho] at ho2; cases ho2; exact hj2 ed hed hbd) ha
        rw [hxl] at hl; cases hl
     have hpwO := List.pairwise_append.1 hd.pw
     have hqO : ∀ x ∈ p1, x.o.op.quiet = true ∨ listed.getD x.i false = true := by
      intro x hx
      cases hxl : listed.getD x.i false with
      | true => exact .inr rfl
      | false =>
        refine .inl ((((pairOk_spec (hpwO.2.2 x hx d (by simp)).1).2.1 (hnotA x hx hxl)).1).resolve_right ?_)
        rw [hal]; simp
     obtain ⟨q1, e', l', L', k1, k2, k3, hd', hi'⟩ := adoptAll hCm p1.length p1 e b l L rfl hqO (rest := d :: p2) hd hi
     have hpw2 := List.pairwise_append.1 hd'.pw
     have hq : ∀ x ∈ q1, x.o.op.quiet = true := fun x hx => (k1 x hx).1
     have hql : ∀ x ∈ q1, listed.getD x.i false = false := by
      intro x hx
      cases hxl : listed.getD x.i false with
      | false => rfl
      | true =>
        have := hd'.al x (by simp [hx]) hxl
        rw [quiet_not_alloc (hq x hx)] at this; cases this
     have hnot : ∀ x ∈ q1, anc ops x.i ops.size d.i = false := fun x hx => hnotA x (k1 x hx).2 (hql x hx)
     have hpr : ∀ x ∈ q1, PairR ops fin x d := fun x hx => hpw2.2.2 x hx d (by simp)
     have hstep := bubble hCm hi'.run (fun x hx => ⟨hq x hx, (hd'.facts x (by simp [hx])).2.1 (hq x hx)⟩) (qapart_of (fun x hx => ⟨hq x hx, fun hm => by
      have := (pairOk_spec (hpr x hx).1).2.2 hm
      rw [hnot x hx] at this; cases this⟩) (fun x hx => (hd'.facts x (by simp [hx])).1) hpw2.1)
      (fun x hx n hn => ⟨((pairOk_spec (hpr x hx).1).1 n hn).1 (.inl (hq x hx)) (.inr (.inl (hnot x hx))), ((pairOk_spec (hpr x hx).1).1 n hn).2.1⟩) (fun x hx n hn => ((pairOk_spec (hpr x hx).1).2.1 (hnot x hx)).2 n hn)
      (by
       cases hqd : d.o.op.quiet with
       | true => exact .inl rfl
       | false => exact .inr fun x hx => ((hpr x hx).2 (hq x hx) (hnot x hx)).resolve_left (by rw [hqd]; simp))
     have hsub : (q1 ++ p2).Sublist (q1 ++ d :: p2) := List.Sublist.append (List.Sublist.refl _) (List.sublist_cons_self _ _)
     have hnd := hd'.nd
     rw [List.map_append, List.map_cons, List.nodup_append] at hnd
     obtain ⟨n1, n2, n3⟩ := hnd
     have ne1 : ∀ x ∈ q1, d.i ≠ x.i := fun x hx hxi => n3 _ (List.mem_map.2 ⟨x, hx, rfl⟩) _ (by simp) hxi.symm
     have ne2 : ∀ x ∈ p2, d.i ≠ x.i := fun x hx hxi => (List.nodup_cons.1 n2).1 (by rw [hxi]; exact List.mem_map.2 ⟨x, hx, rfl⟩)
     have ne : ∀ x ∈ q1 ++ p2, d.i ≠ x.i := fun x hx => (List.mem_append.1 hx).elim (ne1 x) (ne2 x)
     have old : ∀ c ∈ q1 ++ p2, (listed.setIfInBounds d.i true).getD c.i false = true → listed.getD c.i false = true := fun c hc hcl => by rw [getD_set_ne false (ne c hc)] at hcl; exact hcl
     have next : ∀ e2 b2 l2 F2 L2 a2 w2, runD C (q1 ++ p2) e2 b2 l2 Q → Sim F2 L2 (b2 ++ l2) w2 → EnvR w2 F2 L2 e2 a2 → Step nb F L' (b ++ l') w F2 L2 (b2 ++ l2) w2 → b2.length = nb → (∃ v, a2 = a.put d.o.dst v) → wpAny P .any ops Q' n (listed.setIfInBounds d.i true) a2 w2 := by
      rintro e2 b2 l2 F2 L2 a2 w2 hk s2 he2 st2 hb2 ⟨v, rfl⟩
      refine ih (q1 ++ p2) (listed.setIfInBounds d.i true) ?_ ⟨setSize, fun j hj hjl => ?_, fun c hc hcl => hd'.al c (hsub.subset hc) (old c hc hcl), fun c hc => hd'.lt c (hsub.subset hc), setCl, hd'.nd.sublist (hsub.map _), fun c hc => hd'.facts c (hsub.subset hc), hd'.pw.sublist hsub⟩ e2 b2 l2 F2 L2 w2 _ f
       ⟨hk, hb2, s2, he2, hi'.step.trans st2, fun c hc hcl => ?_, fun c hc c' hc' hcl hcl' hcc => hi'.inj c (hsub.subset hc) c' (hsub.subset hc') (old c hc hcl) (old c' hc' hcl') hcc⟩
      ·rw [List.filter_append, List.filter_cons, hdl] at hn
       rw [filt_set ne, List.filter_append, k3]
       simp at hn ⊢
       omega
      ·by_cases hjd : d.i = j
       ·subst hjd; simp [hdls] at hjl
       ·rw [getD_set_ne true hjd] at hjl
        have := hd'.unl j hj hjl
        simp only [List.map_append, List.map_cons, List.mem_append, List.mem_cons] at this ⊢
        rcases this with h1 | h1 | h1
        ·exact .inl h1
        ·exact absurd h1.symm hjd
        ·exact .inr h1
      ·refine (hi'.res c (hsub.subset hc) (old c hc hcl)).step hi'.sim st2 (fun j hj => ⟨by cases hdd : d.o.dst <;> simp [Act.put], ?_⟩)
       have hcp : c ∈ p2 := by
        refine (List.mem_append.1 hc).resolve_left (fun h => ?_)
        have := hql c h
        rw [old c hc hcl] at this; cases this
       have hdj : d.o.dst ≠ some j := ((pairOk_spec ((List.pairwise_cons.1 hpw2.2.1).1 c hcp).1).1 j hj).2.1
       cases hdd : d.o.dst with
       | none => rfl
       | some m =>
         have : m ≠ j := fun e => hdj (by rw [hdd, e])
         simp only [Act.put]
         rw [Array.getElem?_setIfInBounds_ne this]
     unfold wpOp
     rw [ho]
     simp only
     unfold gcase at hstep
     split at hstep
     case h_2 => exact hstep.elim
     rename_i t hg
     rw [gd_ok hi'.env hc2 hg]
     cases t
     ·simp only [Bool.false_eq_true, if_false] at hstep ⊢
      rw [← hc3]
      exact next _ _ _ F L' _ w hstep hi'.sim (hi'.env.put d.o.dst (RepA.undef _ _ _)) (Step.refl _ _ _ _ _) hi'.len ⟨_, rfl⟩
     ·simp only [if_true] at hstep ⊢
      rw [hc3] at hstep
      refine .inl (op_ok hc1 hC (K := fun e b l => runD C (q1 ++ p2) e b l Q) hstep hi'.sim hi'.env Q' ?_)
      intro e2 b2 l2 F2 L2 a2 w2 hk s2 he2 st2 hb2 ha2
      exact next e2 b2 l2 F2 L2 a2 w2 hk s2 he2 (hi'.len ▸ st2) (hb2.trans hi'.len) (by rw [hc3]; exact ha2)

theorem edges_rank {ops : Array Oper} {is : List Nat} (h : edgesOk ops is = true) (hlen : is.length = ops.size) (hlt : ∀ j ∈ is, j < ops.size) : ∀ (i : Nat) (o : Oper), ops[i]? = some o → ∀ ed ∈ o.after, Region.binds .any ed = true → ed.on < ops.size ∧ rankOf is ed.on < rankOf is i := by
 intro i o ho ed hed hbd
 have hi : i < ops.size := (Array.getElem?_eq_some_iff.1 ho).1
 unfold edgesOk at h
 have h1 := List.all_eq_true.1 h i (by simpa using hi)
 rw [ho] at h1
 have h2 := List.all_eq_true.1 h1 ed (by simpa using hed)
 rw [hbd] at h2
 have h3 : rankOf is ed.on < rankOf is i := by simpa using h2
 refine ⟨?_, h3⟩
 have h4 : rankOf is i ≤ is.length := List.findIdx_le_length
 have h5 : is.findIdx (· == ed.on) < is.length := by unfold rankOf at h3 h4; omega
 have h6 := List.findIdx_getElem (w := h5)
 have h7 : is[is.findIdx (· == ed.on)] = ed.on := by simpa using h6
 rw [← h7]
 exact hlt _ (List.getElem_mem h5)
inductive Path (ops : Array Oper) : Nat → Array Bool → List Nat → Prop
 | out {listed : Array Bool} : Path ops 0 listed []
 | stop {n : Nat} {listed : Array Bool} : Region.ready .any ops listed = [] → Path ops n listed []
 | cons {n j : Nat} {listed : Array Bool} {is : List Nat} : j ∈ Region.ready .any ops listed → Path ops n (listed.setIfInBounds j true) is → Path ops (n + 1) listed (j :: is)
theorem any_path {ops : Array Oper} {Q : Exit → Act → World → Prop} {n : Nat} {listed : Array Bool} {is : List Nat} (p : Path ops n listed is) : ∀ {a : Act} {w : World}, wpAny P .any ops Q n listed a w → wpOps P ops Q is a w := by
 induction p with
 | out => intro a w h; exact h.2
 | @stop n listed hr =>
   intro a w h
   cases n with
   | zero => exact h.2
   | succ n => exact h.1 hr
 | cons hj _ ih =>
   intro a w h
   rw [wpOps_cons]
   exact wpOp_mono (fun a w h => ih h) (h.2 _ hj)
theorem go_path {ops : Array Oper} : ∀ (n t : Nat) (listed : Array Bool), Path ops n listed (Region.linearise.go .any ops n t listed [])
 | 0, t, listed => by simpa [Region.linearise.go] using Path.out
 | n + 1, t, listed => by
   have hr : Region.ready .any ops listed = (List.range ops.size).filter fun i => !listed.getD i true && ((ops[i]?).map (·.after.all fun e => !Region.binds .any e || listed.getD e.on false)).getD false := rfl
   unfold Region.linearise.go
   rw [← hr]
   simp only
   split
   ·rename_i i hi
    rw [linearise_go_acc]
    exact Path.cons (List.mem_of_getElem? hi) (go_path n _ _)
   ·rename_i hi
    refine Path.stop ?_
    cases h : Region.ready .any ops listed with
    | nil => rfl
    | cons x xs =>
      rw [h] at hi
      rw [List.getElem?_eq_none_iff] at hi
      have := Nat.mod_lt t (show 0 < (x :: xs).length by simp)
      omega
theorem addAfter_size {ops : Array Oper} {k i : Nat} : (addAfter ops k i).size = ops.size := by
 unfold addAfter
 split
 ·rw [Array.size_setIfInBounds]
 ·rfl
theorem addAfter_ne {ops : Array Oper} {k i j : Nat} (h : j ≠ k) : (addAfter ops k i)[j]? = ops[j]? := by
 unfold addAfter
 split
 ·rw [Array.getElem?_setIfInBounds_ne (fun e => h e.symm)]
 ·rfl
theorem addAfter_at {ops : Array Oper} {k i : Nat} {o : Oper} (h : ops[k]? = some o) : (addAfter ops k i)[k]? = some { o with after := o.after.push ⟨i, .data⟩ } := by
 unfold addAfter
 rw [h]
 exact Array.getElem?_setIfInBounds_self_of_lt (Array.getElem?_eq_some_iff.1 h).1
theorem ready_down {ops : Array Oper} {k i j : Nat} {listed : Array Bool} (h : j ∈ Region.ready .any (addAfter ops k i) listed) : j ∈ Region.ready .any ops listed := by
 obtain ⟨h1, o, h2, h3⟩ := mem_ready.1 h
 by_cases e : j = k
 ·subst e
  cases ho : ops[j]? with
  | none => unfold addAfter at h2; rw [ho] at h2; simp only at h2; rw [ho] at h2; cases h2
  | some o' =>
    rw [addAfter_at ho] at h2
    cases h2
    exact mem_ready.2 ⟨h1, o', ho, fun ed hed hb => h3 ed (Array.mem_push_of_mem _ hed) hb⟩
 ·rw [addAfter_ne e] at h2
  exact mem_ready.2 ⟨h1, o, h2, h3⟩
theorem ready_up {ops : Array Oper} {k i j : Nat} {listed : Array Bool} (h : j ∈ Region.ready .any ops listed) (hk : j ≠ k ∨ listed.getD i false = true) : j ∈ Region.ready .any (addAfter ops k i) listed := by
 obtain ⟨h1, o, h2, h3⟩ := mem_ready.1 h
 by_cases e : j = k
 ·subst e
  refine mem_ready.2 ⟨h1, _, addAfter_at h2, fun ed hed hb => ?_⟩
  rcases Array.mem_push.1 hed with hed | rfl
  ·exact h3 ed hed hb
  ·exact hk.resolve_left (fun h => h rfl)
 ·exact mem_ready.2 ⟨h1, o, by rw [addAfter_ne e]; exact h2, h3⟩
theorem getD_keep {listed : Array Bool} {i j : Nat} (h : listed.getD i false = true) : (listed.setIfInBounds j true).getD i false = true := getD_set_true h
theorem path_same {ops : Array Oper} {k i n : Nat} {listed : Array Bool} {is : List Nat} (p : Path ops n listed is) (hi : listed.getD i false = true) : Path (addAfter ops k i) n listed is := by
 induction p with
 | out => exact .out
 | stop hr =>
   refine .stop ?_
   cases h : Region.ready .any (addAfter ops k i) _ with
   | nil => rfl
   | cons x xs =>
     have := ready_down (h ▸ List.mem_cons_self (a := x) (l := xs))
     rw [hr] at this; cases this
 | cons hj _ ih => exact .cons (ready_up hj (.inr hi)) (ih (getD_keep hi))
theorem path_split {ops : Array Oper} {k i n : Nat} (hik : i ≠ k) {listed : Array Bool} {is : List Nat} (p : Path ops n listed is) (hs : i < listed.size ∧ k < listed.size) : Path (addAfter ops k i) n listed is ∨ Path (addAfter ops i k) n listed is := by
 induction p with
 | out => exact .inl .out
 | stop hr =>
   refine .inl (.stop ?_)
   cases h : Region.ready .any (addAfter ops k i) _ with
   | nil => rfl
   | cons x xs =>
     have := ready_down (h ▸ List.mem_cons_self (a := x) (l := xs))
     rw [hr] at this; cases this
 | @cons n j listed is hj p ih =>
   by_cases h1 : j = i
   ·subst h1
    exact .inl (.cons (ready_up hj (.inl hik)) (path_same p (by simp [hs.1])))
   ·by_cases h2 : j = k
    ·subst h2
     exact .inr (.cons (ready_up hj (.inl h1)) (path_same p (by simp [hs.2])))
    ·rcases ih (by rw [Array.size_setIfInBounds]; exact hs) with h | h
     ·exact .inl (.cons (ready_up hj (.inl h2)) h)
     ·exact .inr (.cons (ready_up hj (.inl h1)) h)
theorem wpOps_after {ops : Array Oper} {Q : Exit → Act → World → Prop} {k i : Nat} : ∀ {is : List Nat} {a : Act} {w : World}, wpOps P (addAfter ops k i) Q is a w → wpOps P ops Q is a w
 | [], a, w, h => h
 | j :: is, a, w, h => by
   rw [wpOps_cons] at h ⊢
   have hy : yielded (addAfter ops k i) a.tmps = yielded ops a.tmps := by
    funext g
    unfold yielded
    by_cases e : g = k
    ·subst e
     cases ho : ops[g]? with
     | none => unfold addAfter; rw [ho]; simp only; rw [ho]
     | some o => rw [addAfter_at ho]; rfl
    ·rw [addAfter_ne e]
   have hm := wpOp_mono (K' := wpOps P ops Q is) (fun a w h => wpOps_after h) h
   unfold wpOp at hm ⊢
   rw [hy] at hm
   by_cases e : j = k
   ·subst e
    cases ho : ops[j]? with
    | none =>
      have : (addAfter ops j i)[j]? = none := by unfold addAfter; rw [ho]; exact ho
      rw [this] at hm; exact hm
    | some o => rw [addAfter_at ho] at hm; exact hm
   ·rw [addAfter_ne e] at hm; exact hm
def AllPaths (P : Program) (ops : Array Oper) (Q : Exit → Act → World → Prop) (a : Act) (w : World) : Prop := ∀ is, Path ops ops.size (Array.replicate ops.size false) is → wpOps P ops Q is a w
theorem paths_split {ops : Array Oper} {Q : Exit → Act → World → Prop} {a : Act} {w : World} {i k : Nat} (hik : i ≠ k) (hi : i < ops.size) (hk : k < ops.size) (h1 : AllPaths P (addAfter ops k i) Q a w) (h2 : AllPaths P (addAfter ops i k) Q a w) : AllPaths P ops Q a w := by
 intro is p
 rcases path_split hik p (by simp [hi, hk]) with p | p
 ·exact wpOps_after (h1 is (by rw [addAfter_size]; exact p))
 ·exact wpOps_after (h2 is (by rw [addAfter_size]; exact p))
theorem region_paths {id : Nat} {ops : Array Oper} {Q : Exit → Act → World → Prop} {a : Act} {w : World} (hm : P.follows .mixedOrders = true) (h : AllPaths P ops Q a { w with drawn := w.drawn + 1 }) : (Code.region id ops true).wp P Q a w :=
 wp_region_draw fun t => by
  simp only [Region.schedule, hm, Bool.true_or, if_true]
  exact h _ (go_path _ _ _)
theorem draw_mixed {imm : Bool} {ops : Array Oper} {ds : List DOper} (hds : cDraw P imm ops = some ds) : P.follows .mixedOrders = true := by
 unfold cDraw at hds
 split at hds
 case h_2 => cases hds
 simp only at hds
 split at hds
 case isFalse => cases hds
 rename_i hb
 exact hb.1
theorem draw_paths {imm : Bool} {C : CallP} (hC : ∀ f args b l Q, C f args b l Q → ACalls P f args b l Q) (hCm : ∀ f args b l (Q Q' : AV → List Row → List Row → Prop), C f args b l Q → (∀ x b' l', Q x b' l' → Q' x b' l') → C f args b l Q')
  {ops : Array Oper} {ds : List DOper} (hds : cDraw P imm ops = some ds) (e : List AV) (b l : List Row) {Q : AExit → List AV → List Row → List Row → Prop}
  (h : run C Weak (.draw ds) e b l Q) {F : Nat → Prop} {L : LMap} {w : World} {a : Act} (s : Sim F L (b ++ l) w) (he : EnvR w F L e a) :
  AllPaths P ops (Aft b.length F L (b ++ l) w Q) a { w with drawn := w.drawn + 1 } := by
 unfold cDraw at hds
 split at hds
 case h_2 => cases hds
 rename_i aos haos
 simp only at hds
 split at hds
 case isFalse => cases hds
 rename_i hb
 obtain ⟨hmix, hedge, hallo, hpairs, hlen, hnd, hall⟩ := hb
 cases hds
 obtain ⟨m1, m2⟩ := mkD_facts (ops := ops) (aos := aos) (is := orderD ops (aos.map (·.op.quiet)) (aos.map (·.op.isAlloc)) ops.size (List.range ops.size) []) (done := [])
 generalize hdsd : mkD ops aos [] (orderD ops (aos.map (·.op.quiet)) (aos.map (·.op.isAlloc)) ops.size (List.range ops.size) []) = ds at *
 obtain ⟨g1, g2⟩ := pairsOk_spec hpairs
 obtain ⟨k1, k2⟩ := cOps_get haos
 have hmem : ∀ j, j < ops.size → j ∈ ds.map (·.i) := fun j hj => by
  have := List.all_eq_true.1 hall j (by simpa using hj)
  simpa using this
 have hfacts : ∀ d ∈ ds, d.i < ops.size ∧ ∃ o, ops[d.i]? = some o ∧ cOpX P imm o.op = some d.o.op ∧ cGuard ops o.guard = some d.o.guard ∧ d.o.dst = o.dst := by
  intro d hd
  obtain ⟨o, ho, h1, h2, h3⟩ := k2 d.i d.o (m1 d hd).1
  have ho' : ops[d.i]? = some o := by simpa using ho
  exact ⟨(Array.getElem?_eq_some_iff.1 ho').1, o, ho', h1, h2, h3⟩
 have hs' : Sim F L (b ++ l) { w with drawn := w.drawn + 1 } := s.same rfl
 have he' : EnvR { w with drawn := w.drawn + 1 } F L e a := he.mono (fun _ h => h) (fun _ _ => rfl) (fun _ _ _ h => h)
 have hnl : ∀ i : Nat, (Array.replicate ops.size false).getD i false = false := fun i => by
  by_cases hi : i < ops.size <;> simp [hi]
 refine fun is p => any_path p (draw_any hC hCm (edges_rank hedge (by rw [hlen]) (fun j hj => by
  obtain ⟨d, hd, rfl⟩ := List.mem_map.1 hj
  exact (hfacts d hd).1)) (nb := b.length) (F0 := F) (L0 := L) (h0 := b ++ l) (w0 := w) (Q := Q .normal) (Q' := Aft b.length F L (b ++ l) w Q) ?_ ops.size ds (Array.replicate ops.size false) ?_
  ⟨by simp, fun j hj _ => hmem j hj, fun d _ hl => (by rw [hnl] at hl; cases hl), fun d hd => (hfacts d hd).1, fun j o _ hl => (by rw [hnl] at hl; cases hl), hnd, fun d hd => ⟨g1 d hd, (m1 d hd).2.1, List.all_eq_true.1 hallo _ (List.mem_of_getElem? (m1 d hd).1), (hfacts d hd).2⟩, List.Pairwise.and g2 m2 |>.imp (fun h => ⟨h.1, h.2⟩)⟩
  e b l F L _ a (fun _ => 0) ⟨h, rfl, hs', he', Step.same rfl rfl rfl rfl, fun d _ hl => (by rw [hnl] at hl; cases hl), fun d _ _ _ hl => (by rw [hnl] at hl; cases hl)⟩)
 ·intro e2 b2 l2 F2 L2 a2 w2 hq s2 he2 st2 hb2
  exact ⟨.normal, e2, b2, l2, F2, L2, trivial, s2, he2, st2, hb2, hq⟩
 ·rw [List.filter_eq_self.2 (fun d _ => by rw [hnl]; rfl)]
  simpa using hlen

theorem drawS_paths {imm : Bool} {C : CallP} (hC : ∀ f args b l Q, C f args b l Q → ACalls P f args b l Q) (hCm : ∀ f args b l (Q Q' : AV → List Row → List Row → Prop), C f args b l Q → (∀ x b' l', Q x b' l' → Q' x b' l') → C f args b l Q') :
  ∀ (n : Nat) (ops : Array Oper) (c : ACode), cDrawS P imm n ops = some c → ∀ (e : List AV) (b l : List Row) (Q : AExit → List AV → List Row → List Row → Prop), run C Weak c e b l Q → ∀ (F : Nat → Prop) (L : LMap) (w : World) (a : Act), Sim F L (b ++ l) w → EnvR w F L e a →
   P.follows .mixedOrders = true ∧ AllPaths P ops (Aft b.length F L (b ++ l) w Q) a { w with drawn := w.drawn + 1 } := by
 intro n
 induction n with
 | zero =>
   intro ops c hc e b l Q h F L w a s he
   obtain ⟨ds, hds, rfl⟩ := map_some hc
   exact ⟨draw_mixed hds, draw_paths hC hCm hds e b l h s he⟩
 | succ n ih =>
   intro ops c hc e b l Q h F L w a s he
   unfold cDrawS at hc
   split at hc
   ·rename_i ds hds
    cases hc
    exact ⟨draw_mixed hds, draw_paths hC hCm hds e b l h s he⟩
   ·split at hc
    case h_2 => cases hc
    split at hc
    case h_2 => cases hc
    split at hc
    case isFalse => cases hc
    rename_i hik
    split at hc
    case h_2 => cases hc
    rename_i x y hx hy
    cases hc
    obtain ⟨hm, h1⟩ := ih _ x hx e b l Q h.1 F L w a s he
    exact ⟨hm, paths_split hik.1 hik.2.1 hik.2.2 h1 (ih _ y hy e b l Q h.2 F L w a s he).2⟩

theorem run_stuck {C : CallP} {W : WeakP} {e : List AV} {b l : List Row} {Q : AExit → List AV → List Row → List Row → Prop} (h : run C W stuckC e b l Q) : False := by
 simp [stuckC, run, runOps, gd, gcase, aop, ev, stepR] at h

theorem run_sound {C : CallP} (hC : ∀ f args b l Q, C f args b l Q → ACalls P f args b l Q) (hCm : ∀ f args b l (Q Q' : AV → List Row → List Row → Prop), C f args b l Q → (∀ x b' l', Q x b' l' → Q' x b' l') → C f args b l Q') : ∀ (code : Code) (ac : ACode), cCode P code = some ac → ∀ e b l Q, run C Weak ac e b l Q →
  ∀ F L w a, Sim F L (b ++ l) w → EnvR w F L e a → code.wp P (Aft b.length F L (b ++ l) w Q) a w := by
 intro code
 induction code with
 | skip =>
   intro ac hc e b l Q h F L w a s he
   cases hc
   exact wp_skip ⟨.normal, e, b, l, F, L, trivial, s, he, Step.refl _ _ _ _ _, rfl, h⟩
 | region id ops draw =>
   intro ac hc e b l Q h F L w a s he
   cases hc
   cases hc : cReg P ops draw with
   | none => rw [hc] at h; exact (run_stuck h).elim
   | some ac =>
   rw [hc] at h
   replace h : run C Weak ac e b l Q := h
   simp only [cReg] at hc
   cases draw
   case true =>
    simp only [if_true] at hc
    obtain ⟨imm, hc⟩ : ∃ imm, cDrawS P imm 6 ops = some ac := by
     cases hf : cDrawS P false 6 ops with
     | some c => rw [hf] at hc; cases hc; exact ⟨false, hf⟩
     | none => rw [hf] at hc; exact ⟨true, hc⟩
    obtain ⟨hm, hp⟩ := drawS_paths hC hCm 6 ops ac hc e b l Q h F L w a s he
    exact region_paths hm hp
   simp only [Bool.false_eq_true, if_false] at hc
   obtain ⟨aos, hao, rfl⟩ := map_some hc
   refine wp_region (ops_ok hC ops ops.toList (List.range ops.size) aos hao ?_ e b l h rfl F L w a s he (Step.refl _ _ _ _ _) ?_)
   ·apply List.ext_getElem?
    intro i
    simp only [List.getElem?_map]
    by_cases hi : i < ops.size
    ·simp [hi]
    ·simp [hi]
   ·intro e' b' l' F' L' a' w' hq s' he' st hb
    exact ⟨.normal, e', b', l', F', L', trivial, s', he', st, hb, hq⟩
 | seq x y ihx ihy =>
   intro ac hc e b l Q h F L w a s he
   simp only [cCode] at hc
   split at hc
   case h_2 => cases hc
   rename_i x' y' hx hy
   cases hc
   refine wp_seq (wp_mono (ihx x' hx e b l _ h F L w a s he) ?_)
   rintro ex a1 w1 ⟨ax, e1, b1, l1, F1, L1, hex, s1, he1, st1, hb1, hq⟩
   cases ex <;> cases ax <;> first | exact hex.elim | skip
   ·simp only [Exit.then]
    refine wp_mono (ihy y' hy e1 b1 l1 Q hq F1 L1 w1 a1 s1 he1) ?_
    rintro ex2 a2 w2 ⟨ax2, e2, b2, l2, F2, L2, hex2, s2, he2, st2, hb2, hq2⟩
    exact ⟨ax2, e2, b2, l2, F2, L2, hex2, s2, he2, st1.trans (hb1 ▸ st2), hb2.trans hb1, hq2⟩
   ·exact ⟨_, e1, b1, l1, F1, L1, hex, s1, he1, st1, hb1, hq⟩
   ·exact ⟨_, e1, b1, l1, F1, L1, hex, s1, he1, st1, hb1, hq⟩
 | cond c x y ihx ihy =>
   intro ac hc e b l Q h F L w a s he
   simp only [cCode] at hc
   split at hc
   case h_2 => cases hc
   rename_i c' x' y' hcc hx hy
   cases hc
   simp only [run] at h
   have hr := ev_rep he hcc
   generalize ev e c' = q at *
   split at h
   case h_2 => exact h.elim
   rename_i t
   refine wp_cond (repB hr) ?_
   cases t
   ·simp only [Bool.false_eq_true, if_false] at h ⊢
    exact ihy y' hy e b l Q h F L w a s he
   ·simp only [if_true] at h ⊢
    exact ihx x' hx e b l Q h F L w a s he
 | block id c ih =>
   intro ac hc e b l Q h F L w a s he
   simp only [cCode] at hc
   obtain ⟨c', hcc, rfl⟩ := map_some hc
   refine wp_block (wp_mono (ih c' hcc e b l _ h F L w a s he) ?_)
   rintro ex a1 w1 ⟨ax, e1, b1, l1, F1, L1, hex, s1, he1, st1, hb1, hq⟩
   cases ex <;> cases ax <;> first | exact hex.elim | skip
   ·exact ⟨.normal, e1, b1, l1, F1, L1, trivial, s1, he1, st1, hb1, hq⟩
   ·rename_i i j
    have hij : i = j := hex
    subst hij
    simp only [Exit.inBlock]
    simp only [blkQ] at hq
    split
    ·rename_i hi; rw [if_pos hi] at hq; exact ⟨.normal, e1, b1, l1, F1, L1, trivial, s1, he1, st1, hb1, hq⟩
    ·rename_i hi; rw [if_neg hi] at hq; exact ⟨.exit i, e1, b1, l1, F1, L1, rfl, s1, he1, st1, hb1, hq⟩
   ·exact ⟨.ret, e1, b1, l1, F1, L1, trivial, s1, he1, st1, hb1, hq⟩
 | loop c ih =>
   intro ac hc e b l Q h F L w a s he
   simp only [cCode] at hc
   obtain ⟨c', hcc, rfl⟩ := map_some hc
   obtain ⟨I, ⟨e0, b0, l0, m0, hw0, hI0⟩, hround⟩ := h
   obtain ⟨F0, L0, s0, he0, st0, hb0⟩ := hw0 F L w a s he
   refine wp_loop_ghost (fun n a1 w1 => ∃ e1 b1 l1 F1 L1, Sim F1 L1 (b1 ++ l1) w1 ∧ EnvR w1 F1 L1 e1 a1 ∧ Step b.length F L (b ++ l) w F1 L1 (b1 ++ l1) w1 ∧ b1.length = b.length ∧ I e1 b1 l1 n) m0 ⟨e0, b0, l0, F0, L0, s0, he0, st0, hb0, hI0⟩ ?_
   rintro n a1 w1 ⟨e1, b1, l1, F1, L1, s1, he1, st1, hb1, hI1⟩
   refine wp_mono (ih c' hcc e1 b1 l1 _ (hround e1 b1 l1 n hI1) F1 L1 w1 a1 s1 he1) ?_
   rintro ex a2 w2 ⟨ax, e2, b2, l2, F2, L2, hex, s2, he2, st2, hb2, hq⟩
   have st12 := st1.trans (hb1 ▸ st2)
   cases ex <;> cases ax <;> first | exact hex.elim | skip
   ·obtain ⟨e3, b3, l3, m3, hw3, hI3, hlt⟩ := hq
    obtain ⟨F3, L3, s3, he3, st3, hb3⟩ := hw3 F2 L2 w2 a2 s2 he2
    have hbb : b2.length = b.length := hb2.trans hb1
    exact ⟨m3, hlt, e3, b3, l3, F3, L3, s3, he3, st12.trans (hbb ▸ st3), hb3.trans hbb, hI3⟩
   ·exact ⟨_, e2, b2, l2, F2, L2, hex, s2, he2, st12, hb2.trans hb1, hq⟩
   ·exact ⟨_, e2, b2, l2, F2, L2, hex, s2, he2, st12, hb2.trans hb1, hq⟩
 | exit i =>
   intro ac hc e b l Q h F L w a s he
   cases hc
   exact wp_exit ⟨.exit i, e, b, l, F, L, rfl, s, he, Step.refl _ _ _ _ _, rfl, h⟩
 | ret =>
   intro ac hc e b l Q h F L w a s he
   cases hc
   exact wp_ret ⟨.ret, e, b, l, F, L, trivial, s, he, Step.refl _ _ _ _ _, rfl, h⟩
 | rangeFunc f ps az c ih1 ih2 => intro ac hc e b l Q h; cases hc; exact (run_stuck h).elim
 | scope c ih => intro ac hc e b l Q h; cases hc; exact (run_stuck h).elim
 | label i => intro ac hc e b l Q h; cases hc; exact (run_stuck h).elim
 | goto i => intro ac hc e b l Q h; cases hc; exact (run_stuck h).elim
 | refuse y => intro ac hc e b l Q h; cases hc; exact (run_stuck h).elim

theorem stepR_mono {C : CallP} (hCm : ∀ f args b l (Q Q' : AV → List Row → List Row → Prop), C f args b l Q → (∀ x b' l', Q x b' l' → Q' x b' l') → C f args b l Q') {b l : List Row} {K K' : AV → List Row → List Row → Prop} {r : OpR} (h : stepR C b l K r) (hk : ∀ x b l, K x b l → K' x b l) : stepR C b l K' r := by
 cases r with
 | val x b' l' => exact hk _ _ _ h
 | two c x y => exact ⟨fun hc => hk _ _ _ (h.1 hc), hk _ _ _ h.2⟩
 | call f az => exact hCm _ _ _ _ _ _ h hk
 | bad => exact h
theorem gcase_mono {t : Option Bool} {A B A' B' : Prop} (h : gcase t A B) (h1 : A → A') (h2 : B → B') : gcase t A' B' := by
 unfold gcase at *
 cases t with
 | none => exact h
 | some t => cases t <;> simp at h ⊢ <;> first | exact h1 h | exact h2 h
theorem runOps_mono {C : CallP} (hCm : ∀ f args b l (Q Q' : AV → List Row → List Row → Prop), C f args b l Q → (∀ x b' l', Q x b' l' → Q' x b' l') → C f args b l Q') {K K' : List AV → List Row → List Row → Prop} (hk : ∀ e b l, K e b l → K' e b l) :
  ∀ {os : List AOper} {e : List AV} {b l : List Row}, runOps C os e b l K → runOps C os e b l K'
 | [], e, b, l, h => hk _ _ _ h
 | o :: os, e, b, l, h => gcase_mono h (fun h => stepR_mono hCm h (fun x b l h => runOps_mono hCm hk h)) (fun h => runOps_mono hCm hk h)
theorem runD_mono {C : CallP} (hCm : ∀ f args b l (Q Q' : AV → List Row → List Row → Prop), C f args b l Q → (∀ x b' l', Q x b' l' → Q' x b' l') → C f args b l Q') {K K' : List AV → List Row → List Row → Prop} (hk : ∀ e b l, K e b l → K' e b l) :
  ∀ {ds : List DOper} {e : List AV} {b l : List Row}, runD C ds e b l K → runD C ds e b l K'
 | [], e, b, l, h => hk _ _ _ h
 | d :: ds, e, b, l, h => gcase_mono h (fun h => stepR_mono hCm h (fun x b l h => ⟨h.1, runD_mono hCm hk h.2⟩)) (fun h => runD_mono hCm hk h)
theorem run_mono' {C : CallP} (hCm : ∀ f args b l (Q Q' : AV → List Row → List Row → Prop), C f args b l Q → (∀ x b' l', Q x b' l' → Q' x b' l') → C f args b l Q') {W : WeakP} : ∀ {c : ACode} {e : List AV} {b l : List Row} {Q Q' : AExit → List AV → List Row → List Row → Prop},
  run C W c e b l Q → (∀ ex e b l, Q ex e b l → Q' ex e b l) → run C W c e b l Q' := by
 intro c
 induction c with
 | skip => intro e b l Q Q' h hq; exact hq _ _ _ _ h
 | region ops => intro e b l Q Q' h hq; exact runOps_mono hCm (fun _ _ _ h => hq _ _ _ _ h) h
 | draw ds => intro e b l Q Q' h hq; exact runD_mono hCm (fun _ _ _ h => hq _ _ _ _ h) h
 | both x y ihx ihy => intro e b l Q Q' h hq; exact ⟨ihx h.1 hq, ihy h.2 hq⟩
 | seq x y ihx ihy =>
   intro e b l Q Q' h hq
   refine ihx (Q := seqQ (fun e b l => run C W y e b l Q) Q) h ?_
   intro ex e b l h
   cases ex with
   | normal => exact ihy (Q := Q) h hq
   | exit i => exact hq _ _ _ _ h
   | ret => exact hq _ _ _ _ h
 | cond c x y ihx ihy =>
   intro e b l Q Q' h hq
   simp only [run] at h ⊢
   split at h
   ·split at h
    ·rename_i ht; rw [if_pos ht]; exact ihx h hq
    ·rename_i ht; rw [if_neg ht]; exact ihy h hq
   ·exact h
 | block i c ih =>
   intro e b l Q Q' h hq
   refine ih (Q := blkQ i Q) h ?_
   intro ex e b l h
   cases ex with
   | normal => exact hq _ _ _ _ h
   | exit j =>
     simp only [blkQ] at h ⊢
     split
     ·rename_i hj; rw [if_pos hj] at h; exact hq _ _ _ _ h
     ·rename_i hj; rw [if_neg hj] at h; exact hq _ _ _ _ h
   | ret => exact hq _ _ _ _ h
 | loop c ih =>
   rintro e b l Q Q' ⟨I, h1, h2⟩ hq
   refine ⟨I, h1, fun e b l m hI => ih (h2 e b l m hI) ?_⟩
   intro ex e b l h
   cases ex with
   | normal => exact h
   | exit j => exact hq _ _ _ _ h
   | ret => exact hq _ _ _ _ h
 | exit i => intro e b l Q Q' h hq; exact hq _ _ _ _ h
 | ret => intro e b l Q Q' h hq; exact hq _ _ _ _ h

theorem res_ok {w : World} {F : Nat → Prop} {L : LMap} {b l : List Row} {e : List AV} {a : Act} (s : Sim F L (b ++ l) w) (he : EnvR w F L e a) (g : ResultVar → Sem Value)
  (hg1 : ∀ t, g (.tmp t) = pure (a.tmps.getD t undef)) (hg2 : ∀ p t, g (.cell p t) = (do loadVar t (← asAddr (a.tmps.getD p undef)))) : ∀ {rs : List ResultVar} {ars : List ARes} {xs : List AV}, cRes P rs = some ars → resVs e b l ars = some xs →
  ∃ vs : List Value, (rs.mapM g).run P w = .ok vs w ∧ RepL w F L xs vs
 | [], ars, xs, hc, h => by
   simp [cRes] at hc
   subst hc
   simp [resVs] at h
   subst h
   exact ⟨[], by simp, RepL.nil⟩
 | .tmp t :: rs, ars, xs, hc, h => by
   simp only [cRes] at hc
   obtain ⟨ars', hc', rfl⟩ := map_some hc
   simp only [resVs, resV] at h
   split at h
   case h_2 => cases h
   rename_i x ys h1 h2
   cases h1
   cases h
   obtain ⟨vs, h3, h4⟩ := res_ok s he g hg1 hg2 hc' h2
   refine ⟨a.tmps.getD t undef :: vs, ?_, RepL.cons (he.nth t) h4⟩
   rw [List.mapM_cons]
   simp only [Sem.run_bind, Sem.run_pure, Result.andThen_ok, hg1, h3]
 | .cell p t :: rs, ars, xs, hc, h => by
   simp only [cRes] at hc
   split at hc
   case h_2 => cases hc
   rename_i n ars' hn hc'
   cases hc
   simp only [resVs, resV] at h
   split at h
   case h_2 => cases h
   rename_i x ys h1 h2
   cases h
   split at h1
   case h_2 => cases h1
   rename_i x' b1 l1 hld
   cases h1
   obtain ⟨blk, q, u, g1, g2, g3, _, _⟩ := aload_ok (P := P) s hn (he.nth p) hld
   obtain ⟨vs, h3, h4⟩ := res_ok s he g hg1 hg2 hc' h2
   refine ⟨u :: vs, ?_, RepL.cons g3 h4⟩
   rw [List.mapM_cons]
   have hra : (asAddr (a.tmps.getD p undef)).run P w = .ok ⟨blk, q, none⟩ w := by rw [g1]; rfl
   simp only [Sem.run_bind, Sem.run_pure, Result.andThen_ok, hg2, hra, g2, h3]

def Leaves (rs : List ARes) (Q : AV → List Row → List Row → Prop) (nb : Nat) : AExit → List AV → List Row → List Row → Prop := fun ex e b l =>
 (ex = .normal ∨ ex = .ret) ∧ ∃ xs, resVs e b l rs = some xs ∧ ∃ y b' l', Weak [one xs] b l [y] b' l' ∧ Q y (b'.take nb) (b'.drop nb ++ l')

inductive AVlt (m : Nat) : AV → Prop where
 | any : AVlt m AV.any
 | v (x : IV) : AVlt m (.v x)
 | agg (cs : List AV) (h : ∀ c ∈ cs, AVlt m c) : AVlt m (.agg cs)
 | tup (cs : List AV) (h : ∀ c ∈ cs, AVlt m c) : AVlt m (.tup cs)
 | sl (id ver off len : Nat) (h : id < m) : AVlt m (.sl id ver off len)
 | ptr (id ver k j : Nat) (h : id < m) : AVlt m (.ptr id ver k j)
 | fn (f : Nat) (cs : List AV) (h : ∀ c ∈ cs, AVlt m c) : AVlt m (.fn f cs)
 | mp (id ver : Nat) (h : id < m) : AVlt m (.mp id ver)
def RowsLt (m : Nat) (h : List Row) : Prop := ∀ (id ver sz : Nat) (els : List (List AV)), h[id]? = some (Row.live ver sz els) → ∀ row ∈ els, ∀ c ∈ row, AVlt m c

theorem RepA.lt {w : World} {F : Nat → Prop} {L : LMap} {x : AV} {v : Value} (h : RepA w F L x v) {m : Nat} (hL : ∀ id ver l, L id ver = some l → id < m) : AVlt m x := by
 have sub : ∀ {cs : List AV} {vs : Array Value}, cs.length = vs.size → (∀ (i : Nat) (a : AV) (v : Value), cs[i]? = some a → vs[i]? = some v → AVlt m a) → ∀ c ∈ cs, AVlt m c := by
  intro cs vs hl h c hc
  obtain ⟨i, hi⟩ := List.mem_iff_getElem?.1 hc
  have hlt : i < vs.size := by rw [← hl]; exact (List.getElem?_eq_some_iff.1 hi).1
  exact h i c vs[i] hi (Array.getElem?_eq_getElem hlt)
 induction h with
 | any v => exact .any
 | v x v h => exact .v x
 | agg cs vs hl _ ih => exact .agg cs (sub hl ih)
 | tup cs vs hl _ ih => exact .tup cs (sub hl ih)
 | sl id ver off len b o sz cap h1 h2 h3 => exact .sl id ver off len (hL _ _ _ h1)
 | slz id ver off b o sz cap x h1 h2 => exact .sl id ver off 0 (hL _ _ _ h1)
 | sln id ver ad h1 => exact .sl id ver 0 0 (hL _ _ _ h1)
 | ptr id ver k j b o sz cap h1 => exact .ptr id ver k j (hL _ _ _ h1)
 | fn f cs vs hl _ ih => exact .fn f cs (sub hl ih)
 | mp id ver b h1 => exact .mp id ver (hL _ _ _ h1)

theorem RepA.cut {w : World} {F : Nat → Prop} {L L' : LMap} {x : AV} {v : Value} (h : RepA w F L x v) {m : Nat} (hx : AVlt m x) (hL : ∀ id ver, id < m → L' id ver = L id ver) : RepA w F L' x v := by
 induction h with
 | any v => exact .any v
 | v x v h => exact .v x v h
 | agg cs vs hl _ ih => cases hx with | agg _ h => exact .agg cs vs hl (fun i a v hi hv => ih i a v hi hv (h a (List.mem_of_getElem? hi)))
 | tup cs vs hl _ ih => cases hx with | tup _ h => exact .tup cs vs hl (fun i a v hi hv => ih i a v hi hv (h a (List.mem_of_getElem? hi)))
 | sl id ver off len b o sz cap h1 h2 h3 => cases hx with | sl _ _ _ _ h => exact .sl id ver off len b o sz cap (by rw [hL _ _ h]; exact h1) h2 h3
 | slz id ver off b o sz cap x h1 h2 => cases hx with | sl _ _ _ _ h => exact .slz id ver off b o sz cap x (by rw [hL _ _ h]; exact h1) h2
 | sln id ver ad h1 => cases hx with | sl _ _ _ _ h => exact .sln id ver ad (by rw [hL _ _ h]; exact h1)
 | ptr id ver k j b o sz cap h1 => cases hx with | ptr _ _ _ _ h => exact .ptr id ver k j b o sz cap (by rw [hL _ _ h]; exact h1)
 | fn f cs vs hl _ ih => cases hx with | fn _ _ h => exact .fn f cs vs hl (fun i a v hi hv => ih i a v hi hv (h a (List.mem_of_getElem? hi)))
 | mp id ver b h1 => cases hx with | mp _ _ h => exact .mp id ver b (by rw [hL _ _ h]; exact h1)

theorem Sim.rowsLt {F : Nat → Prop} {L : LMap} {h : List Row} {w : World} (s : Sim F L h w) : RowsLt h.length h := by
 intro id ver sz els hr row hrow c hc
 obtain ⟨l, h1, h2⟩ := s.row id ver sz els hr
 cases l with
 | nil =>
   have h2 : els = [] := h2
   subst h2
   simp at hrow
 | pl b o z cap =>
   obtain ⟨_, _, _, cur, T, _, _, _, k8⟩ := h2
   obtain ⟨k, hk⟩ := List.mem_iff_getElem?.1 hrow
   obtain ⟨j, hj⟩ := List.mem_iff_getElem?.1 hc
   obtain ⟨_, v, _, hv⟩ := k8 k row j c hk hj
   exact hv.lt (fun id ver l hl => s.lt hl)
 | mp b =>
   obtain ⟨es, clk, _, k4, k5⟩ := h2
   obtain ⟨k, hk⟩ := List.mem_iff_getElem?.1 hrow
   have hke : k < es.size := by rw [k4]; exact (List.getElem?_eq_some_iff.1 hk).1
   obtain ⟨x, y, rfl, e1, e2⟩ := k5 k row es[k] hk (Array.getElem?_eq_getElem hke)
   simp only [List.mem_cons, List.not_mem_nil, or_false] at hc
   rcases hc with rfl | rfl
   ·exact e1.lt (fun id ver l hl => s.lt hl)
   ·exact e2.lt (fun id ver l hl => s.lt hl)

theorem calls_of {f : Nat} {af : AFunc} (hf : cFunc P f = some af) {args : List AV} (ha : args.length = af.nargs) {b l : List Row} {Q : AV → List Row → List Row → Prop}
  (h : ∀ B, B = b ++ l → RowsLt B.length B → (∀ x ∈ args, AVlt B.length x) → run (ACalls P) Weak af.body (args ++ List.replicate (af.ntmps - args.length) (.tup [])) B [] (Leaves af.res Q b.length)) : ACalls P f args b l Q := by
 unfold cFunc at hf
 split at hf
 case h_2 => cases hf
 rename_i fn hfn
 split at hf
 case isTrue => cases hf
 rename_i hname
 split at hf
 case h_2 => cases hf
 rename_i c hbody
 split at hf
 case h_2 => cases hf
 rename_i ac rs hcc hrs
 cases hf
 refine ⟨⟨fn, hfn, by simpa using hname, by rw [hbody]; rfl⟩, fun F L w vs s hr => ?_⟩
 refine calls_of_wp hfn hbody ?_
 have hvl : vs.size = args.length := by have := hr.1; simpa using this.symm
 have henv : EnvR w F L (args ++ List.replicate (fn.ntmps - args.length) (.tup [])) { tmps := vs ++ Array.replicate (fn.ntmps - vs.size) undef, defers := [] } := by
  refine ⟨rfl, by simp [hvl], fun i x v hx hv => ?_⟩
  by_cases hi : i < args.length
  ·rw [List.getElem?_append_left hi] at hx
   rw [Array.getElem?_append_left oM] at hv
   exact hr.2 i x v hx (by simpa using hv)
  ·rw [List.getElem?_append_right oM, List.getElem?_replicate] at hx
   rw [Array.getElem?_append_right oM, Array.getElem?_replicate] at hv
   split at hx
   ·split at hv
    ·cases hx; cases hv; exact RepA.undef _ _ _
    ·cases hv
   ·cases hx
 refine wp_mono (run_sound (P := P) (fun _ _ _ _ _ h => h) ACalls_mono c ac hcc _ (b ++ l) [] _ (h _ rfl s.rowsLt (fun x hx => by
  obtain ⟨i, hi⟩ := List.mem_iff_getElem?.1 hx
  obtain ⟨v, _, hv⟩ := hr.get hi
  exact hv.lt (fun id ver l hl => s.lt hl))) F L w _ (by simpa using s) henv) ?_
 rintro ex a1 w1 ⟨ax, e1, b1, l1, F1, L1, hex, s1, he1, st1, hb1, hax, xs, hxs, y, b2, l2, hweak, hq⟩
 obtain ⟨us, hu1, hu2⟩ := res_ok (P := P) s1 he1 (fun
  | .tmp t => pure (a1.tmps.getD t undef)
  | .cell a t => do loadVar t (← asAddr (a1.tmps.getD a undef))) (fun _ => rfl) (fun _ _ => rfl) hrs hxs
 have hres : (results fn a1.tmps).run P w1 = .ok (if h : us.toArray.size = 1 then us.toArray[0] else .tuple us.toArray) w1 := by
  have hm : (fn.results.mapM (fun
    | .tmp t => pure (a1.tmps.getD t undef)
    | .cell a t => do loadVar t (← asAddr (a1.tmps.getD a undef)) : ResultVar → Sem Value)).run P w1 = .ok us.toArray w1 := by
   rw [Array.mapM_eq_mapM_toList]
   simp only [map_eq_pure_bind, Sem.run_bind, hu1, Result.andThen_ok, Sem.run_pure]
  unfold results
  rw [Sem.run_bind]
  erw [hm]
  rfl
 have hone : RepA w1 F1 L1 (one xs) (if h : us.toArray.size = 1 then us.toArray[0] else .tuple us.toArray) := by
  have hl := hu2.1
  cases xs with
  | nil =>
    have : us = [] := List.eq_nil_of_length_eq_zero (by simpa using hl.symm)
    subst this
    exact RepL.tup (by simpa using RepL.nil)
  | cons x xs =>
    cases xs with
    | nil =>
      cases us with
      | nil => simp at hl
      | cons u us =>
        have : us = [] := List.eq_nil_of_length_eq_zero (by simpa using hl)
        subst this
        simpa [one] using hu2.2 0 x u rfl rfl
    | cons x2 xs =>
      have h2 : ¬ us.toArray.size = 1 := by simp at hl ⊢; omega
      rw [dif_neg h2]
      exact RepL.tup (by simpa [one] using hu2)
 generalize hval : (if h : us.toArray.size = 1 then us.toArray[0] else Value.tuple us.toArray) = val at *
 obtain ⟨F2, L2, s2, he2, st2, hb2⟩ := hweak F1 L1 w1 { tmps := #[val], defers := [] } s1 ⟨rfl, rfl, fun i x v hx hv => by
  cases i with
  | zero => simp at hx hv; subst hx; subst hv; exact hone
  | succ i => simp at hx⟩
 have hd : a1.defers = [] := he1.1
 have hfin : ∃ v, (results fn a1.tmps).run P w1 = .ok v w1 ∧ ∃ v' x b' l' F' L', Ending.returned v = .returned v' ∧ RepA w1 F' L' x v' ∧ Sim F' L' (b' ++ l') w1 ∧ Step (b ++ l).length F L (b ++ l) w F' L' (b' ++ l') w1 ∧ b'.length = b.length ∧ Q x b' l' := by
  have hsplit : b2.take b.length ++ (b2.drop b.length ++ l2) = b2 ++ l2 := by rw [← List.append_assoc, List.take_append_drop]
  refine ⟨val, hres, val, y, b2.take b.length, b2.drop b.length ++ l2, F2, L2, rfl, he2.2.2 0 y val rfl rfl, by rw [hsplit]; exact s2, ?_, ?_, hq⟩
  ·rw [hsplit]
   have h1 : b1.length = (b ++ l).length := hb1
   have := st1.trans (hb1 ▸ st2)
   simpa using this
  ·have h1 : b1.length = (b ++ l).length := hb1
   have : b2.length = b.length + l.length := by rw [hb2, h1]; simp
   simp; omega
 cases ex <;> cases ax <;> first | exact hex.elim | skip
 ·obtain ⟨v, q1, q2⟩ := hfin
  exact ⟨hd, v, q1, q2⟩
 ·rcases hax with h | h <;> cases h
 ·obtain ⟨v, q1, q2⟩ := hfin
  exact ⟨hd, v, q1, q2⟩
end
end Go.Proofs.Ytpkemmchpccjdaa
namespace Go.Proofs.Ytpkemmchpccjdaa
set_option linter.unusedVariables false

section
variable (C : CallP) (W : WeakP)
def seqC (y : ACode) (Q : AExit → List AV → List Row → List Row → Prop) : AExit → List AV → List Row → List Row → Prop := seqQ (fun e b l => run C W y e b l Q) Q
def atN (Q : AExit → List AV → List Row → List Row → Prop) : List AV → List Row → List Row → Prop := Q .normal
def opK (d : Option Nat) (os : List AOper) (e : List AV) (K : List AV → List Row → List Row → Prop) : AV → List Row → List Row → Prop := fun x b l => runOps C os (put e d x) b l K
def opS (r : OpR) (d : Option Nat) (os : List AOper) (e : List AV) (b l : List Row) (K : List AV → List Row → List Row → Prop) : Prop := stepR C b l (opK C d os e K) r
def grdO (t : Option Bool) (d : Option Nat) (op : AOp) (os : List AOper) (e : List AV) (b l : List Row) (K : List AV → List Row → List Row → Prop) : Prop :=
 gcase t (opS C (aop e b l op) d os e b l K) (runOps C os (put e d (.tup [])) b l K)
def dK (d : Option Nat) (re : List AOper) (ds : List DOper) (e : List AV) (K : List AV → List Row → List Row → Prop) : AV → List Row → List Row → Prop := fun x b l => rechks e b l re ∧ runD C ds (put e d x) b l K
def dS (r : OpR) (d : Option Nat) (re : List AOper) (ds : List DOper) (e : List AV) (b l : List Row) (K : List AV → List Row → List Row → Prop) : Prop := stepR C b l (dK C d re ds e K) r
def grdD (t : Option Bool) (d : Option Nat) (op : AOp) (re : List AOper) (ds : List DOper) (e : List AV) (b l : List Row) (K : List AV → List Row → List Row → Prop) : Prop :=
 gcase t (dS C (aop e b l op) d re ds e b l K) (runD C ds (put e d (.tup [])) b l K)
def ifC (v : AV) (x y : ACode) (e : List AV) (b l : List Row) (Q : AExit → List AV → List Row → List Row → Prop) : Prop := match v with
 | .v (.bool t) => gcase (some t) (run C W x e b l Q) (run C W y e b l Q)
 | _ => False
end

theorem nr.{u} {α : Sort u} {x y : α} (h : x = y) : x = y := h
section
variable {C : CallP} {W : WeakP} {e : List AV} {b l b' l' : List Row} {Q : AExit → List AV → List Row → List Row → Prop} {K R : List AV → List Row → List Row → Prop} {KV : AV → List Row → List Row → Prop} {A B : Prop}
 {d : Option Nat} {op : AOp} {os : List AOper} {ds : List DOper} {re : List AOper} {x y : AV} {cx cy : ACode}
theorem run_skip : run C W .skip e b l Q = Q .normal e b l := nr rfl
theorem run_region {ops : List AOper} : run C W (.region ops) e b l Q = runOps C ops e b l (atN Q) := nr rfl
theorem run_draw {ops : List DOper} : run C W (.draw ops) e b l Q = runD C ops e b l (atN Q) := nr rfl
theorem run_both : run C W (.both cx cy) e b l Q = (run C W cx e b l Q ∧ run C W cy e b l Q) := nr rfl
theorem run_seq : run C W (.seq cx cy) e b l Q = run C W cx e b l (seqC C W cy Q) := nr rfl
theorem run_block {i : Nat} : run C W (.block i cx) e b l Q = run C W cx e b l (blkQ i Q) := nr rfl
theorem run_exit {i : Nat} : run C W (.exit i) e b l Q = Q (.exit i) e b l := nr rfl
theorem run_ret : run C W .ret e b l Q = Q .ret e b l := nr rfl
theorem run_cond {c : Opd} : run C W (.cond c cx cy) e b l Q = ifC C W (ev e c) cx cy e b l Q := by
 simp only [run, ifC]
 generalize ev e c = q
 cases q with
 | v z => cases z <;> rfl
 | _ => rfl
theorem atN_app : atN Q e b l = Q .normal e b l := nr rfl
theorem seqC_normal : seqC C W cy Q .normal e b l = run C W cy e b l Q := nr rfl
theorem seqC_exit {i : Nat} : seqC C W cy Q (.exit i) e b l = Q (.exit i) e b l := nr rfl
theorem seqC_ret : seqC C W cy Q .ret e b l = Q .ret e b l := nr rfl
theorem seqQ_normal : seqQ R Q .normal e b l = R e b l := nr rfl
theorem seqQ_exit {i : Nat} : seqQ R Q (.exit i) e b l = Q (.exit i) e b l := nr rfl
theorem seqQ_ret : seqQ R Q .ret e b l = Q .ret e b l := nr rfl
theorem blkQ_normal {i : Nat} : blkQ i Q .normal e b l = Q .normal e b l := nr rfl
theorem blkQ_exit {i j : Nat} : blkQ i Q (.exit j) e b l = if j = i then Q .normal e b l else Q (.exit j) e b l := nr rfl
theorem blkQ_ret {i : Nat} : blkQ i Q .ret e b l = Q .ret e b l := nr rfl
theorem runOps_nil : runOps C [] e b l K = K e b l := nr rfl
theorem runOps_cons {g : Option (Nat × Bool)} : runOps C (⟨d, op, g⟩ :: os) e b l K = grdO C (gd e g) d op os e b l K := nr rfl
theorem runD_nil : runD C [] e b l K = K e b l := nr rfl
theorem runD_cons {i : Nat} {g : Option (Nat × Bool)} : runD C (⟨i, ⟨d, op, g⟩, re⟩ :: ds) e b l K = grdD C (gd e g) d op re ds e b l K := nr rfl
theorem grdO_true : grdO C (some true) d op os e b l K = opS C (aop e b l op) d os e b l K := by simp [grdO, gcase]
theorem grdO_false : grdO C (some false) d op os e b l K = runOps C os (put e d (.tup [])) b l K := by simp [grdO, gcase]
theorem grdD_true : grdD C (some true) d op re ds e b l K = dS C (aop e b l op) d re ds e b l K := by simp [grdD, gcase]
theorem grdD_false : grdD C (some false) d op re ds e b l K = runD C ds (put e d (.tup [])) b l K := by simp [grdD, gcase]
theorem ifC_true : ifC C W (.v (.bool true)) cx cy e b l Q = run C W cx e b l Q := by simp [ifC, gcase]
theorem ifC_false : ifC C W (.v (.bool false)) cx cy e b l Q = run C W cy e b l Q := by simp [ifC, gcase]
theorem opS_val : opS C (.val x b' l') d os e b l K = runOps C os (put e d x) b' l' K := nr rfl
theorem opS_call {f : Nat} {az : List AV} : opS C (.call f az) d os e b l K = C f az b l (opK C d os e K) := nr rfl
theorem opS_two {c : Bool} : opS C (.two c x y) d os e b l K = ((c = true → runOps C os (put e d x) b l K) ∧ runOps C os (put e d y) b l K) := nr rfl
theorem opK_app : opK C d os e K x b l = runOps C os (put e d x) b l K := nr rfl
theorem dS_val : dS C (.val x b' l') d re ds e b l K = (rechks e b' l' re ∧ runD C ds (put e d x) b' l' K) := nr rfl
theorem dS_call {f : Nat} {az : List AV} : dS C (.call f az) d re ds e b l K = C f az b l (dK C d re ds e K) := nr rfl
theorem dS_two {c : Bool} : dS C (.two c x y) d re ds e b l K = ((c = true → rechks e b l re ∧ runD C ds (put e d x) b l K) ∧ (rechks e b l re ∧ runD C ds (put e d y) b l K)) := nr rfl
theorem dK_app : dK C d re ds e K x b l = (rechks e b l re ∧ runD C ds (put e d x) b l K) := nr rfl
theorem ifC_split {t : Bool} (h1 : t = true → run C W cx e b l Q) (h2 : t = false → run C W cy e b l Q) : ifC C W (.v (.bool t)) cx cy e b l Q := by
 cases t
 ·rw [ifC_false]; exact h2 rfl
 ·rw [ifC_true]; exact h1 rfl
theorem gd_none : gd e none = some true := nr rfl
theorem gd_some {s : Nat} {w : Bool} : gd e (some (s, w)) = (match nth e s with
  | .v (.bool t) => some (t == w)
  | .tup [] => some false
  | _ => none) := nr rfl
theorem rechks_nil : rechks e b l [] = True := nr rfl
theorem rechks_cons {r : AOper} {rs : List AOper} : rechks e b l (r :: rs) = (rechk e b l r ∧ rechks e b l rs) := nr rfl
theorem nth_zero {a : AV} {l : List AV} : nth (a :: l) 0 = a := nr rfl
theorem nth_succ {a : AV} {l : List AV} {n : Nat} : nth (a :: l) (n + 1) = nth l n := nr rfl
theorem upd_zero {a x : AV} {l : List AV} : upd (a :: l) 0 x = x :: l := nr rfl
theorem upd_succ {a x : AV} {l : List AV} {n : Nat} : upd (a :: l) (n + 1) x = a :: upd l n x := nr rfl
theorem put_some {n : Nat} {x : AV} : put e (some n) x = upd e n x := nr rfl
theorem put_none {x : AV} : put e none x = e := nr rfl
theorem ev_t {n : Nat} : ev e (.t n) = nth e n := nr rfl
theorem ev_c {x : AV} : ev e (.c x) = x := nr rfl
theorem evs_nil : evs e [] = [] := nr rfl
theorem evs_cons {x : Opd} {xs : List Opd} : evs e (x :: xs) = ev e x :: evs e xs := nr rfl
theorem evo_some {x : Opd} : evo e (some x) = some (ev e x) := nr rfl
theorem evo_none : evo e none = none := nr rfl
theorem hget_at {i : Nat} : hget b l (b.length + i) = l[i]? := by
 unfold hget; rw [if_neg oM, Nat.add_sub_cancel_left]
theorem hget_first : hget b l b.length = l[0]? := hget_at (i := 0)
theorem hsetB_at {i : Nat} {r : Row} : hsetB b (b.length + i) r = b := by unfold hsetB; rw [if_neg oM]
theorem hsetB_first {r : Row} : hsetB b b.length r = b := hsetB_at (i := 0)
theorem hsetL_at {i : Nat} {r : Row} : hsetL b l (b.length + i) r = l.set i r := by unfold hsetL; rw [if_neg oM, Nat.add_sub_cancel_left]
theorem hsetL_first {r : Row} : hsetL b l b.length r = l.set 0 r := hsetL_at (i := 0)
theorem ofOpt_some : ofOpt (some x) b l = .val x b l := nr rfl
end

theorem gcase_true {A B : Prop} : gcase (some true) A B = A := by simp [gcase]
theorem gcase_false {A B : Prop} : gcase (some false) A B = B := by simp [gcase]
theorem ex_val {x : AV} {b l : List Row} {A : Prop} : (∃ v, OpR.val x b l = .val v b l ∧ (x = v ∨ A)) = True := eq_true ⟨x, rfl, .inl rfl⟩
theorem ex_val0 {x : AV} {b l : List Row} : (∃ v, OpR.val x b l = .val v b l ∧ True) = True := eq_true ⟨x, rfl, trivial⟩

theorem wrap_id {n : Int} (h1 : -9223372036854775808 ≤ n) (h2 : n ≤ 9223372036854775807) : IntKind.i64.wrap n = n := by rw [IntKind.wrap_i64]; omega

theorem le_T {a b : Nat} (h : a ≤ b) : (a ≤ b) = True := eq_true h
theorem lt_T {a b : Nat} (h : a < b) : (a < b) = True := eq_true h
theorem le_F {a b : Nat} (h : ¬ a ≤ b) : (a ≤ b) = False := eq_false h
theorem lt_F {a b : Nat} (h : ¬ a < b) : (a < b) = False := eq_false h
theorem leI_T {a b : Int} (h : a ≤ b) : (a ≤ b) = True := eq_true h
theorem ltI_T {a b : Int} (h : a < b) : (a < b) = True := eq_true h
theorem leI_F {a b : Int} (h : ¬ a ≤ b) : (a ≤ b) = False := eq_false h
theorem ltI_F {a b : Int} (h : ¬ a < b) : (a < b) = False := eq_false h
theorem geI {a b : Int} : (a ≥ b) = (b ≤ a) := rfl
theorem gtI {a b : Int} : (a > b) = (b < a) := rfl
theorem get_T {α : Type} {l : List α} {i : Nat} (h : i < l.length) : l[i]? = some l[i] := List.getElem?_eq_getElem h
def vs (rows : List (List IV)) : List (List AV) := rows.map (·.map .v)
theorem map_vs {rows : List (List IV)} : rows.map (fun r => r.map AV.v) = vs rows := nr rfl
theorem vs_len {rows : List (List IV)} : (vs rows).length = rows.length := by simp [vs]
theorem vs_get {rows : List (List IV)} {i : Nat} : (vs rows)[i]? = (rows[i]?).map (·.map .v) := by simp [vs]
theorem vs_take {rows : List (List IV)} {i : Nat} : (vs rows).take i = vs (rows.take i) := by simp [vs, List.map_take]
theorem vs_drop {rows : List (List IV)} {i : Nat} : (vs rows).drop i = vs (rows.drop i) := by simp [vs, List.map_drop]
theorem vs_app {r q : List (List IV)} : vs r ++ vs q = vs (r ++ q) := by simp [vs]
theorem vs_snoc1 {r : List (List IV)} {a : IV} : vs r ++ [[.v a]] = vs (r ++ [[a]]) := by simp [vs]
theorem vs_snoc2 {r : List (List IV)} {a c : IV} : vs r ++ [[.v a, .v c]] = vs (r ++ [[a, c]]) := by simp [vs]
theorem vs_snoc3 {r : List (List IV)} {a c d : IV} : vs r ++ [[.v a, .v c, .v d]] = vs (r ++ [[a, c, d]]) := by simp [vs]
theorem vs_snoc5 {r : List (List IV)} {a c d f g : IV} : vs r ++ [[.v a, .v c, .v d, .v f, .v g]] = vs (r ++ [[a, c, d, f, g]]) := by simp [vs]
theorem vs_set1 {r : List (List IV)} {i : Nat} {a : IV} : (vs r).set i [.v a] = vs (r.set i [a]) := by rw [vs, vs, List.map_set]; rfl
theorem vs_set2 {r : List (List IV)} {i : Nat} {a c : IV} : (vs r).set i [.v a, .v c] = vs (r.set i [a, c]) := by rw [vs, vs, List.map_set]; rfl
theorem vs_rep {n : Nat} {a : IV} : List.replicate n [AV.v a] = vs (List.replicate n [a]) := by rw [vs, List.map_replicate]; rfl
theorem vs_lt {m : Nat} {rows : List (List IV)} : (∀ row ∈ vs rows, ∀ c ∈ row, AVlt m c) ↔ True := by
 refine ⟨fun _ => trivial, fun _ row hr c hc => ?_⟩
 simp [vs] at hr
 obtain ⟨r, _, rfl⟩ := hr
 simp at hc
 obtain ⟨x, _, rfl⟩ := hc
 exact .v x

section
variable {e e' : List AV} {b b' l l' : List Row}

theorem Weak.refl (e : List AV) (b l : List Row) : Weak e b l e b l := fun F L w a s he => ⟨F, L, s, he, Step.refl _ _ _ _ _, rfl⟩
theorem Weak.trans {e1 e2 e3 : List AV} {b1 b2 b3 l1 l2 l3 : List Row} (h : Weak e1 b1 l1 e2 b2 l2) (k : Weak e2 b2 l2 e3 b3 l3) : Weak e1 b1 l1 e3 b3 l3 := by
 intro F L w a s he
 obtain ⟨F1, L1, s1, he1, st1, hb1⟩ := h F L w a s he
 obtain ⟨F2, L2, s2, he2, st2, hb2⟩ := k F1 L1 w a s1 he1
 exact ⟨F2, L2, s2, he2, st1.trans (hb1 ▸ st2), hb2.trans hb1⟩

def Fgt : List AV → List AV → Prop
 | [], [] => True
 | a :: az, c :: cs => (c = AV.any ∨ a = c) ∧ Fgt az cs
 | _, _ => False
theorem Fgt.len : ∀ {az cs : List AV}, Fgt az cs → az.length = cs.length
 | [], [], _ => rfl
 | _ :: az, _ :: cs, h => by simp [Fgt.len h.2]
 | [], _ :: _, h => h.elim
 | _ :: _, [], h => h.elim
theorem Fgt.get : ∀ {az cs : List AV}, Fgt az cs → ∀ (i : Nat) (c : AV), cs[i]? = some c → c = AV.any ∨ az[i]? = some c
 | [], [], _, i, c, h => by simp at h
 | a :: az, x :: cs, h, i, c, hc => by
   cases i with
   | zero =>
     simp at hc
     subst hc
     rcases h.1 with h1 | h1
     ·exact .inl h1
     ·exact .inr (by simp [h1])
   | succ i => simp at hc ⊢; exact Fgt.get h.2 i c hc
 | [], _ :: _, h, _, _, _ => h.elim
 | _ :: _, [], h, _, _, _ => h.elim
theorem Weak.forget (h : Fgt e e') : Weak e b l e' b l := by
 intro F L w a s he
 refine ⟨F, L, s, ⟨he.1, by rw [he.2.1, h.len], fun i x v hx hv => ?_⟩, Step.refl _ _ _ _ _, rfl⟩
 rcases h.get i x hx with rfl | hi
 ·exact .any v
 ·exact he.2.2 i x v hi hv

theorem AVlt_v {m : Nat} {x : IV} : AVlt m (.v x) ↔ True := ⟨fun _ => trivial, fun _ => .v x⟩
theorem AVlt_any {m : Nat} : AVlt m AV.any ↔ True := ⟨fun _ => trivial, fun _ => .any⟩
theorem AVlt_sl {m id ver off len : Nat} : AVlt m (.sl id ver off len) ↔ id < m := ⟨fun h => by cases h; assumption, fun h => .sl _ _ _ _ h⟩
theorem AVlt_ptr {m id ver k j : Nat} : AVlt m (.ptr id ver k j) ↔ id < m := ⟨fun h => by cases h; assumption, fun h => .ptr _ _ _ _ h⟩
theorem AVlt_mp {m id ver : Nat} : AVlt m (.mp id ver) ↔ id < m := ⟨fun h => by cases h; assumption, .mp id ver⟩
theorem AVlt_agg {m : Nat} {cs : List AV} : AVlt m (.agg cs) ↔ ∀ c ∈ cs, AVlt m c := ⟨fun h => by cases h; assumption, fun h => .agg _ h⟩
theorem AVlt_tup {m : Nat} {cs : List AV} : AVlt m (.tup cs) ↔ ∀ c ∈ cs, AVlt m c := ⟨fun h => by cases h; assumption, fun h => .tup _ h⟩
theorem AVlt_fn {m f : Nat} {cs : List AV} : AVlt m (.fn f cs) ↔ ∀ c ∈ cs, AVlt m c := ⟨fun h => by cases h; assumption, fun h => .fn _ _ h⟩
theorem RowsLt_nil {m : Nat} : RowsLt m [] := fun id ver sz els h => by simp at h
theorem RowsLt_cons {m : Nat} {r : Row} {h : List Row} : RowsLt m (r :: h) ↔ (∀ ver sz els, r = .live ver sz els → ∀ row ∈ els, ∀ c ∈ row, AVlt m c) ∧ RowsLt m h := by
 refine ⟨fun hh => ⟨fun ver sz els hr => hh 0 ver sz els (by rw [hr]; rfl), fun id ver sz els hi => hh (id + 1) ver sz els (by simpa using hi)⟩, fun ⟨h1, h2⟩ id ver sz els hi => ?_⟩
 cases id with
 | zero => simp at hi; exact h1 ver sz els hi
 | succ id => simp at hi; exact h2 id ver sz els hi
theorem RowsLt_live {m ver sz : Nat} {els : List (List AV)} {h : List Row} : RowsLt m (.live ver sz els :: h) ↔ (∀ row ∈ els, ∀ c ∈ row, AVlt m c) ∧ RowsLt m h := by
 rw [RowsLt_cons]
 exact ⟨fun ⟨h1, h2⟩ => ⟨h1 ver sz els rfl, h2⟩, fun ⟨h1, h2⟩ => ⟨fun v s e he => by cases he; exact h1, h2⟩⟩
theorem RowsLt_dead {m ver : Nat} {h : List Row} : RowsLt m (.dead ver :: h) ↔ RowsLt m h := by
 rw [RowsLt_cons]
 exact ⟨fun ⟨_, h2⟩ => h2, fun h2 => ⟨fun v s e he => (by cases he), h2⟩⟩
theorem AVlt.mono {m m' : Nat} {x : AV} (h : AVlt m x) (hm : m ≤ m') : AVlt m' x := by
 induction h with
 | any => exact .any
 | v x => exact .v x
 | agg cs _ ih => exact .agg cs ih
 | tup cs _ ih => exact .tup cs ih
 | sl id ver off len h => exact .sl _ _ _ _ oM
 | ptr id ver k j h => exact .ptr _ _ _ _ oM
 | fn f cs _ ih => exact .fn f cs ih
 | mp id ver h => exact .mp _ _ oM
theorem RowsLt.mono {m m' : Nat} {h : List Row} (hh : RowsLt m h) (hm : m ≤ m') : RowsLt m' h := fun id ver sz els hr row hrow c hc => (hh id ver sz els hr row hrow c hc).mono hm

theorem Weak.trim {l1 junk : List Row} (hl : l = l1 ++ junk) (he : ∀ x ∈ e, AVlt (b.length + l1.length) x) (hb : RowsLt (b.length + l1.length) b) (h1 : RowsLt (b.length + l1.length) l1) : Weak e b l e b l1 := by
 subst hl
 intro F L w a s hea
 have hm : (b ++ l1).length = b.length + l1.length := by simp
 obtain ⟨L', hL1, hL2⟩ : ∃ L' : LMap, (∀ id ver, id < b.length + l1.length → L' id ver = L id ver) ∧ ∀ id ver, ¬ id < b.length + l1.length → L' id ver = none :=
  ⟨fun id ver => if id < b.length + l1.length then L id ver else none, fun id ver h => by simp [h], fun id ver h => by simp [h]⟩
 have hback : ∀ {id ver q}, L' id ver = some q → id < b.length + l1.length ∧ L id ver = some q := by
  intro id ver q hq
  by_cases hid : id < b.length + l1.length
  ·rw [hL1 id ver hid] at hq; exact ⟨hid, hq⟩
  ·rw [hL2 id ver hid] at hq; cases hq
 have hget : ∀ id, id < b.length + l1.length → (b ++ (l1 ++ junk))[id]? = (b ++ l1)[id]? := by
  intro id hid
  rw [← List.append_assoc, List.getElem?_append_left oM]
 have hown : ∀ k, Owned L' (b ++ l1) k → Owned L (b ++ (l1 ++ junk)) k := by
  rintro k ⟨id, ver, sz, els, q, q1, q2, q4⟩
  obtain ⟨hid, q3⟩ := hback q2
  exact ⟨id, ver, sz, els, q, by rw [hget id hid]; exact q1, q3, q4⟩
 have hrl : RowsLt (b.length + l1.length) (b ++ l1) := by
  intro id ver sz els hr
  by_cases hid : id < b.length
  ·rw [List.getElem?_append_left hid] at hr; exact hb id ver sz els hr
  ·rw [List.getElem?_append_right oM] at hr; exact h1 _ ver sz els hr
 refine ⟨F, L', ⟨?_, ?_, ?_, fun k hk => ⟨(s.imm k hk).1, fun ho => (s.imm k hk).2 (hown k ho)⟩, s.glob⟩, ⟨hea.1, hea.2.1, fun i x v hx hv => (hea.2.2 i x v hx hv).cut (he x (List.mem_of_getElem? hx)) hL1⟩,
  ⟨fun _ h => h, fun id ver q hid hq => by rw [hL1 id ver oM]; exact hq, rfl, rfl, rfl, Nat.le_refl _, fun _ _ _ => rfl, fun k _ ho => hown k ho, fun id hid v hv => by
   rw [List.getElem?_append_left hid] at hv ⊢; exact hv, fun _ _ h => .inl h⟩, rfl⟩
 ·intro id ver sz els hr
  have hid : id < b.length + l1.length := by rw [← hm]; exact (List.getElem?_eq_some_iff.1 hr).1
  obtain ⟨q, q1, q2⟩ := s.row id ver sz els (by rw [hget id hid]; exact hr)
  refine ⟨q, by rw [hL1 id ver hid]; exact q1, ?_⟩
  cases q with
  | nil => exact q2
  | pl blk o z cap =>
    obtain ⟨k1, k2, k3, cur, T, k4, k5, k6, k7⟩ := q2
    exact ⟨k1, k2, k3, cur, T, k4, k5, k6, fun k row j c hk hj => by
     obtain ⟨g1, v, g2, g3⟩ := k7 k row j c hk hj
     exact ⟨g1, v, g2, g3.cut (hrl id ver sz els hr row (List.mem_of_getElem? hk) c (List.mem_of_getElem? hj)) hL1⟩⟩
  | mp blk =>
    obtain ⟨es, clk, k4, k5, k6⟩ := q2
    refine ⟨es, clk, k4, k5, fun k row e1 hk he => ?_⟩
    obtain ⟨x, y, rfl, g2, g3⟩ := k6 k row e1 hk he
    exact ⟨x, y, rfl, g2.cut (hrl id ver sz els hr _ (List.mem_of_getElem? hk) x (by simp)) hL1, g3.cut (hrl id ver sz els hr _ (List.mem_of_getElem? hk) y (by simp)) hL1⟩
 ·intro id ver q hq
  obtain ⟨hid, q1⟩ := hback hq
  obtain ⟨r, r1, r2⟩ := s.born id ver q q1
  exact ⟨r, by rw [← hget id hid]; exact r1, r2⟩
 ·intro id id' ver ver' z z' e1 e2 bb l1' l2' q1 q2 q3 q4 q7 q8
  obtain ⟨i1, q5⟩ := hback q3
  obtain ⟨i2, q6⟩ := hback q4
  exact s.apart id id' ver ver' z z' e1 e2 bb l1' l2' (by rw [hget id i1]; exact q1) (by rw [hget id' i2]; exact q2) q5 q6 q7 q8

theorem nil_core {sz : Nat} (F : Nat → Prop) (L : LMap) (w : World) (s : Sim F L (b ++ l) w) : ∃ L' : LMap, Sim F L' (b ++ (l ++ [.live 0 sz []])) w ∧ L' (b.length + l.length) 0 = some .nil ∧ (∀ i v q, L i v = some q → L' i v = some q) ∧
  Step b.length F L (b ++ l) w F L' (b ++ (l ++ [.live 0 sz []])) w := by
 have hlen : (b ++ l).length = b.length + l.length := by simp
 have hnone : L (b.length + l.length) 0 = none := by
  cases hq : L (b.length + l.length) 0 with
  | none => rfl
  | some q => exact absurd (s.lt hq) oM
 obtain ⟨L', hLn, hLm, hLo⟩ : ∃ L' : LMap, L' (b.length + l.length) 0 = some .nil ∧ (∀ i v q, L i v = some q → L' i v = some q) ∧ ∀ i v, (i ≠ b.length + l.length ∨ v ≠ 0) → L' i v = L i v := by
  refine ⟨fun i v => if i = b.length + l.length ∧ v = 0 then some .nil else L i v, by simp, ?_, ?_⟩
  ·intro i v q hl
   by_cases hi : i = b.length + l.length ∧ v = 0
   ·obtain ⟨rfl, rfl⟩ := hi
    rw [hnone] at hl; cases hl
   ·simp [hi, hl]
  ·intro i v hi
   have : ¬ (i = b.length + l.length ∧ v = 0) := fun ⟨a, b⟩ => hi.elim (fun h => h a) (fun h => h b)
   simp [this]
 have hold : ∀ j, j ≠ b.length + l.length → (b ++ (l ++ [Row.live 0 sz []]))[j]? = (b ++ l)[j]? := by
  intro j hj
  rw [← List.append_assoc]
  by_cases hjl : j < (b ++ l).length
  ·rw [List.getElem?_append_left hjl]
  ·rw [List.getElem?_eq_none (by simp; omega), List.getElem?_eq_none oM]
 have hnew : (b ++ (l ++ [Row.live 0 sz []]))[b.length + l.length]? = some (.live 0 sz []) := by
  rw [← List.append_assoc, List.getElem?_append_right oM]; simp
 have own : ∀ k, Owned L' (b ++ (l ++ [Row.live 0 sz []])) k → Owned L (b ++ l) k := by
  rintro k ⟨i, v, z, e1, q1, h1, h2, h3⟩
  by_cases hi : i = b.length + l.length
  ·subst hi
   rw [hnew] at h1; cases h1
   rw [hLn] at h2; cases h2
   exact h3.elim
  ·rw [hold i hi] at h1
   rw [hLo i v (.inl hi)] at h2
   exact ⟨i, v, z, e1, q1, h1, h2, h3⟩
 have mono : ∀ {x : AV} {v : Value}, RepA w F L x v → RepA w F L' x v := fun hx => hx.mono (fun _ h => h) (fun _ _ => rfl) hLm
 refine ⟨L', ⟨?_, ?_, ?_, fun k hk => ⟨(s.imm k hk).1, fun ho => (s.imm k hk).2 (own k ho)⟩, s.glob⟩, hLn, hLm, ⟨fun _ h => h, fun i v q _ hl => hLm i v q hl, rfl, rfl, rfl, Nat.le_refl _, fun _ _ _ => rfl, fun k _ ho => own k ho, fun i hi v hv => by rw [hold i oM]; exact hv, fun _ _ h => .inl h⟩⟩
 ·intro j v z e1 hj
  by_cases hji : j = b.length + l.length
  ·subst hji
   rw [hnew] at hj
   cases hj
   exact ⟨.nil, hLn, rfl⟩
  ·rw [hold j hji] at hj
   obtain ⟨q, hl1, hl2⟩ := s.row j v z e1 hj
   exact ⟨q, hLm _ _ _ hl1, hl2.mono (fun _ _ => rfl) (fun _ _ => mono)⟩
 ·intro i v q hl1
  by_cases hi : i = b.length + l.length
  ·subst hi
   refine ⟨_, hnew, ?_⟩
   by_cases hv : v = 0
   ·subst hv; exact Nat.le_refl _
   ·rw [hLo _ v (.inr hv)] at hl1
    exact absurd (s.lt hl1) oM
  ·rw [hLo i v (.inl hi)] at hl1
   obtain ⟨r, h1, h2⟩ := s.born _ _ _ hl1
   exact ⟨r, by rw [hold i hi]; exact h1, h2⟩
 ·intro i i' v v' z z' e1 e2 bb q1 q2 h1 h2 h3 h4 h5 h6
  by_cases hi : i = b.length + l.length
  ·subst hi
   rw [hnew] at h1; cases h1
   rw [hLn] at h3; cases h3
   exact h5.elim
  ·by_cases hi' : i' = b.length + l.length
   ·subst hi'
    rw [hnew] at h2; cases h2
    rw [hLn] at h4; cases h4
    exact h6.elim
   ·rw [hold i hi] at h1
    rw [hold i' hi'] at h2
    rw [hLo i v (.inl hi)] at h3
    rw [hLo i' v' (.inl hi')] at h4
    exact s.apart i i' v v' z z' e1 e2 bb q1 q2 h1 h2 h3 h4 h5 h6
theorem Sim.setCell {F : Nat → Prop} {L : LMap} {h : List Row} {w : World} (s : Sim F L h w) {i ver z k j : Nat} {els : List (List AV)} {row : List AV} {x y : AV} (hi : h[i]? = some (.live ver z els)) (hk : els[k]? = some row) (hj : row[j]? = some x)
  (hy : ∀ v, RepA w F L x v → RepA w F L y v) (hc : y.cell = true) : Sim F L (h.set i (.live ver z (els.set k (row.set j y)))) w ∧ ∀ b, Owned L (h.set i (.live ver z (els.set k (row.set j y)))) b → Owned L h b := by
 have hil : i < h.length := (List.getElem?_eq_some_iff.1 hi).1
 have back : ∀ {i' v z' : Nat} {e' : List (List AV)}, (h.set i (Row.live ver z (els.set k (row.set j y))))[i']? = some (Row.live v z' e') → ∃ e0, h[i']? = some (Row.live v z' e0) ∧ (e' = e0 ∨ (e0 = els ∧ e' = els.set k (row.set j y))) := by
  intro i' v z' e' h1
  by_cases hii : i = i'
  ·subst hii
   rw [List.getElem?_set_self hil] at h1
   cases h1
   exact ⟨els, hi, .inr ⟨rfl, rfl⟩⟩
  ·rw [List.getElem?_set_ne hii] at h1
   exact ⟨e', h1, .inl rfl⟩
 have own : ∀ b, Owned L (h.set i (.live ver z (els.set k (row.set j y)))) b → Owned L h b := by
  rintro b ⟨i', v, z', e1, q1, h1, h2, h4⟩
  obtain ⟨e0, h3, _⟩ := back h1
  exact ⟨i', v, z', e0, q1, h3, h2, h4⟩
 refine ⟨⟨fun i' v z' e' h1 => ?_, fun i' v q hq => ?_, fun i1 i2 v v' z1 z2 e1 e2 bb q1 q2 h1 h2 h3 h4 h5 h6 => ?_, fun b hb => ⟨(s.imm b hb).1, fun ho => (s.imm b hb).2 (own b ho)⟩, s.glob⟩, own⟩
 ·obtain ⟨e0, h2, h3⟩ := back h1
  obtain ⟨q, g1, g2⟩ := s.row _ _ _ _ h2
  refine ⟨q, g1, ?_⟩
  rcases h3 with rfl | ⟨rfl, rfl⟩
  ·exact g2
  ·cases q with
   | nil => have g2 : e0 = [] := g2; subst g2; simp at hk
   | pl blk o z1 c =>
     obtain ⟨q1, q2, q3, cur, T, q4, q5, q6, q7⟩ := g2
     refine ⟨q1, by simpa using q2, q3, cur, T, q4, q5, fun k' r hk' => ?_, fun k' r jj c hk' hjj => ?_⟩
     ·by_cases hkk : k = k'
      ·subst hkk
       rw [List.getElem?_set_self (List.getElem?_eq_some_iff.1 hk).1] at hk'
       cases hk'
       simpa using q6 k row hk
      ·rw [List.getElem?_set_ne hkk] at hk'; exact q6 k' r hk'
     ·by_cases hkk : k = k'
      ·subst hkk
       rw [List.getElem?_set_self (List.getElem?_eq_some_iff.1 hk).1] at hk'
       cases hk'
       by_cases hjk : j = jj
       ·subst hjk
        rw [List.getElem?_set_self (List.getElem?_eq_some_iff.1 hj).1] at hjj
        cases hjj
        obtain ⟨_, u, t2, t3⟩ := q7 k row j x hk hj
        exact ⟨hc, u, t2, hy u t3⟩
       ·rw [List.getElem?_set_ne hjk] at hjj; exact q7 k row jj c hk hjj
      ·rw [List.getElem?_set_ne hkk] at hk'; exact q7 k' r jj c hk' hjj
   | mp blk =>
     obtain ⟨es, clk, q4, q5, q6⟩ := g2
     refine ⟨es, clk, q4, by simpa using q5, fun k' r e1 hk' he => ?_⟩
     by_cases hkk : k = k'
     ·subst hkk
      rw [List.getElem?_set_self (List.getElem?_eq_some_iff.1 hk).1] at hk'
      cases hk'
      obtain ⟨x1, y1, rfl, t2, t3⟩ := q6 k row e1 hk he
      cases j with
      | zero => simp at hj; subst hj; exact ⟨y, y1, rfl, hy _ t2, t3⟩
      | succ j =>
        cases j with
        | zero => simp at hj; subst hj; exact ⟨x1, y, rfl, t2, hy _ t3⟩
        | succ j => simp at hj
     ·rw [List.getElem?_set_ne hkk] at hk'; exact q6 k' r e1 hk' he
 ·obtain ⟨r, h1, h2⟩ := s.born i' v q hq
  by_cases hii : i = i'
  ·subst hii
   rw [hi] at h1; cases h1
   exact ⟨_, List.getElem?_set_self hil, h2⟩
  ·exact ⟨r, by rw [List.getElem?_set_ne hii]; exact h1, h2⟩
 ·obtain ⟨_, k1, _⟩ := back h1
  obtain ⟨_, k2, _⟩ := back h2
  exact s.apart i1 i2 v v' z1 z2 _ _ bb q1 q2 k1 k2 h3 h4 h5 h6

theorem Weak.nilcell {i ver z k j sz : Nat} {els : List (List AV)} {row : List AV} (hi : l[i]? = some (.live ver z els)) (hk : els[k]? = some row) (hj : row[j]? = some (.v .zsl)) :
  Weak e b l e b (l.set i (.live ver z (els.set k (row.set j (.sl (b.length + l.length) 0 0 0)))) ++ [.live 0 sz []]) := by
 intro F L w a s hea
 obtain ⟨L', s', hLn, hLm, st⟩ := nil_core (sz := sz) F L w s
 have hil : i < l.length := (List.getElem?_eq_some_iff.1 hi).1
 have hi' : (b ++ (l ++ [Row.live 0 sz []]))[b.length + i]? = some (.live ver z els) := by
  rw [List.getElem?_append_right oM, Nat.add_sub_cancel_left, List.getElem?_append_left hil]; exact hi
 obtain ⟨s2, own⟩ := s'.setCell hi' hk hj (y := .sl (b.length + l.length) 0 0 0) (fun v hv => by cases hv.vI; exact .sln _ _ _ hLn) rfl
 have hset : (b ++ (l ++ [Row.live 0 sz []])).set (b.length + i) (.live ver z (els.set k (row.set j (.sl (b.length + l.length) 0 0 0)))) = b ++ (l.set i (.live ver z (els.set k (row.set j (.sl (b.length + l.length) 0 0 0)))) ++ [.live 0 sz []]) := by
  rw [List.set_append_right _ _ oM, Nat.add_sub_cancel_left, List.set_append_left _ _ hil]
 rw [hset] at s2 own
 refine ⟨F, L', s2, hea.mono (fun _ h => h) (fun _ _ => rfl) hLm, ⟨st.imm, st.loc, st.os, st.tape, st.output, st.size, st.block, fun q hq ho => st.own q hq (own q ho), fun id hid v hv => ?_, st.fnew⟩, rfl⟩
 have := st.base id hid v hv
 rw [List.getElem?_append_left hid] at this ⊢
 exact this

def frz0 (id ver sz : Nat) (rows : List (List IV)) : AV → AV
 | .sl i v off len => if i = id ∧ v = ver ∧ off + len ≤ rows.length then .v (.isl sz ((rows.drop off).take len)) else .sl i v off len
 | x => x
def frz (id ver sz : Nat) (rows : List (List IV)) : AV → AV
 | .agg cs => .agg (cs.map (frz0 id ver sz rows))
 | .tup cs => .tup (cs.map (frz0 id ver sz rows))
 | x => frz0 id ver sz rows x

theorem freeze_core {i ver sz : Nat} {rows : List (List IV)} (hi : l[i]? = some (.live ver sz (rows.map (·.map .v)))) (F : Nat → Prop) (L : LMap) (w : World) (a : Act) (s : Sim F L (b ++ l) w) (hea : EnvR w F L e a) :
  ∃ F' : Nat → Prop, Sim F' L (b ++ l.set i (.dead ver)) w ∧ EnvR w F' L (e.map (frz (b.length + i) ver sz rows)) a ∧ Step b.length F L (b ++ l) w F' L (b ++ l.set i (.dead ver)) w ∧
   ∀ (x : AV) (v : Value), RepA w F' L x v → RepA w F' L (frz0 (b.length + i) ver sz rows x) v := by
 have hil : i < l.length := (List.getElem?_eq_some_iff.1 hi).1
 have hrow : (b ++ l)[b.length + i]? = some (.live ver sz (rows.map (·.map .v))) := by rw [List.getElem?_append_right oM, Nat.add_sub_cancel_left]; exact hi
 have hset : b ++ l.set i (.dead ver) = (b ++ l).set (b.length + i) (.dead ver) := by rw [List.set_append_right _ _ oM, Nat.add_sub_cancel_left]
 have hidl : b.length + i < (b ++ l).length := by simp; omega
 obtain ⟨lc, k1, k2⟩ := s.row _ _ _ _ hrow
 have hlive : ∀ {j v z els}, ((b ++ l).set (b.length + i) (.dead ver))[j]? = some (.live v z els) → j ≠ b.length + i ∧ (b ++ l)[j]? = some (.live v z els) := by
  intro j v z els hj
  by_cases hji : b.length + i = j
  ·subst hji
   rw [List.getElem?_set_self hidl] at hj
   cases hj
  ·rw [List.getElem?_set_ne hji] at hj
   exact ⟨fun h => hji h.symm, hj⟩
 have hown : ∀ k, Owned L ((b ++ l).set (b.length + i) (.dead ver)) k → Owned L (b ++ l) k := by
  rintro k ⟨j, v, z, els, q, h1, h2, h3⟩
  exact ⟨j, v, z, els, q, (hlive h1).2, h2, h3⟩
 obtain ⟨F', hFF, hFnew, hF', hFblk⟩ : ∃ F' : Nat → Prop, (∀ k, F k → F' k) ∧ (∀ k, F' k → F k ∨ Owned L (b ++ l) k) ∧ (∀ k, F' k → k < w.heap.size ∧ ¬ Owned L ((b ++ l).set (b.length + i) (.dead ver)) k) ∧ ∀ blk o z c, lc = .pl blk o z c → F' blk := by
  cases lc with
  | nil => exact ⟨F, fun _ h => h, fun _ h => .inl h, fun k hk => ⟨(s.imm k hk).1, fun ho => (s.imm k hk).2 (hown k ho)⟩, fun blk o z c h => by cases h⟩
  | mp blk => exact ⟨F, fun _ h => h, fun _ h => .inl h, fun k hk => ⟨(s.imm k hk).1, fun ho => (s.imm k hk).2 (hown k ho)⟩, fun blk o z c h => by cases h⟩
  | pl blk o z c =>
    obtain ⟨_, _, _, cur, T, k4, _⟩ := k2
    refine ⟨fun k => F k ∨ k = blk, fun k h => .inl h, fun k hk => hk.imp id (fun h => by subst h; exact ⟨_, _, _, _, _, hrow, k1, rfl⟩), fun k hk => ?_, fun blk' o' z' c' h => by cases h; exact .inr rfl⟩
    rcases hk with hk | rfl
    ·exact ⟨(s.imm k hk).1, fun ho => (s.imm k hk).2 (hown k ho)⟩
    ·refine ⟨(Array.getElem?_eq_some_iff.1 k4).1, ?_⟩
     rintro ⟨j, v, z', els, q', h1, h2, h4⟩
     obtain ⟨hne, h3⟩ := hlive h1
     exact hne (s.apart j (b.length + i) v ver z' sz els _ k q' _ h3 hrow h2 k1 h4 rfl)
 have mono : ∀ {x : AV} {v : Value}, RepA w F L x v → RepA w F' L x v := fun hx => hx.mono hFF (fun _ _ => rfl) (fun _ _ _ h => h)
 have f0 : ∀ {x : AV} {v : Value}, RepA w F' L x v → RepA w F' L (frz0 (b.length + i) ver sz rows x) v := by
  intro x v hx
  cases x with
  | sl id ver' off len =>
    simp only [frz0]
    split
    ·rename_i hc
     obtain ⟨rfl, rfl, hle⟩ := hc
     refine .v _ _ ?_
     have hlen : ((rows.drop off).take len).length = len := by simp; omega
     cases hx with
     | sl _ _ _ _ blk o z cap hL h1 h2 =>
       rw [k1] at hL; cases hL
       obtain ⟨q1, q2, q3, cur, T, q4, q5, q6, q7⟩ := k2
       subst q1
       have hcell : ∀ (k : Nat) (row : List IV) (j : Nat) (c : IV), ((rows.drop off).take len)[k]? = some row → row[j]? = some c → ∃ u, w.cell? ⟨blk, o + off * z + k * z + j, none⟩ = some u ∧ RepI w F c u := by
        intro k row j c hk hj
        rw [List.getElem?_take] at hk
        split at hk
        ·rw [List.getElem?_drop] at hk
         obtain ⟨_, u, g1, g2⟩ := q7 (off + k) (row.map .v) j (.v c) (by rw [List.getElem?_map, hk]; rfl) (by rw [List.getElem?_map, hj]; rfl)
         refine ⟨u, ?_, g2.vI⟩
         rw [Nat.add_mul] at g1
         simp only [World.cell?, q4]
         rw [← g1]
         simp [Nat.add_assoc]
        ·cases hk
       have := RepI.isl (w := w) (F := F') ((rows.drop off).take len) blk (o + off * z) z (cap - off) (fun k j => (w.cell? ⟨blk, o + off * z + k * z + j, none⟩).getD undef) (hFblk _ _ _ _ rfl) oM oM
        (fun k row hk => by
         rw [List.getElem?_take] at hk
         split at hk
         ·rw [List.getElem?_drop] at hk
          have := q6 (off + k) (row.map .v) (by rw [List.getElem?_map, hk]; rfl)
          simpa using this
         ·cases hk)
        (fun k row j c hk hj => by
         obtain ⟨u, g1, _⟩ := hcell k row j c hk hj
         rw [g1]; rfl)
        (fun k row j c hk hj => by
         obtain ⟨u, g1, g2⟩ := hcell k row j c hk hj
         rw [g1]; exact g2.mono hFF (fun _ _ => rfl))
       rw [hlen] at this
       exact this
     | slz =>
       have : (rows.drop off).take 0 = [] := by simp
       rw [this]; exact .isl0 _ _ _ oM
     | sln =>
       have : (rows.drop 0).take 0 = [] := by simp
       rw [this]; exact .isl0 _ _ _ oM
    ·exact hx
  | _ => exact hx
 have fl : ∀ {cs : List AV} {vs : Array Value}, RepL w F L cs vs.toList → RepL w F' L (cs.map (frz0 (b.length + i) ver sz rows)) vs.toList := by
  intro cs vs h
  refine ⟨by simpa using h.1, fun j x v hx hv => ?_⟩
  rw [List.getElem?_map] at hx
  cases hq : cs[j]? with
  | none => simp [hq] at hx
  | some y => simp [hq] at hx; subst hx; exact f0 (mono (h.2 j y v hq hv))
 have ff : ∀ {x : AV} {v : Value}, RepA w F L x v → RepA w F' L (frz (b.length + i) ver sz rows x) v := by
  intro x v hx
  cases x with
  | agg cs => obtain ⟨vs, rfl, hl⟩ := hx.aggL; exact RepL.agg (fl hl)
  | tup cs => obtain ⟨vs, rfl, hl⟩ := hx.tupL; exact RepL.tup (fl hl)
  | _ => exact f0 (mono hx)
 refine ⟨F', ?_, ⟨hea.1, by simpa using hea.2.1, fun j x v hx hv => ?_⟩, ⟨hFF, fun _ _ _ _ h => h, rfl, rfl, rfl, Nat.le_refl _, fun _ _ _ => rfl, fun k _ ho => by rw [hset] at ho; exact hown k ho, fun id hid v hv => ?_, fun k hk hf => hFnew k hf⟩, fun x v h => f0 h⟩
 ·rw [hset]
  refine ⟨fun j v z els hj => ?_, fun j v q hq => ?_, fun j j' v v' z z' e1 e2 bb q1 q2 h1 h2 h3 h4 h5 h6 => s.apart j j' v v' z z' e1 e2 bb q1 q2 (hlive h1).2 (hlive h2).2 h3 h4 h5 h6, hF', s.glob.mono hFF (fun _ _ => rfl)⟩
  ·obtain ⟨_, h3⟩ := hlive hj
   obtain ⟨q, g1, g2⟩ := s.row j v z els h3
   exact ⟨q, g1, g2.mono (fun _ _ => rfl) (fun _ _ => mono)⟩
  ·obtain ⟨r, h1, h2⟩ := s.born j v q hq
   by_cases hji : b.length + i = j
   ·subst hji
    rw [hrow] at h1; cases h1
    exact ⟨.dead ver, List.getElem?_set_self hidl, h2⟩
   ·exact ⟨r, by rw [List.getElem?_set_ne hji]; exact h1, h2⟩
 ·rw [List.getElem?_map] at hx
  cases hq : e[j]? with
  | none => simp [hq] at hx
  | some y => simp [hq] at hx; subst hx; exact ff (hea.2.2 j y v hq hv)
 ·rw [List.getElem?_append_left hid] at hv ⊢; exact hv

def rowMap (g : AV → AV) : Row → Row
 | .live v s els => .live v s (els.map (·.map g))
 | .dead v => .dead v
theorem rowMap_get {g : AV → AV} {b l : List Row} {j v z : Nat} {els : List (List AV)} (h : (b ++ l.map (rowMap g))[j]? = some (.live v z els)) : ∃ els0, (b ++ l)[j]? = some (.live v z els0) ∧ (els = els0 ∨ els = els0.map (·.map g)) := by
 by_cases hj : j < b.length
 ·rw [List.getElem?_append_left hj] at h ⊢
  exact ⟨els, h, .inl rfl⟩
 ·rw [List.getElem?_append_right oM, List.getElem?_map] at h
  rw [List.getElem?_append_right oM]
  cases hq : l[j - b.length]? with
  | none => rw [hq] at h; cases h
  | some r =>
    rw [hq] at h
    cases r with
    | live v' z' els0 => cases h; exact ⟨els0, rfl, .inr rfl⟩
    | dead v' => cases h
theorem Sim.mapRows {F : Nat → Prop} {L : LMap} {b l : List Row} {w : World} (s : Sim F L (b ++ l) w) {g : AV → AV} (hg : ∀ (x : AV) (v : Value), RepA w F L x v → RepA w F L (g x) v) (hc : ∀ x : AV, x.cell = true → (g x).cell = true) :
  Sim F L (b ++ l.map (rowMap g)) w ∧ ∀ k, Owned L (b ++ l.map (rowMap g)) k → Owned L (b ++ l) k := by
 have own : ∀ k, Owned L (b ++ l.map (rowMap g)) k → Owned L (b ++ l) k := by
  rintro k ⟨i, v, z, e1, q1, h1, h2, h4⟩
  obtain ⟨els0, h3, _⟩ := rowMap_get h1
  exact ⟨i, v, z, els0, q1, h3, h2, h4⟩
 refine ⟨⟨fun j v z els hj => ?_, fun i v q hq => ?_, fun i i' v v' z z' e1 e2 bb q1 q2 h1 h2 h3 h4 h5 h6 => ?_, fun k hk => ⟨(s.imm k hk).1, fun ho => (s.imm k hk).2 (own k ho)⟩, s.glob⟩, own⟩
 ·obtain ⟨els0, h1, h2⟩ := rowMap_get hj
  obtain ⟨q, g1, g2⟩ := s.row _ _ _ _ h1
  refine ⟨q, g1, ?_⟩
  rcases h2 with rfl | rfl
  ·exact g2
  ·cases q with
   | nil => have g2 : els0 = [] := g2; subst g2; rfl
   | pl blk o z1 c =>
     obtain ⟨q1, q2, q3, cur, T, q4, q5, q6, q7⟩ := g2
     refine ⟨q1, by simpa using q2, q3, cur, T, q4, q5, fun k row hk => ?_, fun k row jj c hk hjj => ?_⟩
     ·rw [List.getElem?_map] at hk
      cases hr : els0[k]? with
      | none => rw [hr] at hk; cases hk
      | some r0 => rw [hr] at hk; cases hk; simpa using q6 k r0 hr
     ·rw [List.getElem?_map] at hk
      cases hr : els0[k]? with
      | none => rw [hr] at hk; cases hk
      | some r0 =>
        rw [hr] at hk; cases hk
        rw [List.getElem?_map] at hjj
        cases hx : r0[jj]? with
        | none => rw [hx] at hjj; cases hjj
        | some x =>
          rw [hx] at hjj; cases hjj
          obtain ⟨t1, u, t2, t3⟩ := q7 k r0 jj x hr hx
          exact ⟨hc x t1, u, t2, hg x u t3⟩
   | mp blk =>
     obtain ⟨es, clk, q4, q5, q6⟩ := g2
     refine ⟨es, clk, q4, by simpa using q5, fun k row e1 hk he => ?_⟩
     rw [List.getElem?_map] at hk
     cases hr : els0[k]? with
     | none => rw [hr] at hk; cases hk
     | some r0 =>
       rw [hr] at hk; cases hk
       obtain ⟨x1, y1, rfl, t2, t3⟩ := q6 k r0 e1 hr he
       exact ⟨g x1, g y1, rfl, hg _ _ t2, hg _ _ t3⟩
 ·obtain ⟨r, h1, h2⟩ := s.born i v q hq
  by_cases hj : i < b.length
  ·rw [List.getElem?_append_left hj] at h1 ⊢; exact ⟨r, h1, h2⟩
  ·rw [List.getElem?_append_right oM] at h1 ⊢
   rw [List.getElem?_map, h1]
   refine ⟨_, rfl, ?_⟩
   cases r <;> exact h2
 ·obtain ⟨_, k1, _⟩ := rowMap_get h1
  obtain ⟨_, k2, _⟩ := rowMap_get h2
  exact s.apart i i' v v' z z' _ _ bb q1 q2 k1 k2 h3 h4 h5 h6

theorem frz0_cell {id ver sz : Nat} {rows : List (List IV)} (x : AV) (h : x.cell = true) : (frz0 id ver sz rows x).cell = true := by
 cases x <;> first | exact h | skip
 simp only [frz0]
 split <;> rfl

theorem Weak.round {l1 junk : List Row} (hf : Fgt e e') (hl : l = l1 ++ junk) (he : ∀ x ∈ e', AVlt (b.length + l1.length) x) (hb : RowsLt b.length b) (h1 : RowsLt (b.length + l1.length) l1) : Weak e b l e' b l1 :=
 (Weak.forget hf).trans (Weak.trim hl he (hb.mono oM) h1)

def Round {ι : Type} (E : ι → List AV) (B L : ι → List Row) (Cd : ι → Prop) (μ : ι → Nat) (i : ι) : List AV → List Row → List Row → Prop :=
 fun e b l => ∃ i', Cd i' ∧ μ i' < μ i ∧ Weak e b l (E i') (B i') (L i')

theorem loop_rule {P : Program} {c : ACode} {Q : AExit → List AV → List Row → List Row → Prop} {ι : Type} (E : ι → List AV) (B L : ι → List Row) (Cd : ι → Prop) (μ : ι → Nat) (i0 : ι) (h0 : Cd i0) (hw : Weak e b l (E i0) (B i0) (L i0))
  (step : ∀ i, Cd i → run (ACalls P) Weak c (E i) (B i) (L i) (seqQ (Round E B L Cd μ i) Q)) : run (ACalls P) Weak (.loop c) e b l Q := by
 refine ⟨fun e b l m => ∃ i, Cd i ∧ μ i = m ∧ e = E i ∧ b = B i ∧ l = L i, ⟨E i0, B i0, L i0, μ i0, hw, i0, h0, rfl, rfl, rfl, rfl⟩, ?_⟩
 rintro e b l m ⟨i, hi, rfl, rfl, rfl, rfl⟩
 refine run_mono' ACalls_mono (step i hi) ?_
 intro ex e b l h
 cases ex with
 | normal =>
   obtain ⟨i', h1, h2, h3⟩ := h
   exact ⟨E i', B i', L i', μ i', h3, ⟨i', h1, rfl, rfl, rfl, rfl⟩, h2⟩
 | exit j => exact h
 | ret => exact h

theorem leave {rs : List ARes} {Q : AV → List Row → List Row → Prop} {B : List Row} {ex : AExit} (hex : ex = .normal ∨ ex = .ret) {xs : List AV} (hx : resVs e B l rs = some xs) {y : AV} {l' : List Row} (hw : Weak [one xs] B l [y] B l') {b0 l0 : List Row} (hB : B = b0 ++ l0) (hq : Q y b0 (l0 ++ l')) :
  Leaves rs Q b0.length ex e B l := by
 refine ⟨hex, xs, hx, y, B, l', hw, ?_⟩
 subst hB
 simpa using hq

theorem leave_pure {rs : List ARes} {Q : AV → List Row → List Row → Prop} {B : List Row} {ex : AExit} (hex : ex = .normal ∨ ex = .ret) {xs : List AV} (hx : resVs e B l rs = some xs) (hlt : AVlt B.length (one xs)) (hR : RowsLt B.length B) {b0 l0 : List Row} (hB : B = b0 ++ l0) (hq : Q (one xs) b0 l0) :
  Leaves rs Q b0.length ex e B l :=
 leave hex hx (Weak.trim (l1 := []) rfl (by simpa using hlt) (by simpa using hR) RowsLt_nil) hB (by simpa using hq)

end
def lts := PLift.up <| And.intro @AVlt_v <| And.intro @AVlt_any <| And.intro @AVlt_sl <| And.intro @AVlt_ptr <| And.intro @AVlt_mp <| And.intro @AVlt_agg <| And.intro @AVlt_tup <| And.intro @AVlt_fn <| And.intro @RowsLt_nil <| And.intro @RowsLt_live <| And.intro @RowsLt_dead <| And.intro @List.mem_cons.{0} <| And.intro @List.not_mem_nil.{0} <| And.intro @List.forall_mem_cons.{0} <| And.intro @List.forall_mem_nil.{0} <| And.intro @or_false <| And.intro @false_or <| And.intro @forall_eq_or_imp.{1} <| And.intro @forall_eq.{1} <| And.intro @vs_lt <| And.intro @Nat.add_lt_add_iff_left <| And.intro @true_and <| And.intro @and_true <| And.intro @and_self <| And.intro @List.length_cons.{0} <| And.intro @List.length_nil.{0} <| And.intro @Nat.zero_add <| And.intro @implies_true.{1} <| And.intro @false_imp_iff <| And.intro @lt_T <| @List.mem_map.{0, 0}
theorem kL {p : Prop} (h : p := by simp (disch := omega) only [lts.down, Nat.reduceLT, Nat.reduceAdd]) : p := h
theorem kO {p : Prop} (h : p := by simp only [one, lts.down, Nat.reduceLT, Nat.reduceAdd]) : p := h
theorem kN {p : Prop} (h : p := by simp only [lts.down, Nat.reduceLT, Nat.reduceAdd]) : p := h
end Go.Proofs.Ytpkemmchpccjdaa
namespace Go.Proofs.Ytpkemmchpccjdaa
set_option linter.unusedVariables false

def anyM : List Bool → List AV → List AV
 | true :: m, _ :: l => .any :: anyM m l
 | false :: m, a :: l => a :: anyM m l
 | _, l => l
theorem anyM_t {m : List Bool} {a : AV} {l : List AV} : anyM (true :: m) (a :: l) = .any :: anyM m l := nr rfl
theorem anyM_f {m : List Bool} {a : AV} {l : List AV} : anyM (false :: m) (a :: l) = a :: anyM m l := nr rfl
theorem anyM_nil {l : List AV} : anyM [] l = l := by cases l <;> rfl
def ovr : List (Nat × AV) → List AV → List AV
 | [], e => e
 | (n, x) :: r, e => ovr r (upd e n x)
theorem ovr_nil {e : List AV} : ovr [] e = e := nr rfl
theorem ovr_cons {n : Nat} {x : AV} {r : List (Nat × AV)} {e : List AV} : ovr ((n, x) :: r) e = ovr r (upd e n x) := nr rfl

end Go.Proofs.Ytpkemmchpccjdaa
namespace Go.Proofs.Ytpkemmchpccjdaa
set_option linter.unusedVariables false

def kOf (N : Nat) (f : Nat → AV) : List AV := (List.range N).map f
def kUp (f : Nat → AV) (n : Nat) (x : AV) : Nat → AV := fun m => if n = m then x else f m
theorem kUp_same {f : Nat → AV} {n : Nat} {x : AV} : kUp f n x n = x := by unfold kUp; rw [if_pos rfl]
theorem kUp_ne {f : Nat → AV} {n m : Nat} {x : AV} (h : n ≠ m) : kUp f n x m = f m := by unfold kUp; rw [if_neg h]
theorem kOf_len {N : Nat} {f : Nat → AV} : (kOf N f).length = N := by simp [kOf]
theorem kOf_get {N : Nat} {f : Nat → AV} {i : Nat} : (kOf N f)[i]? = if i < N then some (f i) else none := by
 unfold kOf
 rw [List.getElem?_map]
 split
 ·rename_i h; rw [List.getElem?_range h]; rfl
 ·rename_i h; rw [List.getElem?_eq_none (by simp; omega)]; rfl
theorem nth_kOf {N : Nat} {f : Nat → AV} {m : Nat} (h : m < N) : nth (kOf N f) m = f m := by
 rw [nth_eq, kOf_get, if_pos h]; rfl
theorem put_kOf {N : Nat} {f : Nat → AV} {n : Nat} {x : AV} : put (kOf N f) (some n) x = kOf N (kUp f n x) := by
 apply List.ext_getElem?
 intro i
 rw [put_some, upd_eq, kOf_get]
 by_cases hi : n = i
 ·subst hi
  rw [List.getElem?_set, kOf_len]
  simp only [if_true]
  split
  ·rw [kUp_same]
  ·rfl
 ·rw [List.getElem?_set_ne hi, kOf_get, kUp_ne hi]
theorem put_kNo {N : Nat} {f : Nat → AV} {x : AV} : put (kOf N f) none x = kOf N f := nr rfl

def kIn : List (Nat × Nat) → Nat → Bool
 | [], _ => false
 | (a, c) :: r, n => (Nat.ble a n && Nat.ble n c) || kIn r n
def kAny (p : List (Nat × Nat)) (f : Nat → AV) : Nat → AV := fun m => if kIn p m = true then .any else f m
theorem kAny_up {p : List (Nat × Nat)} {f : Nat → AV} {n : Nat} {x : AV} (h : kIn p n = true) : kAny p (kUp f n x) = kAny p f := by
 funext m
 unfold kAny kUp
 by_cases hn : n = m
 ·subst hn; rw [if_pos h, if_pos h]
 ·rw [if_neg hn]
theorem kAny_idem {p : List (Nat × Nat)} {f : Nat → AV} : kAny p (kAny p f) = kAny p f := by
 funext m; unfold kAny; split <;> rfl
theorem kAny_out {p : List (Nat × Nat)} {f : Nat → AV} {n : Nat} (h : kIn p n = false) : kAny p f n = f n := by unfold kAny; rw [h]; simp

def KHas (f : Nat → AV) : List (Nat × AV) → Prop
 | [] => True
 | (n, x) :: r => f n = x ∧ KHas f r
def kOv : List (Nat × AV) → (Nat → AV) → Nat → AV
 | [], f => f
 | (n, x) :: r, f => kUp (kOv r f) n x
theorem kOv_nil {f : Nat → AV} : kOv [] f = f := nr rfl
theorem kOv_cons {n : Nat} {x : AV} {r : List (Nat × AV)} {f : Nat → AV} : kOv ((n, x) :: r) f = kUp (kOv r f) n x := nr rfl
def KLt (m : Nat) (f : Nat → AV) : Prop := ∀ i, AVlt m (f i)
theorem KLt.up {m n : Nat} {f : Nat → AV} {x : AV} (h : KLt m f) (hx : AVlt m x) : KLt m (kUp f n x) := by
 intro i; unfold kUp; split
 ·exact hx
 ·exact h i
theorem KLt.mono {m m' : Nat} {f : Nat → AV} (h : KLt m f) (hm : m ≤ m') : KLt m' f := fun i => (h i).mono hm
theorem KLt.any {m : Nat} {p : List (Nat × Nat)} {f : Nat → AV} (h : KLt m f) : KLt m (kAny p f) := by
 intro i; unfold kAny; split
 ·exact .any
 ·exact h i
def KOvLt (m : Nat) : List (Nat × AV) → Prop
 | [] => True
 | (_, x) :: r => AVlt m x ∧ KOvLt m r
theorem KLt.ov {m : Nat} {f : Nat → AV} (h : KLt m f) : ∀ {ov : List (Nat × AV)}, KOvLt m ov → KLt m (kOv ov f)
 | [], _ => h
 | (n, x) :: r, ho => by rw [kOv_cons]; exact KLt.up (KLt.ov h ho.2) ho.1
theorem KLt.env {m N : Nat} {f : Nat → AV} (h : KLt m f) : ∀ x ∈ kOf N f, AVlt m x := by
 intro x hx
 unfold kOf at hx
 obtain ⟨i, _, rfl⟩ := List.mem_map.1 hx
 exact h i

theorem kOv_get {f : Nat → AV} {i : Nat} : ∀ {ov : List (Nat × AV)}, kOv ov f i = f i ∨ (i, kOv ov f i) ∈ ov
 | [] => .inl rfl
 | (n, x) :: r => by
   rw [kOv_cons]
   by_cases hi : n = i
   ·subst hi; rw [kUp_same]; exact .inr (by simp)
   ·rw [kUp_ne hi]; exact (kOv_get (ov := r)).imp id (fun h => by simp [h])
theorem KHas.mem {f : Nat → AV} {n : Nat} {x : AV} : ∀ {ov : List (Nat × AV)}, KHas f ov → (n, x) ∈ ov → f n = x
 | [], _, h => by simp at h
 | (m, y) :: r, hh, h => by
   rcases List.mem_cons.1 h with h | h
   ·cases h; exact hh.1
   ·exact KHas.mem hh.2 h
theorem Weak.named {N : Nat} {f : Nat → AV} {b l : List Row} (p : List (Nat × Nat)) (ov : List (Nat × AV)) (h : KHas f ov) : Weak (kOf N f) b l (kOf N (kOv ov (kAny p f))) b l := by
 intro F L w a s he
 refine ⟨F, L, s, ⟨he.1, by rw [he.2.1, kOf_len, kOf_len], fun i x v hx hv => ?_⟩, Step.refl _ _ _ _ _, rfl⟩
 rw [kOf_get] at hx
 split at hx
 ·rename_i hi
  cases hx
  rcases kOv_get (ov := ov) (f := kAny p f) (i := i) with hg | hg
  ·rw [hg]
   unfold kAny
   split
   ·exact .any v
   ·exact he.2.2 i _ v (by rw [kOf_get, if_pos hi]) hv
  ·rw [← h.mem hg]
   exact he.2.2 i _ v (by rw [kOf_get, if_pos hi]) hv
 ·cases hx

def KRound {ι : Type} (N : Nat) (g : Nat → AV) (ov : ι → List (Nat × AV)) (B : List Row) (L : ι → List Row) (Cd : ι → Prop) (μ : ι → Nat) (i : ι) : List AV → List Row → List Row → Prop :=
 fun e b l => ∃ i', Cd i' ∧ μ i' < μ i ∧ Weak e b l (kOf N (kOv (ov i') g)) B (L i')

theorem loop_kept {P : Program} {c : ACode} {Q : AExit → List AV → List Row → List Row → Prop} {N : Nat} {f : Nat → AV} {b l : List Row} {ι : Type} (p : List (Nat × Nat)) (ov : ι → List (Nat × AV)) (k : Nat) (L : ι → List Row) (Cd : ι → Prop) (μ : ι → Nat) (i0 : ι) (h0 : Cd i0)
  (hlt : KLt (b.length + k) f) (hov : KHas f (ov i0)) (hw : ∀ e, Weak e b l e b (L i0))
  (step : ∀ g, KLt (b.length + k) g → kAny p g = g → (∀ n, kIn p n = false → g n = f n) → ∀ i, Cd i → run (ACalls P) Weak c (kOf N (kOv (ov i) g)) b (L i) (seqQ (KRound N g ov b L Cd μ i) Q)) : run (ACalls P) Weak (.loop c) (kOf N f) b l Q :=
 loop_rule (fun i => kOf N (kOv (ov i) (kAny p f))) (fun _ => b) L Cd μ i0 h0 ((Weak.named p _ hov).trans (hw _))
  (step (kAny p f) hlt.any kAny_idem (fun _ h => kAny_out h))

theorem Weak.kround {N : Nat} {p : List (Nat × Nat)} {ov : List (Nat × AV)} {f g : Nat → AV} {b l l1 junk : List Row} {k : Nat} (he : kAny p f = g) (h : KHas f ov) (hl : l = l1 ++ junk) (hE : KLt (b.length + k) g) (hk : k ≤ l1.length) (ho : KOvLt (b.length + l1.length) ov) (hb : RowsLt b.length b) (h1 : RowsLt (b.length + l1.length) l1) :
  Weak (kOf N f) b l (kOf N (kOv ov g)) b l1 := by
 subst he
 exact (Weak.named p ov h).trans (Weak.trim hl (((hE.mono oM).ov ho).env) (hb.mono oM) h1)

def KArgs (f : Nat → AV) : Nat → List AV → Prop
 | _, [] => True
 | i, a :: r => f i = a ∧ KArgs f (i + 1) r
theorem kArgs_of {args : List AV} : ∀ {r pre : List AV}, args = pre ++ r → KArgs (fun i => args.getD i (.tup [])) pre.length r
 | [], _, _ => trivial
 | a :: r, pre, h => by
   refine ⟨?_, ?_⟩
   ·simp only [h, List.getD_eq_getElem?_getD]; rw [List.getElem?_append_right (Nat.le_refl _)]; simp
   ·have := kArgs_of (args := args) (r := r) (pre := pre ++ [a]) (by rw [h]; simp)
    simpa using this
theorem calls_kept {P : Program} {f : Nat} {af : AFunc} (hf : cFunc P f = some af) {args : List AV} (ha : args.length = af.nargs) (hn : af.nargs ≤ af.ntmps) {b l : List Row} {Q : AV → List Row → List Row → Prop}
  (h : ∀ B g, B = b ++ l → RowsLt B.length B → KLt B.length g → KArgs g 0 args → run (ACalls P) Weak af.body (kOf af.ntmps g) B [] (Leaves af.res Q b.length)) : ACalls P f args b l Q := by
 refine calls_of hf ha (fun B hB hR hA => ?_)
 have := h B (fun i => args.getD i (.tup [])) hB hR ?_ (kArgs_of (pre := []) rfl)
 ·have e : kOf af.ntmps (fun i => args.getD i (.tup [])) = args ++ List.replicate (af.ntmps - args.length) (.tup []) := by
   apply List.ext_getElem?
   intro i
   rw [kOf_get]
   by_cases hi : i < args.length
   ·rw [if_pos oM, List.getElem?_append_left hi, List.getD_eq_getElem?_getD, List.getElem?_eq_getElem hi]; rfl
   ·rw [List.getElem?_append_right oM, List.getElem?_replicate, List.getD_eq_getElem?_getD, List.getElem?_eq_none oM]
    by_cases h2 : i < af.ntmps
    ·rw [if_pos h2, if_pos oM]; rfl
    ·rw [if_neg h2, if_neg oM]
  rw [← e]; exact this
 ·intro i
  simp only [List.getD_eq_getElem?_getD]
  cases hq : args[i]? with
  | none => exact .tup _ (by simp)
  | some x => exact hA x (List.mem_of_getElem? hq)
theorem kAny_sub {p q : List (Nat × Nat)} {g f : Nat → AV} (hg : ∀ n, kIn q n = false → g n = f n) (hs : ∀ n, kIn q n = true → kIn p n = true) : kAny p g = kAny p f := by
 funext m
 unfold kAny
 cases hq : kIn q m with
 | true => rw [hs m hq]; simp
 | false => rw [hg m hq]
theorem kIn_one {p : List (Nat × Nat)} {a c n : Nat} : ∀ {p : List (Nat × Nat)}, p.any (fun y => Nat.ble y.1 a && Nat.ble c y.2) = true → a ≤ n → n ≤ c → kIn p n = true
 | [], h, _, _ => by simp at h
 | (x, y) :: r, h, h1, h2 => by
   simp only [List.any_cons, Bool.or_eq_true, Bool.and_eq_true, Nat.ble_eq] at h
   simp only [kIn, Bool.or_eq_true, Bool.and_eq_true, Nat.ble_eq]
   rcases h with h | h
   ·exact .inl ⟨by omega, by omega⟩
   ·exact .inr (kIn_one (p := p) h h1 h2)
theorem kIn_sub {p : List (Nat × Nat)} : ∀ {q : List (Nat × Nat)}, q.all (fun x => p.any (fun y => Nat.ble y.1 x.1 && Nat.ble x.2 y.2)) = true → ∀ n, kIn q n = true → kIn p n = true
 | [], _, n, hn => by simp [kIn] at hn
 | (a, c) :: r, h, n, hn => by
   simp only [List.all_cons, Bool.and_eq_true] at h
   simp only [kIn, Bool.or_eq_true, Bool.and_eq_true, Nat.ble_eq] at hn
   rcases hn with hn | hn
   ·exact kIn_one (p := p) h.1 hn.1 hn.2
   ·exact kIn_sub h.2 n hn
theorem kV {p : Prop} (h : p := by simp (disch := omega) only [KOvLt, lts.down, Nat.reduceLT, Nat.reduceAdd]) : p := h
end Go.Proofs.Ytpkemmchpccjdaa
namespace Go.Proofs.Ytpkemmchpccjdaa
set_option linter.unusedVariables false
theorem loop_kept_from {P : Program} {c : ACode} {Q : AExit → List AV → List Row → List Row → Prop} {N : Nat} {f f' : Nat → AV} {b l l' : List Row} {ι : Type} (p : List (Nat × Nat)) (ov : ι → List (Nat × AV)) (k : Nat) (L : ι → List Row) (Cd : ι → Prop) (μ : ι → Nat) (i0 : ι) (h0 : Cd i0)
  (hw0 : Weak (kOf N f) b l (kOf N f') b l') (hlt : KLt (b.length + k) f') (hov : KHas f' (ov i0)) (hw : ∀ e, Weak e b l' e b (L i0))
  (step : ∀ g, KLt (b.length + k) g → kAny p g = g → (∀ n, kIn p n = false → g n = f' n) → ∀ i, Cd i → run (ACalls P) Weak c (kOf N (kOv (ov i) g)) b (L i) (seqQ (KRound N g ov b L Cd μ i) Q)) : run (ACalls P) Weak (.loop c) (kOf N f) b l Q :=
 loop_rule (fun i => kOf N (kOv (ov i) (kAny p f'))) (fun _ => b) L Cd μ i0 h0 (hw0.trans ((Weak.named p _ hov).trans (hw _)))
  (step (kAny p f') hlt.any kAny_idem (fun _ h => kAny_out h))
theorem ACalls.nxt {P : Program} {f : Nat} {args : List AV} {b l B' L' : List Row} {x : AV} {K : AV → List Row → List Row → Prop} (h : ACalls P f args b l (fun r b' l' => r = x ∧ b' = B' ∧ l' = L')) (k : K x B' L') : ACalls P f args b l K := by
 refine ACalls_mono _ _ _ _ _ _ h ?_
 rintro r b' l' ⟨rfl, rfl, rfl⟩
 exact k
theorem ACalls.frzA {P : Program} {f i ver sz : Nat} {args : List AV} {rows : List (List IV)} {b l : List Row} {Q : AV → List Row → List Row → Prop} (hi : l[i]? = some (.live ver sz (vs rows))) (h : ACalls P f (args.map (frz (b.length + i) ver sz rows)) b (l.set i (.dead ver)) Q) : ACalls P f args b l Q := by
 refine ⟨h.1, fun F L w us s hr => ?_⟩
 obtain ⟨F', s1, he1, st1, _⟩ := freeze_core (e := args) hi F L w { tmps := us, defers := [] } s ⟨rfl, by have := hr.1; simpa using this.symm, fun j x v hx hv => hr.2 j x v hx (by simpa using hv)⟩
 refine Calls.mono (h.2 F' L w us s1 ⟨by have := hr.1; simpa using this, fun j x v hx hv => he1.2.2 j x v hx (by simpa using hv)⟩) ?_
 rintro en w' ⟨v, x, b', l', F2, L2, h1, h2, h3, h4, h5, h6⟩
 have hlen : (b ++ l.set i (.dead ver)).length = (b ++ l).length := by simp
 have st : Step (b ++ l).length F L (b ++ l) w F' L (b ++ l.set i (.dead ver)) w := by
  refine ⟨st1.imm, fun _ _ _ _ hl => hl, rfl, rfl, rfl, Nat.le_refl _, fun _ _ _ => rfl, st1.own, fun id hid v hv => ?_, st1.fnew⟩
  by_cases hj : id < b.length
  ·rw [List.getElem?_append_left hj] at hv ⊢; exact hv
  ·rw [List.getElem?_append_right oM] at hv ⊢
   by_cases hji : i = id - b.length
   ·rw [← hji, hi] at hv; cases hv
   ·rw [List.getElem?_set_ne hji]; exact hv
 exact ⟨v, x, b', l', F2, L2, h1, h2, h3, st.trans (hlen ▸ h4), h5, h6⟩

theorem ACalls.frzB {P : Program} {f i ver sz : Nat} {args args' : List AV} {rows : List (List IV)} {b l : List Row} {Q : AV → List Row → List Row → Prop} (hi : l[i]? = some (.live ver sz (vs rows))) (ha : args.map (frz (b.length + i) ver sz rows) = args') (h : ACalls P f args' b (l.set i (.dead ver)) Q) : ACalls P f args b l Q := by
 subst ha
 exact ACalls.frzA hi h
end Go.Proofs.Ytpkemmchpccjdaa
namespace Go.Proofs.Ytpkemmchpccjdaa
set_option linter.unusedVariables false

def ltB (m : Nat) : Nat → AV → Bool
 | 0, _ => false
 | n + 1, x => match x with
   | .any => true
   | .v _ => true
   | .agg cs => cs.all (ltB m n)
   | .tup cs => cs.all (ltB m n)
   | .sl id _ _ _ => decide (id < m)
   | .ptr id _ _ _ => decide (id < m)
   | .fn _ cs => cs.all (ltB m n)
   | .mp id _ => decide (id < m)
inductive XV where
 | bad
 | ok (y : AV) (b l : List Row) (t : Bool)

def unV : AV → Option IV
 | .v x => some x
 | _ => none
def mapO {α β : Type} (f : α → Option β) : List α → Option (List β)
 | [] => some []
 | a :: az => match f a, mapO f az with
   | some x, some xs => some (x :: xs)
   | _, _ => none
def deep (g : AV → AV) : Nat → AV → AV
 | 0, x => x
 | n + 1, x => match x with
   | .agg cs => .agg (cs.map (deep g n))
   | .tup cs => .tup (cs.map (deep g n))
   | x => g x
theorem deep_rep {w : World} {F : Nat → Prop} {L : LMap} {g : AV → AV} (hg : ∀ (x : AV) (v : Value), RepA w F L x v → RepA w F L (g x) v) : ∀ (n : Nat) (x : AV) (v : Value), RepA w F L x v → RepA w F L (deep g n x) v
 | 0, x, v, h => h
 | n + 1, x, v, h => by
   have ih := deep_rep hg n
   unfold deep
   have hl : ∀ {cs : List AV} {vs : List Value}, RepL w F L cs vs → RepL w F L (cs.map (deep g n)) vs := by
    intro cs vs h
    refine ⟨by simpa using h.1, fun j x v hx hv => ?_⟩
    rw [List.getElem?_map] at hx
    cases hq : cs[j]? with
    | none => simp [hq] at hx
    | some y => simp [hq] at hx; subst hx; exact ih y v (h.2 j y v hq hv)
   split
   ·obtain ⟨vs, rfl, h2⟩ := h.aggL
    exact RepL.agg (hl h2)
   ·obtain ⟨vs, rfl, h2⟩ := h.tupL
    exact RepL.tup (hl h2)
   ·exact hg x v h

theorem Weak.freezeDeep {y : AV} {b l : List Row} {i ver sz : Nat} {rows : List (List IV)} (n : Nat) (hi : l[i]? = some (.live ver sz (vs rows))) :
  Weak [y] b l [deep (frz0 (b.length + i) ver sz rows) n y] b ((l.set i (.dead ver)).map (rowMap (frz0 (b.length + i) ver sz rows))) := by
 intro F L w a s hea
 obtain ⟨F', h1, h2, h3, h4⟩ := freeze_core hi F L w a s hea
 obtain ⟨s2, own⟩ := h1.mapRows h4 (fun x hx => frz0_cell x hx)
 refine ⟨F', L, s2, ⟨h2.1, by simpa using hea.2.1, fun j x v hx hv => ?_⟩, ⟨h3.imm, h3.loc, h3.os, h3.tape, h3.output, h3.size, h3.block, fun k hk ho => h3.own k hk (own k ho), fun id hid v hv => ?_, h3.fnew⟩, rfl⟩
 ·cases j with
  | zero =>
    simp at hx; subst hx
    exact deep_rep h4 n y v ((hea.2.2 0 y v rfl hv).mono h3.imm (fun _ _ => rfl) (fun _ _ _ h => h))
  | succ j => simp at hx
 ·have := h3.base id hid v hv
  rw [List.getElem?_append_left hid] at this ⊢
  exact this

def frzRows (nb : Nat) : List Nat → AV → List Row → AV × List Row
 | [], y, l => (y, l)
 | i :: is, y, l => match l[i]? with
   | some (.live ver sz els) => match mapO (mapO unV) els with
     | some rows => frzRows nb is (deep (frz0 (nb + i) ver sz rows) 6 y) ((l.set i (.dead ver)).map (rowMap (frz0 (nb + i) ver sz rows)))
     | none => frzRows nb is y l
   | _ => frzRows nb is y l
def times {α : Type} : Nat → List α → List α
 | 0, _ => []
 | n + 1, l => l ++ times n l

def fin (z : Nat) (b l : List Row) (y : AV) (B l' : List Row) (t : Bool) : XV :=
 let p := frzRows (b.length + l.length) (times z (List.range l'.length).reverse) y l'
 if t = false ∧ ltB (b.length + l.length) 20 p.1 = true then .ok p.1 b l false
 else if B.length = b.length + l.length then .ok p.1 (B.take b.length) (B.drop b.length ++ p.2) t else .bad

section
variable (T : Nat → Option AFunc) (O : Nat → List AV → Option AV) (Z : Nat → Nat)
end

section
variable {P : Program} {T : Nat → Option AFunc} {O : Nat → List AV → Option AV} {Z : Nat → Nat}

end
end Go.Proofs.Ytpkemmchpccjdaa
namespace Go.Proofs.Ytpkemmchpccjdaa.E1
set_option linter.unusedVariables false
theorem ACalls.freezeDeep {P : Program} {f i ver sz : Nat} {args : List AV} {rows : List (List IV)} {b l : List Row} {Q : AV → List Row → List Row → Prop} (n : Nat) (hi : l[i]? = some (.live ver sz (vs rows)))
  (h : ACalls P f (args.map (deep (frz0 (b.length + i) ver sz rows) n)) b ((l.set i (.dead ver)).map (rowMap (frz0 (b.length + i) ver sz rows))) Q) : ACalls P f args b l Q := by
 refine ⟨h.1, fun F L w us s hr => ?_⟩
 obtain ⟨F', s1, he1, st1, h4⟩ := freeze_core (e := []) hi F L w { tmps := #[], defers := [] } s ⟨rfl, rfl, fun j x v hx hv => by simp at hx⟩
 obtain ⟨s2, own⟩ := s1.mapRows h4 (fun x hx => frz0_cell x hx)
 refine Calls.mono (h.2 F' L w us s2 ⟨by have := hr.1; simpa using this, fun j x v hx hv => ?_⟩) ?_
 ·rw [List.getElem?_map] at hx
  cases hq : args[j]? with
  | none => simp [hq] at hx
  | some y => simp [hq] at hx; subst hx; exact deep_rep h4 n y v ((hr.2 j y v hq hv).mono st1.imm (fun _ _ => rfl) (fun _ _ _ h => h))
 rintro en w' ⟨v, x, b', l', F2, L2, h1, h2, h3, h4', h5, h6⟩
 have hlen : (b ++ (l.set i (.dead ver)).map (rowMap (frz0 (b.length + i) ver sz rows))).length = (b ++ l).length := by simp
 have st : Step (b ++ l).length F L (b ++ l) w F' L (b ++ (l.set i (.dead ver)).map (rowMap (frz0 (b.length + i) ver sz rows))) w := by
  refine ⟨st1.imm, fun _ _ _ _ hl => hl, rfl, rfl, rfl, Nat.le_refl _, fun _ _ _ => rfl, fun k hk ho => st1.own k hk (own k ho), fun id hid v hv => ?_, st1.fnew⟩
  by_cases hj : id < b.length
  ·rw [List.getElem?_append_left hj] at hv ⊢; exact hv
  ·rw [List.getElem?_append_right oM] at hv ⊢
   rw [List.getElem?_map]
   by_cases hji : i = id - b.length
   ·rw [← hji, hi] at hv; cases hv
   ·rw [List.getElem?_set_ne hji, hv]; rfl
 exact ⟨v, x, b', l', F2, L2, h1, h2, h3, st.trans (hlen ▸ h4'), h5, h6⟩
section
variable (T : Nat → Option AFunc) (O : Nat → List AV → Option AV) (Z : Nat → Nat)
end

section
variable {P : Program} {T : Nat → Option AFunc} {O : Nat → List AV → Option AV} {Z : Nat → Nat}

end
end Go.Proofs.Ytpkemmchpccjdaa.E1
namespace Go.Proofs.Ytpkemmchpccjdaa
set_option linter.unusedVariables false

def fl {α : Type} (n : Nat) (f : Nat → α) : List α := (List.range n).map f
section
variable {α β : Type}
theorem fl_len {n : Nat} {f : Nat → α} : (fl n f).length = n := by simp [fl]
theorem fl_get {n : Nat} {f : Nat → α} {i : Nat} (h : i < n) : (fl n f)[i]? = some (f i) := by
 unfold fl; rw [List.getElem?_map, List.getElem?_range h]; rfl
theorem fl_none {n : Nat} {f : Nat → α} {i : Nat} (h : n ≤ i) : (fl n f)[i]? = none := by
 rw [List.getElem?_eq_none]; rw [fl_len]; exact h
theorem fl_congr {n : Nat} {f g : Nat → α} (h : ∀ i, i < n → f i = g i) : fl n f = fl n g := by
 unfold fl
 refine List.map_congr_left (fun i hi => h i (List.mem_range.1 hi))
theorem fl_map {n : Nat} {f : Nat → α} {g : α → β} : (fl n f).map g = fl n (fun i => g (f i)) := by simp [fl]
theorem fl_list {l : List α} {d : α} : fl l.length (fun i => l.getD i d) = l := by
 apply List.ext_getElem?
 intro j
 by_cases hj : j < l.length
 ·rw [fl_get hj, List.getD_eq_getElem?_getD, List.getElem?_eq_getElem hj]; rfl
 ·rw [fl_none oM, List.getElem?_eq_none oM]
end

theorem vs_frz0 {id ver sz : Nat} {rows r : List (List IV)} : (vs r).map (List.map (frz0 id ver sz rows)) = vs r := by
 simp [vs, frz0]
end Go.Proofs.Ytpkemmchpccjdaa
namespace Go.Proofs.Ytpkemmchpccjdaa
set_option linter.unusedVariables false
set_option linter.unusedSimpArgs false
inductive Dv (n : Nat) (l : List Row) : AV → AV → Prop where
 | v (x : IV) : Dv n l (.v x) (.v x)
 | z (sz : Nat) : Dv n l (.v .zsl) (.v (.isl sz []))
 | sl (i ver off len sz : Nat) (els : List (List AV)) (rows : List (List IV)) (hi : l[i]? = some (.live ver sz els)) (hle : off + len ≤ els.length) (hl : rows.length = len)
   (h1 : ∀ (k : Nat) (r : List AV) (row : List IV), els[off + k]? = some r → rows[k]? = some row → r.length = row.length)
   (h2 : ∀ (k : Nat) (r : List AV) (row : List IV) (j : Nat) (a : AV) (c : IV), els[off + k]? = some r → rows[k]? = some row → r[j]? = some a → row[j]? = some c → Dv n l a (.v c)) : Dv n l (.sl (n + i) ver off len) (.v (.isl sz rows))
 | agg (cs ds : List AV) (hl : cs.length = ds.length) (h : ∀ (i : Nat) (c d : AV), cs[i]? = some c → ds[i]? = some d → Dv n l c d) : Dv n l (.agg cs) (.agg ds)
 | tup (cs ds : List AV) (hl : cs.length = ds.length) (h : ∀ (i : Nat) (c d : AV), cs[i]? = some c → ds[i]? = some d → Dv n l c d) : Dv n l (.tup cs) (.tup ds)
def DvR (n : Nat) (l : List Row) (r : List AV) (row : List IV) : Prop := r.length = row.length ∧ ∀ (j : Nat) (a : AV) (c : IV), r[j]? = some a → row[j]? = some c → Dv n l a (.v c)
theorem DvR.nil {n : Nat} {l : List Row} : DvR n l [] [] := ⟨rfl, fun j a c h => by simp at h⟩
theorem DvR.cons {n : Nat} {l : List Row} {a : AV} {c : IV} {r : List AV} {row : List IV} (h : Dv n l a (.v c)) (t : DvR n l r row) : DvR n l (a :: r) (c :: row) := by
 refine ⟨by simp [t.1], fun j x y hx hy => ?_⟩
 cases j with
 | zero => simp at hx hy; subst hx; subst hy; exact h
 | succ j => exact t.2 j x y (by simpa using hx) (by simpa using hy)
theorem DvR.plain {n : Nat} {l : List Row} {row : List IV} : DvR n l (row.map .v) row := by
 refine ⟨by simp, fun j a c ha hc => ?_⟩
 rw [List.getElem?_map, hc] at ha
 cases ha
 exact .v c
def DvL (n : Nat) (l : List Row) (cs ds : List AV) : Prop := cs.length = ds.length ∧ ∀ (i : Nat) (c d : AV), cs[i]? = some c → ds[i]? = some d → Dv n l c d
theorem DvL.nil {n : Nat} {l : List Row} : DvL n l [] [] := ⟨rfl, fun j a c h => by simp at h⟩
theorem DvL.cons {n : Nat} {l : List Row} {a d : AV} {cs ds : List AV} (h : Dv n l a d) (t : DvL n l cs ds) : DvL n l (a :: cs) (d :: ds) := by
 refine ⟨by simp [t.1], fun j x y hx hy => ?_⟩
 cases j with
 | zero => simp at hx hy; subst hx; subst hy; exact h
 | succ j => exact t.2 j x y (by simpa using hx) (by simpa using hy)
theorem Dv.aggL {n : Nat} {l : List Row} {cs ds : List AV} (h : DvL n l cs ds) : Dv n l (.agg cs) (.agg ds) := .agg cs ds h.1 h.2
theorem Dv.tupL {n : Nat} {l : List Row} {cs ds : List AV} (h : DvL n l cs ds) : Dv n l (.tup cs) (.tup ds) := .tup cs ds h.1 h.2
theorem Dv.slR {n : Nat} {l : List Row} {i ver off len sz : Nat} {els : List (List AV)} {rows : List (List IV)} (hi : l[i]? = some (.live ver sz els)) (hle : off + len ≤ els.length) (hl : rows.length = len)
  (h : ∀ (k : Nat) (r : List AV) (row : List IV), els[off + k]? = some r → rows[k]? = some row → DvR n l r row) : Dv n l (.sl (n + i) ver off len) (.v (.isl sz rows)) :=
 .sl i ver off len sz els rows hi hle hl (fun k r row h1 h2 => (h k r row h1 h2).1) (fun k r row j a c h1 h2 => (h k r row h1 h2).2 j a c)
theorem Dv.slV {n : Nat} {l : List Row} {i ver sz len : Nat} {rows : List (List IV)} (hi : l[i]? = some (.live ver sz (vs rows))) (hl : len = rows.length) : Dv n l (.sl (n + i) ver 0 len) (.v (.isl sz rows)) := by
 refine Dv.slR hi (by rw [vs_len]; omega) hl.symm (fun k r row h1 h2 => ?_)
 rw [Nat.zero_add, vs_get, h2] at h1
 cases h1
 exact DvR.plain
theorem Dv.slVoff {n : Nat} {l : List Row} {i ver sz off len : Nat} {rows : List (List IV)} (hi : l[i]? = some (.live ver sz (vs rows))) (hl : off + len = rows.length) : Dv n l (.sl (n + i) ver off len) (.v (.isl sz (rows.drop off))) := by
 refine Dv.slR hi (by rw [vs_len]; omega) (by rw [List.length_drop]; omega) (fun k r row h1 h2 => ?_)
 rw [List.getElem?_drop] at h2
 rw [vs_get, h2] at h1
 cases h1
 exact DvR.plain
theorem Dv.lt {n : Nat} {l : List Row} {x y : AV} (h : Dv n l x y) (m : Nat) : AVlt m y := by
 induction h with
 | v x => exact .v x
 | z sz => exact .v _
 | sl => exact .v _
 | agg cs ds hl _ ih =>
   refine .agg _ (fun d hd => ?_)
   obtain ⟨i, hi⟩ := List.mem_iff_getElem?.1 hd
   have hl2 := (List.getElem?_eq_some_iff.1 hi).1
   exact ih i cs[i] d (List.getElem?_eq_getElem oM) hi
 | tup cs ds hl _ ih =>
   refine .tup _ (fun d hd => ?_)
   obtain ⟨i, hi⟩ := List.mem_iff_getElem?.1 hd
   have hl2 := (List.getElem?_eq_some_iff.1 hi).1
   exact ih i cs[i] d (List.getElem?_eq_getElem oM) hi
theorem Dv.more {n : Nat} {l : List Row} (k : List Row) {x y : AV} (h : Dv n l x y) : Dv n (l ++ k) x y := by
 induction h with
 | v x => exact .v x
 | z sz => exact .z sz
 | sl i ver off len sz els rows hi hle hl h1 _ ih =>
   exact .sl i ver off len sz els rows (by rw [List.getElem?_append_left (List.getElem?_eq_some_iff.1 hi).1]; exact hi) hle hl h1 ih
 | agg cs ds hl _ ih => exact .agg cs ds hl ih
 | tup cs ds hl _ ih => exact .tup cs ds hl ih
def FD (F : Nat → Prop) (L : LMap) (n : Nat) (l : List Row) (k : Nat) : Prop := F k ∨ ∃ i ver sz els q, l[i]? = some (.live ver sz els) ∧ L (n + i) ver = some q ∧ q.on k
theorem Dv.rep {F : Nat → Prop} {L : LMap} {b l : List Row} {w : World} (s : Sim F L (b ++ l) w) {x y : AV} (h : Dv b.length l x y) : ∀ v, RepA w F L x v → RepA w (FD F L b.length l) L y v := by
 have mono : ∀ {x : AV} {v : Value}, RepA w F L x v → RepA w (FD F L b.length l) L x v := fun hx => hx.mono (fun _ h => .inl h) (fun _ _ => rfl) (fun _ _ _ h => h)
 induction h with
 | v x => exact fun v hv => mono hv
 | z sz =>
   intro v hv
   cases hv.vI
   exact .v _ _ (.isl0 _ _ _ (Nat.zero_le _))
 | sl i ver off len sz els rows hi hle hl h1 h2 ih =>
   intro v hv
   have hrow : (b ++ l)[b.length + i]? = some (.live ver sz els) := by rw [List.getElem?_append_right oM, Nat.add_sub_cancel_left]; exact hi
   obtain ⟨q, k1, k2⟩ := s.row _ _ _ _ hrow
   refine .v _ _ ?_
   cases hv with
   | sl _ _ _ _ blk o z cap hL g1 g2 =>
     rw [k1] at hL; cases hL
     obtain ⟨q1, q2, q3, cur, T, q4, q5, q6, q7⟩ := k2
     subst q1
     have hcell : ∀ (k : Nat) (row : List IV) (j : Nat) (c : IV), rows[k]? = some row → row[j]? = some c → ∃ u, w.cell? ⟨blk, o + off * z + k * z + j, none⟩ = some u ∧ RepI w (FD F L b.length l) c u := by
      intro k row j c hk hj
      have hkl := (List.getElem?_eq_some_iff.1 hk).1
      have hjl := (List.getElem?_eq_some_iff.1 hj).1
      have hr : els[off + k]? = some els[off + k] := List.getElem?_eq_getElem oM
      have hlr := h1 k _ row hr hk
      have ha : els[off + k][j]? = some els[off + k][j] := List.getElem?_eq_getElem oM
      obtain ⟨_, u, g3, g4⟩ := q7 (off + k) _ j _ hr ha
      refine ⟨u, ?_, (ih k _ row j _ c hr hk ha hj u g4).vI⟩
      rw [Nat.add_mul] at g3
      simp only [World.cell?, q4]
      rw [← g3]
      simp [Nat.add_assoc]
     have := RepI.isl (w := w) (F := FD F L b.length l) rows blk (o + off * z) z (cap - off) (fun k j => (w.cell? ⟨blk, o + off * z + k * z + j, none⟩).getD undef) (.inr ⟨i, ver, z, els, _, hi, k1, rfl⟩) oM oM
      (fun k row hk => by
       have hkl := (List.getElem?_eq_some_iff.1 hk).1
       have hr : els[off + k]? = some els[off + k] := List.getElem?_eq_getElem oM
       rw [← h1 k _ row hr hk]
       exact q6 _ _ hr)
      (fun k row j c hk hj => by
       obtain ⟨u, g3, _⟩ := hcell k row j c hk hj
       rw [g3]; rfl)
      (fun k row j c hk hj => by
       obtain ⟨u, g3, g4⟩ := hcell k row j c hk hj
       rw [g3]; exact g4)
     rw [hl] at this
     exact this
   | slz =>
     have : rows = [] := List.eq_nil_of_length_eq_zero hl
     rw [this]; exact .isl0 _ _ _ oM
   | sln =>
     have : rows = [] := List.eq_nil_of_length_eq_zero hl
     rw [this]; exact .isl0 _ _ _ oM
 | agg cs ds hl _ ih =>
   intro v hv
   obtain ⟨us, rfl, hu⟩ := hv.aggL
   refine RepL.agg ⟨by rw [← hl]; exact hu.1, fun j d u hd hju => ?_⟩
   have hjl := (List.getElem?_eq_some_iff.1 hd).1
   have hc : cs[j]? = some cs[j] := List.getElem?_eq_getElem oM
   exact ih j _ d hc hd u (hu.2 j _ u hc hju)
 | tup cs ds hl _ ih =>
   intro v hv
   obtain ⟨us, rfl, hu⟩ := hv.tupL
   refine RepL.tup ⟨by rw [← hl]; exact hu.1, fun j d u hd hju => ?_⟩
   have hjl := (List.getElem?_eq_some_iff.1 hd).1
   have hc : cs[j]? = some cs[j] := List.getElem?_eq_getElem oM
   exact ih j _ d hc hd u (hu.2 j _ u hc hju)
def deadR (r : Row) : Row := .dead r.ver
theorem deadL_get {b l : List Row} {j v z : Nat} {els : List (List AV)} (h : (b ++ l.map deadR)[j]? = some (.live v z els)) : j < b.length ∧ (b ++ l)[j]? = some (.live v z els) := by
 by_cases hj : j < b.length
 ·rw [List.getElem?_append_left hj] at h ⊢
  exact ⟨hj, h⟩
 ·rw [List.getElem?_append_right oM, List.getElem?_map] at h
  cases hq : l[j - b.length]? with
  | none => rw [hq] at h; cases h
  | some r => rw [hq] at h; cases h
theorem Weak.deep {b l : List Row} {e e' : List AV} (hl : e.length = e'.length) (hd : ∀ (i : Nat) (x y : AV), e[i]? = some x → e'[i]? = some y → Dv b.length l x y) (hR : RowsLt b.length b) : Weak e b l e' b [] := by
 refine Weak.trans (e2 := e') (b2 := b) (l2 := l.map deadR) ?_ (Weak.trim (l1 := []) rfl (fun y hy => ?_) (by simpa using hR) RowsLt_nil)
 ·intro F L w a s hea
  have hown : ∀ k, Owned L (b ++ l.map deadR) k → Owned L (b ++ l) k := by
   rintro k ⟨j, v, z, els, q, h1, h2, h3⟩
   exact ⟨j, v, z, els, q, (deadL_get h1).2, h2, h3⟩
  have hin : ∀ {i ver sz els}, l[i]? = some (.live ver sz els) → (b ++ l)[b.length + i]? = some (.live ver sz els) := fun hi => by
   rw [List.getElem?_append_right oM, Nat.add_sub_cancel_left]; exact hi
  refine ⟨FD F L b.length l, L, ⟨fun j v z els hj => ?_, fun j v q hq => ?_, fun j j' v v' z z' e1 e2 bb q1 q2 h1 h2 => s.apart j j' v v' z z' e1 e2 bb q1 q2 (deadL_get h1).2 (deadL_get h2).2, fun k hk => ?_, s.glob.mono (fun _ h => .inl h) (fun _ _ => rfl)⟩,
   ⟨hea.1, by rw [← hl]; exact hea.2.1, fun i y v hy hv => ?_⟩, ⟨fun _ h => .inl h, fun _ _ _ _ h => h, rfl, rfl, rfl, Nat.le_refl _, fun _ _ _ => rfl, fun k _ ho => hown k ho, fun id hid v hv => ?_, fun k hk hf => ?_⟩, rfl⟩
  ·obtain ⟨q, g1, g2⟩ := s.row j v z els (deadL_get hj).2
   exact ⟨q, g1, g2.mono (fun _ _ => rfl) (fun _ _ h => h.mono (fun _ h => .inl h) (fun _ _ => rfl) (fun _ _ _ h => h))⟩
  ·obtain ⟨r, h1, h2⟩ := s.born j v q hq
   by_cases hj : j < b.length
   ·exact ⟨r, by rw [List.getElem?_append_left hj] at h1 ⊢; exact h1, h2⟩
   ·rw [List.getElem?_append_right oM] at h1
    exact ⟨deadR r, by rw [List.getElem?_append_right oM, List.getElem?_map, h1]; rfl, h2⟩
  ·rcases hk with hk | ⟨i, ver, sz, els, q, h1, h2, h3⟩
   ·exact ⟨(s.imm k hk).1, fun ho => (s.imm k hk).2 (hown k ho)⟩
   ·obtain ⟨q', g1, g2⟩ := s.row _ _ _ _ (hin h1)
    rw [h2] at g1; cases g1
    refine ⟨g2.lt h3, ?_⟩
    rintro ⟨j, v, z, els', q2, k1, k2, k3⟩
    obtain ⟨hj, k4⟩ := deadL_get k1
    have := s.apart j (b.length + i) v ver z sz els' els k q2 q k4 (hin h1) k2 h2 k3 h3
    omega
  ·have hil := (List.getElem?_eq_some_iff.1 hy).1
   have hx : e[i]? = some e[i] := List.getElem?_eq_getElem oM
   exact (hd i _ y hx hy).rep s v (hea.2.2 i _ v hx hv)
  ·rw [List.getElem?_append_left hid] at hv ⊢; exact hv
  ·rcases hf with hf | ⟨i, ver, sz, els, q, h1, h2, h3⟩
   ·exact .inl hf
   ·exact .inr ⟨_, _, _, _, _, hin h1, h2, h3⟩
 ·obtain ⟨i, hi⟩ := List.mem_iff_getElem?.1 hy
  have hil := (List.getElem?_eq_some_iff.1 hi).1
  exact (hd i _ y (List.getElem?_eq_getElem (show i < e.length by omega)) hi).lt _
theorem leave_deep {e : List AV} {l : List Row} {rs : List ARes} {Q : AV → List Row → List Row → Prop} {B : List Row} {ex : AExit} (hex : ex = .normal ∨ ex = .ret) {xs : List AV} (hx : resVs e B l rs = some xs) {y : AV} (hd : Dv B.length l (one xs) y) (hR : RowsLt B.length B) {b0 l0 : List Row} (hB : B = b0 ++ l0) (hq : Q y b0 l0) :
  Leaves rs Q b0.length ex e B l :=
 leave hex hx (y := y) (l' := []) (Weak.deep rfl (fun i x z hx hz => by
  cases i with
  | zero => simp at hx hz; subst hx; subst hz; exact hd
  | succ i => simp at hx) hR) hB (by rw [List.append_nil]; exact hq)
theorem ACalls.deep {P : Program} {f : Nat} {args : List AV} {b l N : List Row} {x y : AV} (hd : Dv (b.length + l.length) N x y)
  (h : ACalls P f args b l (fun r b' l' => r = x ∧ b' = b ∧ l' = l ++ N)) : ACalls P f args b l (fun r b' l' => r = y ∧ b' = b ∧ l' = l) := by
 refine ⟨h.1, fun F L w vs s hr => Calls.mono (h.2 F L w vs s hr) ?_⟩
 rintro en w' ⟨v, x', b', l', F', L', h1, h2, h3, h4, h5, rfl, rfl, rfl⟩
 have hbl : (b' ++ l).length = b'.length + l.length := List.length_append
 have hsim : Sim F' L' ((b' ++ l) ++ N) w' := by rw [List.append_assoc]; exact h3
 have hw : Weak [x'] (b' ++ l) N [y] (b' ++ l) [] := Weak.deep rfl (fun i x z hx hz => by
  cases i with
  | zero => simp at hx hz; subst hx; subst hz; rw [hbl]; exact hd
  | succ i => simp at hx) s.rowsLt
 obtain ⟨F3, L3, k1, k2, k3, k5⟩ := hw F' L' w' { tmps := #[v], defers := [] } hsim ⟨rfl, rfl, fun j z u hz hu => by
  cases j with
  | zero => simp at hz hu; subst hz; subst hu; exact h2
  | succ j => simp at hz⟩
 rw [List.append_nil] at k1 k3
 refine ⟨v, y, b', l, F3, L3, h1, k2.2.2 0 _ v rfl rfl, k1, ?_, h5, rfl, rfl, rfl⟩
 refine h4.trans ?_
 rw [← List.append_assoc]
 exact k3
end Go.Proofs.Ytpkemmchpccjdaa
namespace Go.Proofs.Ytpkemmchpccjdaa
set_option linter.unusedVariables false
set_option linter.unusedSimpArgs false
section
variable {b l : List Row} {e : List AV}
theorem nil_coreV {sz : Nat} (V : Nat) (F : Nat → Prop) (L : LMap) (w : World) (s : Sim F L (b ++ l) w) : ∃ L' : LMap, Sim F L' (b ++ (l ++ [.live V sz []])) w ∧ L' (b.length + l.length) V = some .nil ∧ (∀ i v q, L i v = some q → L' i v = some q) ∧
  Step b.length F L (b ++ l) w F L' (b ++ (l ++ [.live V sz []])) w := by
 have hlen : (b ++ l).length = b.length + l.length := by simp
 have hnone : ∀ V, L (b.length + l.length) V = none := by
  intro V
  cases hq : L (b.length + l.length) V with
  | none => rfl
  | some q => exact absurd (s.lt hq) oM
 obtain ⟨L', hLn, hLm, hLo⟩ : ∃ L' : LMap, L' (b.length + l.length) V = some .nil ∧ (∀ i v q, L i v = some q → L' i v = some q) ∧ ∀ i v, (i ≠ b.length + l.length ∨ v ≠ V) → L' i v = L i v := by
  refine ⟨fun i v => if i = b.length + l.length ∧ v = V then some .nil else L i v, by simp, ?_, ?_⟩
  ·intro i v q hl
   by_cases hi : i = b.length + l.length ∧ v = V
   ·obtain ⟨rfl, rfl⟩ := hi
    rw [hnone] at hl; cases hl
   ·simp [hi, hl]
  ·intro i v hi
   have : ¬ (i = b.length + l.length ∧ v = V) := fun ⟨a, b⟩ => hi.elim (fun h => h a) (fun h => h b)
   simp [this]
 have hold : ∀ j, j ≠ b.length + l.length → (b ++ (l ++ [Row.live V sz []]))[j]? = (b ++ l)[j]? := by
  intro j hj
  rw [← List.append_assoc]
  by_cases hjl : j < (b ++ l).length
  ·rw [List.getElem?_append_left hjl]
  ·rw [List.getElem?_eq_none (by simp; omega), List.getElem?_eq_none oM]
 have hnew : (b ++ (l ++ [Row.live V sz []]))[b.length + l.length]? = some (.live V sz []) := by
  rw [← List.append_assoc, List.getElem?_append_right oM]; simp
 have own : ∀ k, Owned L' (b ++ (l ++ [Row.live V sz []])) k → Owned L (b ++ l) k := by
  rintro k ⟨i, v, z, e1, q1, h1, h2, h3⟩
  by_cases hi : i = b.length + l.length
  ·subst hi
   rw [hnew] at h1; cases h1
   rw [hLn] at h2; cases h2
   exact h3.elim
  ·rw [hold i hi] at h1
   rw [hLo i v (.inl hi)] at h2
   exact ⟨i, v, z, e1, q1, h1, h2, h3⟩
 have mono : ∀ {x : AV} {v : Value}, RepA w F L x v → RepA w F L' x v := fun hx => hx.mono (fun _ h => h) (fun _ _ => rfl) hLm
 refine ⟨L', ⟨?_, ?_, ?_, fun k hk => ⟨(s.imm k hk).1, fun ho => (s.imm k hk).2 (own k ho)⟩, s.glob⟩, hLn, hLm, ⟨fun _ h => h, fun i v q _ hl => hLm i v q hl, rfl, rfl, rfl, Nat.le_refl _, fun _ _ _ => rfl, fun k _ ho => own k ho, fun i hi v hv => by rw [hold i oM]; exact hv, fun _ _ h => .inl h⟩⟩
 ·intro j v z e1 hj
  by_cases hji : j = b.length + l.length
  ·subst hji
   rw [hnew] at hj
   cases hj
   exact ⟨.nil, hLn, rfl⟩
  ·rw [hold j hji] at hj
   obtain ⟨q, hl1, hl2⟩ := s.row j v z e1 hj
   exact ⟨q, hLm _ _ _ hl1, hl2.mono (fun _ _ => rfl) (fun _ _ => mono)⟩
 ·intro i v q hl1
  by_cases hi : i = b.length + l.length
  ·subst hi
   refine ⟨_, hnew, ?_⟩
   by_cases hv : v = V
   ·subst hv; exact Nat.le_refl _
   ·rw [hLo _ v (.inr hv)] at hl1
    exact absurd (s.lt hl1) oM
  ·rw [hLo i v (.inl hi)] at hl1
   obtain ⟨r, h1, h2⟩ := s.born _ _ _ hl1
   exact ⟨r, by rw [hold i hi]; exact h1, h2⟩
 ·intro i i' v v' z z' e1 e2 bb q1 q2 h1 h2 h3 h4 h5 h6
  by_cases hi : i = b.length + l.length
  ·subst hi
   rw [hnew] at h1; cases h1
   rw [hLn] at h3; cases h3
   exact h5.elim
  ·by_cases hi' : i' = b.length + l.length
   ·subst hi'
    rw [hnew] at h2; cases h2
    rw [hLn] at h4; cases h4
    exact h6.elim
   ·rw [hold i hi] at h1
    rw [hold i' hi'] at h2
    rw [hLo i v (.inl hi)] at h3
    rw [hLo i' v' (.inl hi')] at h4
    exact s.apart i i' v v' z z' e1 e2 bb q1 q2 h1 h2 h3 h4 h5 h6
theorem Weak.nilV {sz : Nat} (V : Nat) : Weak [.v .zsl] b l [.sl (b.length + l.length) V 0 0] b (l ++ [.live V sz []]) := by
 intro F L w a s hea
 obtain ⟨L', s', hLn, hLm, st⟩ := nil_coreV (sz := sz) V F L w s
 refine ⟨F, L', s', ⟨hea.1, by simpa using hea.2.1, fun i x v hx hv => ?_⟩, st, rfl⟩
 cases i with
 | zero =>
   simp at hx; subst hx
   have := hea.2.2 0 _ v rfl hv
   cases this.vI
   exact .sln _ _ _ hLn
 | succ i => simp at hx
inductive Rn (n m : Nat) (σ : Nat → Nat) : AV → AV → Prop where
 | any : Rn n m σ .any .any
 | v (x : IV) : Rn n m σ (.v x) (.v x)
 | sl (j ver off len : Nat) (h : j < m) : Rn n m σ (.sl (n + σ j) ver off len) (.sl (n + j) ver off len)
 | ptr (j ver k i : Nat) (h : j < m) : Rn n m σ (.ptr (n + σ j) ver k i) (.ptr (n + j) ver k i)
 | mp (j ver : Nat) (h : j < m) : Rn n m σ (.mp (n + σ j) ver) (.mp (n + j) ver)
 | slB (id ver off len : Nat) (h : id < n) : Rn n m σ (.sl id ver off len) (.sl id ver off len)
 | ptrB (id ver k i : Nat) (h : id < n) : Rn n m σ (.ptr id ver k i) (.ptr id ver k i)
 | mpB (id ver : Nat) (h : id < n) : Rn n m σ (.mp id ver) (.mp id ver)
 | agg (cs ds : List AV) (hl : cs.length = ds.length) (h : ∀ (i : Nat) (c d : AV), cs[i]? = some c → ds[i]? = some d → Rn n m σ c d) : Rn n m σ (.agg cs) (.agg ds)
 | tup (cs ds : List AV) (hl : cs.length = ds.length) (h : ∀ (i : Nat) (c d : AV), cs[i]? = some c → ds[i]? = some d → Rn n m σ c d) : Rn n m σ (.tup cs) (.tup ds)
 | fn (f : Nat) (cs ds : List AV) (hl : cs.length = ds.length) (h : ∀ (i : Nat) (c d : AV), cs[i]? = some c → ds[i]? = some d → Rn n m σ c d) : Rn n m σ (.fn f cs) (.fn f ds)
def RnL (n m : Nat) (σ : Nat → Nat) (cs ds : List AV) : Prop := cs.length = ds.length ∧ ∀ (i : Nat) (c d : AV), cs[i]? = some c → ds[i]? = some d → Rn n m σ c d
theorem RnL.nil {n m : Nat} {σ : Nat → Nat} : RnL n m σ [] [] := ⟨rfl, fun j a c h => by simp at h⟩
theorem RnL.cons {n m : Nat} {σ : Nat → Nat} {a d : AV} {cs ds : List AV} (h : Rn n m σ a d) (t : RnL n m σ cs ds) : RnL n m σ (a :: cs) (d :: ds) := by
 refine ⟨by simp [t.1], fun j x y hx hy => ?_⟩
 cases j with
 | zero => simp at hx hy; subst hx; subst hy; exact h
 | succ j => exact t.2 j x y (by simpa using hx) (by simpa using hy)
theorem RnL.plain {n m : Nat} {σ : Nat → Nat} {row : List IV} : RnL n m σ (row.map .v) (row.map .v) := by
 refine ⟨rfl, fun j a c ha hc => ?_⟩
 rw [ha] at hc; cases hc
 rw [List.getElem?_map] at ha
 cases hq : row[j]? with
 | none => rw [hq] at ha; cases ha
 | some y => rw [hq] at ha; cases ha; exact .v y
theorem Rn.aggL {n m : Nat} {σ : Nat → Nat} {cs ds : List AV} (h : RnL n m σ cs ds) : Rn n m σ (.agg cs) (.agg ds) := .agg cs ds h.1 h.2
theorem Rn.tupL {n m : Nat} {σ : Nat → Nat} {cs ds : List AV} (h : RnL n m σ cs ds) : Rn n m σ (.tup cs) (.tup ds) := .tup cs ds h.1 h.2
theorem Rn.slE {n m : Nat} {σ : Nat → Nat} {i j ver off len : Nat} (h : σ j = i) (hj : j < m) : Rn n m σ (.sl (n + i) ver off len) (.sl (n + j) ver off len) := by subst h; exact .sl j ver off len hj
def RnR (n m : Nat) (σ : Nat → Nat) : Row → Row → Prop
 | .live v s els, .live v' s' els' => v = v' ∧ s = s' ∧ els.length = els'.length ∧ ∀ (k : Nat) (r r' : List AV), els[k]? = some r → els'[k]? = some r' → RnL n m σ r r'
 | .dead v, .dead v' => v = v'
 | _, _ => False
theorem RnR.plain {n m : Nat} {σ : Nat → Nat} {v s : Nat} {rows : List (List IV)} : RnR n m σ (.live v s (vs rows)) (.live v s (vs rows)) := by
 refine ⟨rfl, rfl, rfl, fun k r r' h1 h2 => ?_⟩
 rw [h1] at h2; cases h2
 rw [vs_get] at h1
 cases hq : rows[k]? with
 | none => rw [hq] at h1; cases h1
 | some y => rw [hq] at h1; cases h1; exact RnL.plain
theorem AVlt.rn {n m : Nat} {σ : Nat → Nat} {x : AV} (h : AVlt n x) : Rn n m σ x x := by
 induction h with
 | any => exact .any
 | v x => exact .v x
 | sl id ver off len h => exact .slB id ver off len h
 | ptr id ver k j h => exact .ptrB id ver k j h
 | mp id ver h => exact .mpB id ver h
 | agg cs _ ih => exact .agg cs cs rfl (fun i c d h1 h2 => by rw [h1] at h2; cases h2; exact ih c (List.mem_of_getElem? h1))
 | tup cs _ ih => exact .tup cs cs rfl (fun i c d h1 h2 => by rw [h1] at h2; cases h2; exact ih c (List.mem_of_getElem? h1))
 | fn f cs _ ih => exact .fn f cs cs rfl (fun i c d h1 h2 => by rw [h1] at h2; cases h2; exact ih c (List.mem_of_getElem? h1))
theorem Rn.rep {n m : Nat} {σ : Nat → Nat} {w : World} {F : Nat → Prop} {L L' : LMap} (hB : ∀ id ver, id < n → L' id ver = L id ver) (hS : ∀ j ver, j < m → L' (n + j) ver = L (n + σ j) ver) {x y : AV} (h : Rn n m σ x y) : ∀ {v : Value}, RepA w F L x v → RepA w F L' y v := by
 induction h with
 | any => exact fun _ => .any _
 | v x => exact fun h => .v _ _ h.vI
 | sl j ver off len hj =>
   intro v h
   cases h with
   | sl _ _ _ _ b o sz cap hL h1 h2 => exact .sl _ _ _ _ b o sz cap (by rw [hS j ver hj]; exact hL) h1 h2
   | slz _ _ _ b o sz cap x hL h1 => exact .slz _ _ _ b o sz cap x (by rw [hS j ver hj]; exact hL) h1
   | sln _ _ ad hL => exact .sln _ _ ad (by rw [hS j ver hj]; exact hL)
 | ptr j ver k i hj => intro v h; cases h with | ptr _ _ _ _ b o sz cap hL => exact .ptr _ _ _ _ b o sz cap (by rw [hS j ver hj]; exact hL)
 | mp j ver hj => intro v h; cases h with | mp _ _ b hL => exact .mp _ _ b (by rw [hS j ver hj]; exact hL)
 | slB id ver off len hj =>
   intro v h
   cases h with
   | sl _ _ _ _ b o sz cap hL h1 h2 => exact .sl _ _ _ _ b o sz cap (by rw [hB id ver hj]; exact hL) h1 h2
   | slz _ _ _ b o sz cap x hL h1 => exact .slz _ _ _ b o sz cap x (by rw [hB id ver hj]; exact hL) h1
   | sln _ _ ad hL => exact .sln _ _ ad (by rw [hB id ver hj]; exact hL)
 | ptrB id ver k i hj => intro v h; cases h with | ptr _ _ _ _ b o sz cap hL => exact .ptr _ _ _ _ b o sz cap (by rw [hB id ver hj]; exact hL)
 | mpB id ver hj => intro v h; cases h with | mp _ _ b hL => exact .mp _ _ b (by rw [hB id ver hj]; exact hL)
 | agg cs ds hl _ ih =>
   intro v h
   obtain ⟨vs, rfl, hr⟩ := h.aggL
   exact RepL.agg ⟨by rw [← hl]; exact hr.1, fun i d u hd hu => by
    have hi : i < cs.length := by rw [hl]; exact (List.getElem?_eq_some_iff.1 hd).1
    exact ih i _ d (List.getElem?_eq_getElem hi) hd (hr.2 i _ u (List.getElem?_eq_getElem hi) hu)⟩
 | tup cs ds hl _ ih =>
   intro v h
   obtain ⟨vs, rfl, hr⟩ := h.tupL
   exact RepL.tup ⟨by rw [← hl]; exact hr.1, fun i d u hd hu => by
    have hi : i < cs.length := by rw [hl]; exact (List.getElem?_eq_some_iff.1 hd).1
    exact ih i _ d (List.getElem?_eq_getElem hi) hd (hr.2 i _ u (List.getElem?_eq_getElem hi) hu)⟩
 | fn f cs ds hl _ ih =>
   intro v h
   cases h with
   | fn _ _ us hul hr =>
     exact .fn f ds us (by rw [← hl]; exact hul) (fun i d u hd hu => by
      have hi : i < cs.length := by rw [hl]; exact (List.getElem?_eq_some_iff.1 hd).1
      exact ih i _ d (List.getElem?_eq_getElem hi) hd (hr i _ u (List.getElem?_eq_getElem hi) hu))
theorem Weak.ren {e' : List AV} {l' : List Row} (σ : Nat → Nat) (hinj : ∀ i j, i < l'.length → j < l'.length → σ i = σ j → i = j)
  (hrow : ∀ j r', l'[j]? = some r' → ∃ r, l[σ j]? = some r ∧ RnR b.length l'.length σ r r') (hR : RowsLt b.length b) (hl : e.length = e'.length) (he : ∀ (i : Nat) (x y : AV), e[i]? = some x → e'[i]? = some y → Rn b.length l'.length σ x y) : Weak e b l e' b l' := by
 intro F L w a s hea
 obtain ⟨L', hB, hS, hN⟩ : ∃ L' : LMap, (∀ id ver, id < b.length → L' id ver = L id ver) ∧ (∀ j ver, j < l'.length → L' (b.length + j) ver = L (b.length + σ j) ver) ∧ ∀ j ver, l'.length ≤ j → L' (b.length + j) ver = none :=
  ⟨fun id ver => if id < b.length then L id ver else if id - b.length < l'.length then L (b.length + σ (id - b.length)) ver else none, fun id ver h => by simp [h], fun j ver h => by simp only; rw [if_neg oM, Nat.add_sub_cancel_left, if_pos h], fun j ver h => by simp only; rw [if_neg oM, Nat.add_sub_cancel_left, if_neg oM]⟩
 have hback : ∀ {id ver q}, L' id ver = some q → (id < b.length ∧ L id ver = some q) ∨ ∃ j, id = b.length + j ∧ j < l'.length ∧ L (b.length + σ j) ver = some q := by
  intro id ver q hq
  by_cases h : id < b.length
  ·exact .inl ⟨h, by rw [← hB id ver h]; exact hq⟩
  ·obtain ⟨j, rfl⟩ : ∃ j, id = b.length + j := ⟨id - b.length, by omega⟩
   by_cases hj : j < l'.length
   ·exact .inr ⟨j, rfl, hj, by rw [← hS j ver hj]; exact hq⟩
   ·rw [hN j ver oM] at hq; cases hq
 have gB : ∀ {id : Nat} (m : List Row), id < b.length → (b ++ m)[id]? = b[id]? := fun m h => List.getElem?_append_left h
 have gL : ∀ {j : Nat} (m : List Row), (b ++ m)[b.length + j]? = m[j]? := fun m => by rw [List.getElem?_append_right oM, Nat.add_sub_cancel_left]
 have live : ∀ {id ver sz els}, (b ++ l')[id]? = some (.live ver sz els) → (id < b.length ∧ (b ++ l)[id]? = some (.live ver sz els)) ∨ ∃ j els0, id = b.length + j ∧ j < l'.length ∧ (b ++ l)[b.length + σ j]? = some (.live ver sz els0) ∧ RnR b.length l'.length σ (.live ver sz els0) (.live ver sz els) := by
  intro id ver sz els h
  by_cases hid : id < b.length
  ·exact .inl ⟨hid, by rw [gB _ hid] at h ⊢; exact h⟩
  ·obtain ⟨j, rfl⟩ : ∃ j, id = b.length + j := ⟨id - b.length, by omega⟩
   rw [gL] at h
   obtain ⟨r, h1, h2⟩ := hrow j _ h
   have hj := (List.getElem?_eq_some_iff.1 h).1
   cases r with
   | dead v => exact h2.elim
   | live v z els0 =>
     obtain ⟨rfl, rfl, h3⟩ := h2
     exact .inr ⟨j, els0, rfl, hj, by rw [gL]; exact h1, rfl, rfl, h3⟩
 have own : ∀ k, Owned L' (b ++ l') k → Owned L (b ++ l) k := by
  rintro k ⟨id, ver, sz, els, q, h1, h2, h3⟩
  rcases live h1 with ⟨hid, g1⟩ | ⟨j, els0, rfl, hj, g1, _⟩
  ·rw [hB id ver hid] at h2; exact ⟨id, ver, sz, els, q, g1, h2, h3⟩
  ·rw [hS j ver hj] at h2; exact ⟨_, ver, sz, els0, q, g1, h2, h3⟩
 have rep : ∀ {x y : AV} {v : Value}, Rn b.length l'.length σ x y → RepA w F L x v → RepA w F L' y v := fun h => h.rep hB hS
 refine ⟨F, L', ⟨fun id ver sz els h => ?_, fun id ver q hq => ?_, fun id id' ver ver' s1 s2 els els' bb q q' h1 h2 h3 h4 h5 h6 => ?_, fun k hk => ⟨(s.imm k hk).1, fun ho => (s.imm k hk).2 (own k ho)⟩, s.glob⟩, ⟨hea.1, by rw [← hl]; exact hea.2.1, fun i y v hy hv => ?_⟩,
  ⟨fun _ h => h, fun id ver q hid hq => by rw [hB id ver hid]; exact hq, rfl, rfl, rfl, Nat.le_refl _, fun _ _ _ => rfl, fun k _ ho => own k ho, fun id hid v hv => by rw [gB _ hid] at hv ⊢; exact hv, fun _ _ h => .inl h⟩, rfl⟩
 ·rcases live h with ⟨hid, g1⟩ | ⟨j, els0, rfl, hj, g1, _, _, g2, g3⟩
  ·obtain ⟨q, k1, k2⟩ := s.row _ _ _ _ g1
   refine ⟨q, by rw [hB id ver hid]; exact k1, ?_⟩
   have hlt : ∀ row ∈ els, ∀ c ∈ row, AVlt b.length c := hR id ver sz els (by rw [gB _ hid] at h; exact h)
   cases q with
   | nil => exact k2
   | pl blk o z cap =>
     obtain ⟨q1, q2, q3, cur, T, q4, q5, q6, q7⟩ := k2
     exact ⟨q1, q2, q3, cur, T, q4, q5, q6, fun k row i c hk hi => by
      obtain ⟨e1, u, e2, e3⟩ := q7 k row i c hk hi
      exact ⟨e1, u, e2, rep (hlt row (List.mem_of_getElem? hk) c (List.mem_of_getElem? hi)).rn e3⟩⟩
   | mp blk =>
     obtain ⟨es, clk, q4, q5, q6⟩ := k2
     refine ⟨es, clk, q4, q5, fun k row e1 hk he => ?_⟩
     obtain ⟨x, y, rfl, e2, e3⟩ := q6 k row e1 hk he
     exact ⟨x, y, rfl, rep (hlt _ (List.mem_of_getElem? hk) x (by simp)).rn e2, rep (hlt _ (List.mem_of_getElem? hk) y (by simp)).rn e3⟩
  ·obtain ⟨q, k1, k2⟩ := s.row _ _ _ _ g1
   refine ⟨q, by rw [hS j ver hj]; exact k1, ?_⟩
   have cell : ∀ {x y : AV}, Rn b.length l'.length σ x y → x.cell = y.cell := by
    intro x y h; cases h <;> rfl
   have prev : ∀ {k : Nat} {row : List AV}, els[k]? = some row → ∃ r0, els0[k]? = some r0 ∧ RnL b.length l'.length σ r0 row := by
    intro k row hk
    have hkl := (List.getElem?_eq_some_iff.1 hk).1
    exact ⟨els0[k], List.getElem?_eq_getElem oM, g3 k _ row (List.getElem?_eq_getElem oM) hk⟩
   have prev2 : ∀ {r0 row : List AV} {i : Nat} {c : AV}, RnL b.length l'.length σ r0 row → row[i]? = some c → ∃ c0, r0[i]? = some c0 ∧ Rn b.length l'.length σ c0 c := by
    intro r0 row i c h hi
    have hil := (List.getElem?_eq_some_iff.1 hi).1
    exact ⟨r0[i]'(by rw [h.1]; exact hil), List.getElem?_eq_getElem _, h.2 i _ c (List.getElem?_eq_getElem _) hi⟩
   cases q with
   | nil =>
     have : els0 = [] := k2
     subst this
     exact List.eq_nil_of_length_eq_zero (by simpa using g2.symm)
   | pl blk o z cap =>
     obtain ⟨q1, q2, q3, cur, T, q4, q5, q6, q7⟩ := k2
     refine ⟨q1, by omega, q3, cur, T, q4, q5, fun k row hk => ?_, fun k row i c hk hi => ?_⟩
     ·obtain ⟨r0, e1, e2⟩ := prev hk
      rw [← e2.1]; exact q6 k r0 e1
     ·obtain ⟨r0, e1, e2⟩ := prev hk
      obtain ⟨c0, e3, e4⟩ := prev2 e2 hi
      obtain ⟨e5, u, e6, e7⟩ := q7 k r0 i c0 e1 e3
      exact ⟨by rw [← cell e4]; exact e5, u, e6, rep e4 e7⟩
   | mp blk =>
     obtain ⟨es, clk, q4, q5, q6⟩ := k2
     refine ⟨es, clk, q4, by omega, fun k row e1 hk he => ?_⟩
     obtain ⟨r0, e2, e3⟩ := prev hk
     obtain ⟨x, y, rfl, e5, e6⟩ := q6 k r0 e1 e2 he
     obtain ⟨e7, e8⟩ := e3
     obtain ⟨x', y', rfl⟩ : ∃ x' y', row = [x', y'] := by
      match row, e7 with
      | [x', y'], _ => exact ⟨x', y', rfl⟩
     exact ⟨x', y', rfl, rep (e8 0 x x' rfl rfl) e5, rep (e8 1 y y' rfl rfl) e6⟩
 ·rcases hback hq with ⟨hid, g1⟩ | ⟨j, rfl, hj, g1⟩
  ·obtain ⟨r, h1, h2⟩ := s.born _ _ _ g1
   exact ⟨r, by rw [gB _ hid] at h1 ⊢; exact h1, h2⟩
  ·obtain ⟨r, h1, h2⟩ := s.born _ _ _ g1
   rw [gL] at h1
   obtain ⟨r0, h3, h4⟩ := hrow j l'[j] (List.getElem?_eq_getElem hj)
   rw [h1] at h3; cases h3
   refine ⟨l'[j], by rw [gL]; exact List.getElem?_eq_getElem hj, ?_⟩
   revert h4
   cases r with
   | live v z els0 =>
     cases l'[j] with
     | live v' z' els' => rintro ⟨rfl, _⟩; exact h2
     | dead v' => exact fun h => h.elim
   | dead v =>
     cases l'[j] with
     | live v' z' els' => exact fun h => h.elim
     | dead v' => intro h; cases h; exact h2
 ·rcases live h1 with ⟨i1, g1⟩ | ⟨j1, els1, rfl, i1, g1, _⟩ <;> rcases live h2 with ⟨i2, g2⟩ | ⟨j2, els2, rfl, i2, g2, _⟩
  ·rw [hB _ _ i1] at h3; rw [hB _ _ i2] at h4
   exact s.apart _ _ _ _ _ _ _ _ bb _ _ g1 g2 h3 h4 h5 h6
  ·rw [hB _ _ i1] at h3; rw [hS _ _ i2] at h4
   have := s.apart _ _ _ _ _ _ _ _ bb _ _ g1 g2 h3 h4 h5 h6
   omega
  ·rw [hS _ _ i1] at h3; rw [hB _ _ i2] at h4
   have := s.apart _ _ _ _ _ _ _ _ bb _ _ g1 g2 h3 h4 h5 h6
   omega
  ·rw [hS _ _ i1] at h3; rw [hS _ _ i2] at h4
   have := s.apart _ _ _ _ _ _ _ _ bb _ _ g1 g2 h3 h4 h5 h6
   rw [hinj j1 j2 i1 i2 oM]
 ·have hil := (List.getElem?_eq_some_iff.1 hy).1
  have hx : e[i]? = some e[i] := List.getElem?_eq_getElem oM
  exact rep (he i _ y hx hy) (hea.2.2 i _ v hx hv)
theorem Weak.renM {e' : List AV} {l' : List Row} {m : Nat} (hm : l'.length = m) (σ : Nat → Nat) (hinj : ∀ i j, i < m → j < m → σ i = σ j → i = j)
  (hrow : ∀ j r', l'[j]? = some r' → ∃ r, l[σ j]? = some r ∧ RnR b.length m σ r r') (hR : RowsLt b.length b) (hl : e.length = e'.length) (he : ∀ (i : Nat) (x y : AV), e[i]? = some x → e'[i]? = some y → Rn b.length m σ x y) : Weak e b l e' b l' := by
 subst hm
 exact Weak.ren σ hinj hrow hR hl he
end
theorem ACalls.post {P : Program} {f : Nat} {args : List AV} {b l N N' : List Row} {x x' : AV} (hw : RowsLt (b ++ l).length (b ++ l) → Weak [x] (b ++ l) N [x'] (b ++ l) N')
  (h : ACalls P f args b l (fun r b' l' => r = x ∧ b' = b ∧ l' = l ++ N)) : ACalls P f args b l (fun r b' l' => r = x' ∧ b' = b ∧ l' = l ++ N') := by
 refine ⟨h.1, fun F L w vs s hr => Calls.mono (h.2 F L w vs s hr) ?_⟩
 rintro en w' ⟨v, y, b', l', F', L', h1, h2, h3, h4, h5, rfl, rfl, rfl⟩
 have hsim : Sim F' L' ((b' ++ l) ++ N) w' := by rw [List.append_assoc]; exact h3
 obtain ⟨F3, L3, k1, k2, k3, k5⟩ := hw s.rowsLt F' L' w' { tmps := #[v], defers := [] } hsim ⟨rfl, rfl, fun j z u hz hu => by
  cases j with
  | zero => simp at hz hu; subst hz; subst hu; exact h2
  | succ j => simp at hz⟩
 refine ⟨v, x', b', l ++ N', F3, L3, h1, k2.2.2 0 _ v rfl rfl, ?_, ?_, h5, rfl, rfl, rfl⟩
 ·rw [← List.append_assoc]; exact k1
 ·refine h4.trans ?_
  rw [← List.append_assoc, ← List.append_assoc]
  exact k3.weaken (by simp)
end Go.Proofs.Ytpkemmchpccjdaa
namespace Go.Proofs.Ytpkemmchpccjdaa
set_option linter.unusedVariables false
def kB (n : Nat) (f : Nat → Row) : List Row := (List.range n).map f
def rUp (f : Nat → Row) (i : Nat) (r : Row) : Nat → Row := fun j => if i = j then r else f j
theorem rUp_same {f : Nat → Row} {i : Nat} {r : Row} : rUp f i r i = r := by unfold rUp; rw [if_pos rfl]
theorem rUp_ne {f : Nat → Row} {i j : Nat} {r : Row} (h : i ≠ j) : rUp f i r j = f j := by unfold rUp; rw [if_neg h]
theorem kB_len {n : Nat} {f : Nat → Row} : (kB n f).length = n := by simp [kB]
theorem kB_get {n i : Nat} {f : Nat → Row} (h : i < n) : (kB n f)[i]? = some (f i) := by
 unfold kB; rw [List.getElem?_map, List.getElem?_range h]; rfl
theorem kB_set {n i : Nat} {f : Nat → Row} {r : Row} : (kB n f).set i r = kB n (rUp f i r) := by
 apply List.ext_getElem?
 intro j
 by_cases hj : j < n
 ·rw [kB_get hj]
  by_cases hij : i = j
  ·subst hij; rw [List.getElem?_set_self (by rw [kB_len]; exact hj), rUp_same]
  ·rw [List.getElem?_set_ne hij, kB_get hj, rUp_ne hij]
 ·rw [List.getElem?_eq_none (by rw [List.length_set, kB_len]; omega), List.getElem?_eq_none (by rw [kB_len]; omega)]
theorem hget_kB {n i : Nat} {f : Nat → Row} {l : List Row} (h : i < n) : hget (kB n f) l i = some (f i) := by
 unfold hget; rw [if_pos (by rw [kB_len]; exact h), kB_get h]
theorem hget_kBl {n i : Nat} {f : Nat → Row} {l : List Row} : hget (kB n f) l (n + i) = l[i]? := by
 unfold hget; rw [if_neg (by rw [kB_len]; omega), kB_len, Nat.add_sub_cancel_left]
theorem hget_kB0 {n : Nat} {f : Nat → Row} {l : List Row} : hget (kB n f) l n = l[0]? := hget_kBl (i := 0)
theorem hsetB_kB {n i : Nat} {f : Nat → Row} {r : Row} (h : i < n) : hsetB (kB n f) i r = kB n (rUp f i r) := by
 unfold hsetB; rw [if_pos (by rw [kB_len]; exact h), kB_set]
theorem hsetL_kB {n i : Nat} {f : Nat → Row} {l : List Row} {r : Row} (h : i < n) : hsetL (kB n f) l i r = l := by
 unfold hsetL; rw [if_pos (by rw [kB_len]; exact h)]
theorem hsetB_kBl {n i : Nat} {f : Nat → Row} {r : Row} : hsetB (kB n f) (n + i) r = kB n f := by
 unfold hsetB; rw [if_neg (by rw [kB_len]; omega)]
theorem hsetB_kB0 {n : Nat} {f : Nat → Row} {r : Row} : hsetB (kB n f) n r = kB n f := hsetB_kBl (i := 0)
theorem hsetL_kBl {n i : Nat} {f : Nat → Row} {l : List Row} {r : Row} : hsetL (kB n f) l (n + i) r = l.set i r := by
 unfold hsetL; rw [if_neg (by rw [kB_len]; omega), kB_len, Nat.add_sub_cancel_left]
theorem hsetL_kB0 {n : Nat} {f : Nat → Row} {l : List Row} {r : Row} : hsetL (kB n f) l n r = l.set 0 r := hsetL_kBl (i := 0)
theorem kB_of (B : List Row) : ∃ n f, n = B.length ∧ B = kB n f ∧ ∀ i r, B[i]? = some r → f i = r := by
 refine ⟨B.length, fun i => B.getD i (.dead 0), rfl, ?_, fun i r h => by simp only [List.getD_eq_getElem?_getD, h]; rfl⟩
 apply List.ext_getElem?
 intro j
 by_cases hj : j < B.length
 ·rw [kB_get hj, List.getD_eq_getElem?_getD, List.getElem?_eq_getElem hj]; rfl
 ·rw [List.getElem?_eq_none oM, List.getElem?_eq_none (by rw [kB_len]; omega)]
def RowLt (m : Nat) (r : Row) : Prop := ∀ ver sz els, r = .live ver sz els → ∀ row ∈ els, ∀ c ∈ row, AVlt m c
theorem RowLt.live {m ver sz : Nat} {els : List (List AV)} (h : ∀ row ∈ els, ∀ c ∈ row, AVlt m c) : RowLt m (.live ver sz els) := fun v s e he => by cases he; exact h
theorem RowLt.dead {m ver : Nat} : RowLt m (.dead ver) := fun v s e he => by cases he
theorem RowLt.vs {m ver sz : Nat} {rows : List (List IV)} : RowLt m (.live ver sz (vs rows)) := .live (vs_lt.2 trivial)
theorem RowsLt.kB_up {m n i : Nat} {f : Nat → Row} {r : Row} (h : RowsLt m (kB n f)) (hr : RowLt m r) : RowsLt m (kB n (rUp f i r)) := by
 intro id ver sz els hi row hrow c hc
 have hl := (List.getElem?_eq_some_iff.1 hi).1
 rw [kB_len] at hl
 rw [kB_get hl] at hi
 by_cases he : i = id
 ·subst he
  rw [rUp_same] at hi
  exact hr ver sz els (Option.some.inj hi) row hrow c hc
 ·rw [rUp_ne he] at hi
  exact h id ver sz els (by rw [kB_get hl]; exact hi) row hrow c hc
theorem kB_app {n i : Nat} {f : Nat → Row} {b l : List Row} {r : Row} (h : kB n f = b ++ l) : kB n (rUp f (b.length + i) r) = b ++ l.set i r := by
 rw [← kB_set, h, List.set_append_right _ _ oM, Nat.add_sub_cancel_left]
end Go.Proofs.Ytpkemmchpccjdaa
namespace Go.Proofs.Ytpkemmchpccjdaa
set_option linter.unusedVariables false
def Pln (x : AV) : Prop := ∀ (w : World) (F : Nat → Prop) (L : LMap) (w' : World) (F' : Nat → Prop) (L' : LMap) (v : Value), RepA w F L x v → RepA w' F' L' x v
theorem Pln.int {k : IntKind} {n : Int} : Pln (.v (.int k n)) := fun w F L w' F' L' v h => by
 cases h.vI; exact .v _ _ (.int _ _)
theorem Pln.bool {t : Bool} : Pln (.v (.bool t)) := fun w F L w' F' L' v h => by
 cases h.vI; exact .v _ _ (.bool _)
theorem Pln.str {t : ByteArray} : Pln (.v (.str t)) := fun w F L w' F' L' v h => by
 cases h.vI; exact .v _ _ (.str _)
theorem Pln.agg {cs : List AV} (hc : ∀ c ∈ cs, Pln c) : Pln (.agg cs) := fun w F L w' F' L' v h => by
 obtain ⟨us, rfl, hu⟩ := h.aggL
 exact RepL.agg ⟨hu.1, fun j d u hd hju => hc d (List.mem_of_getElem? hd) w F L w' F' L' u (hu.2 j d u hd hju)⟩
theorem Pln.tup {cs : List AV} (hc : ∀ c ∈ cs, Pln c) : Pln (.tup cs) := fun w F L w' F' L' v h => by
 obtain ⟨us, rfl, hu⟩ := h.tupL
 exact RepL.tup ⟨hu.1, fun j d u hd hju => hc d (List.mem_of_getElem? hd) w F L w' F' L' u (hu.2 j d u hd hju)⟩
theorem ACalls.peek {P : Program} {f : Nat} {args args' : List AV} {b l : List Row} {x : AV} (hl : args.length = args'.length)
  (hd : ∀ (i : Nat) (z y : AV), args[i]? = some z → args'[i]? = some y → Dv 0 (b ++ l) z y) (hx : Pln x)
  (h : ACalls P f args' ((b ++ l).map deadR) [] (fun r b' l' => r = x ∧ b' = (b ++ l).map deadR ∧ l' = [])) : ACalls P f args b l (fun r b' l' => r = x ∧ b' = b ∧ l' = l) := by
 refine ⟨h.1, fun F L w us s hr => ?_⟩
 obtain ⟨H, hH⟩ : ∃ H, H = b ++ l := ⟨_, rfl⟩
 rw [← hH] at s hd h
 have s0 : Sim F L ([] ++ H) w := s
 have hget : ∀ {j v z : Nat} {els : List (List AV)}, (H.map deadR ++ [])[j]? = some (.live v z els) → False := fun {j v z els} hj => by
  rw [List.append_nil, List.getElem?_map] at hj
  cases hq : H[j]? with
  | none => rw [hq] at hj; cases hj
  | some r => rw [hq] at hj; cases hj
 have hno : ∀ k, ¬ Owned L (H.map deadR ++ []) k := by
  rintro k ⟨j, v, z, els, q, h1, h2, h3⟩
  exact hget h1
 have s1 : Sim (FD F L 0 H) L (H.map deadR ++ []) w := by
  refine ⟨fun j v z els hj => (hget hj).elim, fun j v q hq => ?_, fun j j' v v' z z' e1 e2 bb q1 q2 h1 h2 => (hget h1).elim, fun k hk => ⟨?_, hno k⟩, s.glob.mono (fun _ h => .inl h) (fun _ _ => rfl)⟩
  ·obtain ⟨r, h1, h2⟩ := s.born j v q hq
   exact ⟨deadR r, by rw [List.append_nil, List.getElem?_map, h1]; rfl, h2⟩
  ·rcases hk with hk | ⟨i, ver, sz, els, q, h1, h2, h3⟩
   ·exact (s.imm k hk).1
   ·rw [Nat.zero_add] at h2
    obtain ⟨q', g1, g2⟩ := s.row _ _ _ _ h1
    rw [h2] at g1; cases g1
    exact g2.lt h3
 have hrep : RepL w (FD F L 0 H) L args' us.toList := ⟨by rw [← hl]; exact hr.1, fun j y v hy hv => by
  have hil := (List.getElem?_eq_some_iff.1 hy).1
  have hx : args[j]? = some args[j] := List.getElem?_eq_getElem oM
  exact (hd j _ y hx hy).rep s0 v (hr.2 j _ v hx hv)⟩
 refine Calls.mono (h.2 _ L w us s1 hrep) ?_
 rintro en w' ⟨v, x', b', l', F2, L2, h1, h2, h3, h4, h5, rfl, rfl, rfl⟩
 have hsame : ∀ k, k < w.heap.size → w'.heap[k]? = w.heap[k]? := fun k hk => h4.block k hk (hno k)
 have himm : ∀ k, F k → w'.heap[k]? = w.heap[k]? := fun k hk => hsame k (s.imm k hk).1
 subst hH
 refine ⟨v, x', b, l, F, L, h1, hx _ _ _ _ _ _ _ h2, ⟨fun j ver z els hj => ?_, s.born, s.apart, fun k hk => ⟨Nat.lt_of_lt_of_le (s.imm k hk).1 h4.size, (s.imm k hk).2⟩, s.glob.mono (fun _ h => h) himm⟩,
  ⟨fun _ h => h, fun _ _ _ _ h => h, h4.os, h4.tape, h4.output, h4.size, fun k hk _ => hsame k hk, fun _ _ h => h, fun _ _ _ h => h, fun _ _ h => .inl h⟩, rfl, rfl, rfl, rfl⟩
 obtain ⟨q, g1, g2⟩ := s.row j ver z els hj
 exact ⟨q, g1, g2.mono (fun k hk => hsame k (g2.lt hk)) (fun _ _ h => h.mono (fun _ h => h) himm (fun _ _ _ h => h))⟩
theorem Dv.sl0 {H : List Row} {id ver sz len : Nat} {rows : List (List IV)} (hi : H[id]? = some (.live ver sz (vs rows))) (hl : len = rows.length) : Dv 0 H (.sl id ver 0 len) (.v (.isl sz rows)) := by
 have := Dv.slV (n := 0) hi hl
 rwa [Nat.zero_add] at this
end Go.Proofs.Ytpkemmchpccjdaa
namespace Go.Proofs.Ytpkemmchpccjdaa
set_option linter.unusedVariables false
set_option linter.unusedSimpArgs false
section
variable {α : Type} {n : Nat} {C : Nat → α} {T : List α}
theorem fz_at {p : Nat} (h : p < n) : (fl n C ++ T)[p]? = some (C p) := by rw [List.getElem?_append_left (by rw [fl_len]; exact h), fl_get h]
theorem fz_tail {j : Nat} : (fl n C ++ T)[n + j]? = T[j]? := by rw [List.getElem?_append_right (by rw [fl_len]; omega), fl_len, Nat.add_sub_cancel_left]
theorem fz_tail0 : (fl n C ++ T)[n]? = T[0]? := fz_tail (j := 0)
theorem fz_settail {j : Nat} {x : α} : (fl n C ++ T).set (n + j) x = fl n C ++ T.set j x := by rw [List.set_append_right _ _ (by rw [fl_len]; omega), fl_len, Nat.add_sub_cancel_left]
theorem fz_settail0 {x : α} : (fl n C ++ T).set n x = fl n C ++ T.set 0 x := fz_settail (j := 0)
end
theorem leave_ren {e : List AV} {l l' : List Row} {rs : List ARes} {Q : AV → List Row → List Row → Prop} {B : List Row} {ex : AExit} {m : Nat} (hex : ex = .normal ∨ ex = .ret) {xs : List AV} (hx : resVs e B l rs = some xs) {y : AV} (hm : l'.length = m) (σ : Nat → Nat) (hinj : ∀ i j, i < m → j < m → σ i = σ j → i = j)
  (hrow : ∀ j r', l'[j]? = some r' → ∃ r, l[σ j]? = some r ∧ RnR B.length m σ r r') (he : Rn B.length m σ (one xs) y) (hR : RowsLt B.length B) {b0 l0 : List Row} (hB : B = b0 ++ l0) (hq : Q y b0 (l0 ++ l')) : Leaves rs Q b0.length ex e B l :=
 leave hex hx (y := y) (l' := l') (Weak.renM hm σ hinj hrow hR rfl (fun i x z hx hz => by
  cases i with
  | zero => simp at hx hz; subst hx; subst hz; exact he
  | succ i => simp at hx)) hB hq
theorem AVlt.rnK {n k m : Nat} {σ : Nat → Nat} (hσ : ∀ j, j < k → σ j = j) (hk : k ≤ m) {x : AV} (h : AVlt (n + k) x) : Rn n m σ x x := by
 have sp : ∀ id, id < n + k → id < n ∨ ∃ j, id = n + j ∧ j < k := fun id h => by
  by_cases h1 : id < n
  ·exact .inl h1
  ·exact .inr ⟨id - n, by omega, by omega⟩
 induction h with
 | any => exact .any
 | v x => exact .v x
 | sl id ver off len h =>
   rcases sp id (by first | exact h | assumption) with h1 | ⟨j, rfl, h1⟩
   ·exact .slB id ver off len h1
   ·have := Rn.sl (n := n) (m := m) (σ := σ) j ver off len oM
    rwa [hσ j h1] at this
 | ptr id ver k' i h =>
   rcases sp id (by first | exact h | assumption) with h1 | ⟨j, rfl, h1⟩
   ·exact .ptrB id ver k' i h1
   ·have := Rn.ptr (n := n) (m := m) (σ := σ) j ver k' i oM
    rwa [hσ j h1] at this
 | mp id ver h =>
   rcases sp id (by first | exact h | assumption) with h1 | ⟨j, rfl, h1⟩
   ·exact .mpB id ver h1
   ·have := Rn.mp (n := n) (m := m) (σ := σ) j ver oM
    rwa [hσ j h1] at this
 | agg cs _ ih => exact .agg cs cs rfl (fun i c d h1 h2 => by rw [h1] at h2; cases h2; exact ih c (List.mem_of_getElem? h1))
 | tup cs _ ih => exact .tup cs cs rfl (fun i c d h1 h2 => by rw [h1] at h2; cases h2; exact ih c (List.mem_of_getElem? h1))
 | fn f cs _ ih => exact .fn f cs cs rfl (fun i c d h1 h2 => by rw [h1] at h2; cases h2; exact ih c (List.mem_of_getElem? h1))
theorem RnL.rnK {n k m : Nat} {σ : Nat → Nat} (hσ : ∀ j, j < k → σ j = j) (hk : k ≤ m) {xs : List AV} (h : ∀ x ∈ xs, AVlt (n + k) x) : RnL n m σ xs xs :=
 ⟨rfl, fun i c d h1 h2 => by rw [h1] at h2; cases h2; exact (h c (List.mem_of_getElem? h1)).rnK hσ hk⟩
theorem RnR.rnK {n k m : Nat} {σ : Nat → Nat} (hσ : ∀ j, j < k → σ j = j) (hk : k ≤ m) {v s : Nat} {els : List (List AV)} (h : ∀ r ∈ els, ∀ x ∈ r, AVlt (n + k) x) : RnR n m σ (.live v s els) (.live v s els) :=
 ⟨rfl, rfl, rfl, fun i c d h1 h2 => by rw [h1] at h2; cases h2; exact RnL.rnK hσ hk (h c (List.mem_of_getElem? h1))⟩
theorem Weak.kren {N : Nat} {p : List (Nat × Nat)} {ov : List (Nat × AV)} {f g : Nat → AV} {b l l1 : List Row} {k m : Nat} (hm : l1.length = m) (σ : Nat → Nat) (he : kAny p f = g) (h : KHas f ov) (hE : KLt (b.length + k) g) (hk : k ≤ m) (hσ : ∀ j, j < k → σ j = j) (ho : KOvLt (b.length + k) ov) (hb : RowsLt b.length b)
  (hinj : ∀ i j, i < m → j < m → σ i = σ j → i = j) (hrow : ∀ j r', l1[j]? = some r' → ∃ r, l[σ j]? = some r ∧ RnR b.length m σ r r') : Weak (kOf N f) b l (kOf N (kOv ov g)) b l1 := by
 subst he
 exact (Weak.named p ov h).trans (Weak.renM hm σ hinj hrow hb rfl (fun i x y hx hy => by
  rw [hx] at hy; cases hy
  exact AVlt.rnK hσ hk ((hE.ov ho).env x (List.mem_of_getElem? hx))))
theorem one_agg {cs : List AV} : one [.agg cs] = .agg cs := rfl
end Go.Proofs.Ytpkemmchpccjdaa
