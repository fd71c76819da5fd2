/- Texts of one proof, laid together: WB, WD, WC, WE, G, H, D, RW, T, WG, TR. No condition. -/
import Derived.Test.YtiiflkcebikecaaQA1
import Derived.Deep.LoopGhost
import Derived.Laws.Cover3
import Derived.WalkKit
import Derived.WalkSpells
import Derived.WalkLawsBesides
import Derived.Maps.AppendAt
import Derived.Deep.AppendLies
import Derived.Deep.Draws
import Derived.Deep.QuietTactic
import Derived.BigQuiet
import Derived.Deep.RegionWith
import Derived.Deep.RegionHeld3
import Derived.Deep.DeepFit
import Derived.Deep.DeepMust
import Derived.Deep.Slices
import Derived.ProofKit
import Derived.Lib.SmallJoins
import Derived.Test.YtiiflkcebikecaaProg
import Derived.KernelRfl
/- Runs of abstract programs are runs of the model's. No condition. -/
namespace Go.Proofs.Ytiiflkcebikecaa
set_option linter.unusedVariables false

section
variable {P : Program} {w : World} {F : Nat → Prop} {L : LMap} {o : Oper} {a : Act} {e : List AV} {b l b' l' : List Row} {x : AV}

theorem map_some {α β : Type} {f : α → β} {y : Option α} {z : β} (h : y.map f = some z) : ∃ q, y = some q ∧ z = f q := by
  cases y with
  | none => cases h
  | some q => cases h; exact ⟨q, rfl, rfl⟩

theorem bind_some {α β : Type} {f : α → Option β} {y : Option α} {z : β} (h : y >>= f = some z) : ∃ q, y = some q ∧ f q = some z := by
  cases y with
  | none => cases h
  | some q => exact ⟨q, rfl, h⟩

def CallOk (P : Program) (o : Oper) (a : Act) (w : World) (F : Nat → Prop) (L : LMap) (f : Nat) (args : List AV) : Prop :=
  ∃ vs : Array Value, RepL w F L args vs.toList ∧ ∀ fn, P.funcs[f]? = some fn → (fn.name == "runtime.NumGoroutine") = false → fn.body.isSome = true → (execOp a.eval o).run P w = .ok (.enter f vs) w

theorem ok_call (s : Sim F L (b ++ l) w) (he : EnvR w F L e a) {c : Call} {f : Operand} {f' : Opd} {az' : List Opd} (hc : c.callee = .value f) (hf : cOpd f = some f') (has : cOpds c.args.toList = some az') (ho : o.op = .call c)
    {g : Nat} {args : List AV} (h : acall (ev e f') (evs e az') = .call g args) : CallOk P o a w F L g args := by
  have h1 := ev_rep he hf
  have h2 := evs_rep he has
  generalize ev e f' = q at *
  unfold acall at h
  split at h
  case h_2 => cases h
  rename_i fid caps _
  cases h
  obtain ⟨vs, hv, hl⟩ := h1.fnL
  refine ⟨c.args.map a.eval ++ vs, by simpa using h2.append hl, fun fn g1 g2 g3 => ?_⟩
  have hn : ¬ fn.body = none := fun hb => by rw [hb] at g3; cases g3
  have hm : ¬ fn.name = "runtime.NumGoroutine" := by simpa using g2
  simp [execOp, ho, resolve, hc, hv, Deferred.ofValue, invoke, callFunc, g1, hm, hn]

def OpR.plain : OpR → Bool
  | .call .. => false
  | .two .. => false
  | _ => true
def AOp.plain : AOp → Bool
  | .call .. => false
  | .isnil .. => false
  | _ => true
theorem plain_ofOpt (y : Option AV) (b l : List Row) : (ofOpt y b l).plain = true := by cases y <;> rfl
theorem plain_val (y : AV) (b l : List Row) : (OpR.val y b l).plain = true := rfl
theorem plain_bad : OpR.bad.plain = true := rfl

theorem aop_plain {ao : AOp} (h : ao.plain = true) : (aop e b l ao).plain = true := by
  cases ao <;> first | (cases h; done) | simp only [aop, mk, aload, astore, aappend, acopy, aslice, aiaddr, aiaddrA, afaddr, alookup, amupdate, alenM]
  all_goals (repeat' split)
  all_goals first | rfl | exact plain_ofOpt _ _ _

theorem ok_isnil (s : Sim F L (b ++ l) w) (he : EnvR w F L e a) {op : BinOp} {t u el : TypeId} (ht : P.underlying t = some (.slice el)) (hop : op = .eql ∨ op = .neq) {y z : Operand} {y' : Opd} (ho : o.op = .binOp op t y z u) (hy : cOpd y = some y') (hz : isNilC z = true)
    {c : Bool} {p q : AV} (h : aop e b l (.isnil (op == .neq) y') = .two c p q) : (c = true ∧ OpOk P o a w F L b l p b l) ∨ OpOk P o a w F L b l q b l := by
  have h1 := ev_rep he hy
  simp only [aop] at h
  generalize ev e y' = r at *
  have hz' : a.eval z = .slice none 0 0 := by
    unfold isNilC at hz
    split at hz
    · rfl
    · cases hz
  have hrun : ∀ ad n m, a.eval y = .slice ad n m → (execOp a.eval o).run P w = .ok (.value (.bool (if op = .neq then !ad.isNone else ad.isNone))) w := by
    intro ad n m hv
    rcases hop with rfl | rfl
    · simp [execOp, ho, hv, hz', eqGuard, binOp, run_equal_slice_nil w t el ad n m ht]
    · simp [execOp, ho, hv, hz', eqGuard, binOp, run_equal_slice_nil w t el ad n m ht]
  have yes : ∀ n m, a.eval y = .slice none n m → OpOk P o a w F L b l (.v (.bool (!(op == .neq)))) b l := by
    intro n m hv
    refine OpOk.pure s (hrun _ _ _ hv) ?_
    have := wToB (w := w) (F := F) (L := L) (!(op == .neq))
    rcases hop with rfl | rfl <;> exact this
  have no : ∀ ad n m, a.eval y = .slice (some ad) n m → OpOk P o a w F L b l (.v (.bool (op == .neq))) b l := by
    intro ad n m hv
    refine OpOk.pure s (hrun _ _ _ hv) ?_
    have := wToB (w := w) (F := F) (L := L) (op == .neq)
    rcases hop with rfl | rfl <;> exact this
  generalize hv : a.eval y = v at h1
  split at h
  · cases h
    cases h1.vI with
    | zsl ad => cases ad with
      | none => exact .inl ⟨rfl, yes _ _ hv⟩
      | some ad => exact .inr (no _ _ _ hv)
  · rename_i sz rows
    cases h
    cases h1.vI with
    | isl0 _ ad c => cases ad with
      | none => exact .inl ⟨rfl, yes _ _ hv⟩
      | some ad => exact .inr (no _ _ _ hv)
    | isl => exact .inr (no _ _ _ hv)
  · cases h
    cases h1 with
    | sl => exact .inr (no _ _ _ hv)
    | slz => exact .inr (no _ _ _ hv)
    | sln _ _ ad hL => cases ad with
      | none => exact .inl ⟨rfl, yes _ _ hv⟩
      | some ad => exact .inr (no _ _ _ hv)
  · cases h

theorem aop_ok {ao : AOp} (hc : cOp P o.op = some ao) (s : Sim F L (b ++ l) w) (he : EnvR w F L e a) :
    (∀ x b' l', aop e b l ao = .val x b' l' → OpOk P o a w F L b l x b' l') ∧ (∀ f args, aop e b l ao = .call f args → CallOk P o a w F L f args) ∧
      (∀ c x y, aop e b l ao = .two c x y → (c = true ∧ OpOk P o a w F L b l x b l) ∨ OpOk P o a w F L b l y b l) := by
  have nocall : ao.plain = true → (∀ x b' l', aop e b l ao = .val x b' l' → OpOk P o a w F L b l x b' l') →
      (∀ x b' l', aop e b l ao = .val x b' l' → OpOk P o a w F L b l x b' l') ∧ (∀ f args, aop e b l ao = .call f args → CallOk P o a w F L f args) ∧
        (∀ c x y, aop e b l ao = .two c x y → (c = true ∧ OpOk P o a w F L b l x b l) ∨ OpOk P o a w F L b l y b l) :=
    fun h1 h2 => ⟨h2, ⟨fun f args h => (by have hp := aop_plain (e := e) (b := b) (l := l) h1; rw [h] at hp; cases hp), fun c x y h => (by have hp := aop_plain (e := e) (b := b) (l := l) h1; rw [h] at hp; cases hp)⟩⟩
  generalize ho : o.op = op at hc
  cases op <;> simp only [cOp] at hc <;> first | (cases hc; done) | skip
  case move y =>
    obtain ⟨z, hz, rfl⟩ := map_some hc
    exact nocall rfl (fun x b' l' h => by simp only [aop] at h; cases h; exact ok_mv s he (.inl ho) hz)
  case assign y =>
    obtain ⟨z, hz, rfl⟩ := map_some hc
    exact nocall rfl (fun x b' l' h => by simp only [aop] at h; cases h; exact ok_mv s he (.inr ho) hz)
  case pick c y z =>
    obtain ⟨c', h1, hc⟩ := bind_some hc
    obtain ⟨y', h2, hc⟩ := bind_some hc
    obtain ⟨z', h3, hc⟩ := bind_some hc
    cases hc
    exact nocall rfl (fun x b' l' h => ok_pick s he ho h1 h2 h3 h)
  case alloc t =>
    obtain ⟨zs, hz, rfl⟩ := map_some hc
    exact nocall rfl (fun x b' l' h => ok_alloc s ho hz h)
  case box t y =>
    obtain ⟨z, hz, rfl⟩ := map_some hc
    exact nocall rfl (fun x b' l' h => ok_box s he ho hz h)
  case build t ps =>
    split at hc
    · rename_i fs zs ht hz
      split at hc
      case isFalse => cases hc
      rename_i hall
      obtain ⟨qs, hq, rfl⟩ := map_some hc
      exact nocall rfl (fun x b' l' h => ok_build s he ht hz hall hq ho h)
    · rename_i m el zs ht hz
      split at hc
      case h_2 => cases hc
      rename_i n hn
      obtain ⟨qs, hq, rfl⟩ := map_some hc
      exact nocall rfl (fun x b' l' h => ok_buildA s he ht hn hz hq ho h)
    · cases hc
  case buildSlice t len ps =>
    split at hc
    case h_2 => cases hc
    rename_i el ht
    split at hc
    case h_2 => cases hc
    rename_i n zs hn hz
    split at hc
    case isFalse => cases hc
    rename_i hb
    obtain ⟨qs, hq, rfl⟩ := map_some hc
    exact nocall rfl (fun x b' l' h => ok_bslice s he ht hn hz hb.1 hb.2.1 hb.2.2 hq ho h)
  case load t y =>
    split at hc
    case h_2 => cases hc
    rename_i n hn
    obtain ⟨z, hz, rfl⟩ := map_some hc
    exact nocall rfl (fun x b' l' h => ok_load s he hn ho hz h)
  case store t y z =>
    split at hc
    case h_2 => cases hc
    rename_i n hn
    obtain ⟨y', h1, hc⟩ := bind_some hc
    obtain ⟨z', h2, hc⟩ := bind_some hc
    cases hc
    exact nocall rfl (fun x b' l' h => ok_store s he hn ho h1 h2 h)
  case nilCheck y =>
    obtain ⟨z, hz, rfl⟩ := map_some hc
    exact nocall rfl (fun x b' l' h => ok_nilck s he ho hz h)
  case binOp op t y z u =>
    split at hc
    · rename_i fs ht
      split at hc
      case h_2 => cases hc
      rename_i ks hks
      split at hc
      case isFalse => cases hc
      rename_i hb
      obtain ⟨y', h1, hc⟩ := bind_some hc
      obtain ⟨z', h2, hc⟩ := bind_some hc
      cases hc
      exact nocall rfl (fun x b' l' h => ok_eqs s he ht hks hb.1 hb.2.1 hb.2.2 ho h1 h2 h)
    · rename_i m el ht
      split at hc
      case h_2 => cases hc
      rename_i k hk hs
      split at hc
      case isFalse => cases hc
      rename_i hb
      obtain ⟨y', h1, hc⟩ := bind_some hc
      obtain ⟨z', h2, hc⟩ := bind_some hc
      cases hc
      exact nocall rfl (fun x b' l' h => ok_eqsA s he ht hk hs hb.1 hb.2 ho h1 h2 h)
    · obtain ⟨y', h1, hc⟩ := bind_some hc
      obtain ⟨z', h2, hc⟩ := bind_some hc
      cases hc
      exact nocall rfl (fun x b' l' h => ok_bin s he ho h1 h2 h)
    · rename_i ht
      obtain ⟨y', h1, hc⟩ := bind_some hc
      obtain ⟨z', h2, hc⟩ := bind_some hc
      cases hc
      exact nocall rfl (fun x b' l' h => ok_binB s he ht ho h1 h2 h)
    · obtain ⟨y', h1, hc⟩ := bind_some hc
      obtain ⟨z', h2, hc⟩ := bind_some hc
      cases hc
      exact nocall rfl (fun x b' l' h => ok_binS s he ho h1 h2 h)
    · rename_i el ht
      split at hc
      case isFalse => cases hc
      rename_i hb
      obtain ⟨y', h1, rfl⟩ := map_some hc
      refine ⟨fun x b' l' h => ?_, fun g args h => ?_, fun c x y h => ok_isnil s he ht hb.1 ho h1 hb.2 h⟩
      · simp only [aop] at h
        split at h <;> cases h
      · simp only [aop] at h
        split at h <;> cases h
    · cases hc
  case unOp op t y =>
    cases op <;> simp only at hc <;> first | (cases hc; done) | skip
    · obtain ⟨z, hz, rfl⟩ := map_some hc
      exact nocall rfl (fun x b' l' h => ok_neg s he ho hz h)
    · obtain ⟨z, hz, rfl⟩ := map_some hc
      exact nocall rfl (fun x b' l' h => ok_not s he ho hz h)
  case convert t u y =>
    split at hc
    case h_2 => cases hc
    rename_i k' k ht hu
    obtain ⟨z, hz, rfl⟩ := map_some hc
    exact nocall rfl (fun x b' l' h => ok_conv s he ht hu ho hz h)
  case makeMap t r =>
    split at hc
    case isFalse => cases hc
    rename_i hb
    cases hc
    exact nocall rfl (fun x b' l' h => ok_mkmap s hb.1 hb.2 ho h)
  case lookup t y i c =>
    split at hc
    case h_2 => cases hc
    rename_i kt el ht
    split at hc
    case h_2 => cases hc
    rename_i kk z hk hz
    obtain ⟨y', h1, hc⟩ := bind_some hc
    obtain ⟨i', h2, hc⟩ := bind_some hc
    cases hc
    exact nocall rfl (fun x b' l' h => ok_lookup s he ht hk hz ho h1 h2 h)
  case mapUpdate t m y z =>
    split at hc
    case h_2 => cases hc
    rename_i kt el ht
    split at hc
    case h_2 => cases hc
    rename_i kk hk
    obtain ⟨m', h1, hc⟩ := bind_some hc
    obtain ⟨y', h2, hc⟩ := bind_some hc
    obtain ⟨z', h3, hc⟩ := bind_some hc
    cases hc
    exact nocall rfl (fun x b' l' h => ok_mupdate s he ht hk ho h1 h2 h3 h)
  case makeFunc fn first caps =>
    cases fn <;> simp only at hc <;> first | (cases hc; done) | skip
    split at hc
    case isFalse => cases hc
    rename_i h0
    obtain ⟨cs, hcs, rfl⟩ := map_some hc
    exact nocall rfl (fun x b' l' h => by simp only [aop] at h; cases h; exact ok_mkfn s he h0 ho hcs)
  case makeSlice t y z =>
    split at hc
    case h_2 => cases hc
    rename_i el ht
    split at hc
    case h_2 => cases hc
    rename_i sz zs bytes hs hz hby
    split at hc
    case isFalse => cases hc
    rename_i hb
    obtain ⟨y', h1, hc⟩ := bind_some hc
    obtain ⟨z', h2, hc⟩ := bind_some hc
    cases hc
    exact nocall rfl (fun x b' l' h => ok_mkslice s he ht hs hby hz hb.1 ho h1 h2 h)
  case slice t y lo hi mx =>
    split at hc
    · rename_i el ht
      split at hc
      · split at hc
        case h_2 => cases hc
        rename_i n hn
        obtain ⟨y', h1, hc⟩ := bind_some hc
        obtain ⟨lo', h2, hc⟩ := bind_some hc
        obtain ⟨hi', h3, hc⟩ := bind_some hc
        cases hc
        exact nocall rfl (fun x b' l' h => ok_slice s he ht hn ho h1 h2 h3 h)
      · rename_i q
        split at hc
        case isFalse => cases hc
        rename_i hb
        simp only [Bool.and_eq_true] at hb
        obtain ⟨⟨⟨hb1, hb2⟩, hb3⟩, hb4⟩ := hb
        obtain ⟨y', h1, rfl⟩ := map_some hc
        obtain ⟨n, hn⟩ := Option.isSome_iff_exists.1 hb4
        have hlo : lo = none := by cases lo <;> first | rfl | cases hb3
        subst hlo
        exact nocall rfl (fun x b' l' h => ok_slice0 s he ht hn ho hb2 hb1 h1 h)
    · rename_i ht
      split at hc
      case h_2 => cases hc
      obtain ⟨y', h1, hc⟩ := bind_some hc
      obtain ⟨lo', h2, hc⟩ := bind_some hc
      obtain ⟨hi', h3, hc⟩ := bind_some hc
      cases hc
      exact nocall rfl (fun x b' l' h => ok_sliceS s he ht ho h1 h2 h3 h)
    · cases hc
  case fieldAddr t y i =>
    split at hc
    case h_2 => cases hc
    rename_i fs ht
    split at hc
    case h_2 => cases hc
    rename_i f hf
    split at hc
    case h_2 => cases hc
    rename_i n hn
    split at hc
    case isFalse => cases hc
    rename_i h0
    obtain ⟨z, hz, rfl⟩ := map_some hc
    exact nocall rfl (fun x b' l' h => ok_faddr s he ht hf hn h0 ho hz h)
  case field t y i =>
    split at hc
    case h_2 => cases hc
    rename_i fs ht
    split at hc
    case h_2 => cases hc
    rename_i f hf
    split at hc
    case h_2 => cases hc
    rename_i n hn
    obtain ⟨z, hz, rfl⟩ := map_some hc
    exact nocall rfl (fun x b' l' h => ok_field s he ht hf hn ho hz h)
  case indexAddr t y i =>
    split at hc
    · rename_i el ht
      split at hc
      case h_2 => cases hc
      rename_i n hn
      obtain ⟨y', h1, hc⟩ := bind_some hc
      obtain ⟨i', h2, hc⟩ := bind_some hc
      cases hc
      exact nocall rfl (fun x b' l' h => ok_iaddr s he ht hn ho h1 h2 h)
    · rename_i len el ht
      split at hc
      case h_2 => cases hc
      rename_i n hn
      obtain ⟨y', h1, hc⟩ := bind_some hc
      obtain ⟨i', h2, hc⟩ := bind_some hc
      cases hc
      exact nocall rfl (fun x b' l' h => ok_iaddrA s he ht hn ho h1 h2 h)
    · cases hc
  case index t y i =>
    split at hc
    · rename_i ht
      obtain ⟨y', h1, hc⟩ := bind_some hc
      obtain ⟨i', h2, hc⟩ := bind_some hc
      cases hc
      exact nocall rfl (fun x b' l' h => ok_indexS s he ht ho h1 h2 h)
    · rename_i len el ht
      split at hc
      case h_2 => cases hc
      rename_i n sh hn hsh
      obtain ⟨y', h1, hc⟩ := bind_some hc
      obtain ⟨i', h2, hc⟩ := bind_some hc
      cases hc
      exact nocall rfl (fun x b' l' h => ok_indexA s he ht hn hsh ho h1 h2 h)
    · cases hc
  case extract y i =>
    obtain ⟨z, hz, rfl⟩ := map_some hc
    exact nocall rfl (fun x b' l' h => ok_extract s he ho hz h)
  case call c =>
    split at hc
    · rename_i f hf
      obtain ⟨f', h1, hc⟩ := bind_some hc
      obtain ⟨az', h2, hc⟩ := bind_some hc
      cases hc
      refine ⟨fun x b' l' h => ?_, fun g args h => ?_, fun c x y h => ?_⟩
      · simp only [aop] at h
        unfold acall at h
        split at h <;> cases h
      · simp only [aop] at h
        exact ok_call s he hf h1 h2 ho h
      · simp only [aop] at h
        unfold acall at h
        split at h <;> cases h
    · rename_i hcal
      split at hc
      case h_2 => cases hc
      rename_i y t ha hts
      split at hc
      · rename_i ht
        obtain ⟨z, hz, rfl⟩ := map_some hc
        exact nocall rfl (fun x b' l' h => ok_lenS s he ht hcal ha hts ho hz h)
      · rename_i el ht
        obtain ⟨z, hz, rfl⟩ := map_some hc
        exact nocall rfl (fun x b' l' h => ok_len s he ht hcal ha hts ho hz h)
      · rename_i n el ht
        cases hc
        exact nocall rfl (fun x b' l' h => by simp only [aop, ev] at h; cases h; exact ok_lenA s ht hcal ha hts ho)
      · rename_i kt el ht
        obtain ⟨z, hz, rfl⟩ := map_some hc
        exact nocall rfl (fun x b' l' h => ok_lenM s he ht hcal ha hts ho hz h)
      · cases hc
    · rename_i hcal
      split at hc
      case h_2 => cases hc
      rename_i y z t u ha hts
      split at hc
      case h_2 => cases hc
      rename_i el ht
      split at hc
      case h_2 => cases hc
      rename_i n bytes zs hn hby hz
      split at hc
      case isFalse => cases hc
      rename_i hb
      obtain ⟨y', h1, hc⟩ := bind_some hc
      obtain ⟨z', h2, hc⟩ := bind_some hc
      cases hc
      exact nocall rfl (fun x b' l' h => ok_append s he ht hb.2.2.2 hn hby hz hb.2.2.1 hb.1 hb.2.1 hcal ha hts ho h1 h2 h)
    · rename_i hcal
      split at hc
      case h_2 => cases hc
      rename_i y z t u ha hts
      split at hc
      case h_2 => cases hc
      rename_i el ht
      split at hc
      case h_2 => cases hc
      rename_i n hn
      split at hc
      case isFalse => cases hc
      rename_i h0
      obtain ⟨y', h1, hc⟩ := bind_some hc
      obtain ⟨z', h2, hc⟩ := bind_some hc
      cases hc
      exact nocall rfl (fun x b' l' h => ok_copy s he ht hn h0 hcal ha hts ho h1 h2 h)
    · rename_i hcal
      split at hc
      case h_2 => cases hc
      rename_i y z ha
      obtain ⟨y', h1, hc⟩ := bind_some hc
      obtain ⟨z', h2, hc⟩ := bind_some hc
      cases hc
      exact nocall rfl (fun x b' l' h => ok_mm (t := true) s he hcal ha ho h1 h2 h)
    · rename_i hcal
      split at hc
      case h_2 => cases hc
      rename_i y z ha
      obtain ⟨y', h1, hc⟩ := bind_some hc
      obtain ⟨z', h2, hc⟩ := bind_some hc
      cases hc
      exact nocall rfl (fun x b' l' h => ok_mm (t := false) s he hcal ha ho h1 h2 h)
    · cases hc
end
end Go.Proofs.Ytiiflkcebikecaa

/- Regions that draw their order, as abstract programs. No condition. -/
namespace Go.Proofs.Ytiiflkcebikecaa
set_option linter.unusedVariables false

section
variable {e e' : List AV} {b l b' l' : List Row}

theorem ev_congr {x : Opd} (h : ∀ s ∈ x.slot, nth e s = nth e' s) : ev e x = ev e' x := by
  cases x with
  | t n => exact h n (by simp [Opd.slot])
  | c x => rfl
theorem evs_congr : ∀ {xs : List Opd}, (∀ s ∈ slots xs, nth e s = nth e' s) → evs e xs = evs e' xs
  | [], _ => rfl
  | x :: xs, h => by
    simp only [evs]
    rw [ev_congr (x := x) (fun s hs => h s (by simp [slots, hs])), evs_congr (xs := xs) (fun s hs => h s (by simp [slots, hs]))]
theorem evo_congr {x : Option Opd} (h : ∀ s ∈ slotO x, nth e s = nth e' s) : evo e x = evo e' x := by
  cases x with
  | none => rfl
  | some x => simp only [evo]; rw [ev_congr (x := x) h]
theorem fillA_congr : ∀ {ps : List (Nat × Nat × Opd)} {row : List AV}, (∀ s ∈ slots (ps.map (·.2.2)), nth e s = nth e' s) → fillA e row ps = fillA e' row ps
  | [], _, _ => rfl
  | (i, n, x) :: ps, row, h => by
    simp only [fillA]
    rw [ev_congr (x := x) (fun s hs => h s (by simp [slots, hs]))]
    split
    · split
      · exact fillA_congr (fun s hs => h s (by simp [slots, hs]))
      · rfl
    · rfl
theorem fillS_congr {sz : Nat} : ∀ {ps : List (Nat × Opd)} {els : List (List AV)}, (∀ s ∈ slots (ps.map (·.2)), nth e s = nth e' s) → fillS e sz els ps = fillS e' sz els ps
  | [], _, _ => rfl
  | (i, x) :: ps, els, h => by
    simp only [fillS]
    rw [ev_congr (x := x) (fun s hs => h s (by simp [slots, hs]))]
    split
    · split
      · exact fillS_congr (fun s hs => h s (by simp [slots, hs]))
      · rfl
    · rfl

theorem aop_congr {o : AOp} (h : ∀ s ∈ o.looks, nth e s = nth e' s) : aop e b l o = aop e' b l o := by
  cases o <;> simp only [AOp.looks, List.mem_append] at h <;> simp only [aop]
  case mv x => rw [ev_congr (x := x) h]
  case nilck x => rw [ev_congr (x := x) h]
  case pick c x y => rw [ev_congr (x := c) (fun s hs => h s (.inl (.inl hs))), ev_congr (x := x) (fun s hs => h s (.inl (.inr hs))), ev_congr (x := y) (fun s hs => h s (.inr hs))]
  case mupdate kk m x y => rw [ev_congr (x := m) (fun s hs => h s (.inl (.inl hs))), ev_congr (x := x) (fun s hs => h s (.inl (.inr hs))), ev_congr (x := y) (fun s hs => h s (.inr hs))]
  case build zs ps => rw [fillA_congr (ps := ps) h]
  case bslice sz zs len ps => rw [fillS_congr (ps := ps) h]
  case slice sz x lo hi => rw [ev_congr (x := x) (fun s hs => h s (.inl (.inl hs))), evo_congr (x := lo) (fun s hs => h s (.inl (.inr hs))), evo_congr (x := hi) (fun s hs => h s (.inr hs))]
  case sliceS x lo hi => rw [ev_congr (x := x) (fun s hs => h s (.inl (.inl hs))), evo_congr (x := lo) (fun s hs => h s (.inl (.inr hs))), evo_congr (x := hi) (fun s hs => h s (.inr hs))]
  case mkfn f cs => rw [evs_congr (xs := cs) h]
  case call f az => rw [ev_congr (x := f) (fun s hs => h s (.inl hs)), evs_congr (xs := az) (fun s hs => h s (.inr hs))]
  all_goals first
    | rfl
    | (rename_i x; rw [ev_congr (x := x) h]; done)
    | (rename_i x y; rw [ev_congr (x := x) (fun s hs => h s (.inl hs)), ev_congr (x := y) (fun s hs => h s (.inr hs))]; done)

theorem gd_congr {g : Option (Nat × Bool)} (h : ∀ s ∈ (match g with | some (g, _) => [g] | none => []), nth e s = nth e' s) : gd e g = gd e' g := by
  cases g with
  | none => rfl
  | some gw => obtain ⟨g, w⟩ := gw; simp only [gd]; rw [h g (by simp)]

theorem aoper_congr {o : AOper} (h : ∀ s ∈ o.looks, nth e s = nth e' s) : aop e b l o.op = aop e' b l o.op ∧ gd e o.guard = gd e' o.guard :=
  ⟨aop_congr (fun s hs => h s (by simp [AOper.looks, hs])), gd_congr (fun s hs => h s (by simp only [AOper.looks, List.mem_append]; exact .inr hs))⟩

theorem quiet_plain {o : AOp} (h : o.quiet = true) : o.plain = true := by cases o <;> first | rfl | cases h

theorem quiet_keeps {o : AOp} (h : o.quiet = true) {x : AV} (hv : aop e b l o = .val x b' l') : b' = b ∧ l' = l := by
  have opt : ∀ (y : Option AV), ofOpt y b l = .val x b' l' → b' = b ∧ l' = l := fun y hy => (ofOpt_val hy).2
  cases o <;> first | (cases h; done) | skip
  all_goals simp only [aop, aload, aslice, aiaddr, aiaddrA, afaddr, alookup, alenM] at hv
  all_goals (repeat' split at hv)
  all_goals first | exact opt _ hv | (cases hv; exact ⟨rfl, rfl⟩) | (cases hv; done)

theorem nth_upd_ne {e : List AV} {d s : Nat} {x : AV} (h : d ≠ s) : nth (upd e d x) s = nth e s := by
  rw [nth_eq, nth_eq, upd_eq, List.getElem?_set_ne h]
theorem nth_put_ne {e : List AV} {d : Option Nat} {s : Nat} {x : AV} (h : ∀ n, d = some n → n ≠ s) : nth (put e d x) s = nth e s := by
  cases d with
  | none => rfl
  | some n => exact nth_upd_ne (h n rfl)
theorem put_comm {e : List AV} {d d' : Option Nat} {x y : AV} (h : ∀ n, d = some n → d' ≠ some n) : put (put e d x) d' y = put (put e d' y) d x := by
  cases d with
  | none => cases d' <;> rfl
  | some n =>
    cases d' with
    | none => rfl
    | some m =>
      have hne : n ≠ m := fun e => h n rfl (by rw [e])
      simp only [put, upd_eq]
      rw [List.set_comm _ _ hne]
/-- Operations that only read, one after the other. -/
def evalQ : List DOper → List AV → List Row → List Row → Option (List AV)
  | [], e, _, _ => some e
  | d :: ds, e, b, l =>
    match gd e d.o.guard with
    | some true => match aop e b l d.o.op with
      | .val x _ _ => evalQ ds (put e d.o.dst x) b l
      | _ => none
    | some false => evalQ ds (put e d.o.dst (.tup [])) b l
    | none => none

theorem runD_quiet {C : CallP} {K : List AV → List Row → List Row → Prop} : ∀ {ps qs : List DOper} {e : List AV}, (∀ d ∈ ps, d.o.op.quiet = true) → runD C (ps ++ qs) e b l K → ∃ e1, evalQ ps e b l = some e1 ∧ runD C qs e1 b l K
  | [], qs, e, _, h => ⟨e, rfl, h⟩
  | d :: ps, qs, e, hq, h => by
    simp only [List.cons_append, runD] at h
    simp only [evalQ]
    unfold gcase at h
    split at h
    case h_2 => exact h.elim
    rename_i t hg
    have hd := hq d (by simp)
    rw [hg]
    cases t
    · simp only [Bool.false_eq_true, if_false] at h
      exact runD_quiet (fun x hx => hq x (by simp [hx])) h
    · simp only [if_true] at h
      cases hr : aop e b l d.o.op with
      | val x b1 l1 =>
        rw [hr] at h
        obtain ⟨k1, k2⟩ := quiet_keeps hd hr
        rw [k1, k2] at h
        exact runD_quiet (fun x hx => hq x (by simp [hx])) h.2
      | bad => rw [hr] at h; exact h.elim
      | call f az => have := aop_plain (e := e) (b := b) (l := l) (quiet_plain hd); rw [hr] at this; cases this
      | two c x y => have := aop_plain (e := e) (b := b) (l := l) (quiet_plain hd); rw [hr] at this; cases this

theorem runD_of_quiet {C : CallP} {K : List AV → List Row → List Row → Prop} : ∀ {ps qs : List DOper} {e e1 : List AV}, (∀ d ∈ ps, d.o.op.quiet = true ∧ d.re = []) → evalQ ps e b l = some e1 → runD C qs e1 b l K → runD C (ps ++ qs) e b l K
  | [], qs, e, e1, _, he, h => by cases he; exact h
  | d :: ps, qs, e, e1, hq, he, h => by
    simp only [List.cons_append, runD]
    simp only [evalQ] at he
    have hd := hq d (by simp)
    unfold gcase
    split at he
    · rename_i hg
      rw [hg]
      simp only [if_true]
      split at he
      · rename_i x b1 l1 hr
        rw [hr]
        obtain ⟨k1, k2⟩ := quiet_keeps hd.1 hr
        rw [k1, k2]
        exact ⟨by rw [hd.2]; trivial, runD_of_quiet (fun x hx => hq x (by simp [hx])) he h⟩
      · cases he
    · rename_i hg
      rw [hg]
      simp only [Bool.false_eq_true, if_false]
      exact runD_of_quiet (fun x hx => hq x (by simp [hx])) he h
    · cases he

/-- What a run of reads does not write. -/
theorem evalQ_nth : ∀ {ps : List DOper} {e e1 : List AV} {s : Nat}, evalQ ps e b l = some e1 → (∀ d ∈ ps, d.o.dst ≠ some s) → nth e1 s = nth e s
  | [], e, e1, s, he, _ => by cases he; rfl
  | d :: ps, e, e1, s, he, h => by
    simp only [evalQ] at he
    have hd : ∀ n, d.o.dst = some n → n ≠ s := fun n hn e => h d (by simp) (by rw [hn, e])
    split at he
    · split at he
      · rw [evalQ_nth he (fun x hx => h x (by simp [hx])), nth_put_ne hd]
      · cases he
    · rw [evalQ_nth he (fun x hx => h x (by simp [hx])), nth_put_ne hd]
    · cases he

/-- The reads of a list write apart, and none looks at what it or a later one writes. -/
def QApart : List DOper → Prop
  | [] => True
  | d :: ds => (∀ n, d.o.dst = some n → n ∉ d.o.looks) ∧ (∀ c ∈ ds, ∀ n, c.o.dst = some n → n ∉ d.o.looks ∧ d.o.dst ≠ some n) ∧ QApart ds

theorem put_len {e : List AV} {d : Option Nat} {x : AV} : (put e d x).length = e.length := by
  cases d with
  | none => rfl
  | some d => simp [put, upd_eq]
theorem evalQ_len : ∀ {ps : List DOper} {e e1 : List AV}, evalQ ps e b l = some e1 → e1.length = e.length
  | [], e, e1, he => by cases he; rfl
  | d :: ps, e, e1, he => by
    simp only [evalQ] at he
    split at he
    · split at he
      · rw [evalQ_len he, put_len]
      · cases he
    · rw [evalQ_len he, put_len]
    · cases he
theorem put_back {e : List AV} {d : Nat} {x v : AV} (h : nth (put e (some d) x) d = v ∨ e.length ≤ d) : put e (some d) v = put e (some d) x := by
  simp only [put, upd_eq, nth_eq] at h ⊢
  rcases Nat.lt_or_ge d e.length with hl | hl
  · rcases h with h | h
    · rw [List.getElem?_set_self hl] at h
      have : x = v := h
      rw [this]
    · omega
  · rw [List.set_eq_of_length_le hl, List.set_eq_of_length_le hl]
theorem nth_back {e : List AV} {d : Nat} {x : AV} : nth (put e (some d) x) d = x ∨ e.length ≤ d := by
  simp only [put, upd_eq, nth_eq]
  rcases Nat.lt_or_ge d e.length with hl | hl
  · rw [List.getElem?_set_self hl]; exact .inl rfl
  · exact .inr hl

/-- A slot that the reads neither look at nor write may be written before them as well; and they find the same in other memory, if what they found has been looked at again. -/
theorem evalQ_move {di : Option Nat} {v : AV} : ∀ {ps : List DOper} {e e1 : List AV}, evalQ ps e b l = some e1 → QApart ps → (∀ d ∈ ps, d.o.op.quiet = true ∧ ∀ n, di = some n → n ∉ d.o.looks ∧ d.o.dst ≠ some n) →
    (∀ d ∈ ps, rechk e1 b' l' d.o) → evalQ ps (put e di v) b' l' = some (put e1 di v)
  | [], e, e1, he, _, _, _ => by cases he; rfl
  | d :: ps, e, e1, he, hap, hi, hre => by
    obtain ⟨hq, hdi⟩ := hi d (by simp)
    obtain ⟨hself, hap1, hap2⟩ := hap
    have hre0 := hre d (by simp)
    have hi' : ∀ c ∈ ps, c.o.op.quiet = true ∧ ∀ n, di = some n → n ∉ c.o.looks ∧ c.o.dst ≠ some n := fun c hc => hi c (by simp [hc])
    have hre' : ∀ c ∈ ps, rechk e1 b' l' c.o := fun c hc => hre c (by simp [hc])
    simp only [evalQ] at he ⊢
    have hlook : ∀ s ∈ d.o.looks, nth (put e di v) s = nth e s := fun s hs => nth_put_ne (fun n hn => fun hns => (hdi n hn).1 (hns ▸ hs))
    obtain ⟨hc1, hc2⟩ := aoper_congr (b := b') (l := l') (o := d.o) hlook
    rw [hc2, hc1]
    -- behind the reads the slots that 'd' looks at are as they were before 'd'
    have hpast : ∀ {x : AV}, evalQ ps (put e d.o.dst x) b l = some e1 → ∀ s ∈ d.o.looks, nth e1 s = nth e s := by
      intro x hx s hs
      rw [evalQ_nth hx (fun c hc hcs => (hap1 c hc s hcs).1 hs)]
      exact nth_put_ne (fun n hn => fun hns => hself n hn (hns ▸ hs))
    have hcomm : ∀ u, put (put e di v) d.o.dst u = put (put e d.o.dst u) di v := fun u => put_comm (fun n hn => (hdi n hn).2)
    split at he
    · rename_i hg
      split at he
      case h_2 => cases he
      rename_i x b1 l1 hr
      obtain ⟨k1, k2⟩ := aoper_congr (b := b') (l := l') (o := d.o) (hpast he)
      unfold rechk gcase at hre0
      rw [k2, hg] at hre0
      simp only [if_true] at hre0
      rw [k1] at hre0
      obtain ⟨u, hu, hun⟩ := hre0
      rw [hu]
      simp only
      rw [hcomm]
      have hback : put e d.o.dst u = put e d.o.dst x := by
        cases hd : d.o.dst with
        | none => rfl
        | some n =>
          rw [hd] at hun he
          simp only at hun
          rw [evalQ_nth he (fun c hc hcs => (hap1 c hc n hcs).2 hd), evalQ_len he, put_len] at hun
          exact put_back hun
      rw [hback]
      exact evalQ_move he hap2 hi' hre'
    · rename_i hg
      rw [hcomm]
      exact evalQ_move he hap2 hi' hre'
    · cases he

/-- What was read reads so behind all the reads. -/
theorem evalQ_rechk : ∀ {ps : List DOper} {e e1 : List AV}, evalQ ps e b l = some e1 → QApart ps → (∀ d ∈ ps, d.o.op.quiet = true) → ∀ d ∈ ps, rechk e1 b l d.o
  | [], e, e1, he, _, _, d, hd => by simp at hd
  | c :: ps, e, e1, he, hap, hq, d, hd => by
    obtain ⟨hself, hap1, hap2⟩ := hap
    have hqc := hq c (by simp)
    simp only [evalQ] at he
    have hpast : ∀ {x : AV}, evalQ ps (put e c.o.dst x) b l = some e1 → ∀ s ∈ c.o.looks, nth e1 s = nth e s := by
      intro x hx s hs
      rw [evalQ_nth hx (fun c' hc hcs => (hap1 c' hc s hcs).1 hs)]
      exact nth_put_ne (fun n hn => fun hns => hself n hn (hns ▸ hs))
    rcases List.mem_cons.1 hd with rfl | hd'
    · split at he
      · rename_i hg
        split at he
        case h_2 => cases he
        rename_i x b1 l1 hr
        obtain ⟨k1, k2⟩ := aoper_congr (b := b) (l := l) (o := d.o) (hpast he)
        obtain ⟨q1, q2⟩ := quiet_keeps hqc hr
        unfold rechk gcase
        rw [k2, hg, k1, hr, q1, q2]
        simp only [if_true]
        refine ⟨x, rfl, ?_⟩
        cases hdd : d.o.dst with
        | none => trivial
        | some n =>
          rw [hdd] at he
          simp only
          rw [evalQ_nth he (fun c' hc hcs => (hap1 c' hc n hcs).2 hdd), evalQ_len he, put_len]
          exact nth_back
      · rename_i hg
        obtain ⟨k1, k2⟩ := aoper_congr (b := b) (l := l) (o := d.o) (hpast he)
        unfold rechk gcase
        rw [k2, hg]
        simp
      · cases he
    · split at he
      · split at he
        · exact evalQ_rechk he hap2 (fun c' hc => hq c' (by simp [hc])) d hd'
        · cases he
      · exact evalQ_rechk he hap2 (fun c' hc => hq c' (by simp [hc])) d hd'
      · cases he

theorem rechks_mem : ∀ {rs : List AOper} {e : List AV}, rechks e b l rs → ∀ r ∈ rs, rechk e b l r
  | [], _, _, r, hr => by simp at hr
  | x :: rs, e, h, r, hr => by
    rcases List.mem_cons.1 hr with rfl | hr
    · exact h.1
    · exact rechks_mem h.2 r hr

/-- An operation that stands free of those before it may come first. -/
theorem bubble {C : CallP} (hCm : ∀ f args b l (Q Q' : AV → List Row → List Row → Prop), C f args b l Q → (∀ x b' l', Q x b' l' → Q' x b' l') → C f args b l Q')
    {K : List AV → List Row → List Row → Prop} {p1 p2 : List DOper} {i : DOper} (h : runD C (p1 ++ i :: p2) e b l K) (hq : ∀ d ∈ p1, d.o.op.quiet = true ∧ d.re = []) (hap : QApart p1)
    (h1 : ∀ d ∈ p1, ∀ n, i.o.dst = some n → n ∉ d.o.looks ∧ d.o.dst ≠ some n) (h2 : ∀ d ∈ p1, ∀ n, d.o.dst = some n → n ∉ i.o.looks) (hre : i.o.op.quiet = true ∨ ∀ d ∈ p1, d.o ∈ i.re) :
    gcase (gd e i.o.guard) (stepR C b l (fun x b' l' => runD C (p1 ++ p2) (put e i.o.dst x) b' l' K) (aop e b l i.o.op)) (runD C (p1 ++ p2) (put e i.o.dst (.tup [])) b l K) := by
  obtain ⟨e1, he, h⟩ := runD_quiet (fun d hd => (hq d hd).1) h
  obtain ⟨k1, k2⟩ := aoper_congr (e := e1) (e' := e) (b := b) (l := l) (o := i.o) (fun s hs => evalQ_nth he (fun d hd hds => h2 d hd s hds hs))
  have hsame := evalQ_rechk he hap (fun d hd => (hq d hd).1)
  have move : ∀ {b' l' : List Row} (x : AV), (∀ d ∈ p1, rechk e1 b' l' d.o) → runD C p2 (put e1 i.o.dst x) b' l' K → runD C (p1 ++ p2) (put e i.o.dst x) b' l' K := by
    intro b' l' x hr hk
    exact runD_of_quiet hq (evalQ_move he hap (fun d hd => ⟨(hq d hd).1, fun n hn => h1 d hd n hn⟩) hr) hk
  simp only [runD] at h
  rw [k1, k2] at h
  unfold gcase at h ⊢
  split at h
  case h_2 => exact h.elim
  rename_i t hg
  cases t
  · simp only [Bool.false_eq_true, if_false] at h ⊢
    exact move _ hsame h
  · simp only [if_true] at h ⊢
    cases hr : aop e b l i.o.op with
    | bad => rw [hr] at h; exact h.elim
    | val x b' l' =>
      rw [hr] at h
      refine move _ ?_ h.2
      rcases hre with hre | hre
      · obtain ⟨q1, q2⟩ := quiet_keeps hre hr
        rw [q1, q2]; exact hsame
      · exact fun d hd => rechks_mem h.1 _ (hre d hd)
    | two c x y =>
      rw [hr] at h
      exact ⟨fun hc => move _ hsame (h.1 hc).2, move _ hsame h.2.2⟩
    | call f az =>
      rw [hr] at h
      refine hCm _ _ _ _ _ _ h ?_
      rintro x b' l' ⟨g1, g2⟩
      refine move _ ?_ g2
      rcases hre with hre | hre
      · have := aop_plain (e := e) (b := b) (l := l) (quiet_plain hre); rw [hr] at this; cases this
      · exact fun d hd => rechks_mem g1 _ (hre d hd)

theorem rechk_congr {e e' : List AV} {b l : List Row} {r : AOper} (h : ∀ s ∈ r.looks, nth e s = nth e' s) (hd : ∀ n, r.dst = some n → nth e n = nth e' n) (hl : e.length = e'.length) (hr : rechk e b l r) : rechk e' b l r := by
  obtain ⟨k1, k2⟩ := aoper_congr (b := b) (l := l) h
  unfold rechk at hr ⊢
  rw [k1, k2] at hr
  cases hdd : r.dst with
  | none => rw [hdd] at hr; exact hr
  | some n => rw [hdd] at hr; simp only at hr ⊢; rw [hd n hdd, hl] at hr; exact hr

theorem rechks_congr {e e' : List AV} {b l : List Row} : ∀ {rs : List AOper}, (∀ r ∈ rs, (∀ s ∈ r.looks, nth e s = nth e' s) ∧ ∀ n, r.dst = some n → nth e n = nth e' n) → e.length = e'.length → rechks e b l rs → rechks e' b l rs
  | [], _, _, _ => trivial
  | r :: rs, h, hl, hr => ⟨rechk_congr (h r (by simp)).1 (h r (by simp)).2 hl hr.1, rechks_congr (fun x hx => h x (by simp [hx])) hl hr.2⟩

/-- A slot that is written before it is looked at may hold whatever. -/
theorem runD_put {C : CallP} (hCm : ∀ f args b l (Q Q' : AV → List Row → List Row → Prop), C f args b l Q → (∀ x b' l', Q x b' l' → Q' x b' l') → C f args b l Q')
    {K : List AV → List Row → List Row → Prop} {d : Nat} {zs : List AV} {i : Nat} {re : List AOper} {p2 : List DOper} (hre : ∀ r ∈ re, d ∉ r.looks ∧ r.dst ≠ some d) :
    ∀ {p1 : List DOper} {e : List AV} {b l : List Row} {x : AV}, (∀ c ∈ p1, d ∉ c.o.looks ∧ c.o.dst ≠ some d ∧ ∀ r ∈ c.re, d ∉ r.looks ∧ r.dst ≠ some d) →
      runD C (p1 ++ ⟨i, ⟨some d, .alloc zs, none⟩, re⟩ :: p2) e b l K → runD C (p1 ++ ⟨i, ⟨some d, .alloc zs, none⟩, re⟩ :: p2) (put e (some d) x) b l K
  | [], e, b, l, x, _, h => by
    simp only [List.nil_append, runD, gd, gcase, if_true, aop, mk, stepR] at h ⊢
    obtain ⟨h1, h2⟩ := h
    refine ⟨rechks_congr (fun r hr => ⟨fun s hs => ?_, fun n hn => ?_⟩) (by simp [put_len]) h1, ?_⟩
    · rw [nth_put_ne]; intro n hn hns; cases hn; exact (hre r hr).1 (hns ▸ hs)
    · rw [nth_put_ne]; intro m hm hmn; cases hm; exact (hre r hr).2 (by rw [hn, hmn])
    · simp only [put, upd_eq, List.set_set] at h2 ⊢; exact h2
  | c :: p1, e, b, l, x, hp, h => by
    obtain ⟨c1, c2, c3⟩ := hp c (by simp)
    have hp' : ∀ c' ∈ p1, d ∉ c'.o.looks ∧ c'.o.dst ≠ some d ∧ ∀ r ∈ c'.re, d ∉ r.looks ∧ r.dst ≠ some d := fun c' hc => hp c' (by simp [hc])
    simp only [List.cons_append, runD] at h ⊢
    obtain ⟨k1, k2⟩ := aoper_congr (e := put e (some d) x) (e' := e) (b := b) (l := l) (o := c.o) (fun s hs => nth_put_ne (fun n hn hns => by cases hn; exact c1 (hns ▸ hs)))
    rw [k1, k2]
    have hcomm : ∀ v, put (put e (some d) x) c.o.dst v = put (put e c.o.dst v) (some d) x := fun v => put_comm (fun n hn => by cases hn; exact c2)
    have hrs : ∀ {b' l' : List Row}, rechks e b' l' c.re → rechks (put e (some d) x) b' l' c.re := fun hr => rechks_congr (fun r hrr => ⟨fun s hs => by rw [nth_put_ne]; intro n hn hns; cases hn; exact (c3 r hrr).1 (hns ▸ hs), fun n hn => by rw [nth_put_ne]; intro m hm hmn; cases hm; exact (c3 r hrr).2 (by rw [hn, hmn])⟩) (by simp [put_len]) hr
    unfold gcase at h ⊢
    split at h
    case h_2 => exact h.elim
    rename_i t hg
    cases t
    · simp only [Bool.false_eq_true, if_false] at h ⊢
      rw [hcomm]
      exact runD_put hCm hre hp' h
    · simp only [if_true] at h ⊢
      cases hr : aop e b l c.o.op with
      | bad => rw [hr] at h; exact h.elim
      | val y b' l' =>
        rw [hr] at h
        simp only [stepR] at h ⊢
        rw [hcomm]
        exact ⟨hrs h.1, runD_put hCm hre hp' h.2⟩
      | two t y z =>
        rw [hr] at h
        simp only [stepR] at h ⊢
        rw [hcomm, hcomm]
        exact ⟨fun ht => ⟨hrs (h.1 ht).1, runD_put hCm hre hp' (h.1 ht).2⟩, hrs h.2.1, runD_put hCm hre hp' h.2.2⟩
      | call f az =>
        rw [hr] at h
        simp only [stepR] at h ⊢
        refine hCm _ _ _ _ _ _ h ?_
        rintro y b' l' ⟨g1, g2⟩
        rw [hcomm]
        exact ⟨hrs g1, runD_put hCm hre hp' g2⟩
end
end Go.Proofs.Ytiiflkcebikecaa

/- Runs of abstract programs are runs of the model's: regions, code, calls. No condition. -/
namespace Go.Proofs.Ytiiflkcebikecaa
set_option linter.unusedVariables false

/-- A call, seen from outside: whatever the world, it ends, and what it leaves reads so. -/
def ACalls (P : Program) : CallP := fun f args b l Q =>
  (∃ fn, P.funcs[f]? = some fn ∧ (fn.name == "runtime.NumGoroutine") = false ∧ fn.body.isSome = true) ∧
  ∀ F L w (vs : Array Value), Sim F L (b ++ l) w → RepL w F L args vs.toList → Calls P f vs w fun en w' =>
    ∃ v x b' l' F' L', en = .returned v ∧ RepA w' F' L' x v ∧ Sim F' L' (b' ++ l') w' ∧ Step (b ++ l).length F L (b ++ l) w F' L' (b' ++ l') w' ∧ b'.length = b.length ∧ Q x b' l'

/-- What may be forgotten of a state without a step of the program. -/
def Weak : WeakP := fun e b l e' b' l' =>
  ∀ F L w a, Sim F L (b ++ l) w → EnvR w F L e a → ∃ F' L', Sim F' L' (b' ++ l') w ∧ EnvR w F' L' e' a ∧ Step b.length F L (b ++ l) w F' L' (b' ++ l') w ∧ b'.length = b.length

def ExR : Exit → AExit → Prop
  | .normal, .normal => True
  | .exit i, .exit j => i = j
  | .ret, .ret => True
  | _, _ => False

/-- The state behind a piece of the program. -/
def Aft (nb : Nat) (F : Nat → Prop) (L : LMap) (h : List Row) (w : World) (Q : AExit → List AV → List Row → List Row → Prop) : Exit → Act → World → Prop := fun ex a' w' =>
  ∃ ax e' b' l' F' L', ExR ex ax ∧ Sim F' L' (b' ++ l') w' ∧ EnvR w' F' L' e' a' ∧ Step nb F L h w F' L' (b' ++ l') w' ∧ b'.length = nb ∧ Q ax e' b' l'

section
variable {P : Program}

theorem gd_ok {w : World} {F : Nat → Prop} {L : LMap} {e : List AV} {a : Act} (he : EnvR w F L e a) {ops : Array Oper} {o : Oper} {g : Option (Nat × Bool)} (hg : cGuard ops o.guard = some g) {t : Bool} (h : gd e g = some t) :
    Region.wanted o (yielded ops a.tmps) = t := by
  unfold cGuard at hg
  unfold Region.wanted
  cases hgu : o.guard with
  | none => rw [hgu] at hg; simp at hg; subst hg; simp [gd] at h; subst h; rfl
  | some jw =>
    obtain ⟨j, want⟩ := jw
    rw [hgu] at hg
    simp only at hg
    cases hd : (ops[j]?).bind (·.dst) with
    | none => rw [hd] at hg; cases hg
    | some d =>
      rw [hd] at hg
      cases hg
      simp only [gd] at h
      have hr := he.nth d
      simp only [yielded, hd, Option.bind_some]
      have hget : a.tmps.getD d undef = (a.tmps[d]?).getD undef := by simp [Array.getD_eq_getD_getElem?]
      rw [hget] at hr
      generalize nth e d = q at *
      split at h
      · rename_i t'
        cases h
        have := repB hr
        cases hq : a.tmps[d]? with
        | none => rw [hq] at this; cases this
        | some v => rw [hq] at this; simp only [Option.getD_some] at this; subst this; cases t' <;> cases want <;> rfl
      · cases h
        obtain ⟨vs, hv, hl⟩ := hr.tupL
        cases hq : a.tmps[d]? with
        | none => cases want <;> rfl
        | some v => rw [hq] at hv; simp only [Option.getD_some] at hv; subst hv; cases want <;> rfl
      · cases h

/-- One operation, whatever follows it. -/
theorem op_ok {o : Oper} {ao : AOp} (hc : cOp P o.op = some ao) {C : CallP} (hC : ∀ f args b l Q, C f args b l Q → ACalls P f args b l Q)
    {e : List AV} {b l : List Row} {K : List AV → List Row → List Row → Prop} (h : stepR C b l (fun x b' l' => K (put e o.dst x) b' l') (aop e b l ao))
    {F : Nat → Prop} {L : LMap} {w : World} {a : Act} (s : Sim F L (b ++ l) w) (he : EnvR w F L e a) (Q : Exit → Act → World → Prop) {next : Act → World → Prop}
    (hn : ∀ e' b' l' F' L' a' w', K e' b' l' → Sim F' L' (b' ++ l') w' → EnvR w' F' L' e' a' → Step b.length F L (b ++ l) w F' L' (b' ++ l') w' → b'.length = b.length → (∃ v, a' = a.put o.dst v) → next a' w') : o.wp P a w next Q := by
  have hlen : b.length ≤ (b ++ l).length := by simp
  obtain ⟨h1, h2, h3⟩ := aop_ok (P := P) hc s he
  unfold Oper.wp
  have key : ∀ x b' l', OpOk P o a w F L b l x b' l' → K (put e o.dst x) b' l' → o.upon P a next Q ((execOp a.eval o).run P w) := by
    rintro x b' l' ⟨v, w', L', hend, hx, s', st, hb⟩ hk
    have he' := (he.step s st).put o.dst hx
    rcases hend with hend | ⟨hend, rfl⟩
    · rw [hend]; exact hn _ _ _ _ _ _ _ hk s' he' (st.weaken hlen) hb ⟨_, rfl⟩
    · rw [hend]; exact hn _ _ _ _ _ _ _ hk s' he' (st.weaken hlen) hb ⟨_, rfl⟩
  cases hr : aop e b l ao with
  | bad => rw [hr] at h; exact h.elim
  | two c x y =>
    rw [hr] at h
    rcases h3 c x y hr with ⟨hc1, hk⟩ | hk
    · exact key x b l hk (h.1 hc1)
    · exact key y b l hk h.2
  | val x b' l' =>
    rw [hr] at h
    exact key x b' l' (h1 x b' l' hr) h
  | call f args =>
    rw [hr] at h
    obtain ⟨⟨fn, g1, g2, g3⟩, g4⟩ := hC _ _ _ _ _ h
    obtain ⟨vs, k1, k2⟩ := h2 f args hr
    rw [k2 fn g1 g2 g3]
    refine Calls.mono (g4 F L w vs s k1) ?_
    rintro en w' ⟨v, x, b', l', F', L', rfl, hx, s', st, hb, hq⟩
    exact hn _ _ _ _ _ _ _ hq s' ((he.step s st).put o.dst hx) (st.weaken hlen) hb ⟨_, rfl⟩

theorem ops_ok {C : CallP} (hC : ∀ f args b l Q, C f args b l Q → ACalls P f args b l Q) (ops : Array Oper) {nb : Nat} {F0 : Nat → Prop} {L0 : LMap} {h0 : List Row} {w0 : World} {Q : List AV → List Row → List Row → Prop} {Q' : Exit → Act → World → Prop} :
    ∀ (os : List Oper) (is : List Nat) (aos : List AOper), cOps P ops os = some aos → is.map (ops[·]?) = os.map some → ∀ e b l, runOps C aos e b l Q → b.length = nb → ∀ F L w a, Sim F L (b ++ l) w → EnvR w F L e a → Step nb F0 L0 h0 w0 F L (b ++ l) w →
      (∀ e' b' l' F' L' a' w', Q e' b' l' → Sim F' L' (b' ++ l') w' → EnvR w' F' L' e' a' → Step nb F0 L0 h0 w0 F' L' (b' ++ l') w' → b'.length = nb → Q' .normal a' w') → wpOps P ops Q' is a w
  | [], is, aos, hc, hi, e, b, l, h, hb, F, L, w, a, s, he, st, hQ => by
    have : is = [] := by simpa using hi
    subst this
    simp [cOps] at hc
    subst hc
    exact hQ _ _ _ _ _ _ _ h s he st hb
  | o :: os, [], aos, hc, hi, e, b, l, h, hb, F, L, w, a, s, he, st, hQ => by simp at hi
  | o :: os, i :: is, aos, hc, hi, e, b, l, h, hb, F, L, w, a, s, he, st, hQ => by
    simp only [List.map_cons, List.cons.injEq] at hi
    obtain ⟨hi1, hi2⟩ := hi
    unfold cOps at hc
    split at hc
    case h_2 => cases hc
    rename_i ao g aos' c1 c2 c3
    cases hc
    simp only [runOps] at h
    simp only [wpOps, hi1]
    unfold gcase at h
    split at h
    case h_2 => exact h.elim
    rename_i t hg
    rw [gd_ok he c2 hg]
    cases t
    · simp only [Bool.false_eq_true, if_false] at h ⊢
      exact ops_ok hC ops os is aos' c3 hi2 _ _ _ h hb F L w _ s (he.put o.dst (RepA.undef _ _ _)) st hQ
    · simp only [if_true] at h ⊢
      refine .inl (op_ok c1 hC (K := fun e b l => runOps C aos' e b l Q) h s he Q' ?_)
      intro e' b' l' F' L' a' w' hk s' he' st' hb' _
      exact ops_ok hC ops os is aos' c3 hi2 _ _ _ hk (hb'.trans hb) F' L' w' a' s' he' (st.trans (hb ▸ st')) hQ

theorem ACalls_mono : ∀ f args b l (Q Q' : AV → List Row → List Row → Prop), ACalls P f args b l Q → (∀ x b' l', Q x b' l' → Q' x b' l') → ACalls P f args b l Q' := by
  rintro f args b l Q Q' ⟨h1, h2⟩ hq
  refine ⟨h1, fun F L w vs s hr => Calls.mono (h2 F L w vs s hr) ?_⟩
  rintro en w' ⟨v, x, b', l', F', L', k1, k2, k3, k4, k5, k6⟩
  exact ⟨v, x, b', l', F', L', k1, k2, k3, k4, k5, hq _ _ _ k6⟩

/-! The facts of a region that draws. -/
theorem cOps_get {ops : Array Oper} : ∀ {os : List Oper} {aos : List AOper}, cOps P ops os = some aos → aos.length = os.length ∧ ∀ (i : Nat) (ao : AOper), aos[i]? = some ao → ∃ (o : Oper), os[i]? = some o ∧ cOp P o.op = some ao.op ∧ cGuard ops o.guard = some ao.guard ∧ ao.dst = o.dst
  | [], aos, h => by simp [cOps] at h; subst h; simp
  | o :: os, aos, h => by
    unfold cOps at h
    split at h
    case h_2 => cases h
    rename_i x g xs h1 h2 h3
    cases h
    obtain ⟨h4, h5⟩ := cOps_get h3
    refine ⟨by simp [h4], fun i ao hi => ?_⟩
    cases i with
    | zero => simp at hi; subst hi; exact ⟨o, rfl, h1, h2, rfl⟩
    | succ i => simp at hi; simpa using h5 i ao hi

theorem reOf_mem {ops : Array Oper} {aos : List AOper} {i : Nat} : ∀ {js : List Nat} {j : Nat} {r : AOper}, j ∈ js → aos[j]? = some r → r.op.quiet = true → anc ops j ops.size i = false → r ∈ reOf ops aos i js
  | [], j, r, h, _, _, _ => by simp at h
  | k :: js, j, r, h, hr, hq, ha => by
    simp only [reOf]
    rcases List.mem_cons.1 h with rfl | h
    · rw [hr]; simp [hq, ha]
    · have := reOf_mem h hr hq ha
      split
      · split
        · exact List.mem_cons_of_mem _ this
        · exact this
      · exact this

def PairR (ops : Array Oper) (fin : Nat) (a c : DOper) : Prop :=
  pairOk ops fin a c = true ∧ (a.o.op.quiet = true → anc ops a.i ops.size c.i = false → c.o.op.quiet = true ∨ a.o ∈ c.re)

theorem mkD_facts {ops : Array Oper} {aos : List AOper} : ∀ {is done : List Nat}, (∀ d ∈ mkD ops aos done is, aos[d.i]? = some d.o ∧ (d.o.op.quiet = true → d.re = []) ∧ (∀ j ∈ done, ∀ (r : AOper), aos[j]? = some r → r.op.quiet = true → anc ops j ops.size d.i = false → d.o.op.quiet = true ∨ r ∈ d.re)) ∧
    (mkD ops aos done is).Pairwise (fun a c => a.o.op.quiet = true → anc ops a.i ops.size c.i = false → c.o.op.quiet = true ∨ a.o ∈ c.re)
  | [], done => by simp [mkD]
  | i :: is, done => by
    simp only [mkD]
    cases hi : aos[i]? with
    | none => simp
    | some o =>
      simp only
      obtain ⟨h1, h2⟩ := mkD_facts (ops := ops) (aos := aos) (is := is) (done := done ++ [i])
      refine ⟨fun d hd => ?_, List.Pairwise.cons (fun c hc hq ha => ?_) h2⟩
      · rcases List.mem_cons.1 hd with rfl | hd
        · refine ⟨hi, fun hq => by simp only at hq ⊢; rw [if_pos hq], fun j hj r hr hq ha => ?_⟩
          simp only
          cases hqq : o.op.quiet
          · rw [if_neg (by simp)]
            exact .inr (reOf_mem hj hr hq ha)
          · exact .inl rfl
        · obtain ⟨g1, g2, g3⟩ := h1 d hd
          exact ⟨g1, g2, fun j hj => g3 j (by simp [hj])⟩
      · exact (h1 c hc).2.2 i (by simp) o hi hq ha

theorem pairsOk_spec {ops : Array Oper} {fin : Nat} : ∀ {ds : List DOper}, pairsOk ops fin ds = true → (∀ d ∈ ds, selfOk d = true) ∧ ds.Pairwise (fun a c => pairOk ops fin a c = true)
  | [], _ => by simp
  | a :: ds, h => by
    simp only [pairsOk, Bool.and_eq_true] at h
    obtain ⟨⟨h1, h2⟩, h3⟩ := h
    obtain ⟨g1, g2⟩ := pairsOk_spec h3
    exact ⟨fun d hd => by rcases List.mem_cons.1 hd with rfl | hd
                          · exact h1
                          · exact g1 d hd, List.Pairwise.cons (fun c hc => List.all_eq_true.1 h2 c hc) g2⟩

theorem pairOk_spec {ops : Array Oper} {fin : Nat} {a c : DOper} (h : pairOk ops fin a c = true) : (∀ n, c.o.dst = some n → (a.o.op.quiet = true ∨ c.o.op.isAlloc = true → c.i ≠ fin ∨ anc ops a.i ops.size c.i = false ∨ c.o.op.isAlloc = true → n ∉ a.o.looks) ∧ a.o.dst ≠ some n ∧ (c.o.op.isAlloc = true → ∀ r ∈ a.re, n ∉ r.looks ∧ r.dst ≠ some n)) ∧
    (anc ops a.i ops.size c.i = false → (a.o.op.quiet = true ∨ c.o.op.isAlloc = true) ∧ ∀ n, a.o.dst = some n → n ∉ c.o.looks) ∧ a.i ≠ fin := by
  simp only [pairOk, Bool.and_eq_true] at h
  obtain ⟨⟨hf, h1⟩, h2⟩ := h
  refine ⟨fun n hn => ?_, fun ha => ?_, by simpa using hf⟩
  · rw [hn] at h1
    simp only [Bool.and_eq_true] at h1
    refine ⟨fun hqa hw => ?_, by simpa using h1.1.2, fun hal r hr => ?_⟩
    · have h3 := h1.1.1
      rw [show (a.o.op.quiet || c.o.op.isAlloc) = true by simpa using hqa] at h3
      have h4 : (c.i == fin && !c.o.op.isAlloc && anc ops a.i ops.size c.i) = false := by
        rcases hw with hw | hw | hw
        · simp [hw]
        · rw [hw]; simp
        · rw [hw]; simp
      rw [h4] at h3
      simpa using h3
    · have h3 := h1.2
      rw [hal] at h3
      simp only [Bool.not_true, Bool.false_or] at h3
      have := List.all_eq_true.1 h3 r hr
      simpa using this
  · rw [ha] at h2
    simp only [Bool.false_or, Bool.and_eq_true, Bool.or_eq_true] at h2
    refine ⟨h2.1, fun n hn => ?_⟩
    have := h2.2
    rw [hn] at this
    simpa using this

theorem anc_listed {ops : Array Oper} {listed : Array Bool} (hcl : ∀ j o, ops[j]? = some o → listed.getD j false = true → ∀ ed ∈ o.after, Region.binds .any ed = true → listed.getD ed.on false = true) {x : Nat} :
    ∀ {n i : Nat}, (∀ o, ops[i]? = some o → ∀ ed ∈ o.after, Region.binds .any ed = true → listed.getD ed.on false = true) → anc ops x n i = true → listed.getD x false = true
  | 0, i, _, h => by cases h
  | n + 1, i, hi, h => by
    simp only [anc] at h
    split at h
    case h_2 => cases h
    rename_i o ho
    obtain ⟨ed, hed, hb⟩ := List.any_eq_true.1 h
    simp only [Bool.and_eq_true, Bool.or_eq_true, beq_iff_eq] at hb
    have hl := hi o ho ed (by simpa using hed) hb.1
    rcases hb.2 with rfl | hb
    · exact hl
    · exact anc_listed hcl (n := n) (i := ed.on) (fun o' ho' => hcl ed.on o' ho' hl) hb

theorem selfOk_spec {a : DOper} (h : selfOk a = true) (hqa : a.o.op.quiet = true ∨ a.o.op.isAlloc = true) : ∀ n, a.o.dst = some n → n ∉ a.o.looks ∧ ∀ r ∈ a.re, n ∉ r.looks ∧ r.dst ≠ some n := by
  intro n hn
  unfold selfOk at h
  rw [hn, show (a.o.op.quiet || a.o.op.isAlloc) = true by simpa using hqa] at h
  simp only [Bool.not_true, Bool.false_or, Bool.and_eq_true] at h
  refine ⟨by simpa using h.1, fun r hr => ?_⟩
  have := List.all_eq_true.1 h.2 r hr
  simpa using this

theorem quiet_not_alloc {o : AOp} (h : o.quiet = true) : o.isAlloc = false := by cases o <;> first | rfl | cases h

theorem filt_set {listed : Array Bool} {i : Nat} {ps : List DOper} (h : ∀ x ∈ ps, i ≠ x.i) : ps.filter (fun d => !(listed.setIfInBounds i true).getD d.i false) = ps.filter (fun d => !listed.getD d.i false) :=
  List.filter_congr (fun x hx => by rw [getD_set_ne false (h x hx)])

theorem cvL_v : ∀ {vs : List Value} {xs : List AV}, cvL vs = some xs → ∀ x ∈ xs, ∃ y, x = .v y
  | [], xs, h => by cases h; simp
  | v :: vs, xs, h => by
    unfold cvL at h
    split at h
    case h_2 => cases h
    rename_i y ys h1 h2
    cases h
    intro x hx
    rcases List.mem_cons.1 hx with rfl | hx
    · exact ⟨y, rfl⟩
    · exact cvL_v h2 x hx

/-- A block is made and belongs to no row. -/
theorem reserve {F : Nat → Prop} {L : LMap} {h : List Row} {w : World} (s : Sim F L h w) (blk : Obj) (nb : Nat) :
    Sim F L h (w.alloc blk) ∧ Step nb F L h w F L h (w.alloc blk) ∧ ¬ F w.heap.size ∧ ¬ Owned L h w.heap.size := by
  have hh : ∀ k, k < w.heap.size → (w.alloc blk).heap[k]? = w.heap[k]? := fun k hk => by
    show (w.heap.push blk)[k]? = _
    rw [Array.getElem?_push_lt hk, Array.getElem?_eq_getElem hk]
  have hsz : (w.alloc blk).heap.size = w.heap.size + 1 := by show (w.heap.push blk).size = _; simp
  have hF : ¬ F w.heap.size := fun hf => Nat.lt_irrefl _ (s.imm _ hf).1
  have hO : ∀ k, Owned L h k → k < w.heap.size := by
    rintro k ⟨i, v, z, e1, q1, h1, h2, h3⟩
    obtain ⟨q, g1, g2⟩ := s.row _ _ _ _ h1
    rw [h2] at g1
    cases g1
    exact g2.lt h3
  refine ⟨⟨fun i v z els hi => ?_, s.born, s.apart, fun b hb => ⟨by have := (s.imm b hb).1; omega, (s.imm b hb).2⟩⟩,
    ⟨fun _ h => h, fun _ _ _ _ h => h, rfl, rfl, rfl, by omega, fun b hb _ => hh b hb, fun _ _ h => h, fun _ _ _ h => h, fun _ _ h => .inl h⟩, hF, fun ho => Nat.lt_irrefl _ (hO _ ho)⟩
  obtain ⟨q, g1, g2⟩ := s.row i v z els hi
  exact ⟨q, g1, g2.mono (fun b hb => hh b (g2.lt hb)) (fun _ _ hx => hx.mono (fun _ h => h) (fun b hb => hh b (s.imm b hb).1) (fun _ _ _ h => h))⟩

theorem qapart_of {ops : Array Oper} {fin : Nat} : ∀ {ps : List DOper}, (∀ d ∈ ps, d.o.op.quiet = true ∧ d.i ≠ fin) → (∀ d ∈ ps, selfOk d = true) → ps.Pairwise (PairR ops fin) → QApart ps
  | [], _, _, _ => trivial
  | d :: ps, hq, hs, hp => by
    cases hp with
    | cons h1 h2 =>
      refine ⟨fun n hn => ?_, fun c hc n hn => ⟨((pairOk_spec (h1 c hc).1).1 n hn).1 (.inl (hq d (by simp)).1) (.inl (hq c (by simp [hc])).2), ((pairOk_spec (h1 c hc).1).1 n hn).2.1⟩, qapart_of (fun x hx => hq x (by simp [hx])) (fun x hx => hs x (by simp [hx])) h2⟩
      exact (selfOk_spec (hs d (by simp)) (.inl (hq d (by simp)).1) n hn).1

/-- A variable that has been made ahead of its turn: its block belongs to no row yet. -/
def ResOne (w0 w : World) (F : Nat → Prop) (L : LMap) (h : List Row) (a : Act) (d : DOper) (k : Nat) : Prop :=
  ∃ zs dd cur T, d.o = ⟨some dd, .alloc zs, none⟩ ∧ (dd < a.tmps.size → a.tmps[dd]? = some (.pointer (some ⟨k, 0, none⟩))) ∧ w0.heap.size ≤ k ∧ w.heap[k]? = some (.cells cur T (0, 0)) ∧ zs.length ≤ cur.size ∧
    (∀ (j : Nat) (x : AV), zs[j]? = some x → ∃ y v, x = .v y ∧ cur[j]? = some v ∧ RepI w F y v) ∧ ¬ F k ∧ ¬ Owned L h k

theorem ResOne.step {w0 w w' : World} {F F' : Nat → Prop} {L L' : LMap} {h h' : List Row} {a a' : Act} {d : DOper} {k nb : Nat} (r : ResOne w0 w F L h a d k) (s : Sim F L h w) (st : Step nb F L h w F' L' h' w')
    (ha : ∀ dd, d.o.dst = some dd → a'.tmps.size = a.tmps.size ∧ a'.tmps[dd]? = a.tmps[dd]?) : ResOne w0 w' F' L' h' a' d k := by
  obtain ⟨zs, dd, cur, T, h1, h2, h3, h4, h5, h6, h7, h8⟩ := r
  have hk : k < w.heap.size := (Array.getElem?_eq_some_iff.1 h4).1
  obtain ⟨e1, e2⟩ := ha dd (by rw [h1])
  refine ⟨zs, dd, cur, T, h1, fun hd => by rw [e2]; exact h2 (by omega), h3, by rw [st.block k hk h8]; exact h4, h5, fun j x hx => ?_, fun hf => (st.fnew k hk hf).elim h7 h8, fun ho => h8 (st.own k hk ho)⟩
  obtain ⟨y, v, g1, g2, g3⟩ := h6 j x hx
  exact ⟨y, v, g1, g2, g3.mono st.imm (st.immEq s)⟩

/-- Its turn comes: the block becomes a row. -/
theorem adopt {nb : Nat} {F0 F : Nat → Prop} {L0 L : LMap} {h0 b l : List Row} {w0 w : World} (s : Sim F L (b ++ l) w) (st : Step nb F0 L0 h0 w0 F L (b ++ l) w) (hb : b.length = nb) {k : Nat} {zs : List AV} {cur : Array Value} {T : TypeId}
    (hk : w0.heap.size ≤ k) (hcur : w.heap[k]? = some (.cells cur T (0, 0))) (hlen : zs.length ≤ cur.size) (hz : ∀ (j : Nat) (x : AV), zs[j]? = some x → ∃ y v, x = .v y ∧ cur[j]? = some v ∧ RepI w F y v) (hF : ¬ F k) (hO : ¬ Owned L (b ++ l) k) :
    ∃ L' : LMap, Sim F L' (b ++ (l ++ [.live 0 zs.length [zs]])) w ∧ Step nb F0 L0 h0 w0 F L' (b ++ (l ++ [.live 0 zs.length [zs]])) w ∧ L' (b.length + l.length) 0 = some (.pl k 0 zs.length 1) ∧ (∀ i v q, L i v = some q → L' i v = some q) ∧
      ∀ k', Owned L' (b ++ (l ++ [.live 0 zs.length [zs]])) k' → k' = k ∨ Owned L (b ++ l) k' := by
  have hblen : (b ++ l).length = b.length + l.length := by simp
  have hnone : L (b.length + l.length) 0 = none := by
    cases hq : L (b.length + l.length) 0 with
    | none => rfl
    | some q => exact absurd (s.lt hq) (by omega)
  obtain ⟨L', hLn, hLm, hLo⟩ : ∃ L' : LMap, L' (b.length + l.length) 0 = some (.pl k 0 zs.length 1) ∧ (∀ i v q, L i v = some q → L' i v = some q) ∧ ∀ i v, (i ≠ b.length + l.length ∨ v ≠ 0) → L' i v = L i v := by
    refine ⟨fun i v => if i = b.length + l.length ∧ v = 0 then some (.pl k 0 zs.length 1) else L i v, by simp, ?_, ?_⟩
    · intro i v q hl
      by_cases hi : i = b.length + l.length ∧ v = 0
      · obtain ⟨rfl, rfl⟩ := hi
        rw [hnone] at hl; cases hl
      · simp [hi, hl]
    · intro i v hi
      have : ¬ (i = b.length + l.length ∧ v = 0) := fun ⟨a, b⟩ => hi.elim (fun h => h a) (fun h => h b)
      simp [this]
  have hold : ∀ j, j ≠ b.length + l.length → (b ++ (l ++ [Row.live 0 zs.length [zs]]))[j]? = (b ++ l)[j]? := by
    intro j hj
    rw [← List.append_assoc]
    by_cases hjl : j < (b ++ l).length
    · rw [List.getElem?_append_left hjl]
    · rw [List.getElem?_eq_none (by simp; omega), List.getElem?_eq_none (by omega)]
  have hnew : (b ++ (l ++ [Row.live 0 zs.length [zs]]))[b.length + l.length]? = some (.live 0 zs.length [zs]) := by
    rw [← List.append_assoc, List.getElem?_append_right (by omega)]; simp
  have own : ∀ k', Owned L' (b ++ (l ++ [Row.live 0 zs.length [zs]])) k' → k' = k ∨ Owned L (b ++ l) k' := by
    rintro k' ⟨i, v, z, e1, q1, h1, h2, h3⟩
    by_cases hi : i = b.length + l.length
    · subst hi
      rw [hnew] at h1; cases h1
      rw [hLn] at h2; cases h2
      exact .inl h3.symm
    · rw [hold i hi] at h1
      rw [hLo i v (.inl hi)] at h2
      exact .inr ⟨i, v, z, e1, q1, h1, h2, h3⟩
  have mono : ∀ {x : AV} {v : Value}, RepA w F L x v → RepA w F L' x v := fun hx => hx.mono (fun _ h => h) (fun _ _ => rfl) hLm
  have notk : ∀ {j v z els q1}, (b ++ l)[j]? = some (.live v z els) → L j v = some q1 → ¬ q1.on k := fun h1 h2 e => hO ⟨_, _, _, _, _, h1, h2, e⟩
  refine ⟨L', ⟨?_, ?_, ?_, fun q hq => ⟨(s.imm q hq).1, fun ho => (own q ho).elim (fun e => hF (e ▸ hq)) (fun ho => (s.imm q hq).2 ho)⟩⟩,
    ⟨st.imm, fun i v q hi hq => hLm i v q (st.loc i v q hi hq), st.os, st.tape, st.output, st.size, st.block, fun q hq ho => (own q ho).elim (fun e => by omega) (fun ho => st.own q hq ho), fun i hi v hv => ?_, st.fnew⟩, hLn, hLm, own⟩
  · intro j v z e1 hj
    by_cases hji : j = b.length + l.length
    · subst hji
      rw [hnew] at hj
      cases hj
      refine ⟨_, hLn, rfl, by simp, by decide, cur, T, hcur, by omega, fun k' row hk' => ?_, fun k' row jj c hk' hj' => ?_⟩
      · cases k' with
        | zero => simp at hk'; subst hk'; rfl
        | succ k' => simp at hk'
      · cases k' with
        | zero =>
          simp at hk'; subst hk'
          obtain ⟨y, v, g1, g2, g3⟩ := hz jj c hj'
          subst g1
          exact ⟨rfl, v, by simpa using g2, .v _ _ g3⟩
        | succ k' => simp at hk'
    · rw [hold j hji] at hj
      obtain ⟨q, hl1, hl2⟩ := s.row j v z e1 hj
      exact ⟨q, hLm _ _ _ hl1, hl2.mono (fun _ _ => rfl) (fun _ _ => mono)⟩
  · intro i v q hl1
    by_cases hi : i = b.length + l.length
    · subst hi
      refine ⟨_, hnew, ?_⟩
      by_cases hv : v = 0
      · subst hv; exact Nat.le_refl _
      · rw [hLo _ v (.inr hv)] at hl1
        exact absurd (s.lt hl1) (by omega)
    · rw [hLo i v (.inl hi)] at hl1
      obtain ⟨r, h1, h2⟩ := s.born _ _ _ hl1
      exact ⟨r, by rw [hold i hi]; exact h1, h2⟩
  · intro i i' v v' z z' e1 e2 bb q1 q2 h1 h2 h3 h4 h5 h6
    by_cases hi : i = b.length + l.length
    · by_cases hi' : i' = b.length + l.length
      · rw [hi, hi']
      · subst hi
        rw [hnew] at h1; cases h1
        rw [hLn] at h3; cases h3
        rw [hold i' hi'] at h2
        rw [hLo i' v' (.inl hi')] at h4
        have h5 : k = bb := h5
        exact absurd (h5 ▸ h6) (notk h2 h4)
    · by_cases hi' : i' = b.length + l.length
      · subst hi'
        rw [hnew] at h2; cases h2
        rw [hLn] at h4; cases h4
        rw [hold i hi] at h1
        rw [hLo i v (.inl hi)] at h3
        have h6 : k = bb := h6
        exact absurd (h6 ▸ h5) (notk h1 h3)
      · rw [hold i hi] at h1
        rw [hold i' hi'] at h2
        rw [hLo i v (.inl hi)] at h3
        rw [hLo i' v' (.inl hi')] at h4
        exact s.apart i i' v v' z z' e1 e2 bb q1 q2 h1 h2 h3 h4 h5 h6
  · rw [hold i (by omega)]; exact st.base i hi v hv

/-- What holds of the operations that are left. -/
structure DSt (P : Program) (ops : Array Oper) (fin : Nat) (π : List DOper) (listed : Array Bool) : Prop where
  size : listed.size = ops.size
  unl : ∀ j, j < ops.size → listed.getD j true = false → j ∈ π.map (·.i)
  al : ∀ d ∈ π, listed.getD d.i false = true → d.o.op.isAlloc = true
  lt : ∀ d ∈ π, d.i < ops.size
  cl : ∀ (j : Nat) (o : Oper), ops[j]? = some o → listed.getD j false = true → ∀ ed ∈ o.after, Region.binds .any ed = true → listed.getD ed.on false = true
  nd : (π.map (·.i)).Nodup
  facts : ∀ d ∈ π, selfOk d = true ∧ (d.o.op.quiet = true → d.re = []) ∧ allocOk d.o = true ∧ ∃ o, ops[d.i]? = some o ∧ cOp P o.op = some d.o.op ∧ cGuard ops o.guard = some d.o.guard ∧ d.o.dst = o.dst
  pw : π.Pairwise (PairR ops fin)

theorem DSt.sub {ops : Array Oper} {fin : Nat} {π π' : List DOper} {listed : Array Bool} (h : DSt P ops fin π listed) (hs : π'.Sublist π) (hu : ∀ j, j < ops.size → listed.getD j true = false → j ∈ π'.map (·.i)) : DSt P ops fin π' listed :=
  ⟨h.size, hu, fun d hd => h.al d (hs.subset hd), fun d hd => h.lt d (hs.subset hd), h.cl, h.nd.sublist (hs.map _), fun d hd => h.facts d (hs.subset hd), h.pw.sublist hs⟩

/-- What holds of the state. -/
structure DInv (C : CallP) (Q : List AV → List Row → List Row → Prop) (nb : Nat) (F0 : Nat → Prop) (L0 : LMap) (h0 : List Row) (w0 : World) (π : List DOper) (listed : Array Bool)
    (e : List AV) (b l : List Row) (F : Nat → Prop) (L : LMap) (w : World) (a : Act) (f : Nat → Nat) : Prop where
  run : runD C π e b l Q
  len : b.length = nb
  sim : Sim F L (b ++ l) w
  env : EnvR w F L e a
  step : Step nb F0 L0 h0 w0 F L (b ++ l) w
  res : ∀ d ∈ π, listed.getD d.i false = true → ResOne w0 w F L (b ++ l) a d (f d.i)
  inj : ∀ d ∈ π, ∀ d' ∈ π, listed.getD d.i false = true → listed.getD d'.i false = true → f d.i = f d'.i → d.i = d'.i

theorem alloc_eq {o : AOper} (h : allocOk o = true) (ha : o.op.isAlloc = true) : ∃ zs dd, o = ⟨some dd, .alloc zs, none⟩ := by
  obtain ⟨d, op, g⟩ := o
  cases op <;> first | (cases ha; done) | skip
  rename_i zs
  simp only [allocOk, AOp.isAlloc, Bool.not_true, Bool.false_or, Bool.and_eq_true, Option.isNone_iff_eq_none] at h
  obtain ⟨h1, h2⟩ := h
  cases d with
  | none => cases h2
  | some d => exact ⟨zs, d, by rw [h1]⟩

theorem cOp_alloc {o : Op} {zs : List AV} (hc1 : cOp P o = some (.alloc zs)) : ∃ t, o = .alloc t ∧ zeroT P t = some zs := by
  unfold cOp at hc1
  repeat' split at hc1
  all_goals first
    | (cases hc1; done)
    | (obtain ⟨y, h1, h2⟩ := map_some hc1; cases h2; exact ⟨_, rfl, h1⟩)
    | (obtain ⟨_, _, h⟩ := map_some hc1; cases h; done)
    | (obtain ⟨_, _, hc1⟩ := bind_some hc1; obtain ⟨_, _, hc1⟩ := bind_some hc1; cases hc1; done)
    | (obtain ⟨_, _, hc1⟩ := bind_some hc1; obtain ⟨_, _, hc1⟩ := bind_some hc1; obtain ⟨_, _, hc1⟩ := bind_some hc1; cases hc1; done)

/-- Those made ahead of their turn whose turn has come. -/
theorem adoptAll {C : CallP} (hCm : ∀ f args b l (Q Q' : AV → List Row → List Row → Prop), C f args b l Q → (∀ x b' l', Q x b' l' → Q' x b' l') → C f args b l Q')
    {ops : Array Oper} {fin : Nat} {nb : Nat} {F0 : Nat → Prop} {L0 : LMap} {h0 : List Row} {w0 : World} {Q : List AV → List Row → List Row → Prop} {listed : Array Bool} {rest : List DOper} {a : Act} {w : World} {f : Nat → Nat} {F : Nat → Prop} :
    ∀ (n : Nat) (p1 : List DOper) (e : List AV) (b l : List Row) (L : LMap), p1.length = n → (∀ d ∈ p1, d.o.op.quiet = true ∨ listed.getD d.i false = true) → DSt P ops fin (p1 ++ rest) listed → DInv C Q nb F0 L0 h0 w0 (p1 ++ rest) listed e b l F L w a f →
      ∃ p1' e' l' L', (∀ d ∈ p1', d.o.op.quiet = true ∧ d ∈ p1) ∧ p1'.Sublist p1 ∧ p1'.filter (fun d => !listed.getD d.i false) = p1.filter (fun d => !listed.getD d.i false) ∧ DSt P ops fin (p1' ++ rest) listed ∧ DInv C Q nb F0 L0 h0 w0 (p1' ++ rest) listed e' b l' F L' w a f := by
  intro n
  induction n with
  | zero =>
    intro p1 e b l L hn _ hd hi
    have : p1 = [] := List.eq_nil_of_length_eq_zero hn
    subst this
    exact ⟨[], e, l, L, by simp, List.Sublist.refl _, rfl, hd, hi⟩
  | succ n ih =>
    intro p1 e b l L hn hq hd hi
    by_cases hall : ∀ d ∈ p1, d.o.op.quiet = true
    · exact ⟨p1, e, l, L, fun d hdd => ⟨hall d hdd, hdd⟩, List.Sublist.refl _, rfl, hd, hi⟩
    · -- the first that is not quiet
      obtain ⟨q1, A, q2, hp1, hq1, hA⟩ : ∃ q1 A q2, p1 = q1 ++ A :: q2 ∧ (∀ d ∈ q1, d.o.op.quiet = true) ∧ ¬ A.o.op.quiet = true := by
        clear ih hn hd hi hq
        induction p1 with
        | nil => exact absurd (by simp) hall
        | cons x p1 ihp =>
          by_cases hx : x.o.op.quiet = true
          · obtain ⟨q1, A, q2, h1, h2, h3⟩ := ihp (fun h => hall (by
              intro d hd
              rcases List.mem_cons.1 hd with rfl | hd
              · exact hx
              · exact h d hd))
            exact ⟨x :: q1, A, q2, by rw [h1]; rfl, fun d hd => by
              rcases List.mem_cons.1 hd with rfl | hd
              · exact hx
              · exact h2 d hd, h3⟩
          · exact ⟨[], x, p1, rfl, by simp, hx⟩
      subst hp1
      have hAl : listed.getD A.i false = true := (hq A (by simp)).resolve_left hA
      have hAmem : A ∈ (q1 ++ A :: q2) ++ rest := by simp
      obtain ⟨hself, _, hok, _⟩ := hd.facts A hAmem
      obtain ⟨zs, dd, hAo⟩ := alloc_eq hok (hd.al A hAmem hAl)
      obtain ⟨zs', dd', cur, T, g1, g2, g3, g4, g5, g6, g7, g8⟩ := hi.res A hAmem hAl
      rw [hAo] at g1
      cases g1
      have hpw := hd.pw
      rw [List.append_assoc, List.cons_append] at hpw
      have hpw2 := List.pairwise_append.1 hpw
      have hpr : ∀ x ∈ q1, PairR ops fin x A := fun x hx => hpw2.2.2 x hx A (by simp)
      have hun : ∀ x ∈ q1, anc ops x.i ops.size A.i = false := by
        intro x hx
        cases ha : anc ops x.i ops.size A.i with
        | false => rfl
        | true =>
          exfalso
          have hl := anc_listed hd.cl (fun o2 ho2 ed hed hbd => hd.cl A.i o2 ho2 hAl ed hed hbd) ha
          have := hd.al x (by simp [hx]) hl
          have hxq := hq1 x hx
          rw [quiet_not_alloc hxq] at this; cases this
      have hrun := hi.run
      rw [List.append_assoc, List.cons_append] at hrun
      have hstep := bubble hCm hrun (fun x hx => ⟨hq1 x hx, (hd.facts x (by simp [hx])).2.1 (hq1 x hx)⟩) (qapart_of (fun x hx => ⟨hq1 x hx, (pairOk_spec (hpr x hx).1).2.2⟩) (fun x hx => (hd.facts x (by simp [hx])).1) hpw2.1)
        (fun x hx n hn => ⟨((pairOk_spec (hpr x hx).1).1 n hn).1 (.inl (hq1 x hx)) (.inr (.inl (hun x hx))), ((pairOk_spec (hpr x hx).1).1 n hn).2.1⟩) (fun x hx n hn => ((pairOk_spec (hpr x hx).1).2.1 (hun x hx)).2 n hn)
        (.inr fun x hx => ((hpr x hx).2 (hq1 x hx) (hun x hx)).resolve_left hA)
      rw [hAo] at hstep
      simp only [gd, gcase, if_true, aop, mk, stepR] at hstep
      obtain ⟨L', r1, r2, r3, r4, r5⟩ := adopt hi.sim hi.step hi.len g3 g4 g5 g6 g7 g8
      have hsub : (q1 ++ q2 ++ rest).Sublist ((q1 ++ A :: q2) ++ rest) := List.Sublist.append (List.Sublist.append (List.Sublist.refl _) (List.sublist_cons_self _ _)) (List.Sublist.refl _)
      have hAnot : ∀ x ∈ q1 ++ q2 ++ rest, x.i ≠ A.i := by
        intro x hx hxi
        have hnd := hd.nd
        simp only [List.map_append, List.map_cons, List.append_assoc, List.cons_append] at hnd
        rw [List.nodup_append] at hnd
        obtain ⟨n1, n2, n3⟩ := hnd
        simp only [List.append_assoc, List.mem_append] at hx
        rcases hx with hx | hx
        · exact n3 _ (List.mem_map.2 ⟨x, hx, rfl⟩) _ (by simp) hxi
        · exact (List.nodup_cons.1 n2).1 (by rw [← hxi, List.mem_append]; exact hx.elim (fun hx => .inl (List.mem_map.2 ⟨x, hx, rfl⟩)) (fun hx => .inr (List.mem_map.2 ⟨x, hx, rfl⟩)))
      have hd' : DSt P ops fin (q1 ++ q2 ++ rest) listed := hd.sub hsub (fun j hj hjl => by
        have := hd.unl j hj hjl
        simp only [List.map_append, List.map_cons, List.mem_append, List.mem_cons] at this ⊢
        rcases this with (h | h | h) | h
        · exact .inl (.inl h)
        · exfalso
          subst h
          have : A.i < listed.size := by rw [hd.size]; exact hj
          simp [this] at hAl hjl
          rw [hAl] at hjl; cases hjl
        · exact .inl (.inr h)
        · exact .inr h)
      have henv : EnvR w F L' (put e (some dd) (.ptr (b.length + l.length) 0 0 0)) a := by
        have he := hi.env.mono (L' := L') (fun _ h => h) (fun _ _ => rfl) r4
        refine ⟨he.1, by rw [he.2.1, put_len], fun i x v hx hv => ?_⟩
        simp only [put, upd_eq] at hx
        by_cases hid : dd = i
        · subst hid
          have hds : dd < a.tmps.size := (Array.getElem?_eq_some_iff.1 hv).1
          rw [List.getElem?_set_self (by rw [← he.2.1]; exact hds)] at hx
          cases hx
          rw [g2 hds] at hv
          cases hv
          have := RepA.ptr (w := w) (F := F) (b.length + l.length) 0 0 0 _ _ _ _ r3
          simpa using this
        · rw [List.getElem?_set_ne hid] at hx
          exact he.2.2 i x v hx hv
      have hres : ∀ d ∈ q1 ++ q2 ++ rest, listed.getD d.i false = true → ResOne w0 w F L' (b ++ (l ++ [.live 0 zs.length [zs]])) a d (f d.i) := by
        intro d hdm hdl
        obtain ⟨zs2, dd2, cur2, T2, h1, h2, h3, h4, h5, h6, h7, h8⟩ := hi.res d (hsub.subset hdm) hdl
        refine ⟨zs2, dd2, cur2, T2, h1, h2, h3, h4, h5, h6, h7, fun ho => (r5 _ ho).elim (fun hk => ?_) h8⟩
        exact hAnot d hdm (hi.inj d (hsub.subset hdm) A hAmem hdl hAl hk)
      have hi' : DInv C Q nb F0 L0 h0 w0 (q1 ++ q2 ++ rest) listed (put e (some dd) (.ptr (b.length + l.length) 0 0 0)) b (l ++ [.live 0 zs.length [zs]]) F L' w a f :=
        ⟨by rw [List.append_assoc]; exact hstep, hi.len, r1, henv, r2, hres, fun d hdm d' hdm' h1 h2 h3 => hi.inj d (hsub.subset hdm) d' (hsub.subset hdm') h1 h2 h3⟩
      have hmv : ∀ d ∈ q1 ++ q2, d ∈ q1 ++ A :: q2 := fun d hdm => by
        rw [List.mem_append] at hdm ⊢
        exact hdm.elim .inl (fun h => .inr (List.mem_cons_of_mem _ h))
      obtain ⟨p1', e', l', L2, k1, k2, k3, k4, k5⟩ := ih (q1 ++ q2) _ b _ L' (by simp at hn ⊢; omega) (fun d hdm => hq d (hmv d hdm)) hd' hi'
      refine ⟨p1', e', l', L2, fun d hdm => ⟨(k1 d hdm).1, hmv d (k1 d hdm).2⟩, k2.trans (List.Sublist.append (List.Sublist.refl _) (List.sublist_cons_self _ _)), ?_, k4, k5⟩
      rw [k3]
      rw [List.filter_append, List.filter_append, List.filter_cons]
      simp only [hAl, Bool.not_true, Bool.false_eq_true, if_false]

theorem draw_any {C : CallP} (hC : ∀ f args b l Q, C f args b l Q → ACalls P f args b l Q) (hCm : ∀ f args b l (Q Q' : AV → List Row → List Row → Prop), C f args b l Q → (∀ x b' l', Q x b' l' → Q' x b' l') → C f args b l Q')
    {ops : Array Oper} {fin : Nat} (hedge : edgesOk ops = true) {nb : Nat} {F0 : Nat → Prop} {L0 : LMap} {h0 : List Row} {w0 : World} {Q : List AV → List Row → List Row → Prop} {Q' : Exit → Act → World → Prop}
    (hQ : ∀ e' b' l' F' L' a' w', Q e' b' l' → Sim F' L' (b' ++ l') w' → EnvR w' F' L' e' a' → Step nb F0 L0 h0 w0 F' L' (b' ++ l') w' → b'.length = nb → Q' .normal a' w') :
    ∀ (n : Nat) (π : List DOper) (listed : Array Bool), (π.filter (fun d => !listed.getD d.i false)).length = n → DSt P ops fin π listed →
      ∀ e b l F L w a f, DInv C Q nb F0 L0 h0 w0 π listed e b l F L w a f → wpAny P .any ops Q' n listed a w := by
  intro n
  induction n with
  | zero =>
    intro π listed hn hd e b l F L w a f hi
    have hlist : ∀ d ∈ π, listed.getD d.i false = true := by
      intro d hdm
      have := List.eq_nil_of_length_eq_zero hn
      have := List.filter_eq_nil_iff.1 this d hdm
      simpa using this
    obtain ⟨p1', e', l', L', k1, k2, k3, k4, k5⟩ := adoptAll hCm π.length π e b l L rfl (fun d hdm => .inr (hlist d hdm)) (rest := []) (by simpa using hd) (by simpa using hi)
    have hnil : p1' = [] := by
      cases hp : p1' with
      | nil => rfl
      | cons d ds =>
        exfalso
        have hd1 := k1 d (by rw [hp]; simp)
        have ha := hd.al d hd1.2 (hlist d hd1.2)
        rw [quiet_not_alloc hd1.1] at ha; cases ha
    subst hnil
    refine ⟨?_, hQ _ _ _ _ _ _ _ k5.run k5.sim k5.env k5.step k5.len⟩
    cases hr : Region.ready .any ops listed with
    | nil => rfl
    | cons j js =>
      have hj : j ∈ Region.ready .any ops listed := by rw [hr]; simp
      obtain ⟨h1, o, h2, _⟩ := mem_ready.1 hj
      have := k4.unl j (Array.getElem?_eq_some_iff.1 h2).1 h1
      simp at this
  | succ n ih =>
    intro π listed hn hd e b l F L w a f hi
    have unlD : ∀ d ∈ π, listed.getD d.i false = false → listed.getD d.i true = false := by
      intro d hdm hl
      have : d.i < listed.size := by rw [hd.size]; exact hd.lt d hdm
      simp [this] at hl ⊢; exact hl
    refine ⟨fun hr => ?_, fun j hj => ?_⟩
    · -- there is always one that is ready: the least that is left
      exfalso
      have hex : ∃ m, (m < ops.size ∧ listed.getD m true = false) ∧ ∀ m', (m' < ops.size ∧ listed.getD m' true = false) → m ≤ m' := by
        cases hπ : π.filter (fun d => !listed.getD d.i false) with
        | nil => rw [hπ] at hn; simp at hn
        | cons d ds =>
          have hdf : d ∈ π.filter (fun d => !listed.getD d.i false) := by rw [hπ]; simp
          obtain ⟨hd1, hd2⟩ := List.mem_filter.1 hdf
          exact exists_least ⟨d.i, hd.lt d hd1, unlD d hd1 (by simpa using hd2)⟩
      obtain ⟨m, ⟨hm1, hm2⟩, hm3⟩ := hex
      have hmr : m ∈ Region.ready .any ops listed := by
        refine mem_ready.2 ⟨hm2, ops[m], Array.getElem?_eq_getElem hm1, fun ed hed hbd => ?_⟩
        have hon : ed.on < m := by
          unfold edgesOk at hedge
          have := List.all_eq_true.1 hedge m (by simpa using hm1)
          rw [Array.getElem?_eq_getElem hm1] at this
          have := List.all_eq_true.1 this ed (by simpa using hed)
          rw [hbd] at this
          simpa using this
        cases hl : listed.getD ed.on false with
        | true => rfl
        | false =>
          have hon2 : ed.on < listed.size := by rw [hd.size]; omega
          have hlf : listed.getD ed.on true = false := by simp [hon2] at hl ⊢; exact hl
          have := hm3 ed.on ⟨by omega, hlf⟩
          omega
      rw [hr] at hmr
      cases hmr
    · obtain ⟨hj1, o, ho, hj2⟩ := mem_ready.1 hj
      have hjs : j < ops.size := (Array.getElem?_eq_some_iff.1 ho).1
      obtain ⟨d, hdm, rfl⟩ := List.mem_map.1 (hd.unl j hjs hj1)
      have hdls : d.i < listed.size := by rw [hd.size]; exact hjs
      have hdl : listed.getD d.i false = false := by simp [hdls] at hj1 ⊢; exact hj1
      obtain ⟨hself, hquiet, hok, o', ho', hc1, hc2, hc3⟩ := hd.facts d hdm
      rw [ho] at ho'
      cases ho'
      have setSize : (listed.setIfInBounds d.i true).size = ops.size := by simp [hd.size]
      have setCl : ∀ (j : Nat) (o : Oper), ops[j]? = some o → (listed.setIfInBounds d.i true).getD j false = true → ∀ ed ∈ o.after, Region.binds .any ed = true → (listed.setIfInBounds d.i true).getD ed.on false = true := by
        intro j o2 ho2 hjl ed hed hbd
        by_cases hjd : d.i = j
        · subst hjd
          rw [ho] at ho2; cases ho2
          exact getD_set_true (hj2 ed hed hbd)
        · rw [getD_set_ne false hjd] at hjl
          exact getD_set_true (hd.cl j o2 ho2 hjl ed hed hbd)
      by_cases hal : d.o.op.isAlloc = true
      · -- a new variable, ahead of its turn
        obtain ⟨zs, dd, hdo⟩ := alloc_eq hok hal
        rw [hdo] at hc1 hc2 hc3
        obtain ⟨t, hot, hzt⟩ : ∃ t, o.op = .alloc t ∧ zeroT P t = some zs := by
          exact cOp_alloc hc1
        obtain ⟨p1, p2, hπ⟩ := List.append_of_mem hdm
        have hdeq : d = ⟨d.i, ⟨some dd, .alloc zs, none⟩, d.re⟩ := by rw [← hdo]
        have hw : Region.wanted o (yielded ops a.tmps) = true := gd_ok hi.env hc2 rfl
        unfold wpOp
        rw [ho]
        simp only [hw, if_true]
        unfold zeroT at hzt
        split at hzt
        case h_2 => cases hzt
        rename_i inf hinf
        split at hzt
        case h_2 => cases hzt
        rename_i z hzz
        have hex : (execOp a.eval o).run P w = .ok (.value (.pointer (some ⟨w.heap.size, 0, none⟩))) (w.alloc (.cells z.cells t)) := by
          simp [execOp, hot, Instr.alloc, zeroValue, typeInfo, hinf, hzz, newVar, newRow]
        refine .inl ?_
        unfold Oper.wp
        rw [hex]
        show wpAny P .any ops Q' n (listed.setIfInBounds d.i true) (a.put o.dst (.pointer (some ⟨w.heap.size, 0, none⟩))) (w.alloc (.cells z.cells t))
        have hdst : o.dst = some dd := hc3.symm
        rw [hdst]
        obtain ⟨s1, st1, nF, nO⟩ := reserve hi.sim (.cells z.cells t) nb
        obtain ⟨c1, c2⟩ := cvL_rep (w := w.alloc (.cells z.cells t)) (F := F) (L := L) hzt
        have hpw := hd.pw
        have hnd := hd.nd
        rw [hπ] at hpw hnd
        have hpw2 := List.pairwise_append.1 hpw
        rw [List.map_append, List.map_cons, List.nodup_append] at hnd
        obtain ⟨n1, n2, n3⟩ := hnd
        have ne1 : ∀ x ∈ p1, d.i ≠ x.i := fun x hx hxi => n3 _ (List.mem_map.2 ⟨x, hx, rfl⟩) _ (by simp) hxi.symm
        have ne2 : ∀ x ∈ p2, d.i ≠ x.i := fun x hx hxi => (List.nodup_cons.1 n2).1 (by rw [hxi]; exact List.mem_map.2 ⟨x, hx, rfl⟩)
        have hddst : d.o.dst = some dd := by rw [hdo]
        have hoth : ∀ x ∈ π, x.i ≠ d.i → x.o.dst ≠ some dd := by
          intro x hx hxi
          rw [hπ, List.mem_append] at hx
          rcases hx with hx | hx
          · exact ((pairOk_spec (hpw2.2.2 x hx d (by simp)).1).1 dd hddst).2.1
          · rcases List.mem_cons.1 hx with rfl | hx
            · exact absurd rfl hxi
            · intro hxd
              exact ((pairOk_spec ((List.pairwise_cons.1 hpw2.2.1).1 x hx).1).1 dd hxd).2.1 hddst
        have hps : (a.put (some dd) (.pointer (some ⟨w.heap.size, 0, none⟩))).tmps.size = a.tmps.size := by simp [Act.put]
        have hpo : ∀ j, dd ≠ j → (a.put (some dd) (.pointer (some ⟨w.heap.size, 0, none⟩))).tmps[j]? = a.tmps[j]? := fun j hj => by
          simp only [Act.put]; rw [Array.getElem?_setIfInBounds_ne hj]
        have hrun : runD C π (put e (some dd) .any) b l Q := by
          have hr := hi.run
          rw [hπ, hdeq] at hr ⊢
          refine runD_put hCm (selfOk_spec hself (.inr hal) dd hddst).2 (fun c hc => ?_) hr
          have := (pairOk_spec (hpw2.2.2 c hc d (by simp)).1).1 dd hddst
          exact ⟨this.1 (.inr hal) (.inr (.inr hal)), this.2.1, this.2.2 hal⟩
        have old : ∀ c ∈ π, c.i ≠ d.i → (listed.setIfInBounds d.i true).getD c.i false = true → listed.getD c.i false = true := fun c hc hci hcl => by rw [getD_set_ne false hci.symm] at hcl; exact hcl
        have lt : ∀ c ∈ π, listed.getD c.i false = true → f c.i < w.heap.size := fun c hc hcl => by
          obtain ⟨_, _, cur, T, _, _, _, h4, _⟩ := hi.res c hc hcl
          exact (Array.getElem?_eq_some_iff.1 h4).1
        have uniq : ∀ c ∈ π, c.i = d.i → c = d := by
          intro c hc hci
          rw [hπ, List.mem_append] at hc
          rcases hc with hc | hc
          · exact absurd hci.symm (ne1 c hc)
          · rcases List.mem_cons.1 hc with h | hc
            · exact h
            · exact absurd hci.symm (ne2 c hc)
        refine ih π (listed.setIfInBounds d.i true) ?_ ⟨setSize, fun j hj hjl => ?_, fun c hc hcl => ?_, hd.lt, setCl, hd.nd, hd.facts, hd.pw⟩ (put e (some dd) .any) b l F L _ _ (fun i => if i = d.i then w.heap.size else f i)
          ⟨hrun, hi.len, s1, (hi.env.mono (fun _ h => h) (st1.immEq hi.sim) (fun _ _ _ h => h)).put (some dd) (RepA.any _), hi.step.trans st1, fun c hc hcl => ?_, fun c hc c' hc' hcl hcl' hcc => ?_⟩
        · have e1 := filt_set (listed := listed) ne1
          have e2 := filt_set (listed := listed) ne2
          rw [hπ, List.filter_append, List.filter_cons] at hn ⊢
          rw [e1, e2]
          rw [hdl] at hn
          have : (listed.setIfInBounds d.i true).getD d.i false = true := by simp [hdls]
          rw [this]
          simp at hn ⊢
          omega
        · by_cases hjd : d.i = j
          · subst hjd; simp [hdls] at hjl
          · rw [getD_set_ne true hjd] at hjl; exact hd.unl j hj hjl
        · by_cases hci : c.i = d.i
          · rw [uniq c hc hci]; exact hal
          · exact hd.al c hc (old c hc hci hcl)
        · by_cases hci : c.i = d.i
          · rw [if_pos hci, uniq c hc hci]
            refine ⟨zs, dd, z.cells, t, hdo, fun hdd => ?_, hi.step.size, ?_, ?_, fun j x hx => ?_, nF, nO⟩
            · simp only [Act.put] at hdd ⊢
              rw [Array.getElem?_setIfInBounds]
              simp at hdd ⊢
              exact hdd
            · show (w.heap.push _)[w.heap.size]? = _
              simp
            · have := c1.1; simp at this; omega
            · obtain ⟨y, rfl⟩ := cvL_v hzt x (List.mem_of_getElem? hx)
              obtain ⟨u, hu, hr⟩ := c1.get hx
              cases hr with
              | v _ _ hr => exact ⟨y, u, rfl, by simpa using hu, hr⟩
          · rw [if_neg hci]
            refine (hi.res c hc (old c hc hci hcl)).step hi.sim st1 (fun j hj => ⟨hps, hpo j ?_⟩)
            rintro rfl
            exact hoth c hc hci hj
        · by_cases hci : c.i = d.i
          · by_cases hci' : c'.i = d.i
            · rw [hci, hci']
            · rw [if_pos hci, if_neg hci'] at hcc
              have := lt c' hc' (old c' hc' hci' hcl')
              omega
          · by_cases hci' : c'.i = d.i
            · rw [if_neg hci, if_pos hci'] at hcc
              have := lt c hc (old c hc hci hcl)
              omega
            · rw [if_neg hci, if_neg hci'] at hcc
              exact hi.inj c hc c' hc' (old c hc hci hcl) (old c' hc' hci' hcl') hcc
      · obtain ⟨p1, p2, hπ⟩ := List.append_of_mem hdm
        subst hπ
        have hal : d.o.op.isAlloc = false := by simpa using hal
        have hnotA : ∀ x, x ∈ p1 → listed.getD x.i false = false → anc ops x.i ops.size d.i = false := by
          intro x hx hxl
          cases ha : anc ops x.i ops.size d.i with
          | false => rfl
          | true =>
            have hl := anc_listed hd.cl (fun o2 ho2 ed hed hbd => by rw [ho] at ho2; cases ho2; exact hj2 ed hed hbd) ha
            rw [hxl] at hl; cases hl
        have hpwO := List.pairwise_append.1 hd.pw
        have hqO : ∀ x ∈ p1, x.o.op.quiet = true ∨ listed.getD x.i false = true := by
          intro x hx
          cases hxl : listed.getD x.i false with
          | true => exact .inr rfl
          | false =>
            refine .inl ((((pairOk_spec (hpwO.2.2 x hx d (by simp)).1).2.1 (hnotA x hx hxl)).1).resolve_right ?_)
            rw [hal]; simp
        obtain ⟨q1, e', l', L', k1, k2, k3, hd', hi'⟩ := adoptAll hCm p1.length p1 e b l L rfl hqO (rest := d :: p2) hd hi
        have hpw2 := List.pairwise_append.1 hd'.pw
        have hq : ∀ x ∈ q1, x.o.op.quiet = true := fun x hx => (k1 x hx).1
        have hql : ∀ x ∈ q1, listed.getD x.i false = false := by
          intro x hx
          cases hxl : listed.getD x.i false with
          | false => rfl
          | true =>
            have := hd'.al x (by simp [hx]) hxl
            rw [quiet_not_alloc (hq x hx)] at this; cases this
        have hnot : ∀ x ∈ q1, anc ops x.i ops.size d.i = false := fun x hx => hnotA x (k1 x hx).2 (hql x hx)
        have hpr : ∀ x ∈ q1, PairR ops fin x d := fun x hx => hpw2.2.2 x hx d (by simp)
        have hstep := bubble hCm hi'.run (fun x hx => ⟨hq x hx, (hd'.facts x (by simp [hx])).2.1 (hq x hx)⟩) (qapart_of (fun x hx => ⟨hq x hx, (pairOk_spec (hpr x hx).1).2.2⟩) (fun x hx => (hd'.facts x (by simp [hx])).1) hpw2.1)
          (fun x hx n hn => ⟨((pairOk_spec (hpr x hx).1).1 n hn).1 (.inl (hq x hx)) (.inr (.inl (hnot x hx))), ((pairOk_spec (hpr x hx).1).1 n hn).2.1⟩) (fun x hx n hn => ((pairOk_spec (hpr x hx).1).2.1 (hnot x hx)).2 n hn)
          (by
            cases hqd : d.o.op.quiet with
            | true => exact .inl rfl
            | false => exact .inr fun x hx => ((hpr x hx).2 (hq x hx) (hnot x hx)).resolve_left (by rw [hqd]; simp))
        have hsub : (q1 ++ p2).Sublist (q1 ++ d :: p2) := List.Sublist.append (List.Sublist.refl _) (List.sublist_cons_self _ _)
        have hnd := hd'.nd
        rw [List.map_append, List.map_cons, List.nodup_append] at hnd
        obtain ⟨n1, n2, n3⟩ := hnd
        have ne1 : ∀ x ∈ q1, d.i ≠ x.i := fun x hx hxi => n3 _ (List.mem_map.2 ⟨x, hx, rfl⟩) _ (by simp) hxi.symm
        have ne2 : ∀ x ∈ p2, d.i ≠ x.i := fun x hx hxi => (List.nodup_cons.1 n2).1 (by rw [hxi]; exact List.mem_map.2 ⟨x, hx, rfl⟩)
        have ne : ∀ x ∈ q1 ++ p2, d.i ≠ x.i := fun x hx => (List.mem_append.1 hx).elim (ne1 x) (ne2 x)
        have old : ∀ c ∈ q1 ++ p2, (listed.setIfInBounds d.i true).getD c.i false = true → listed.getD c.i false = true := fun c hc hcl => by rw [getD_set_ne false (ne c hc)] at hcl; exact hcl
        have next : ∀ e2 b2 l2 F2 L2 a2 w2, runD C (q1 ++ p2) e2 b2 l2 Q → Sim F2 L2 (b2 ++ l2) w2 → EnvR w2 F2 L2 e2 a2 → Step nb F L' (b ++ l') w F2 L2 (b2 ++ l2) w2 → b2.length = nb → (∃ v, a2 = a.put d.o.dst v) → wpAny P .any ops Q' n (listed.setIfInBounds d.i true) a2 w2 := by
          rintro e2 b2 l2 F2 L2 a2 w2 hk s2 he2 st2 hb2 ⟨v, rfl⟩
          refine ih (q1 ++ p2) (listed.setIfInBounds d.i true) ?_ ⟨setSize, fun j hj hjl => ?_, fun c hc hcl => hd'.al c (hsub.subset hc) (old c hc hcl), fun c hc => hd'.lt c (hsub.subset hc), setCl, hd'.nd.sublist (hsub.map _), fun c hc => hd'.facts c (hsub.subset hc), hd'.pw.sublist hsub⟩ e2 b2 l2 F2 L2 w2 _ f
            ⟨hk, hb2, s2, he2, hi'.step.trans st2, fun c hc hcl => ?_, fun c hc c' hc' hcl hcl' hcc => hi'.inj c (hsub.subset hc) c' (hsub.subset hc') (old c hc hcl) (old c' hc' hcl') hcc⟩
          · rw [List.filter_append, List.filter_cons, hdl] at hn
            rw [filt_set ne, List.filter_append, k3]
            simp at hn ⊢
            omega
          · by_cases hjd : d.i = j
            · subst hjd; simp [hdls] at hjl
            · rw [getD_set_ne true hjd] at hjl
              have := hd'.unl j hj hjl
              simp only [List.map_append, List.map_cons, List.mem_append, List.mem_cons] at this ⊢
              rcases this with h1 | h1 | h1
              · exact .inl h1
              · exact absurd h1.symm hjd
              · exact .inr h1
          · refine (hi'.res c (hsub.subset hc) (old c hc hcl)).step hi'.sim st2 (fun j hj => ⟨by cases hdd : d.o.dst <;> simp [Act.put], ?_⟩)
            have hcp : c ∈ p2 := by
              refine (List.mem_append.1 hc).resolve_left (fun h => ?_)
              have := hql c h
              rw [old c hc hcl] at this; cases this
            have hdj : d.o.dst ≠ some j := ((pairOk_spec ((List.pairwise_cons.1 hpw2.2.1).1 c hcp).1).1 j hj).2.1
            cases hdd : d.o.dst with
            | none => rfl
            | some m =>
              have : m ≠ j := fun e => hdj (by rw [hdd, e])
              simp only [Act.put]
              rw [Array.getElem?_setIfInBounds_ne this]
        unfold wpOp
        rw [ho]
        simp only
        unfold gcase at hstep
        split at hstep
        case h_2 => exact hstep.elim
        rename_i t hg
        rw [gd_ok hi'.env hc2 hg]
        cases t
        · simp only [Bool.false_eq_true, if_false] at hstep ⊢
          rw [← hc3]
          exact next _ _ _ F L' _ w hstep hi'.sim (hi'.env.put d.o.dst (RepA.undef _ _ _)) (Step.refl _ _ _ _ _) hi'.len ⟨_, rfl⟩
        · simp only [if_true] at hstep ⊢
          rw [hc3] at hstep
          refine .inl (op_ok hc1 hC (K := fun e b l => runD C (q1 ++ p2) e b l Q) hstep hi'.sim hi'.env Q' ?_)
          intro e2 b2 l2 F2 L2 a2 w2 hk s2 he2 st2 hb2 ha2
          exact next e2 b2 l2 F2 L2 a2 w2 hk s2 he2 (hi'.len ▸ st2) (hb2.trans hi'.len) (by rw [hc3]; exact ha2)

theorem draw_ok {C : CallP} (hC : ∀ f args b l Q, C f args b l Q → ACalls P f args b l Q) (hCm : ∀ f args b l (Q Q' : AV → List Row → List Row → Prop), C f args b l Q → (∀ x b' l', Q x b' l' → Q' x b' l') → C f args b l Q')
    {id : Nat} {ops : Array Oper} {ds : List DOper} (hds : cDraw P ops = some ds) (e : List AV) (b l : List Row) {Q : AExit → List AV → List Row → List Row → Prop}
    (h : run C Weak (.draw ds) e b l Q) {F : Nat → Prop} {L : LMap} {w : World} {a : Act} (s : Sim F L (b ++ l) w) (he : EnvR w F L e a) :
    (Code.region id ops true).wp P (Aft b.length F L (b ++ l) w Q) a w := by
  unfold cDraw at hds
  split at hds
  case h_2 => cases hds
  rename_i aos haos
  simp only at hds
  split at hds
  case isFalse => cases hds
  rename_i hb
  obtain ⟨hmix, hedge, hallo, hpairs, hlen, hnd, hall⟩ := hb
  cases hds
  obtain ⟨m1, m2⟩ := mkD_facts (ops := ops) (aos := aos) (is := orderD ops (aos.map (·.op.quiet)) (aos.map (·.op.isAlloc)) ops.size (List.range ops.size) []) (done := [])
  generalize hdsd : mkD ops aos [] (orderD ops (aos.map (·.op.quiet)) (aos.map (·.op.isAlloc)) ops.size (List.range ops.size) []) = ds at *
  obtain ⟨g1, g2⟩ := pairsOk_spec hpairs
  obtain ⟨k1, k2⟩ := cOps_get haos
  have hmem : ∀ j, j < ops.size → j ∈ ds.map (·.i) := fun j hj => by
    have := List.all_eq_true.1 hall j (by simpa using hj)
    simpa using this
  have hfacts : ∀ d ∈ ds, d.i < ops.size ∧ ∃ o, ops[d.i]? = some o ∧ cOp P o.op = some d.o.op ∧ cGuard ops o.guard = some d.o.guard ∧ d.o.dst = o.dst := by
    intro d hd
    obtain ⟨o, ho, h1, h2, h3⟩ := k2 d.i d.o (m1 d hd).1
    have ho' : ops[d.i]? = some o := by simpa using ho
    exact ⟨(Array.getElem?_eq_some_iff.1 ho').1, o, ho', h1, h2, h3⟩
  have hs' : Sim F L (b ++ l) { w with drawn := w.drawn + 1 } := s.same rfl
  have he' : EnvR { w with drawn := w.drawn + 1 } F L e a := he.mono (fun _ h => h) (fun _ _ => rfl) (fun _ _ _ h => h)
  have hnl : ∀ i : Nat, (Array.replicate ops.size false).getD i false = false := fun i => by
    by_cases hi : i < ops.size <;> simp [hi]
  refine wp_region_any hmix (draw_any hC hCm hedge (nb := b.length) (F0 := F) (L0 := L) (h0 := b ++ l) (w0 := w) (Q := Q .normal) (Q' := Aft b.length F L (b ++ l) w Q) ?_ ops.size ds (Array.replicate ops.size false) ?_
    ⟨by simp, fun j hj _ => hmem j hj, fun d _ hl => (by rw [hnl] at hl; cases hl), fun d hd => (hfacts d hd).1, fun j o _ hl => (by rw [hnl] at hl; cases hl), hnd, fun d hd => ⟨g1 d hd, (m1 d hd).2.1, List.all_eq_true.1 hallo _ (List.mem_of_getElem? (m1 d hd).1), (hfacts d hd).2⟩, List.Pairwise.and g2 m2 |>.imp (fun h => ⟨h.1, h.2⟩)⟩
    e b l F L _ a (fun _ => 0) ⟨h, rfl, hs', he', Step.same rfl rfl rfl rfl, fun d _ hl => (by rw [hnl] at hl; cases hl), fun d _ _ _ hl => (by rw [hnl] at hl; cases hl)⟩)
  · intro e2 b2 l2 F2 L2 a2 w2 hq s2 he2 st2 hb2
    exact ⟨.normal, e2, b2, l2, F2, L2, trivial, s2, he2, st2, hb2, hq⟩
  · rw [List.filter_eq_self.2 (fun d _ => by rw [hnl]; rfl)]
    simpa using hlen

theorem run_sound {C : CallP} (hC : ∀ f args b l Q, C f args b l Q → ACalls P f args b l Q) (hCm : ∀ f args b l (Q Q' : AV → List Row → List Row → Prop), C f args b l Q → (∀ x b' l', Q x b' l' → Q' x b' l') → C f args b l Q') : ∀ (code : Code) (ac : ACode), cCode P code = some ac → ∀ e b l Q, run C Weak ac e b l Q →
    ∀ F L w a, Sim F L (b ++ l) w → EnvR w F L e a → code.wp P (Aft b.length F L (b ++ l) w Q) a w := by
  intro code
  induction code with
  | skip =>
    intro ac hc e b l Q h F L w a s he
    cases hc
    exact wp_skip ⟨.normal, e, b, l, F, L, trivial, s, he, Step.refl _ _ _ _ _, rfl, h⟩
  | region id ops draw =>
    intro ac hc e b l Q h F L w a s he
    simp only [cCode] at hc
    cases draw
    case true =>
      simp only [if_true] at hc
      obtain ⟨ds, hds, rfl⟩ := map_some hc
      exact draw_ok hC hCm hds e b l h s he
    simp only [Bool.false_eq_true, if_false] at hc
    obtain ⟨aos, hao, rfl⟩ := map_some hc
    refine wp_region (ops_ok hC ops ops.toList (List.range ops.size) aos hao ?_ e b l h rfl F L w a s he (Step.refl _ _ _ _ _) ?_)
    · apply List.ext_getElem?
      intro i
      simp only [List.getElem?_map]
      by_cases hi : i < ops.size
      · simp [hi]
      · simp [hi]
    · intro e' b' l' F' L' a' w' hq s' he' st hb
      exact ⟨.normal, e', b', l', F', L', trivial, s', he', st, hb, hq⟩
  | seq x y ihx ihy =>
    intro ac hc e b l Q h F L w a s he
    simp only [cCode] at hc
    split at hc
    case h_2 => cases hc
    rename_i x' y' hx hy
    cases hc
    refine wp_seq (wp_mono (ihx x' hx e b l _ h F L w a s he) ?_)
    rintro ex a1 w1 ⟨ax, e1, b1, l1, F1, L1, hex, s1, he1, st1, hb1, hq⟩
    cases ex <;> cases ax <;> first | exact hex.elim | skip
    · simp only [Exit.then]
      refine wp_mono (ihy y' hy e1 b1 l1 Q hq F1 L1 w1 a1 s1 he1) ?_
      rintro ex2 a2 w2 ⟨ax2, e2, b2, l2, F2, L2, hex2, s2, he2, st2, hb2, hq2⟩
      exact ⟨ax2, e2, b2, l2, F2, L2, hex2, s2, he2, st1.trans (hb1 ▸ st2), hb2.trans hb1, hq2⟩
    · exact ⟨_, e1, b1, l1, F1, L1, hex, s1, he1, st1, hb1, hq⟩
    · exact ⟨_, e1, b1, l1, F1, L1, hex, s1, he1, st1, hb1, hq⟩
  | cond c x y ihx ihy =>
    intro ac hc e b l Q h F L w a s he
    simp only [cCode] at hc
    split at hc
    case h_2 => cases hc
    rename_i c' x' y' hcc hx hy
    cases hc
    simp only [run] at h
    have hr := ev_rep he hcc
    generalize ev e c' = q at *
    split at h
    case h_2 => exact h.elim
    rename_i t
    refine wp_cond (repB hr) ?_
    cases t
    · simp only [Bool.false_eq_true, if_false] at h ⊢
      exact ihy y' hy e b l Q h F L w a s he
    · simp only [if_true] at h ⊢
      exact ihx x' hx e b l Q h F L w a s he
  | block id c ih =>
    intro ac hc e b l Q h F L w a s he
    simp only [cCode] at hc
    obtain ⟨c', hcc, rfl⟩ := map_some hc
    refine wp_block (wp_mono (ih c' hcc e b l _ h F L w a s he) ?_)
    rintro ex a1 w1 ⟨ax, e1, b1, l1, F1, L1, hex, s1, he1, st1, hb1, hq⟩
    cases ex <;> cases ax <;> first | exact hex.elim | skip
    · exact ⟨.normal, e1, b1, l1, F1, L1, trivial, s1, he1, st1, hb1, hq⟩
    · rename_i i j
      have hij : i = j := hex
      subst hij
      simp only [Exit.inBlock]
      simp only [blkQ] at hq
      split
      · rename_i hi; rw [if_pos hi] at hq; exact ⟨.normal, e1, b1, l1, F1, L1, trivial, s1, he1, st1, hb1, hq⟩
      · rename_i hi; rw [if_neg hi] at hq; exact ⟨.exit i, e1, b1, l1, F1, L1, rfl, s1, he1, st1, hb1, hq⟩
    · exact ⟨.ret, e1, b1, l1, F1, L1, trivial, s1, he1, st1, hb1, hq⟩
  | loop c ih =>
    intro ac hc e b l Q h F L w a s he
    simp only [cCode] at hc
    obtain ⟨c', hcc, rfl⟩ := map_some hc
    obtain ⟨I, ⟨e0, b0, l0, m0, hw0, hI0⟩, hround⟩ := h
    obtain ⟨F0, L0, s0, he0, st0, hb0⟩ := hw0 F L w a s he
    refine wp_loop_ghost (fun n a1 w1 => ∃ e1 b1 l1 F1 L1, Sim F1 L1 (b1 ++ l1) w1 ∧ EnvR w1 F1 L1 e1 a1 ∧ Step b.length F L (b ++ l) w F1 L1 (b1 ++ l1) w1 ∧ b1.length = b.length ∧ I e1 b1 l1 n) m0 ⟨e0, b0, l0, F0, L0, s0, he0, st0, hb0, hI0⟩ ?_
    rintro n a1 w1 ⟨e1, b1, l1, F1, L1, s1, he1, st1, hb1, hI1⟩
    refine wp_mono (ih c' hcc e1 b1 l1 _ (hround e1 b1 l1 n hI1) F1 L1 w1 a1 s1 he1) ?_
    rintro ex a2 w2 ⟨ax, e2, b2, l2, F2, L2, hex, s2, he2, st2, hb2, hq⟩
    have st12 := st1.trans (hb1 ▸ st2)
    cases ex <;> cases ax <;> first | exact hex.elim | skip
    · obtain ⟨e3, b3, l3, m3, hw3, hI3, hlt⟩ := hq
      obtain ⟨F3, L3, s3, he3, st3, hb3⟩ := hw3 F2 L2 w2 a2 s2 he2
      have hbb : b2.length = b.length := hb2.trans hb1
      exact ⟨m3, hlt, e3, b3, l3, F3, L3, s3, he3, st12.trans (hbb ▸ st3), hb3.trans hbb, hI3⟩
    · exact ⟨_, e2, b2, l2, F2, L2, hex, s2, he2, st12, hb2.trans hb1, hq⟩
    · exact ⟨_, e2, b2, l2, F2, L2, hex, s2, he2, st12, hb2.trans hb1, hq⟩
  | exit i =>
    intro ac hc e b l Q h F L w a s he
    cases hc
    exact wp_exit ⟨.exit i, e, b, l, F, L, rfl, s, he, Step.refl _ _ _ _ _, rfl, h⟩
  | ret =>
    intro ac hc e b l Q h F L w a s he
    cases hc
    exact wp_ret ⟨.ret, e, b, l, F, L, trivial, s, he, Step.refl _ _ _ _ _, rfl, h⟩
  | rangeFunc f ps az c ih1 ih2 => intro ac hc; cases hc
  | scope c ih => intro ac hc; cases hc
  | label i => intro ac hc; cases hc
  | goto i => intro ac hc; cases hc
  | refuse y => intro ac hc; cases hc

theorem stepR_mono {C : CallP} (hCm : ∀ f args b l (Q Q' : AV → List Row → List Row → Prop), C f args b l Q → (∀ x b' l', Q x b' l' → Q' x b' l') → C f args b l Q') {b l : List Row} {K K' : AV → List Row → List Row → Prop} {r : OpR} (h : stepR C b l K r) (hk : ∀ x b l, K x b l → K' x b l) : stepR C b l K' r := by
  cases r with
  | val x b' l' => exact hk _ _ _ h
  | two c x y => exact ⟨fun hc => hk _ _ _ (h.1 hc), hk _ _ _ h.2⟩
  | call f az => exact hCm _ _ _ _ _ _ h hk
  | bad => exact h
theorem gcase_mono {t : Option Bool} {A B A' B' : Prop} (h : gcase t A B) (h1 : A → A') (h2 : B → B') : gcase t A' B' := by
  unfold gcase at *
  cases t with
  | none => exact h
  | some t => cases t <;> simp at h ⊢ <;> first | exact h1 h | exact h2 h
theorem runOps_mono {C : CallP} (hCm : ∀ f args b l (Q Q' : AV → List Row → List Row → Prop), C f args b l Q → (∀ x b' l', Q x b' l' → Q' x b' l') → C f args b l Q') {K K' : List AV → List Row → List Row → Prop} (hk : ∀ e b l, K e b l → K' e b l) :
    ∀ {os : List AOper} {e : List AV} {b l : List Row}, runOps C os e b l K → runOps C os e b l K'
  | [], e, b, l, h => hk _ _ _ h
  | o :: os, e, b, l, h => gcase_mono h (fun h => stepR_mono hCm h (fun x b l h => runOps_mono hCm hk h)) (fun h => runOps_mono hCm hk h)
theorem runD_mono {C : CallP} (hCm : ∀ f args b l (Q Q' : AV → List Row → List Row → Prop), C f args b l Q → (∀ x b' l', Q x b' l' → Q' x b' l') → C f args b l Q') {K K' : List AV → List Row → List Row → Prop} (hk : ∀ e b l, K e b l → K' e b l) :
    ∀ {ds : List DOper} {e : List AV} {b l : List Row}, runD C ds e b l K → runD C ds e b l K'
  | [], e, b, l, h => hk _ _ _ h
  | d :: ds, e, b, l, h => gcase_mono h (fun h => stepR_mono hCm h (fun x b l h => ⟨h.1, runD_mono hCm hk h.2⟩)) (fun h => runD_mono hCm hk h)
theorem run_mono' {C : CallP} (hCm : ∀ f args b l (Q Q' : AV → List Row → List Row → Prop), C f args b l Q → (∀ x b' l', Q x b' l' → Q' x b' l') → C f args b l Q') {W : WeakP} : ∀ {c : ACode} {e : List AV} {b l : List Row} {Q Q' : AExit → List AV → List Row → List Row → Prop},
    run C W c e b l Q → (∀ ex e b l, Q ex e b l → Q' ex e b l) → run C W c e b l Q' := by
  intro c
  induction c with
  | skip => intro e b l Q Q' h hq; exact hq _ _ _ _ h
  | region ops => intro e b l Q Q' h hq; exact runOps_mono hCm (fun _ _ _ h => hq _ _ _ _ h) h
  | draw ds => intro e b l Q Q' h hq; exact runD_mono hCm (fun _ _ _ h => hq _ _ _ _ h) h
  | seq x y ihx ihy =>
    intro e b l Q Q' h hq
    refine ihx (Q := seqQ (fun e b l => run C W y e b l Q) Q) h ?_
    intro ex e b l h
    cases ex with
    | normal => exact ihy (Q := Q) h hq
    | exit i => exact hq _ _ _ _ h
    | ret => exact hq _ _ _ _ h
  | cond c x y ihx ihy =>
    intro e b l Q Q' h hq
    simp only [run] at h ⊢
    split at h
    · split at h
      · rename_i ht; rw [if_pos ht]; exact ihx h hq
      · rename_i ht; rw [if_neg ht]; exact ihy h hq
    · exact h
  | block i c ih =>
    intro e b l Q Q' h hq
    refine ih (Q := blkQ i Q) h ?_
    intro ex e b l h
    cases ex with
    | normal => exact hq _ _ _ _ h
    | exit j =>
      simp only [blkQ] at h ⊢
      split
      · rename_i hj; rw [if_pos hj] at h; exact hq _ _ _ _ h
      · rename_i hj; rw [if_neg hj] at h; exact hq _ _ _ _ h
    | ret => exact hq _ _ _ _ h
  | loop c ih =>
    rintro e b l Q Q' ⟨I, h1, h2⟩ hq
    refine ⟨I, h1, fun e b l m hI => ih (h2 e b l m hI) ?_⟩
    intro ex e b l h
    cases ex with
    | normal => exact h
    | exit j => exact hq _ _ _ _ h
    | ret => exact hq _ _ _ _ h
  | exit i => intro e b l Q Q' h hq; exact hq _ _ _ _ h
  | ret => intro e b l Q Q' h hq; exact hq _ _ _ _ h

/-- The results of a function. -/
theorem res_ok {w : World} {F : Nat → Prop} {L : LMap} {b l : List Row} {e : List AV} {a : Act} (s : Sim F L (b ++ l) w) (he : EnvR w F L e a) (g : ResultVar → Sem Value)
    (hg1 : ∀ t, g (.tmp t) = pure (a.tmps.getD t undef)) (hg2 : ∀ p t, g (.cell p t) = (do loadVar t (← asAddr (a.tmps.getD p undef)))) : ∀ {rs : List ResultVar} {ars : List ARes} {xs : List AV}, cRes P rs = some ars → resVs e b l ars = some xs →
    ∃ vs : List Value, (rs.mapM g).run P w = .ok vs w ∧ RepL w F L xs vs
  | [], ars, xs, hc, h => by
    simp [cRes] at hc
    subst hc
    simp [resVs] at h
    subst h
    exact ⟨[], by simp, RepL.nil⟩
  | .tmp t :: rs, ars, xs, hc, h => by
    simp only [cRes] at hc
    obtain ⟨ars', hc', rfl⟩ := map_some hc
    simp only [resVs, resV] at h
    split at h
    case h_2 => cases h
    rename_i x ys h1 h2
    cases h1
    cases h
    obtain ⟨vs, h3, h4⟩ := res_ok s he g hg1 hg2 hc' h2
    refine ⟨a.tmps.getD t undef :: vs, ?_, RepL.cons (he.nth t) h4⟩
    rw [List.mapM_cons]
    simp only [Sem.run_bind, Sem.run_pure, Result.andThen_ok, hg1, h3]
  | .cell p t :: rs, ars, xs, hc, h => by
    simp only [cRes] at hc
    split at hc
    case h_2 => cases hc
    rename_i n ars' hn hc'
    cases hc
    simp only [resVs, resV] at h
    split at h
    case h_2 => cases h
    rename_i x ys h1 h2
    cases h
    split at h1
    case h_2 => cases h1
    rename_i x' b1 l1 hld
    cases h1
    obtain ⟨blk, q, u, g1, g2, g3, _, _⟩ := aload_ok (P := P) s hn (he.nth p) hld
    obtain ⟨vs, h3, h4⟩ := res_ok s he g hg1 hg2 hc' h2
    refine ⟨u :: vs, ?_, RepL.cons g3 h4⟩
    rw [List.mapM_cons]
    have hra : (asAddr (a.tmps.getD p undef)).run P w = .ok ⟨blk, q, none⟩ w := by rw [g1]; rfl
    simp only [Sem.run_bind, Sem.run_pure, Result.andThen_ok, hg2, hra, g2, h3]

/-- What a function's body leaves: its results, and the rows, as the caller has them. -/
def Leaves (rs : List ARes) (Q : AV → List Row → List Row → Prop) (nb : Nat) : AExit → List AV → List Row → List Row → Prop := fun ex e b l =>
  (ex = .normal ∨ ex = .ret) ∧ ∃ xs, resVs e b l rs = some xs ∧ ∃ y b' l', Weak [one xs] b l [y] b' l' ∧ Q y (b'.take nb) (b'.drop nb ++ l')

/-- Every reference lies below row m. -/
inductive AVlt (m : Nat) : AV → Prop where
  | any : AVlt m AV.any
  | v (x : IV) : AVlt m (.v x)
  | agg (cs : List AV) (h : ∀ c ∈ cs, AVlt m c) : AVlt m (.agg cs)
  | tup (cs : List AV) (h : ∀ c ∈ cs, AVlt m c) : AVlt m (.tup cs)
  | sl (id ver off len : Nat) (h : id < m) : AVlt m (.sl id ver off len)
  | ptr (id ver k j : Nat) (h : id < m) : AVlt m (.ptr id ver k j)
  | fn (f : Nat) (cs : List AV) (h : ∀ c ∈ cs, AVlt m c) : AVlt m (.fn f cs)
  | mp (id ver : Nat) (h : id < m) : AVlt m (.mp id ver)
def RowsLt (m : Nat) (h : List Row) : Prop := ∀ (id ver sz : Nat) (els : List (List AV)), h[id]? = some (Row.live ver sz els) → ∀ row ∈ els, ∀ c ∈ row, AVlt m c

theorem RepA.lt {w : World} {F : Nat → Prop} {L : LMap} {x : AV} {v : Value} (h : RepA w F L x v) {m : Nat} (hL : ∀ id ver l, L id ver = some l → id < m) : AVlt m x := by
  have sub : ∀ {cs : List AV} {vs : Array Value}, cs.length = vs.size → (∀ (i : Nat) (a : AV) (v : Value), cs[i]? = some a → vs[i]? = some v → AVlt m a) → ∀ c ∈ cs, AVlt m c := by
    intro cs vs hl h c hc
    obtain ⟨i, hi⟩ := List.mem_iff_getElem?.1 hc
    have hlt : i < vs.size := by rw [← hl]; exact (List.getElem?_eq_some_iff.1 hi).1
    exact h i c vs[i] hi (Array.getElem?_eq_getElem hlt)
  induction h with
  | any v => exact .any
  | v x v h => exact .v x
  | agg cs vs hl _ ih => exact .agg cs (sub hl ih)
  | tup cs vs hl _ ih => exact .tup cs (sub hl ih)
  | sl id ver off len b o sz cap h1 h2 h3 => exact .sl id ver off len (hL _ _ _ h1)
  | slz id ver off b o sz cap x h1 h2 => exact .sl id ver off 0 (hL _ _ _ h1)
  | sln id ver ad h1 => exact .sl id ver 0 0 (hL _ _ _ h1)
  | ptr id ver k j b o sz cap h1 => exact .ptr id ver k j (hL _ _ _ h1)
  | fn f cs vs hl _ ih => exact .fn f cs (sub hl ih)
  | mp id ver b h1 => exact .mp id ver (hL _ _ _ h1)

theorem RepA.cut {w : World} {F : Nat → Prop} {L L' : LMap} {x : AV} {v : Value} (h : RepA w F L x v) {m : Nat} (hx : AVlt m x) (hL : ∀ id ver, id < m → L' id ver = L id ver) : RepA w F L' x v := by
  induction h with
  | any v => exact .any v
  | v x v h => exact .v x v h
  | agg cs vs hl _ ih => cases hx with | agg _ h => exact .agg cs vs hl (fun i a v hi hv => ih i a v hi hv (h a (List.mem_of_getElem? hi)))
  | tup cs vs hl _ ih => cases hx with | tup _ h => exact .tup cs vs hl (fun i a v hi hv => ih i a v hi hv (h a (List.mem_of_getElem? hi)))
  | sl id ver off len b o sz cap h1 h2 h3 => cases hx with | sl _ _ _ _ h => exact .sl id ver off len b o sz cap (by rw [hL _ _ h]; exact h1) h2 h3
  | slz id ver off b o sz cap x h1 h2 => cases hx with | sl _ _ _ _ h => exact .slz id ver off b o sz cap x (by rw [hL _ _ h]; exact h1) h2
  | sln id ver ad h1 => cases hx with | sl _ _ _ _ h => exact .sln id ver ad (by rw [hL _ _ h]; exact h1)
  | ptr id ver k j b o sz cap h1 => cases hx with | ptr _ _ _ _ h => exact .ptr id ver k j b o sz cap (by rw [hL _ _ h]; exact h1)
  | fn f cs vs hl _ ih => cases hx with | fn _ _ h => exact .fn f cs vs hl (fun i a v hi hv => ih i a v hi hv (h a (List.mem_of_getElem? hi)))
  | mp id ver b h1 => cases hx with | mp _ _ h => exact .mp id ver b (by rw [hL _ _ h]; exact h1)

theorem Sim.rowsLt {F : Nat → Prop} {L : LMap} {h : List Row} {w : World} (s : Sim F L h w) : RowsLt h.length h := by
  intro id ver sz els hr row hrow c hc
  obtain ⟨l, h1, h2⟩ := s.row id ver sz els hr
  cases l with
  | nil =>
    have h2 : els = [] := h2
    subst h2
    simp at hrow
  | pl b o z cap =>
    obtain ⟨_, _, _, cur, T, _, _, _, k8⟩ := h2
    obtain ⟨k, hk⟩ := List.mem_iff_getElem?.1 hrow
    obtain ⟨j, hj⟩ := List.mem_iff_getElem?.1 hc
    obtain ⟨_, v, _, hv⟩ := k8 k row j c hk hj
    exact hv.lt (fun id ver l hl => s.lt hl)
  | mp b =>
    obtain ⟨es, clk, _, k4, k5⟩ := h2
    obtain ⟨k, hk⟩ := List.mem_iff_getElem?.1 hrow
    have hke : k < es.size := by rw [k4]; exact (List.getElem?_eq_some_iff.1 hk).1
    obtain ⟨x, y, rfl, e1, e2⟩ := k5 k row es[k] hk (Array.getElem?_eq_getElem hke)
    simp only [List.mem_cons, List.not_mem_nil, or_false] at hc
    rcases hc with rfl | rfl
    · exact e1.lt (fun id ver l hl => s.lt hl)
    · exact e2.lt (fun id ver l hl => s.lt hl)

theorem calls_of {f : Nat} {af : AFunc} (hf : cFunc P f = some af) {args : List AV} (ha : args.length = af.nargs) {b l : List Row} {Q : AV → List Row → List Row → Prop}
    (h : ∀ B, B = b ++ l → RowsLt B.length B → (∀ x ∈ args, AVlt B.length x) → run (ACalls P) Weak af.body (args ++ List.replicate (af.ntmps - args.length) (.tup [])) B [] (Leaves af.res Q b.length)) : ACalls P f args b l Q := by
  unfold cFunc at hf
  split at hf
  case h_2 => cases hf
  rename_i fn hfn
  split at hf
  case isTrue => cases hf
  rename_i hname
  split at hf
  case h_2 => cases hf
  rename_i c hbody
  split at hf
  case h_2 => cases hf
  rename_i ac rs hcc hrs
  cases hf
  refine ⟨⟨fn, hfn, by simpa using hname, by rw [hbody]; rfl⟩, fun F L w vs s hr => ?_⟩
  refine calls_of_wp hfn hbody ?_
  have hvl : vs.size = args.length := by have := hr.1; simpa using this.symm
  have henv : EnvR w F L (args ++ List.replicate (fn.ntmps - args.length) (.tup [])) { tmps := vs ++ Array.replicate (fn.ntmps - vs.size) undef, defers := [] } := by
    refine ⟨rfl, by simp [hvl], fun i x v hx hv => ?_⟩
    by_cases hi : i < args.length
    · rw [List.getElem?_append_left hi] at hx
      rw [Array.getElem?_append_left (by omega)] at hv
      exact hr.2 i x v hx (by simpa using hv)
    · rw [List.getElem?_append_right (by omega), List.getElem?_replicate] at hx
      rw [Array.getElem?_append_right (by omega), Array.getElem?_replicate] at hv
      split at hx
      · split at hv
        · cases hx; cases hv; exact RepA.undef _ _ _
        · cases hv
      · cases hx
  refine wp_mono (run_sound (P := P) (fun _ _ _ _ _ h => h) ACalls_mono c ac hcc _ (b ++ l) [] _ (h _ rfl s.rowsLt (fun x hx => by
    obtain ⟨i, hi⟩ := List.mem_iff_getElem?.1 hx
    obtain ⟨v, _, hv⟩ := hr.get hi
    exact hv.lt (fun id ver l hl => s.lt hl))) F L w _ (by simpa using s) henv) ?_
  rintro ex a1 w1 ⟨ax, e1, b1, l1, F1, L1, hex, s1, he1, st1, hb1, hax, xs, hxs, y, b2, l2, hweak, hq⟩
  obtain ⟨us, hu1, hu2⟩ := res_ok (P := P) s1 he1 (fun
    | .tmp t => pure (a1.tmps.getD t undef)
    | .cell a t => do loadVar t (← asAddr (a1.tmps.getD a undef))) (fun _ => rfl) (fun _ _ => rfl) hrs hxs
  have hres : (results fn a1.tmps).run P w1 = .ok (if h : us.toArray.size = 1 then us.toArray[0] else .tuple us.toArray) w1 := by
    have hm : (fn.results.mapM (fun
        | .tmp t => pure (a1.tmps.getD t undef)
        | .cell a t => do loadVar t (← asAddr (a1.tmps.getD a undef)) : ResultVar → Sem Value)).run P w1 = .ok us.toArray w1 := by
      rw [Array.mapM_eq_mapM_toList]
      simp only [map_eq_pure_bind, Sem.run_bind, hu1, Result.andThen_ok, Sem.run_pure]
    unfold results
    rw [Sem.run_bind]
    erw [hm]
    rfl
  have hone : RepA w1 F1 L1 (one xs) (if h : us.toArray.size = 1 then us.toArray[0] else .tuple us.toArray) := by
    have hl := hu2.1
    cases xs with
    | nil =>
      have : us = [] := List.eq_nil_of_length_eq_zero (by simpa using hl.symm)
      subst this
      exact RepL.tup (by simpa using RepL.nil)
    | cons x xs =>
      cases xs with
      | nil =>
        cases us with
        | nil => simp at hl
        | cons u us =>
          have : us = [] := List.eq_nil_of_length_eq_zero (by simpa using hl)
          subst this
          simpa [one] using hu2.2 0 x u rfl rfl
      | cons x2 xs =>
        have h2 : ¬ us.toArray.size = 1 := by simp at hl ⊢; omega
        rw [dif_neg h2]
        exact RepL.tup (by simpa [one] using hu2)
  generalize hval : (if h : us.toArray.size = 1 then us.toArray[0] else Value.tuple us.toArray) = val at *
  obtain ⟨F2, L2, s2, he2, st2, hb2⟩ := hweak F1 L1 w1 { tmps := #[val], defers := [] } s1 ⟨rfl, rfl, fun i x v hx hv => by
    cases i with
    | zero => simp at hx hv; subst hx; subst hv; exact hone
    | succ i => simp at hx⟩
  have hd : a1.defers = [] := he1.1
  have hfin : ∃ v, (results fn a1.tmps).run P w1 = .ok v w1 ∧ ∃ v' x b' l' F' L', Ending.returned v = .returned v' ∧ RepA w1 F' L' x v' ∧ Sim F' L' (b' ++ l') w1 ∧ Step (b ++ l).length F L (b ++ l) w F' L' (b' ++ l') w1 ∧ b'.length = b.length ∧ Q x b' l' := by
    have hsplit : b2.take b.length ++ (b2.drop b.length ++ l2) = b2 ++ l2 := by rw [← List.append_assoc, List.take_append_drop]
    refine ⟨val, hres, val, y, b2.take b.length, b2.drop b.length ++ l2, F2, L2, rfl, he2.2.2 0 y val rfl rfl, by rw [hsplit]; exact s2, ?_, ?_, hq⟩
    · rw [hsplit]
      have h1 : b1.length = (b ++ l).length := hb1
      have := st1.trans (hb1 ▸ st2)
      simpa using this
    · have h1 : b1.length = (b ++ l).length := hb1
      have : b2.length = b.length + l.length := by rw [hb2, h1]; simp
      simp; omega
  cases ex <;> cases ax <;> first | exact hex.elim | skip
  · obtain ⟨v, q1, q2⟩ := hfin
    exact ⟨hd, v, q1, q2⟩
  · rcases hax with h | h <;> cases h
  · obtain ⟨v, q1, q2⟩ := hfin
    exact ⟨hd, v, q1, q2⟩
end
end Go.Proofs.Ytiiflkcebikecaa

/- What a proof by abstract runs uses: how states are weakened, loops, calls. No condition. -/
namespace Go.Proofs.Ytiiflkcebikecaa
set_option linter.unusedVariables false

/-! Runs with what follows kept as data. -/
section
variable (C : CallP) (W : WeakP)
def seqC (y : ACode) (Q : AExit → List AV → List Row → List Row → Prop) : AExit → List AV → List Row → List Row → Prop := seqQ (fun e b l => run C W y e b l Q) Q
def atN (Q : AExit → List AV → List Row → List Row → Prop) : List AV → List Row → List Row → Prop := Q .normal
def opK (d : Option Nat) (os : List AOper) (e : List AV) (K : List AV → List Row → List Row → Prop) : AV → List Row → List Row → Prop := fun x b l => runOps C os (put e d x) b l K
def opS (r : OpR) (d : Option Nat) (os : List AOper) (e : List AV) (b l : List Row) (K : List AV → List Row → List Row → Prop) : Prop := stepR C b l (opK C d os e K) r
def grdO (t : Option Bool) (d : Option Nat) (op : AOp) (os : List AOper) (e : List AV) (b l : List Row) (K : List AV → List Row → List Row → Prop) : Prop :=
  gcase t (opS C (aop e b l op) d os e b l K) (runOps C os (put e d (.tup [])) b l K)
def dK (d : Option Nat) (re : List AOper) (ds : List DOper) (e : List AV) (K : List AV → List Row → List Row → Prop) : AV → List Row → List Row → Prop := fun x b l => rechks e b l re ∧ runD C ds (put e d x) b l K
def dS (r : OpR) (d : Option Nat) (re : List AOper) (ds : List DOper) (e : List AV) (b l : List Row) (K : List AV → List Row → List Row → Prop) : Prop := stepR C b l (dK C d re ds e K) r
def grdD (t : Option Bool) (d : Option Nat) (op : AOp) (re : List AOper) (ds : List DOper) (e : List AV) (b l : List Row) (K : List AV → List Row → List Row → Prop) : Prop :=
  gcase t (dS C (aop e b l op) d re ds e b l K) (runD C ds (put e d (.tup [])) b l K)
def ifC (v : AV) (x y : ACode) (e : List AV) (b l : List Row) (Q : AExit → List AV → List Row → List Row → Prop) : Prop := match v with
  | .v (.bool t) => gcase (some t) (run C W x e b l Q) (run C W y e b l Q)
  | _ => False
end

/-! How a run goes on. (Not by rfl: each step is a proof of its own, so that the kernel never meets a long run at once.) -/
theorem nr.{u} {α : Sort u} {x y : α} (h : x = y) : x = y := h
section
variable {C : CallP} {W : WeakP} {e : List AV} {b l b' l' : List Row} {Q : AExit → List AV → List Row → List Row → Prop} {K R : List AV → List Row → List Row → Prop} {KV : AV → List Row → List Row → Prop} {A B : Prop}
  {d : Option Nat} {op : AOp} {os : List AOper} {ds : List DOper} {re : List AOper} {x y : AV} {cx cy : ACode}
theorem run_skip : run C W .skip e b l Q = Q .normal e b l := nr rfl
theorem run_region {ops : List AOper} : run C W (.region ops) e b l Q = runOps C ops e b l (atN Q) := nr rfl
theorem run_draw {ops : List DOper} : run C W (.draw ops) e b l Q = runD C ops e b l (atN Q) := nr rfl
theorem run_seq : run C W (.seq cx cy) e b l Q = run C W cx e b l (seqC C W cy Q) := nr rfl
theorem run_block {i : Nat} : run C W (.block i cx) e b l Q = run C W cx e b l (blkQ i Q) := nr rfl
theorem run_exit {i : Nat} : run C W (.exit i) e b l Q = Q (.exit i) e b l := nr rfl
theorem run_ret : run C W .ret e b l Q = Q .ret e b l := nr rfl
theorem run_cond {c : Opd} : run C W (.cond c cx cy) e b l Q = ifC C W (ev e c) cx cy e b l Q := by
  simp only [run, ifC]
  generalize ev e c = q
  cases q with
  | v z => cases z <;> rfl
  | _ => rfl
theorem atN_app : atN Q e b l = Q .normal e b l := nr rfl
theorem seqC_normal : seqC C W cy Q .normal e b l = run C W cy e b l Q := nr rfl
theorem seqC_exit {i : Nat} : seqC C W cy Q (.exit i) e b l = Q (.exit i) e b l := nr rfl
theorem seqC_ret : seqC C W cy Q .ret e b l = Q .ret e b l := nr rfl
theorem seqQ_normal : seqQ R Q .normal e b l = R e b l := nr rfl
theorem seqQ_exit {i : Nat} : seqQ R Q (.exit i) e b l = Q (.exit i) e b l := nr rfl
theorem seqQ_ret : seqQ R Q .ret e b l = Q .ret e b l := nr rfl
theorem blkQ_normal {i : Nat} : blkQ i Q .normal e b l = Q .normal e b l := nr rfl
theorem blkQ_exit {i j : Nat} : blkQ i Q (.exit j) e b l = if j = i then Q .normal e b l else Q (.exit j) e b l := nr rfl
theorem blkQ_ret {i : Nat} : blkQ i Q .ret e b l = Q .ret e b l := nr rfl
theorem runOps_nil : runOps C [] e b l K = K e b l := nr rfl
theorem runOps_cons {g : Option (Nat × Bool)} : runOps C (⟨d, op, g⟩ :: os) e b l K = grdO C (gd e g) d op os e b l K := nr rfl
theorem runD_nil : runD C [] e b l K = K e b l := nr rfl
theorem runD_cons {i : Nat} {g : Option (Nat × Bool)} : runD C (⟨i, ⟨d, op, g⟩, re⟩ :: ds) e b l K = grdD C (gd e g) d op re ds e b l K := nr rfl
theorem grdO_true : grdO C (some true) d op os e b l K = opS C (aop e b l op) d os e b l K := by simp [grdO, gcase]
theorem grdO_false : grdO C (some false) d op os e b l K = runOps C os (put e d (.tup [])) b l K := by simp [grdO, gcase]
theorem grdD_true : grdD C (some true) d op re ds e b l K = dS C (aop e b l op) d re ds e b l K := by simp [grdD, gcase]
theorem grdD_false : grdD C (some false) d op re ds e b l K = runD C ds (put e d (.tup [])) b l K := by simp [grdD, gcase]
theorem ifC_true : ifC C W (.v (.bool true)) cx cy e b l Q = run C W cx e b l Q := by simp [ifC, gcase]
theorem ifC_false : ifC C W (.v (.bool false)) cx cy e b l Q = run C W cy e b l Q := by simp [ifC, gcase]
theorem opS_val : opS C (.val x b' l') d os e b l K = runOps C os (put e d x) b' l' K := nr rfl
theorem opS_call {f : Nat} {az : List AV} : opS C (.call f az) d os e b l K = C f az b l (opK C d os e K) := nr rfl
theorem opS_two {c : Bool} : opS C (.two c x y) d os e b l K = ((c = true → runOps C os (put e d x) b l K) ∧ runOps C os (put e d y) b l K) := nr rfl
theorem opK_app : opK C d os e K x b l = runOps C os (put e d x) b l K := nr rfl
theorem dS_val : dS C (.val x b' l') d re ds e b l K = (rechks e b' l' re ∧ runD C ds (put e d x) b' l' K) := nr rfl
theorem dS_call {f : Nat} {az : List AV} : dS C (.call f az) d re ds e b l K = C f az b l (dK C d re ds e K) := nr rfl
theorem dS_two {c : Bool} : dS C (.two c x y) d re ds e b l K = ((c = true → rechks e b l re ∧ runD C ds (put e d x) b l K) ∧ (rechks e b l re ∧ runD C ds (put e d y) b l K)) := nr rfl
theorem dK_app : dK C d re ds e K x b l = (rechks e b l re ∧ runD C ds (put e d x) b l K) := nr rfl
/-! A test that is not known: both ways. -/
theorem grdO_split {t : Bool} (h1 : t = true → opS C (aop e b l op) d os e b l K) (h2 : t = false → runOps C os (put e d (.tup [])) b l K) : grdO C (some t) d op os e b l K := by
  cases t
  · rw [grdO_false]; exact h2 rfl
  · rw [grdO_true]; exact h1 rfl
theorem grdD_split {t : Bool} (h1 : t = true → dS C (aop e b l op) d re ds e b l K) (h2 : t = false → runD C ds (put e d (.tup [])) b l K) : grdD C (some t) d op re ds e b l K := by
  cases t
  · rw [grdD_false]; exact h2 rfl
  · rw [grdD_true]; exact h1 rfl
theorem ifC_split {t : Bool} (h1 : t = true → run C W cx e b l Q) (h2 : t = false → run C W cy e b l Q) : ifC C W (.v (.bool t)) cx cy e b l Q := by
  cases t
  · rw [ifC_false]; exact h2 rfl
  · rw [ifC_true]; exact h1 rfl
theorem gd_none : gd e none = some true := nr rfl
theorem gd_some {s : Nat} {w : Bool} : gd e (some (s, w)) = (match nth e s with
    | .v (.bool t) => some (t == w)
    | .tup [] => some false
    | _ => none) := nr rfl
theorem rechks_nil : rechks e b l [] = True := nr rfl
theorem rechks_cons {r : AOper} {rs : List AOper} : rechks e b l (r :: rs) = (rechk e b l r ∧ rechks e b l rs) := nr rfl
theorem nth_zero {a : AV} {l : List AV} : nth (a :: l) 0 = a := nr rfl
theorem nth_succ {a : AV} {l : List AV} {n : Nat} : nth (a :: l) (n + 1) = nth l n := nr rfl
theorem upd_zero {a x : AV} {l : List AV} : upd (a :: l) 0 x = x :: l := nr rfl
theorem upd_succ {a x : AV} {l : List AV} {n : Nat} : upd (a :: l) (n + 1) x = a :: upd l n x := nr rfl
theorem put_some {n : Nat} {x : AV} : put e (some n) x = upd e n x := nr rfl
theorem put_none {x : AV} : put e none x = e := nr rfl
theorem ev_t {n : Nat} : ev e (.t n) = nth e n := nr rfl
theorem ev_c {x : AV} : ev e (.c x) = x := nr rfl
theorem evs_nil : evs e [] = [] := nr rfl
theorem evs_cons {x : Opd} {xs : List Opd} : evs e (x :: xs) = ev e x :: evs e xs := nr rfl
theorem evo_some {x : Opd} : evo e (some x) = some (ev e x) := nr rfl
theorem evo_none : evo e none = none := nr rfl
theorem hget_at {i : Nat} : hget b l (b.length + i) = l[i]? := by
  unfold hget; rw [if_neg (by omega), Nat.add_sub_cancel_left]
theorem hget_first : hget b l b.length = l[0]? := hget_at (i := 0)
theorem hsetB_at {i : Nat} {r : Row} : hsetB b (b.length + i) r = b := by unfold hsetB; rw [if_neg (by omega)]
theorem hsetB_first {r : Row} : hsetB b b.length r = b := hsetB_at (i := 0)
theorem hsetL_at {i : Nat} {r : Row} : hsetL b l (b.length + i) r = l.set i r := by unfold hsetL; rw [if_neg (by omega), Nat.add_sub_cancel_left]
theorem hsetL_first {r : Row} : hsetL b l b.length r = l.set 0 r := hsetL_at (i := 0)
theorem ofOpt_some : ofOpt (some x) b l = .val x b l := nr rfl
end

/-! What is looked at again and is known. -/
theorem gcase_true {A B : Prop} : gcase (some true) A B = A := by simp [gcase]
theorem gcase_false {A B : Prop} : gcase (some false) A B = B := by simp [gcase]
theorem ex_val {x : AV} {b l : List Row} {A : Prop} : (∃ v, OpR.val x b l = .val v b l ∧ (x = v ∨ A)) = True := eq_true ⟨x, rfl, .inl rfl⟩
theorem ex_val0 {x : AV} {b l : List Row} : (∃ v, OpR.val x b l = .val v b l ∧ True) = True := eq_true ⟨x, rfl, trivial⟩

/-! Numbers. -/
theorem wrap_id {n : Int} (h1 : -9223372036854775808 ≤ n) (h2 : n ≤ 9223372036854775807) : IntKind.i64.wrap n = n := by rw [IntKind.wrap_i64]; omega

theorem le_T {a b : Nat} (h : a ≤ b) : (a ≤ b) = True := eq_true h
theorem lt_T {a b : Nat} (h : a < b) : (a < b) = True := eq_true h
theorem le_F {a b : Nat} (h : ¬ a ≤ b) : (a ≤ b) = False := eq_false h
theorem lt_F {a b : Nat} (h : ¬ a < b) : (a < b) = False := eq_false h
theorem leI_T {a b : Int} (h : a ≤ b) : (a ≤ b) = True := eq_true h
theorem ltI_T {a b : Int} (h : a < b) : (a < b) = True := eq_true h
theorem leI_F {a b : Int} (h : ¬ a ≤ b) : (a ≤ b) = False := eq_false h
theorem ltI_F {a b : Int} (h : ¬ a < b) : (a < b) = False := eq_false h
theorem geI {a b : Int} : (a ≥ b) = (b ≤ a) := rfl
theorem gtI {a b : Int} : (a > b) = (b < a) := rfl
theorem get_T {α : Type} {l : List α} {i : Nat} (h : i < l.length) : l[i]? = some l[i] := List.getElem?_eq_getElem h
theorem take_snoc {α : Type} {l : List α} {k : Nat} (h : k < l.length) : l.take (k + 1) = l.take k ++ [l[k]] := List.take_succ_eq_append_getElem h

/-! Rows of plain values. -/
def vs (rows : List (List IV)) : List (List AV) := rows.map (·.map .v)
theorem map_vs {rows : List (List IV)} : rows.map (fun r => r.map AV.v) = vs rows := nr rfl
theorem vs_len {rows : List (List IV)} : (vs rows).length = rows.length := by simp [vs]
theorem vs_get {rows : List (List IV)} {i : Nat} : (vs rows)[i]? = (rows[i]?).map (·.map .v) := by simp [vs]
theorem vs_take {rows : List (List IV)} {i : Nat} : (vs rows).take i = vs (rows.take i) := by simp [vs, List.map_take]
theorem vs_drop {rows : List (List IV)} {i : Nat} : (vs rows).drop i = vs (rows.drop i) := by simp [vs, List.map_drop]
theorem vs_app {r q : List (List IV)} : vs r ++ vs q = vs (r ++ q) := by simp [vs]
theorem vs_nil : vs [] = [] := rfl
theorem vs_snoc1 {r : List (List IV)} {a : IV} : vs r ++ [[.v a]] = vs (r ++ [[a]]) := by simp [vs]
theorem vs_snoc2 {r : List (List IV)} {a c : IV} : vs r ++ [[.v a, .v c]] = vs (r ++ [[a, c]]) := by simp [vs]
theorem vs_snoc3 {r : List (List IV)} {a c d : IV} : vs r ++ [[.v a, .v c, .v d]] = vs (r ++ [[a, c, d]]) := by simp [vs]
theorem vs_snoc5 {r : List (List IV)} {a c d f g : IV} : vs r ++ [[.v a, .v c, .v d, .v f, .v g]] = vs (r ++ [[a, c, d, f, g]]) := by simp [vs]
theorem vs_set1 {r : List (List IV)} {i : Nat} {a : IV} : (vs r).set i [.v a] = vs (r.set i [a]) := by rw [vs, vs, List.map_set]; rfl
theorem vs_set2 {r : List (List IV)} {i : Nat} {a c : IV} : (vs r).set i [.v a, .v c] = vs (r.set i [a, c]) := by rw [vs, vs, List.map_set]; rfl
theorem vs_rep {n : Nat} {a : IV} : List.replicate n [AV.v a] = vs (List.replicate n [a]) := by rw [vs, List.map_replicate]; rfl
theorem take_take' {α : Type} {l : List α} {i : Nat} : (l.take i).take i = l.take i := by rw [List.take_take, Nat.min_self]
theorem mapw_snoc {α β : Type} {f : α → β} {l : List α} {k : Nat} (h : k < l.length) : (l.take k).map f ++ [f l[k]] = (l.take (k + 1)).map f := by rw [take_snoc h, List.map_append]; rfl
theorem vs_lt {m : Nat} {rows : List (List IV)} : (∀ row ∈ vs rows, ∀ c ∈ row, AVlt m c) ↔ True := by
  refine ⟨fun _ => trivial, fun _ row hr c hc => ?_⟩
  simp [vs] at hr
  obtain ⟨r, _, rfl⟩ := hr
  simp at hc
  obtain ⟨x, _, rfl⟩ := hc
  exact .v x

/-! What may be forgotten. -/
section
variable {e e' : List AV} {b b' l l' : List Row}

theorem Weak.refl (e : List AV) (b l : List Row) : Weak e b l e b l := fun F L w a s he => ⟨F, L, s, he, Step.refl _ _ _ _ _, rfl⟩
theorem Weak.trans {e1 e2 e3 : List AV} {b1 b2 b3 l1 l2 l3 : List Row} (h : Weak e1 b1 l1 e2 b2 l2) (k : Weak e2 b2 l2 e3 b3 l3) : Weak e1 b1 l1 e3 b3 l3 := by
  intro F L w a s he
  obtain ⟨F1, L1, s1, he1, st1, hb1⟩ := h F L w a s he
  obtain ⟨F2, L2, s2, he2, st2, hb2⟩ := k F1 L1 w a s1 he1
  exact ⟨F2, L2, s2, he2, st1.trans (hb1 ▸ st2), hb2.trans hb1⟩

/-- Slots of which nothing is said any more. -/
def Fgt : List AV → List AV → Prop
  | [], [] => True
  | a :: az, c :: cs => (c = AV.any ∨ a = c) ∧ Fgt az cs
  | _, _ => False
theorem Fgt.len : ∀ {az cs : List AV}, Fgt az cs → az.length = cs.length
  | [], [], _ => rfl
  | _ :: az, _ :: cs, h => by simp [Fgt.len h.2]
  | [], _ :: _, h => h.elim
  | _ :: _, [], h => h.elim
theorem Fgt.get : ∀ {az cs : List AV}, Fgt az cs → ∀ (i : Nat) (c : AV), cs[i]? = some c → c = AV.any ∨ az[i]? = some c
  | [], [], _, i, c, h => by simp at h
  | a :: az, x :: cs, h, i, c, hc => by
    cases i with
    | zero =>
      simp at hc
      subst hc
      rcases h.1 with h1 | h1
      · exact .inl h1
      · exact .inr (by simp [h1])
    | succ i => simp at hc ⊢; exact Fgt.get h.2 i c hc
  | [], _ :: _, h, _, _, _ => h.elim
  | _ :: _, [], h, _, _, _ => h.elim
theorem Weak.forget (h : Fgt e e') : Weak e b l e' b l := by
  intro F L w a s he
  refine ⟨F, L, s, ⟨he.1, by rw [he.2.1, h.len], fun i x v hx hv => ?_⟩, Step.refl _ _ _ _ _, rfl⟩
  rcases h.get i x hx with rfl | hi
  · exact .any v
  · exact he.2.2 i x v hi hv

theorem AVlt_v {m : Nat} {x : IV} : AVlt m (.v x) ↔ True := ⟨fun _ => trivial, fun _ => .v x⟩
theorem AVlt_any {m : Nat} : AVlt m AV.any ↔ True := ⟨fun _ => trivial, fun _ => .any⟩
theorem AVlt_sl {m id ver off len : Nat} : AVlt m (.sl id ver off len) ↔ id < m := ⟨fun h => by cases h; assumption, fun h => .sl _ _ _ _ h⟩
theorem AVlt_ptr {m id ver k j : Nat} : AVlt m (.ptr id ver k j) ↔ id < m := ⟨fun h => by cases h; assumption, fun h => .ptr _ _ _ _ h⟩
theorem AVlt_mp {m id ver : Nat} : AVlt m (.mp id ver) ↔ id < m := ⟨fun h => by cases h; assumption, .mp id ver⟩
theorem AVlt_agg {m : Nat} {cs : List AV} : AVlt m (.agg cs) ↔ ∀ c ∈ cs, AVlt m c := ⟨fun h => by cases h; assumption, fun h => .agg _ h⟩
theorem AVlt_tup {m : Nat} {cs : List AV} : AVlt m (.tup cs) ↔ ∀ c ∈ cs, AVlt m c := ⟨fun h => by cases h; assumption, fun h => .tup _ h⟩
theorem AVlt_fn {m f : Nat} {cs : List AV} : AVlt m (.fn f cs) ↔ ∀ c ∈ cs, AVlt m c := ⟨fun h => by cases h; assumption, fun h => .fn _ _ h⟩
theorem RowsLt_nil {m : Nat} : RowsLt m [] := fun id ver sz els h => by simp at h
theorem RowsLt_cons {m : Nat} {r : Row} {h : List Row} : RowsLt m (r :: h) ↔ (∀ ver sz els, r = .live ver sz els → ∀ row ∈ els, ∀ c ∈ row, AVlt m c) ∧ RowsLt m h := by
  refine ⟨fun hh => ⟨fun ver sz els hr => hh 0 ver sz els (by rw [hr]; rfl), fun id ver sz els hi => hh (id + 1) ver sz els (by simpa using hi)⟩, fun ⟨h1, h2⟩ id ver sz els hi => ?_⟩
  cases id with
  | zero => simp at hi; exact h1 ver sz els hi
  | succ id => simp at hi; exact h2 id ver sz els hi
theorem RowsLt_live {m ver sz : Nat} {els : List (List AV)} {h : List Row} : RowsLt m (.live ver sz els :: h) ↔ (∀ row ∈ els, ∀ c ∈ row, AVlt m c) ∧ RowsLt m h := by
  rw [RowsLt_cons]
  exact ⟨fun ⟨h1, h2⟩ => ⟨h1 ver sz els rfl, h2⟩, fun ⟨h1, h2⟩ => ⟨fun v s e he => by cases he; exact h1, h2⟩⟩
theorem RowsLt_dead {m ver : Nat} {h : List Row} : RowsLt m (.dead ver :: h) ↔ RowsLt m h := by
  rw [RowsLt_cons]
  exact ⟨fun ⟨_, h2⟩ => h2, fun h2 => ⟨fun v s e he => (by cases he), h2⟩⟩
theorem AVlt.mono {m m' : Nat} {x : AV} (h : AVlt m x) (hm : m ≤ m') : AVlt m' x := by
  induction h with
  | any => exact .any
  | v x => exact .v x
  | agg cs _ ih => exact .agg cs ih
  | tup cs _ ih => exact .tup cs ih
  | sl id ver off len h => exact .sl _ _ _ _ (by omega)
  | ptr id ver k j h => exact .ptr _ _ _ _ (by omega)
  | fn f cs _ ih => exact .fn f cs ih
  | mp id ver h => exact .mp _ _ (by omega)
theorem RowsLt.mono {m m' : Nat} {h : List Row} (hh : RowsLt m h) (hm : m ≤ m') : RowsLt m' h := fun id ver sz els hr row hrow c hc => (hh id ver sz els hr row hrow c hc).mono hm

/-- Rows at the end to which nothing refers are dropped. -/
theorem Weak.trim {l1 junk : List Row} (hl : l = l1 ++ junk) (he : ∀ x ∈ e, AVlt (b.length + l1.length) x) (hb : RowsLt (b.length + l1.length) b) (h1 : RowsLt (b.length + l1.length) l1) : Weak e b l e b l1 := by
  subst hl
  intro F L w a s hea
  have hm : (b ++ l1).length = b.length + l1.length := by simp
  obtain ⟨L', hL1, hL2⟩ : ∃ L' : LMap, (∀ id ver, id < b.length + l1.length → L' id ver = L id ver) ∧ ∀ id ver, ¬ id < b.length + l1.length → L' id ver = none :=
    ⟨fun id ver => if id < b.length + l1.length then L id ver else none, fun id ver h => by simp [h], fun id ver h => by simp [h]⟩
  have hback : ∀ {id ver q}, L' id ver = some q → id < b.length + l1.length ∧ L id ver = some q := by
    intro id ver q hq
    by_cases hid : id < b.length + l1.length
    · rw [hL1 id ver hid] at hq; exact ⟨hid, hq⟩
    · rw [hL2 id ver hid] at hq; cases hq
  have hget : ∀ id, id < b.length + l1.length → (b ++ (l1 ++ junk))[id]? = (b ++ l1)[id]? := by
    intro id hid
    rw [← List.append_assoc, List.getElem?_append_left (by omega)]
  have hown : ∀ k, Owned L' (b ++ l1) k → Owned L (b ++ (l1 ++ junk)) k := by
    rintro k ⟨id, ver, sz, els, q, q1, q2, q4⟩
    obtain ⟨hid, q3⟩ := hback q2
    exact ⟨id, ver, sz, els, q, by rw [hget id hid]; exact q1, q3, q4⟩
  have hrl : RowsLt (b.length + l1.length) (b ++ l1) := by
    intro id ver sz els hr
    by_cases hid : id < b.length
    · rw [List.getElem?_append_left hid] at hr; exact hb id ver sz els hr
    · rw [List.getElem?_append_right (by omega)] at hr; exact h1 _ ver sz els hr
  refine ⟨F, L', ⟨?_, ?_, ?_, fun k hk => ⟨(s.imm k hk).1, fun ho => (s.imm k hk).2 (hown k ho)⟩⟩, ⟨hea.1, hea.2.1, fun i x v hx hv => (hea.2.2 i x v hx hv).cut (he x (List.mem_of_getElem? hx)) hL1⟩,
    ⟨fun _ h => h, fun id ver q hid hq => by rw [hL1 id ver (by omega)]; exact hq, rfl, rfl, rfl, Nat.le_refl _, fun _ _ _ => rfl, fun k _ ho => hown k ho, fun id hid v hv => by
      rw [List.getElem?_append_left hid] at hv ⊢; exact hv, fun _ _ h => .inl h⟩, rfl⟩
  · intro id ver sz els hr
    have hid : id < b.length + l1.length := by rw [← hm]; exact (List.getElem?_eq_some_iff.1 hr).1
    obtain ⟨q, q1, q2⟩ := s.row id ver sz els (by rw [hget id hid]; exact hr)
    refine ⟨q, by rw [hL1 id ver hid]; exact q1, ?_⟩
    cases q with
    | nil => exact q2
    | pl blk o z cap =>
      obtain ⟨k1, k2, k3, cur, T, k4, k5, k6, k7⟩ := q2
      exact ⟨k1, k2, k3, cur, T, k4, k5, k6, fun k row j c hk hj => by
        obtain ⟨g1, v, g2, g3⟩ := k7 k row j c hk hj
        exact ⟨g1, v, g2, g3.cut (hrl id ver sz els hr row (List.mem_of_getElem? hk) c (List.mem_of_getElem? hj)) hL1⟩⟩
    | mp blk =>
      obtain ⟨es, clk, k4, k5, k6⟩ := q2
      refine ⟨es, clk, k4, k5, fun k row e1 hk he => ?_⟩
      obtain ⟨x, y, rfl, g2, g3⟩ := k6 k row e1 hk he
      exact ⟨x, y, rfl, g2.cut (hrl id ver sz els hr _ (List.mem_of_getElem? hk) x (by simp)) hL1, g3.cut (hrl id ver sz els hr _ (List.mem_of_getElem? hk) y (by simp)) hL1⟩
  · intro id ver q hq
    obtain ⟨hid, q1⟩ := hback hq
    obtain ⟨r, r1, r2⟩ := s.born id ver q q1
    exact ⟨r, by rw [← hget id hid]; exact r1, r2⟩
  · intro id id' ver ver' z z' e1 e2 bb l1' l2' q1 q2 q3 q4 q7 q8
    obtain ⟨i1, q5⟩ := hback q3
    obtain ⟨i2, q6⟩ := hback q4
    exact s.apart id id' ver ver' z z' e1 e2 bb l1' l2' (by rw [hget id i1]; exact q1) (by rw [hget id' i2]; exact q2) q5 q6 q7 q8

/-- An empty row of the call's own, without a block. -/
theorem nil_core {sz : Nat} (F : Nat → Prop) (L : LMap) (w : World) (s : Sim F L (b ++ l) w) : ∃ L' : LMap, Sim F L' (b ++ (l ++ [.live 0 sz []])) w ∧ L' (b.length + l.length) 0 = some .nil ∧ (∀ i v q, L i v = some q → L' i v = some q) ∧
    Step b.length F L (b ++ l) w F L' (b ++ (l ++ [.live 0 sz []])) w := by
  have hlen : (b ++ l).length = b.length + l.length := by simp
  have hnone : L (b.length + l.length) 0 = none := by
    cases hq : L (b.length + l.length) 0 with
    | none => rfl
    | some q => exact absurd (s.lt hq) (by omega)
  obtain ⟨L', hLn, hLm, hLo⟩ : ∃ L' : LMap, L' (b.length + l.length) 0 = some .nil ∧ (∀ i v q, L i v = some q → L' i v = some q) ∧ ∀ i v, (i ≠ b.length + l.length ∨ v ≠ 0) → L' i v = L i v := by
    refine ⟨fun i v => if i = b.length + l.length ∧ v = 0 then some .nil else L i v, by simp, ?_, ?_⟩
    · intro i v q hl
      by_cases hi : i = b.length + l.length ∧ v = 0
      · obtain ⟨rfl, rfl⟩ := hi
        rw [hnone] at hl; cases hl
      · simp [hi, hl]
    · intro i v hi
      have : ¬ (i = b.length + l.length ∧ v = 0) := fun ⟨a, b⟩ => hi.elim (fun h => h a) (fun h => h b)
      simp [this]
  have hold : ∀ j, j ≠ b.length + l.length → (b ++ (l ++ [Row.live 0 sz []]))[j]? = (b ++ l)[j]? := by
    intro j hj
    rw [← List.append_assoc]
    by_cases hjl : j < (b ++ l).length
    · rw [List.getElem?_append_left hjl]
    · rw [List.getElem?_eq_none (by simp; omega), List.getElem?_eq_none (by omega)]
  have hnew : (b ++ (l ++ [Row.live 0 sz []]))[b.length + l.length]? = some (.live 0 sz []) := by
    rw [← List.append_assoc, List.getElem?_append_right (by omega)]; simp
  have own : ∀ k, Owned L' (b ++ (l ++ [Row.live 0 sz []])) k → Owned L (b ++ l) k := by
    rintro k ⟨i, v, z, e1, q1, h1, h2, h3⟩
    by_cases hi : i = b.length + l.length
    · subst hi
      rw [hnew] at h1; cases h1
      rw [hLn] at h2; cases h2
      exact h3.elim
    · rw [hold i hi] at h1
      rw [hLo i v (.inl hi)] at h2
      exact ⟨i, v, z, e1, q1, h1, h2, h3⟩
  have mono : ∀ {x : AV} {v : Value}, RepA w F L x v → RepA w F L' x v := fun hx => hx.mono (fun _ h => h) (fun _ _ => rfl) hLm
  refine ⟨L', ⟨?_, ?_, ?_, fun k hk => ⟨(s.imm k hk).1, fun ho => (s.imm k hk).2 (own k ho)⟩⟩, hLn, hLm, ⟨fun _ h => h, fun i v q _ hl => hLm i v q hl, rfl, rfl, rfl, Nat.le_refl _, fun _ _ _ => rfl, fun k _ ho => own k ho, fun i hi v hv => by rw [hold i (by omega)]; exact hv, fun _ _ h => .inl h⟩⟩
  · intro j v z e1 hj
    by_cases hji : j = b.length + l.length
    · subst hji
      rw [hnew] at hj
      cases hj
      exact ⟨.nil, hLn, rfl⟩
    · rw [hold j hji] at hj
      obtain ⟨q, hl1, hl2⟩ := s.row j v z e1 hj
      exact ⟨q, hLm _ _ _ hl1, hl2.mono (fun _ _ => rfl) (fun _ _ => mono)⟩
  · intro i v q hl1
    by_cases hi : i = b.length + l.length
    · subst hi
      refine ⟨_, hnew, ?_⟩
      by_cases hv : v = 0
      · subst hv; exact Nat.le_refl _
      · rw [hLo _ v (.inr hv)] at hl1
        exact absurd (s.lt hl1) (by omega)
    · rw [hLo i v (.inl hi)] at hl1
      obtain ⟨r, h1, h2⟩ := s.born _ _ _ hl1
      exact ⟨r, by rw [hold i hi]; exact h1, h2⟩
  · intro i i' v v' z z' e1 e2 bb q1 q2 h1 h2 h3 h4 h5 h6
    by_cases hi : i = b.length + l.length
    · subst hi
      rw [hnew] at h1; cases h1
      rw [hLn] at h3; cases h3
      exact h5.elim
    · by_cases hi' : i' = b.length + l.length
      · subst hi'
        rw [hnew] at h2; cases h2
        rw [hLn] at h4; cases h4
        exact h6.elim
      · rw [hold i hi] at h1
        rw [hold i' hi'] at h2
        rw [hLo i v (.inl hi)] at h3
        rw [hLo i' v' (.inl hi')] at h4
        exact s.apart i i' v v' z z' e1 e2 bb q1 q2 h1 h2 h3 h4 h5 h6
/-- A slice without room becomes an empty row of the call's own. -/
theorem Weak.nilrow {k sz : Nat} (hk : nth e k = .v .zsl) (hlt : k < e.length) : Weak e b l (upd e k (.sl (b.length + l.length) 0 0 0)) b (l ++ [.live 0 sz []]) := by
  intro F L w a s hea
  obtain ⟨L', s', hLn, hLm, st⟩ := nil_core (sz := sz) F L w s
  have mono : ∀ {x : AV} {v : Value}, RepA w F L x v → RepA w F L' x v := fun hx => hx.mono (fun _ h => h) (fun _ _ => rfl) hLm
  refine ⟨F, L', s', ?_, st, rfl⟩
  · rw [upd_eq]
    refine ⟨hea.1, by simp [hea.2.1], fun i x v hx hv => ?_⟩
    by_cases hi : k = i
    · subst hi
      rw [List.getElem?_set_self hlt] at hx
      cases hx
      rw [nth_eq] at hk
      cases hq : e[k]? with
      | none => rw [hq] at hk; cases hk
      | some y =>
        rw [hq] at hk
        have hy : y = .v .zsl := hk
        subst hy
        have := hea.2.2 k _ v hq hv
        cases this.vI
        exact .sln _ _ _ hLn
    · rw [List.getElem?_set_ne hi] at hx
      exact mono (hea.2.2 i x v hx hv)


/-- A cell that is read as another thing. -/
theorem Sim.setCell {F : Nat → Prop} {L : LMap} {h : List Row} {w : World} (s : Sim F L h w) {i ver z k j : Nat} {els : List (List AV)} {row : List AV} {x y : AV} (hi : h[i]? = some (.live ver z els)) (hk : els[k]? = some row) (hj : row[j]? = some x)
    (hy : ∀ v, RepA w F L x v → RepA w F L y v) (hc : y.cell = true) : Sim F L (h.set i (.live ver z (els.set k (row.set j y)))) w ∧ ∀ b, Owned L (h.set i (.live ver z (els.set k (row.set j y)))) b → Owned L h b := by
  have hil : i < h.length := (List.getElem?_eq_some_iff.1 hi).1
  have back : ∀ {i' v z' : Nat} {e' : List (List AV)}, (h.set i (Row.live ver z (els.set k (row.set j y))))[i']? = some (Row.live v z' e') → ∃ e0, h[i']? = some (Row.live v z' e0) ∧ (e' = e0 ∨ (e0 = els ∧ e' = els.set k (row.set j y))) := by
    intro i' v z' e' h1
    by_cases hii : i = i'
    · subst hii
      rw [List.getElem?_set_self hil] at h1
      cases h1
      exact ⟨els, hi, .inr ⟨rfl, rfl⟩⟩
    · rw [List.getElem?_set_ne hii] at h1
      exact ⟨e', h1, .inl rfl⟩
  have own : ∀ b, Owned L (h.set i (.live ver z (els.set k (row.set j y)))) b → Owned L h b := by
    rintro b ⟨i', v, z', e1, q1, h1, h2, h4⟩
    obtain ⟨e0, h3, _⟩ := back h1
    exact ⟨i', v, z', e0, q1, h3, h2, h4⟩
  refine ⟨⟨fun i' v z' e' h1 => ?_, fun i' v q hq => ?_, fun i1 i2 v v' z1 z2 e1 e2 bb q1 q2 h1 h2 h3 h4 h5 h6 => ?_, fun b hb => ⟨(s.imm b hb).1, fun ho => (s.imm b hb).2 (own b ho)⟩⟩, own⟩
  · obtain ⟨e0, h2, h3⟩ := back h1
    obtain ⟨q, g1, g2⟩ := s.row _ _ _ _ h2
    refine ⟨q, g1, ?_⟩
    rcases h3 with rfl | ⟨rfl, rfl⟩
    · exact g2
    · cases q with
      | nil => have g2 : e0 = [] := g2; subst g2; simp at hk
      | pl blk o z1 c =>
        obtain ⟨q1, q2, q3, cur, T, q4, q5, q6, q7⟩ := g2
        refine ⟨q1, by simpa using q2, q3, cur, T, q4, q5, fun k' r hk' => ?_, fun k' r jj c hk' hjj => ?_⟩
        · by_cases hkk : k = k'
          · subst hkk
            rw [List.getElem?_set_self (List.getElem?_eq_some_iff.1 hk).1] at hk'
            cases hk'
            simpa using q6 k row hk
          · rw [List.getElem?_set_ne hkk] at hk'; exact q6 k' r hk'
        · by_cases hkk : k = k'
          · subst hkk
            rw [List.getElem?_set_self (List.getElem?_eq_some_iff.1 hk).1] at hk'
            cases hk'
            by_cases hjk : j = jj
            · subst hjk
              rw [List.getElem?_set_self (List.getElem?_eq_some_iff.1 hj).1] at hjj
              cases hjj
              obtain ⟨_, u, t2, t3⟩ := q7 k row j x hk hj
              exact ⟨hc, u, t2, hy u t3⟩
            · rw [List.getElem?_set_ne hjk] at hjj; exact q7 k row jj c hk hjj
          · rw [List.getElem?_set_ne hkk] at hk'; exact q7 k' r jj c hk' hjj
      | mp blk =>
        obtain ⟨es, clk, q4, q5, q6⟩ := g2
        refine ⟨es, clk, q4, by simpa using q5, fun k' r e1 hk' he => ?_⟩
        by_cases hkk : k = k'
        · subst hkk
          rw [List.getElem?_set_self (List.getElem?_eq_some_iff.1 hk).1] at hk'
          cases hk'
          obtain ⟨x1, y1, rfl, t2, t3⟩ := q6 k row e1 hk he
          cases j with
          | zero => simp at hj; subst hj; exact ⟨y, y1, rfl, hy _ t2, t3⟩
          | succ j =>
            cases j with
            | zero => simp at hj; subst hj; exact ⟨x1, y, rfl, t2, hy _ t3⟩
            | succ j => simp at hj
        · rw [List.getElem?_set_ne hkk] at hk'; exact q6 k' r e1 hk' he
  · obtain ⟨r, h1, h2⟩ := s.born i' v q hq
    by_cases hii : i = i'
    · subst hii
      rw [hi] at h1; cases h1
      exact ⟨_, List.getElem?_set_self hil, h2⟩
    · exact ⟨r, by rw [List.getElem?_set_ne hii]; exact h1, h2⟩
  · obtain ⟨_, k1, _⟩ := back h1
    obtain ⟨_, k2, _⟩ := back h2
    exact s.apart i1 i2 v v' z1 z2 _ _ bb q1 q2 k1 k2 h3 h4 h5 h6

/-- The same of a cell of the call's own rows: a slice without room in it becomes an empty row. -/
theorem Weak.nilcell {i ver z k j sz : Nat} {els : List (List AV)} {row : List AV} (hi : l[i]? = some (.live ver z els)) (hk : els[k]? = some row) (hj : row[j]? = some (.v .zsl)) :
    Weak e b l e b (l.set i (.live ver z (els.set k (row.set j (.sl (b.length + l.length) 0 0 0)))) ++ [.live 0 sz []]) := by
  intro F L w a s hea
  obtain ⟨L', s', hLn, hLm, st⟩ := nil_core (sz := sz) F L w s
  have hil : i < l.length := (List.getElem?_eq_some_iff.1 hi).1
  have hi' : (b ++ (l ++ [Row.live 0 sz []]))[b.length + i]? = some (.live ver z els) := by
    rw [List.getElem?_append_right (by omega), Nat.add_sub_cancel_left, List.getElem?_append_left hil]; exact hi
  obtain ⟨s2, own⟩ := s'.setCell hi' hk hj (y := .sl (b.length + l.length) 0 0 0) (fun v hv => by cases hv.vI; exact .sln _ _ _ hLn) rfl
  have hset : (b ++ (l ++ [Row.live 0 sz []])).set (b.length + i) (.live ver z (els.set k (row.set j (.sl (b.length + l.length) 0 0 0)))) = b ++ (l.set i (.live ver z (els.set k (row.set j (.sl (b.length + l.length) 0 0 0)))) ++ [.live 0 sz []]) := by
    rw [List.set_append_right _ _ (by omega), Nat.add_sub_cancel_left, List.set_append_left _ _ hil]
  rw [hset] at s2 own
  refine ⟨F, L', s2, hea.mono (fun _ h => h) (fun _ _ => rfl) hLm, ⟨st.imm, st.loc, st.os, st.tape, st.output, st.size, st.block, fun q hq ho => st.own q hq (own q ho), fun id hid v hv => ?_, st.fnew⟩, rfl⟩
  have := st.base id hid v hv
  rw [List.getElem?_append_left hid] at this ⊢
  exact this

/-- A row of plain values is written no more: its slices are values from now on. -/
def frz0 (id ver sz : Nat) (rows : List (List IV)) : AV → AV
  | .sl i v off len => if i = id ∧ v = ver ∧ off + len ≤ rows.length then .v (.isl sz ((rows.drop off).take len)) else .sl i v off len
  | x => x
def frz (id ver sz : Nat) (rows : List (List IV)) : AV → AV
  | .agg cs => .agg (cs.map (frz0 id ver sz rows))
  | .tup cs => .tup (cs.map (frz0 id ver sz rows))
  | x => frz0 id ver sz rows x

theorem freeze_core {i ver sz : Nat} {rows : List (List IV)} (hi : l[i]? = some (.live ver sz (rows.map (·.map .v)))) (F : Nat → Prop) (L : LMap) (w : World) (a : Act) (s : Sim F L (b ++ l) w) (hea : EnvR w F L e a) :
    ∃ F' : Nat → Prop, Sim F' L (b ++ l.set i (.dead ver)) w ∧ EnvR w F' L (e.map (frz (b.length + i) ver sz rows)) a ∧ Step b.length F L (b ++ l) w F' L (b ++ l.set i (.dead ver)) w ∧
      ∀ (x : AV) (v : Value), RepA w F' L x v → RepA w F' L (frz0 (b.length + i) ver sz rows x) v := by
  have hil : i < l.length := (List.getElem?_eq_some_iff.1 hi).1
  have hrow : (b ++ l)[b.length + i]? = some (.live ver sz (rows.map (·.map .v))) := by rw [List.getElem?_append_right (by omega), Nat.add_sub_cancel_left]; exact hi
  have hset : b ++ l.set i (.dead ver) = (b ++ l).set (b.length + i) (.dead ver) := by rw [List.set_append_right _ _ (by omega), Nat.add_sub_cancel_left]
  have hidl : b.length + i < (b ++ l).length := by simp; omega
  obtain ⟨lc, k1, k2⟩ := s.row _ _ _ _ hrow
  have hlive : ∀ {j v z els}, ((b ++ l).set (b.length + i) (.dead ver))[j]? = some (.live v z els) → j ≠ b.length + i ∧ (b ++ l)[j]? = some (.live v z els) := by
    intro j v z els hj
    by_cases hji : b.length + i = j
    · subst hji
      rw [List.getElem?_set_self hidl] at hj
      cases hj
    · rw [List.getElem?_set_ne hji] at hj
      exact ⟨fun h => hji h.symm, hj⟩
  have hown : ∀ k, Owned L ((b ++ l).set (b.length + i) (.dead ver)) k → Owned L (b ++ l) k := by
    rintro k ⟨j, v, z, els, q, h1, h2, h3⟩
    exact ⟨j, v, z, els, q, (hlive h1).2, h2, h3⟩
  -- the block, if there is one
  obtain ⟨F', hFF, hFnew, hF', hFblk⟩ : ∃ F' : Nat → Prop, (∀ k, F k → F' k) ∧ (∀ k, F' k → F k ∨ Owned L (b ++ l) k) ∧ (∀ k, F' k → k < w.heap.size ∧ ¬ Owned L ((b ++ l).set (b.length + i) (.dead ver)) k) ∧ ∀ blk o z c, lc = .pl blk o z c → F' blk := by
    cases lc with
    | nil => exact ⟨F, fun _ h => h, fun _ h => .inl h, fun k hk => ⟨(s.imm k hk).1, fun ho => (s.imm k hk).2 (hown k ho)⟩, fun blk o z c h => by cases h⟩
    | mp blk => exact ⟨F, fun _ h => h, fun _ h => .inl h, fun k hk => ⟨(s.imm k hk).1, fun ho => (s.imm k hk).2 (hown k ho)⟩, fun blk o z c h => by cases h⟩
    | pl blk o z c =>
      obtain ⟨_, _, _, cur, T, k4, _⟩ := k2
      refine ⟨fun k => F k ∨ k = blk, fun k h => .inl h, fun k hk => hk.imp id (fun h => by subst h; exact ⟨_, _, _, _, _, hrow, k1, rfl⟩), fun k hk => ?_, fun blk' o' z' c' h => by cases h; exact .inr rfl⟩
      rcases hk with hk | rfl
      · exact ⟨(s.imm k hk).1, fun ho => (s.imm k hk).2 (hown k ho)⟩
      · refine ⟨(Array.getElem?_eq_some_iff.1 k4).1, ?_⟩
        rintro ⟨j, v, z', els, q', h1, h2, h4⟩
        obtain ⟨hne, h3⟩ := hlive h1
        exact hne (s.apart j (b.length + i) v ver z' sz els _ k q' _ h3 hrow h2 k1 h4 rfl)
  have mono : ∀ {x : AV} {v : Value}, RepA w F L x v → RepA w F' L x v := fun hx => hx.mono hFF (fun _ _ => rfl) (fun _ _ _ h => h)
  have f0 : ∀ {x : AV} {v : Value}, RepA w F' L x v → RepA w F' L (frz0 (b.length + i) ver sz rows x) v := by
    intro x v hx
    cases x with
    | sl id ver' off len =>
      simp only [frz0]
      split
      · rename_i hc
        obtain ⟨rfl, rfl, hle⟩ := hc
        refine .v _ _ ?_
        have hlen : ((rows.drop off).take len).length = len := by simp; omega
        cases hx with
        | sl _ _ _ _ blk o z cap hL h1 h2 =>
          rw [k1] at hL; cases hL
          obtain ⟨q1, q2, q3, cur, T, q4, q5, q6, q7⟩ := k2
          subst q1
          have hcell : ∀ (k : Nat) (row : List IV) (j : Nat) (c : IV), ((rows.drop off).take len)[k]? = some row → row[j]? = some c → ∃ u, w.cell? ⟨blk, o + off * z + k * z + j, none⟩ = some u ∧ RepI w F c u := by
            intro k row j c hk hj
            rw [List.getElem?_take] at hk
            split at hk
            · rw [List.getElem?_drop] at hk
              obtain ⟨_, u, g1, g2⟩ := q7 (off + k) (row.map .v) j (.v c) (by rw [List.getElem?_map, hk]; rfl) (by rw [List.getElem?_map, hj]; rfl)
              refine ⟨u, ?_, g2.vI⟩
              rw [Nat.add_mul] at g1
              simp only [World.cell?, q4]
              rw [← g1]
              simp [Nat.add_assoc]
            · cases hk
          have := RepI.isl (w := w) (F := F') ((rows.drop off).take len) blk (o + off * z) z (cap - off) (fun k j => (w.cell? ⟨blk, o + off * z + k * z + j, none⟩).getD undef) (hFblk _ _ _ _ rfl) (by omega) (by omega)
            (fun k row hk => by
              rw [List.getElem?_take] at hk
              split at hk
              · rw [List.getElem?_drop] at hk
                have := q6 (off + k) (row.map .v) (by rw [List.getElem?_map, hk]; rfl)
                simpa using this
              · cases hk)
            (fun k row j c hk hj => by
              obtain ⟨u, g1, _⟩ := hcell k row j c hk hj
              rw [g1]; rfl)
            (fun k row j c hk hj => by
              obtain ⟨u, g1, g2⟩ := hcell k row j c hk hj
              rw [g1]; exact g2.mono hFF (fun _ _ => rfl))
          rw [hlen] at this
          exact this
        | slz =>
          have : (rows.drop off).take 0 = [] := by simp
          rw [this]; exact .isl0 _ _ _ (by omega)
        | sln =>
          have : (rows.drop 0).take 0 = [] := by simp
          rw [this]; exact .isl0 _ _ _ (by omega)
      · exact hx
    | _ => exact hx
  have fl : ∀ {cs : List AV} {vs : Array Value}, RepL w F L cs vs.toList → RepL w F' L (cs.map (frz0 (b.length + i) ver sz rows)) vs.toList := by
    intro cs vs h
    refine ⟨by simpa using h.1, fun j x v hx hv => ?_⟩
    rw [List.getElem?_map] at hx
    cases hq : cs[j]? with
    | none => simp [hq] at hx
    | some y => simp [hq] at hx; subst hx; exact f0 (mono (h.2 j y v hq hv))
  have ff : ∀ {x : AV} {v : Value}, RepA w F L x v → RepA w F' L (frz (b.length + i) ver sz rows x) v := by
    intro x v hx
    cases x with
    | agg cs => obtain ⟨vs, rfl, hl⟩ := hx.aggL; exact RepL.agg (fl hl)
    | tup cs => obtain ⟨vs, rfl, hl⟩ := hx.tupL; exact RepL.tup (fl hl)
    | _ => exact f0 (mono hx)
  refine ⟨F', ?_, ⟨hea.1, by simpa using hea.2.1, fun j x v hx hv => ?_⟩, ⟨hFF, fun _ _ _ _ h => h, rfl, rfl, rfl, Nat.le_refl _, fun _ _ _ => rfl, fun k _ ho => by rw [hset] at ho; exact hown k ho, fun id hid v hv => ?_, fun k hk hf => hFnew k hf⟩, fun x v h => f0 h⟩
  · rw [hset]
    refine ⟨fun j v z els hj => ?_, fun j v q hq => ?_, fun j j' v v' z z' e1 e2 bb q1 q2 h1 h2 h3 h4 h5 h6 => s.apart j j' v v' z z' e1 e2 bb q1 q2 (hlive h1).2 (hlive h2).2 h3 h4 h5 h6, hF'⟩
    · obtain ⟨_, h3⟩ := hlive hj
      obtain ⟨q, g1, g2⟩ := s.row j v z els h3
      exact ⟨q, g1, g2.mono (fun _ _ => rfl) (fun _ _ => mono)⟩
    · obtain ⟨r, h1, h2⟩ := s.born j v q hq
      by_cases hji : b.length + i = j
      · subst hji
        rw [hrow] at h1; cases h1
        exact ⟨.dead ver, List.getElem?_set_self hidl, h2⟩
      · exact ⟨r, by rw [List.getElem?_set_ne hji]; exact h1, h2⟩
  · rw [List.getElem?_map] at hx
    cases hq : e[j]? with
    | none => simp [hq] at hx
    | some y => simp [hq] at hx; subst hx; exact ff (hea.2.2 j y v hq hv)
  · rw [List.getElem?_append_left hid] at hv ⊢; exact hv

theorem Weak.freeze {i ver sz : Nat} {rows : List (List IV)} (hi : l[i]? = some (.live ver sz (rows.map (·.map .v)))) : Weak e b l (e.map (frz (b.length + i) ver sz rows)) b (l.set i (.dead ver)) := by
  intro F L w a s hea
  obtain ⟨F', h1, h2, h3, _⟩ := freeze_core hi F L w a s hea
  exact ⟨F', L, h1, h2, h3, rfl⟩

/-- The cells of a row, each turned by g. -/
def rowMap (g : AV → AV) : Row → Row
  | .live v s els => .live v s (els.map (·.map g))
  | .dead v => .dead v
theorem rowMap_get {g : AV → AV} {b l : List Row} {j v z : Nat} {els : List (List AV)} (h : (b ++ l.map (rowMap g))[j]? = some (.live v z els)) : ∃ els0, (b ++ l)[j]? = some (.live v z els0) ∧ (els = els0 ∨ els = els0.map (·.map g)) := by
  by_cases hj : j < b.length
  · rw [List.getElem?_append_left hj] at h ⊢
    exact ⟨els, h, .inl rfl⟩
  · rw [List.getElem?_append_right (by omega), List.getElem?_map] at h
    rw [List.getElem?_append_right (by omega)]
    cases hq : l[j - b.length]? with
    | none => rw [hq] at h; cases h
    | some r =>
      rw [hq] at h
      cases r with
      | live v' z' els0 => cases h; exact ⟨els0, rfl, .inr rfl⟩
      | dead v' => cases h
theorem Sim.mapRows {F : Nat → Prop} {L : LMap} {b l : List Row} {w : World} (s : Sim F L (b ++ l) w) {g : AV → AV} (hg : ∀ (x : AV) (v : Value), RepA w F L x v → RepA w F L (g x) v) (hc : ∀ x : AV, x.cell = true → (g x).cell = true) :
    Sim F L (b ++ l.map (rowMap g)) w ∧ ∀ k, Owned L (b ++ l.map (rowMap g)) k → Owned L (b ++ l) k := by
  have own : ∀ k, Owned L (b ++ l.map (rowMap g)) k → Owned L (b ++ l) k := by
    rintro k ⟨i, v, z, e1, q1, h1, h2, h4⟩
    obtain ⟨els0, h3, _⟩ := rowMap_get h1
    exact ⟨i, v, z, els0, q1, h3, h2, h4⟩
  refine ⟨⟨fun j v z els hj => ?_, fun i v q hq => ?_, fun i i' v v' z z' e1 e2 bb q1 q2 h1 h2 h3 h4 h5 h6 => ?_, fun k hk => ⟨(s.imm k hk).1, fun ho => (s.imm k hk).2 (own k ho)⟩⟩, own⟩
  · obtain ⟨els0, h1, h2⟩ := rowMap_get hj
    obtain ⟨q, g1, g2⟩ := s.row _ _ _ _ h1
    refine ⟨q, g1, ?_⟩
    rcases h2 with rfl | rfl
    · exact g2
    · cases q with
      | nil => have g2 : els0 = [] := g2; subst g2; rfl
      | pl blk o z1 c =>
        obtain ⟨q1, q2, q3, cur, T, q4, q5, q6, q7⟩ := g2
        refine ⟨q1, by simpa using q2, q3, cur, T, q4, q5, fun k row hk => ?_, fun k row jj c hk hjj => ?_⟩
        · rw [List.getElem?_map] at hk
          cases hr : els0[k]? with
          | none => rw [hr] at hk; cases hk
          | some r0 => rw [hr] at hk; cases hk; simpa using q6 k r0 hr
        · rw [List.getElem?_map] at hk
          cases hr : els0[k]? with
          | none => rw [hr] at hk; cases hk
          | some r0 =>
            rw [hr] at hk; cases hk
            rw [List.getElem?_map] at hjj
            cases hx : r0[jj]? with
            | none => rw [hx] at hjj; cases hjj
            | some x =>
              rw [hx] at hjj; cases hjj
              obtain ⟨t1, u, t2, t3⟩ := q7 k r0 jj x hr hx
              exact ⟨hc x t1, u, t2, hg x u t3⟩
      | mp blk =>
        obtain ⟨es, clk, q4, q5, q6⟩ := g2
        refine ⟨es, clk, q4, by simpa using q5, fun k row e1 hk he => ?_⟩
        rw [List.getElem?_map] at hk
        cases hr : els0[k]? with
        | none => rw [hr] at hk; cases hk
        | some r0 =>
          rw [hr] at hk; cases hk
          obtain ⟨x1, y1, rfl, t2, t3⟩ := q6 k r0 e1 hr he
          exact ⟨g x1, g y1, rfl, hg _ _ t2, hg _ _ t3⟩
  · obtain ⟨r, h1, h2⟩ := s.born i v q hq
    by_cases hj : i < b.length
    · rw [List.getElem?_append_left hj] at h1 ⊢; exact ⟨r, h1, h2⟩
    · rw [List.getElem?_append_right (by omega)] at h1 ⊢
      rw [List.getElem?_map, h1]
      refine ⟨_, rfl, ?_⟩
      cases r <;> exact h2
  · obtain ⟨_, k1, _⟩ := rowMap_get h1
    obtain ⟨_, k2, _⟩ := rowMap_get h2
    exact s.apart i i' v v' z z' _ _ bb q1 q2 k1 k2 h3 h4 h5 h6

theorem frz0_cell {id ver sz : Nat} {rows : List (List IV)} (x : AV) (h : x.cell = true) : (frz0 id ver sz rows x).cell = true := by
  cases x <;> first | exact h | skip
  simp only [frz0]
  split <;> rfl

/-- The same; the cells of the call's own rows that refer to the row are turned, too. -/
theorem Weak.freezeAll {i ver sz : Nat} {rows : List (List IV)} (hi : l[i]? = some (.live ver sz (vs rows))) :
    Weak e b l (e.map (frz (b.length + i) ver sz rows)) b ((l.set i (.dead ver)).map (rowMap (frz0 (b.length + i) ver sz rows))) := by
  intro F L w a s hea
  obtain ⟨F', h1, h2, h3, h4⟩ := freeze_core hi F L w a s hea
  obtain ⟨s2, own⟩ := h1.mapRows h4 (fun x hx => frz0_cell x hx)
  refine ⟨F', L, s2, h2, ⟨h3.imm, h3.loc, h3.os, h3.tape, h3.output, h3.size, h3.block, fun k hk ho => h3.own k hk (own k ho), fun id hid v hv => ?_, h3.fnew⟩, rfl⟩
  have := h3.base id hid v hv
  rw [List.getElem?_append_left hid] at this ⊢
  exact this

/-- What a round leaves, without what is junk. -/
theorem Weak.round {l1 junk : List Row} (hf : Fgt e e') (hl : l = l1 ++ junk) (he : ∀ x ∈ e', AVlt (b.length + l1.length) x) (hb : RowsLt b.length b) (h1 : RowsLt (b.length + l1.length) l1) : Weak e b l e' b l1 :=
  (Weak.forget hf).trans (Weak.trim hl he (hb.mono (by omega)) h1)

/-! Loops. -/
/-- What a round must hand on. -/
def Round {ι : Type} (E : ι → List AV) (B L : ι → List Row) (Cd : ι → Prop) (μ : ι → Nat) (i : ι) : List AV → List Row → List Row → Prop :=
  fun e b l => ∃ i', Cd i' ∧ μ i' < μ i ∧ Weak e b l (E i') (B i') (L i')

theorem loop_rule {P : Program} {c : ACode} {Q : AExit → List AV → List Row → List Row → Prop} {ι : Type} (E : ι → List AV) (B L : ι → List Row) (Cd : ι → Prop) (μ : ι → Nat) (i0 : ι) (h0 : Cd i0) (hw : Weak e b l (E i0) (B i0) (L i0))
    (step : ∀ i, Cd i → run (ACalls P) Weak c (E i) (B i) (L i) (seqQ (Round E B L Cd μ i) Q)) : run (ACalls P) Weak (.loop c) e b l Q := by
  refine ⟨fun e b l m => ∃ i, Cd i ∧ μ i = m ∧ e = E i ∧ b = B i ∧ l = L i, ⟨E i0, B i0, L i0, μ i0, hw, i0, h0, rfl, rfl, rfl, rfl⟩, ?_⟩
  rintro e b l m ⟨i, hi, rfl, rfl, rfl, rfl⟩
  refine run_mono' ACalls_mono (step i hi) ?_
  intro ex e b l h
  cases ex with
  | normal =>
    obtain ⟨i', h1, h2, h3⟩ := h
    exact ⟨E i', B i', L i', μ i', h3, ⟨i', h1, rfl, rfl, rfl, rfl⟩, h2⟩
  | exit j => exact h
  | ret => exact h

/-! Ends. -/
theorem leave {rs : List ARes} {Q : AV → List Row → List Row → Prop} {B : List Row} {ex : AExit} (hex : ex = .normal ∨ ex = .ret) {xs : List AV} (hx : resVs e B l rs = some xs) {y : AV} {l' : List Row} (hw : Weak [one xs] B l [y] B l') {b0 l0 : List Row} (hB : B = b0 ++ l0) (hq : Q y b0 (l0 ++ l')) :
    Leaves rs Q b0.length ex e B l := by
  refine ⟨hex, xs, hx, y, B, l', hw, ?_⟩
  subst hB
  simpa using hq

/-- The end of a function that leaves nothing but its result, which refers to no memory of its own. -/
theorem leave_pure {rs : List ARes} {Q : AV → List Row → List Row → Prop} {B : List Row} {ex : AExit} (hex : ex = .normal ∨ ex = .ret) {xs : List AV} (hx : resVs e B l rs = some xs) (hlt : AVlt B.length (one xs)) (hR : RowsLt B.length B) {b0 l0 : List Row} (hB : B = b0 ++ l0) (hq : Q (one xs) b0 l0) :
    Leaves rs Q b0.length ex e B l :=
  leave hex hx (Weak.trim (l1 := []) rfl (by simpa using hlt) (by simpa using hR) RowsLt_nil) hB (by simpa using hq)

theorem frz_here {id ver sz n : Nat} {rows : List (List IV)} (hn : n = rows.length) : frz0 id ver sz rows (.sl id ver 0 n) = .v (.isl sz rows) := by
  subst hn
  simp [frz0]

/-- The end of a function that hands out a row of its own as a value. -/
theorem leave_frz {rs : List ARes} {Q : AV → List Row → List Row → Prop} {B : List Row} {ex : AExit} (hex : ex = .normal ∨ ex = .ret) {i ver sz n : Nat} {rows : List (List IV)} (hx : resVs e B l rs = some [.sl (B.length + i) ver 0 n]) (hi : l[i]? = some (.live ver sz (vs rows))) (hn : n = rows.length)
    (hR : RowsLt B.length B) {b0 l0 : List Row} (hB : B = b0 ++ l0) (hq : Q (.v (.isl sz rows)) b0 l0) : Leaves rs Q b0.length ex e B l := by
  refine leave hex hx (y := .v (.isl sz rows)) ((Weak.freeze (i := i) (rows := rows) hi).trans ?_) (l' := []) hB (by simpa using hq)
  have h1 : List.map (frz (B.length + i) ver sz rows) [one [AV.sl (B.length + i) ver 0 n]] = [.v (.isl sz rows)] := by
    simp only [List.map_cons, List.map_nil, one, frz, frz_here hn]
  rw [h1]
  exact Weak.trim (l1 := []) rfl (by intro x hx; simp at hx; subst hx; exact .v _) (by simpa using hR) RowsLt_nil

/-- Likewise with a second result. -/
theorem leave_frz2 {rs : List ARes} {Q : AV → List Row → List Row → Prop} {B : List Row} {ex : AExit} (hex : ex = .normal ∨ ex = .ret) {i ver sz n : Nat} {rows : List (List IV)} {z : IV} (hx : resVs e B l rs = some [.sl (B.length + i) ver 0 n, .v z]) (hi : l[i]? = some (.live ver sz (vs rows))) (hn : n = rows.length)
    (hR : RowsLt B.length B) {b0 l0 : List Row} (hB : B = b0 ++ l0) (hq : Q (.tup [.v (.isl sz rows), .v z]) b0 l0) : Leaves rs Q b0.length ex e B l := by
  refine leave hex hx (y := .tup [.v (.isl sz rows), .v z]) ((Weak.freeze (i := i) (rows := rows) hi).trans ?_) (l' := []) hB (by simpa using hq)
  have h1 : List.map (frz (B.length + i) ver sz rows) [one [AV.sl (B.length + i) ver 0 n, .v z]] = [.tup [.v (.isl sz rows), .v z]] := by
    subst hn
    simp [one, frz, frz0]
  rw [h1]
  refine Weak.trim (l1 := []) rfl (by intro x hx; simp at hx; subst hx; exact .tup _ (by intro c hc; simp at hc; rcases hc with rfl | rfl <;> exact .v _)) (by simpa using hR) RowsLt_nil
end
end Go.Proofs.Ytiiflkcebikecaa

/- General words for the walks of this seat: facts kept from the walk, worlds that keep what there was, slices that read as lists, rows that a call owns. No condition. -/
namespace Go.Proofs.Ytiiflkcebikecaa
open Go.RowKit
set_option linter.unusedVariables false

@[irreducible] def Hx (p : Prop) : Prop := p
theorem hide {p : Prop} (h : p) : Hx p := by unfold Hx; exact h
theorem Hx.out {p : Prop} (h : Hx p) : p := by unfold Hx at h; exact h

def Rel1 {α : Type} (P : α → Value → Prop) (u : Value) : Prop := ∃ k, P k u
theorem Rel1.mk {α : Type} {P : α → Value → Prop} {u : Value} (k : α) (h : P k u) : Rel1 P u := ⟨k, h⟩
def Rel2 {α : Type} (P : α → Value → Value → Prop) (t i : Value) : Prop := ∃ k, P k t i
theorem Rel2.mk {α : Type} {P : α → Value → Value → Prop} {t i : Value} (k : α) (h : P k t i) : Rel2 P t i := ⟨k, h⟩

theorem ret_int {k : IntKind} {a b : Int} (h : a = b) : Ending.returned (.int k a) = .returned (.int k b) := by rw [h]
theorem ret_bool {a b : Bool} (h : a = b) : Ending.returned (.bool a) = .returned (.bool b) := by rw [h]
theorem val_int {k : IntKind} {a b : Int} (h : a = b) : Value.int k a = .int k b := by rw [h]
theorem val_bool {a b : Bool} (h : a = b) : Value.bool a = .bool b := by rw [h]

/-- All that there was is as it was. -/
def Ext (w w' : World) : Prop := Below w.heap.size w w'
theorem Ext.refl (w : World) : Ext w w := Below.refl _ _
theorem Ext.trans {a b c : World} (h : Ext a b) (k : Ext b c) : Ext a c := Below.trans h (Below.mono k h.size)
theorem Ext.alloc {a w : World} (h : Ext a w) (o : Obj) : Ext a (w.alloc o) := Below.alloc h h.size o
theorem Ext.drew {a w : World} (h : Ext a w) : Ext a w.drew := Below.drew h
theorem Ext.drewN {a w : World} (h : Ext a w) (n : Nat) : Ext a (w.drewN n) := ⟨h.os, h.tape, h.output, h.size, h.block⟩
theorem Ext.setCell {a w : World} (h : Ext a w) {p : Addr} (hp : a.heap.size ≤ p.block) (u : Value) : Ext a (w.setCell p u) := Below.setCell h hp u
theorem Ext.size {a w : World} (h : Ext a w) : a.heap.size ≤ w.heap.size := Below.size h
theorem Ext.cellAt {a w : World} (h : Ext a w) {b o : Nat} {v : Value} (hc : a.cell? ⟨b, o, none⟩ = some v) : w.cell? ⟨b, o, none⟩ = some v :=
  (Below.cell (p := ⟨b, o, none⟩) h (World.block_lt_of_cell? a _ hc)).trans hc
theorem Ext.cells {a w : World} (h : Ext a w) : ∀ b o, b < a.heap.size → w.cell? ⟨b, o, none⟩ = a.cell? ⟨b, o, none⟩ := fun b o hb => Below.cell (p := ⟨b, o, none⟩) h hb
theorem Ext.frees {a w : World} (h : Ext a w) : ∀ b o, b < a.heap.size → w.frozen? ⟨b, o, none⟩ = a.frozen? ⟨b, o, none⟩ := fun b o hb => Below.frozen (p := ⟨b, o, none⟩) h hb
theorem Ext.grown {a w w' : World} {row : Option Nat} (h : Ext a w) (hg : w.grownBy w' row) (hr : ∀ k, row = some k → a.heap.size ≤ k) : Ext a w' := Below.grown h hg h.size hr
theorem Ext.below {a w : World} (h : Ext a w) : Below a.heap.size a w := h
theorem ext_of_grown {w w' : World} (h : w.grownBy w' none) : Ext w w' := (Ext.refl w).grown h (fun _ hk => by cases hk)

theorem lt_of_cell {w : World} {b o : Nat} {v : Value} (h : w.cell? ⟨b, o, none⟩ = some v) : b < w.heap.size := World.block_lt_of_cell? w _ h

section
variable {α β : Type}
/-- A slice whose elements are 'size' cells each and read, one by one, as xs. -/
def SlR (size : Nat) (R : World → Nat → Nat → α → Prop) (w : World) (v : Value) (xs : List α) : Prop :=
  ∃ A c, v = .slice A xs.length c ∧ xs.length ≤ c ∧ c ≤ maxLen ∧ (0 < xs.length → ∃ b off, A = some ⟨b, off, none⟩ ∧ ∀ (j : Nat) (x : α), xs[j]? = some x → R w b (off + j * size) x)

def Keeps (R : World → Nat → Nat → α → Prop) : Prop := ∀ w w' b o x, Ext w w' → R w b o x → R w' b o x
theorem SlR.ext {size : Nat} {R : World → Nat → Nat → α → Prop} (hR : Keeps R) {w w' : World} {v : Value} {xs : List α} (h : SlR size R w v xs) (he : Ext w w') : SlR size R w' v xs := by
  obtain ⟨A, c, hv, hl, hm, hc⟩ := h
  refine ⟨A, c, hv, hl, hm, fun h0 => ?_⟩
  obtain ⟨b, off, hA, hj⟩ := hc h0
  exact ⟨b, off, hA, fun j x hx => hR _ _ _ _ _ he (hj j x hx)⟩
theorem SlR.nil (size : Nat) (R : World → Nat → Nat → α → Prop) (w : World) : SlR size R w (.slice none 0 0) [] := ⟨none, 0, rfl, by simp, by simp [maxLen], by simp⟩

/-- One-cell elements. -/
def One (enc : α → Value) (w : World) (b o : Nat) (x : α) : Prop := w.cell? ⟨b, o, none⟩ = some (enc x)
theorem One.keeps (enc : α → Value) : Keeps (One enc) := fun _ _ _ _ _ he h => Ext.cellAt he h
def Sl (enc : α → Value) (w : World) (v : Value) (xs : List α) : Prop := SlR 1 (One enc) w v xs
theorem Sl.ext {enc : α → Value} {w w' : World} {v : Value} {xs : List α} (h : Sl enc w v xs) (he : Ext w w') : Sl enc w' v xs := SlR.ext (One.keeps enc) h he
theorem Sl.nil (enc : α → Value) (w : World) : Sl enc w (.slice none 0 0) [] := SlR.nil _ _ _
theorem Sl.form {enc : α → Value} {w : World} {v : Value} {xs : List α} (h : Sl enc w v xs) : ∃ A c, v = .slice A xs.length c ∧ xs.length ≤ c ∧ c ≤ maxLen ∧ (0 < xs.length → ∃ b off, A = some ⟨b, off, none⟩ ∧ b < w.heap.size ∧
    ∀ (j : Nat) (hj : j < xs.length), w.cell? ⟨b, off + j, none⟩ = some (enc xs[j])) := by
  obtain ⟨A, c, hv, hl, hm, hc⟩ := h
  refine ⟨A, c, hv, hl, hm, fun h0 => ?_⟩
  obtain ⟨b, off, hA, hj⟩ := hc h0
  have hall : ∀ (j : Nat) (hj : j < xs.length), w.cell? ⟨b, off + j, none⟩ = some (enc xs[j]) := fun j hj' => by
    have := hj j xs[j] (List.getElem?_eq_getElem hj')
    rwa [Nat.mul_one] at this
  exact ⟨b, off, hA, lt_of_cell (hall 0 h0), hall⟩
theorem Sl.mk {enc : α → Value} {w : World} {A : Option Addr} {n c : Nat} {xs : List α} (hn : n = xs.length) (hl : n ≤ c) (hm : c ≤ maxLen)
    (h : 0 < n → ∃ b off, A = some ⟨b, off, none⟩ ∧ ∀ (j : Nat) (hj : j < xs.length), w.cell? ⟨b, off + j, none⟩ = some (enc xs[j])) : Sl enc w (.slice A n c) xs := by
  subst hn
  refine ⟨A, c, rfl, hl, hm, fun h0 => ?_⟩
  obtain ⟨b, off, hA, hj⟩ := h h0
  refine ⟨b, off, hA, fun j x hx => ?_⟩
  obtain ⟨hlt, rfl⟩ := List.getElem?_eq_some_iff.1 hx
  rw [Nat.mul_one]
  exact hj j hlt
/-- A cut 's[:k]'. -/
theorem Sl.take {enc : α → Value} {w : World} {A : Option Addr} {n c : Nat} {xs : List α} (h : Sl enc w (.slice A n c) xs) (k : Nat) (hk : k ≤ n) : Sl enc w (.slice A k c) (xs.take k) := by
  obtain ⟨A', c', hv, hl, hm, hc⟩ := h.form
  injection hv with hA hn hc'; subst hA; subst hc'; subst hn
  refine Sl.mk (by rw [List.length_take]; omega) (by omega) hm (fun h0 => ?_)
  obtain ⟨b, off, hA, _, hj⟩ := hc (by omega)
  exact ⟨b, off, hA, fun j hj' => by rw [List.getElem_take]; exact hj j (by rw [List.length_take] at hj'; omega)⟩
/-- A cut 's[k:]': the address moves, or (at the capacity's end) stays. -/
theorem Sl.drop {enc : α → Value} {w : World} {A A' : Option Addr} {n c : Nat} {xs : List α} (h : Sl enc w (.slice A n c) xs) (k : Nat) (hk : k ≤ n)
    (hA' : ∀ b off, A = some ⟨b, off, none⟩ → k < n → A' = some ⟨b, off + k, none⟩) : Sl enc w (.slice A' (n - k) (c - k)) (xs.drop k) := by
  obtain ⟨A0, c0, hv, hl, hm, hc⟩ := h.form
  injection hv with hA hn hc'; subst hA; subst hc'; subst hn
  refine Sl.mk (by rw [List.length_drop]) (by omega) (by omega) (fun h0 => ?_)
  obtain ⟨b, off, hA, _, hj⟩ := hc (by omega)
  refine ⟨b, off + k, hA' b off hA (by omega), fun j hj' => ?_⟩
  have hlt : k + j < xs.length := by rw [List.length_drop] at hj'; omega
  rw [List.getElem_drop, Nat.add_assoc]
  exact hj (k + j) hlt
end

/-- A row of the call's own, whose elements are one cell each. -/
def Own {α : Type} (enc : α → Value) (e : TypeId) (w : World) (B : Nat) (v : Value) (xs : List α) : Prop := w.ownsRow B e 1 v xs.length (xs.map enc)
/-- w' is w, but for new blocks and for writes to the row of v; the row of v' is that of v, or new. -/
def Grw (w : World) (v : Value) (w' : World) (v' : Value) : Prop := w.grownBy w' v.ownBlock ∧ ∀ k, v'.ownBlock = some k → v.ownBlock = some k ∨ w.heap.size ≤ k

section
variable {α : Type} {enc : α → Value} {e : TypeId} {w w' : World} {B : Nat} {v v' : Value} {xs : List α}
theorem Grw.refl (w : World) (v : Value) : Grw w v w v := ⟨World.grownBy.refl _ _, fun _ h => .inl h⟩
theorem Grw.trans {w2 : World} {v2 : Value} (h : Grw w v w' v') (k : Grw w' v' w2 v2) : Grw w v w2 v2 := by
  refine ⟨⟨k.1.os.trans h.1.os, k.1.tape.trans h.1.tape, k.1.output.trans h.1.output, Nat.le_trans h.1.size k.1.size, fun i hi hne => ?_⟩, fun i hi => ?_⟩
  · rw [k.1.block i (Nat.lt_of_lt_of_le hi h.1.size) ?_, h.1.block i hi hne]
    intro he
    rcases h.2 i he.symm with h' | h'
    · exact hne h'.symm
    · omega
  · rcases k.2 i hi with h' | h'
    · exact h.2 i h'
    · exact .inr (Nat.le_trans h.1.size h')
theorem Grw.alloc (h : Grw w v w' v') (o : Obj) : Grw w v (w'.alloc o) v' :=
  h.trans ⟨World.grownBy_alloc _ _ _, fun _ hk => .inl hk⟩
theorem Grw.drew (h : Grw w v w' v') : Grw w v w'.drew v' := ⟨⟨h.1.os, h.1.tape, h.1.output, h.1.size, h.1.block⟩, h.2⟩
theorem Grw.below (h : Grw w v w' v') (hv : ∀ k, v.ownBlock = some k → B ≤ k) (hB : B ≤ w.heap.size) : Below B w w' := (Below.refl B w).grown h.1 hB hv
theorem Grw.ext (h : Grw w v w' v') (hv : v.ownBlock = none) : Ext w w' := Grw.below h (fun k hk => by rw [hv] at hk; cases hk) (Nat.le_refl _)
theorem Own.lt (h : Own enc e w B v xs) : ∀ k, v.ownBlock = some k → B ≤ k ∧ k < w.heap.size := World.ownsRow.lt h
theorem Own.nil (enc : α → Value) (e : TypeId) (w : World) (B : Nat) : Own enc e w B (.slice none 0 0) [] := World.ownsRow_nil _ _ _ _
theorem Own.alloc (h : Own enc e w B v xs) (o : Obj) : Own enc e (w.alloc o) B v xs := World.ownsRow.alloc h o
theorem Own.drew (h : Own enc e w B v xs) : Own enc e w.drew B v xs := h
theorem Own.drewN (h : Own enc e w B v xs) (n : Nat) : Own enc e (w.drewN n) B v xs := h
theorem Own.ext (h : Own enc e w B v xs) (he : Ext w w') : Own enc e w' B v xs :=
  World.ownsRow.kept (row := none) h ⟨he.os, he.tape, he.output, he.size, fun k hk _ => he.block k hk⟩ (by cases v.ownBlock <;> simp)
theorem Own.kept (h : Own enc e w B v xs) {row : Option Nat} (hg : w.grownBy w' row) (hne : v.ownBlock = none ∨ v.ownBlock ≠ row) : Own enc e w' B v xs := World.ownsRow.kept h hg hne
theorem Own.mono {B' : Nat} (h : Own enc e w B v xs) (hB : B' ≤ B) : Own enc e w B' v xs := by
  obtain ⟨h1, h2⟩ := h
  refine ⟨h1, ?_⟩
  rcases h2 with h2 | ⟨g, cap, cur, hv, hb, rest⟩
  · exact .inl h2
  · exact .inr ⟨g, cap, cur, hv, Nat.le_trans hB hb, rest⟩
theorem Own.sl (h : Own enc e w B v xs) : Sl enc w v xs := by
  rcases h.2 with ⟨hv, hn⟩ | ⟨g, cap, cur, hv, hb, hg, hnc, hcm, hcs, ht⟩
  · have hx : xs = [] := List.eq_nil_of_length_eq_zero hn
    subst hx; subst hv
    exact Sl.nil _ _
  · subst hv
    refine Sl.mk rfl hnc hcm (fun _ => ⟨g, 0, rfl, fun j hj => ?_⟩)
    have := World.ownsRow.cells h (g := g) rfl j (enc xs[j]) (by simp [List.getElem?_eq_getElem hj])
    have e0 : (⟨g, 0, none⟩ : Addr).add j = ⟨g, 0 + j, none⟩ := by unfold Addr.add; split <;> simp_all
    rwa [e0] at this
theorem Own.form (h : Own enc e w B v xs) : ∃ A c, v = .slice A xs.length c ∧ xs.length ≤ c ∧ c ≤ maxLen := by
  obtain ⟨A, c, hv, hl, hm, _⟩ := h.sl
  exact ⟨A, c, hv, hl, hm⟩
/-- A block that was made whole. -/
theorem Own.made (w : World) (cs : Array Value) (hB : B ≤ w.heap.size) (hm : xs.length ≤ maxLen) (hc : cs = (xs.map enc).toArray) :
    Own enc e (w.alloc (.cells cs e)) B (.slice (some ⟨w.heap.size, 0, none⟩) xs.length xs.length) xs := by
  subst hc
  refine ⟨by simp, .inr ⟨w.heap.size, xs.length, _, rfl, hB, heap_alloc_new w _, Nat.le_refl _, hm, by simp, ?_⟩⟩
  rw [Nat.mul_one]
  exact List.take_of_length_le (by simp)
end

theorem Sl.made {α : Type} {enc : α → Value} (e : TypeId) (w : World) {cs : Array Value} {n : Nat} (xs : List α) (hn : n = xs.length) (hm : n ≤ maxLen) (hc : cs = (xs.map enc).toArray) :
    Sl enc (w.alloc (.cells cs e)) (.slice (some ⟨w.heap.size, 0, none⟩) n n) xs := by
  subst hn
  exact (Own.made (B := 0) w cs (Nat.zero_le _) hm hc).sl

/-- The element type's row of the program's table, with its slice type. -/
structure ElI (P : Program) (t e : TypeId) (z : Value) (bytes : Nat) : Prop where
  ht : P.underlying t = some (.slice e)
  inf : ∃ i : TypeInfo, P.info? e = some i ∧ i.zero = some z ∧ i.size = 1 ∧ i.bytes = bytes
  one : z.cells.size = 1

/-- append onto a row of the call's own, of one-cell elements, whatever the source. -/
theorem run_app {P : Program} {w : World} {α : Type} {enc : α → Value} {t e : TypeId} {z : Value} {bytes : Nat} (I : ElI P t e z bytes) (h1 : ∀ x, (enc x).oneCell' = true) (ty : TypeId)
    {B : Nat} {v u : Value} {xs ys : List α} (hown : Own enc e w B v xs) (hu : Sl enc w u ys) (h63 : xs.length + ys.length ≤ 1099511627776) (hby : bytes ≤ 24) (hB : B ≤ w.heap.size) :
    ∃ v' w', (Builtin.append_ #[t, t] ty #[v, u]).run P w = .ok v' w' ∧ Own enc e w' B v' (xs ++ ys) ∧ Grw w v w' v' ∧ (v' = .slice none 0 0 ↔ v = .slice none 0 0 ∧ ys = []) := by
  obtain ⟨i, hi, hz, hs, hb⟩ := I.inf
  obtain ⟨A, c, hv, hl, hm, hc⟩ := hu.form
  have hbytes : (xs.length + ys.length) * bytes ≤ 140737488355328 := by
    calc (xs.length + ys.length) * bytes ≤ 1099511627776 * 24 := Nat.mul_le_mul h63 hby
      _ ≤ 140737488355328 := by decide
  subst hv
  rcases A with _ | ad
  · have h0 : ys = [] := by
      rcases Nat.eq_zero_or_pos ys.length with h0 | h0
      · exact List.eq_nil_of_length_eq_zero h0
      · obtain ⟨b, off, hA, _⟩ := hc h0
        cases hA
    subst h0
    refine ⟨v, w, ?_, by simpa using hown, Grw.refl _ _, by simp⟩
    rcases hown.2 with ⟨rfl, hn⟩ | ⟨g, cap, cur, rfl, _, _, hnc, _⟩
    · simp [Builtin.append_, run_underlying I.ht, sizeOf, typeInfo, hi, Builtin.lenOf, Builtin.firstCells]
    · simp [Builtin.append_, run_underlying I.ht, sizeOf, typeInfo, hi, Builtin.lenOf, Builtin.firstCells, hnc, storeCells]
  · have hcells : ∀ j u, (ys.map enc)[j]? = some u → w.cell? (ad.add j) = some u := by
      intro j q hq
      rw [List.getElem?_map] at hq
      cases hj : ys[j]? with
      | none => rw [hj] at hq; cases hq
      | some y =>
        rw [hj] at hq
        obtain ⟨hlt, rfl⟩ := List.getElem?_eq_some_iff.1 hj
        obtain ⟨b, off, hA, _, hcell⟩ := hc (by omega)
        injection hA with hA; subst hA
        have e0 : (⟨b, off, none⟩ : Addr).add j = ⟨b, off + j, none⟩ := by unfold Addr.add; split <;> simp_all
        rw [e0, hcell j hlt]
        simpa using hq
    obtain ⟨v', w', hrun, h2, h3, h4, h5⟩ := run_append_own_at (P := P) w B t ty e i z 1 bytes I.ht hi hz hs hb I.one (by omega) v xs.length (xs.map enc) hown ad ys.length c (ys.map enc) (by simp) hcells
      (by intro u hu; obtain ⟨x, _, rfl⟩ := List.mem_map.1 hu; exact h1 x) (by simp only [maxLen]; omega) hbytes hB
    refine ⟨v', w', hrun, by unfold Own; rw [List.length_append, List.map_append]; exact h2, ⟨h3, fun k hk => ?_⟩, ?_⟩
    · rcases h5 with h5 | h5
      · exact .inl (by rw [← h5]; exact hk)
      · rw [h5] at hk; injection hk with hk; exact .inr (by omega)
    · rw [h4]; simp

theorem wpl_app {P : Program} {w : World} {ops : Array Oper} {rest : List Oper} {o : Oper} {a : Act} {Q : Exit → Act → World → Prop} (s x : Operand) {t : TypeId}
    {α : Type} {enc : α → Value} {e : TypeId} {z : Value} {bytes : Nat} (I : ElI P t e z bytes) (h1 : ∀ x, (enc x).oneCell' = true)
    (hgd : o.guard = none) (ho : o.op = .call { callee := .builtin .append, args := #[s, x], argTypes := #[t, t] })
    {B : Nat} {v u : Value} {xs ys : List α} (hs : a.eval s = v) (hx : a.eval x = u) (hown : Own enc e w B v xs) (hu : Sl enc w u ys) (h63 : xs.length + ys.length ≤ 1099511627776) (hby : bytes ≤ 24) (hB : B ≤ w.heap.size)
    (h : ∀ v' w', Own enc e w' B v' (xs ++ ys) → Grw w v w' v' → wpList P ops Q rest (a.put o.dst v') w') : wpList P ops Q (o :: rest) a w := by
  obtain ⟨v', w', hrun, h2, h3, _⟩ := run_app (P := P) I h1 o.type hown hu h63 hby hB
  refine wpList_plain hgd fun K hK => ?_
  unfold Oper.wp execOp
  simp only [ho, resolve, invoke, builtin, Sem.run_bind, Sem.run_pure, Result.andThen_ok, List.map_toArray, List.map_cons, List.map_nil, hs, hx, hrun]
  exact hK _ _ (h v' w' h2 h3)

/-- The same; what lies below the row's base is kept. -/
theorem wpl_appb {P : Program} {w : World} {ops : Array Oper} {rest : List Oper} {o : Oper} {a : Act} {Q : Exit → Act → World → Prop} (s x : Operand) {t : TypeId}
    {α : Type} {enc : α → Value} {e : TypeId} {z : Value} {bytes : Nat} (I : ElI P t e z bytes) (h1 : ∀ x, (enc x).oneCell' = true)
    (hgd : o.guard = none) (ho : o.op = .call { callee := .builtin .append, args := #[s, x], argTypes := #[t, t] })
    {B : Nat} {v u : Value} {xs ys : List α} (hs : a.eval s = v) (hx : a.eval x = u) (hown : Own enc e w B v xs) (hu : Sl enc w u ys) (h63 : xs.length + ys.length ≤ 1099511627776) (hby : bytes ≤ 24) (hB : B ≤ w.heap.size)
    (h : ∀ v' w', Own enc e w' B v' (xs ++ ys) → Grw w v w' v' → Below B w w' → wpList P ops Q rest (a.put o.dst v') w') : wpList P ops Q (o :: rest) a w :=
  wpl_app s x I h1 hgd ho hs hx hown hu h63 hby hB fun v' w' h2 h3 => h v' w' h2 h3 (h3.below (fun k hk => (hown.lt k hk).1) hB)

theorem Ext.more {a w w' : World} (h : Ext a w) (k : Below a.heap.size w w') : Ext a w' := Below.trans h k
theorem one_arr {k : IntKind} {a b : Int} (h : a = b) : #[Value.int k a] = [Value.int k b].toArray := by rw [h]
/-- Bytes. -/
def byt (x : UInt8) : Value := .int .u8 (x.toNat : Int)
theorem byt_one (x : UInt8) : (byt x).oneCell' = true := rfl
/-- Integers of kind int. -/
def i64v (x : Int) : Value := .int .i64 x
theorem i64v_one (x : Int) : (i64v x).oneCell' = true := rfl

theorem strOf_byt (xs : List UInt8) : strOfNums (xs.map fun x => (x.toNat : Int)) = ⟨xs.toArray⟩ := by
  unfold strOfNums
  congr 1
  rw [List.map_map]
  congr 1
  conv => rhs; rw [← List.map_id xs]
  apply List.map_congr_left
  intro x _
  simp
/-- 'string(b)' of bytes. -/
theorem run_conv_bytes {P : Program} (w : World) (src e dst : TypeId) (hs : P.underlying src = some (.slice e)) (he : P.underlying e = some (.int .u8)) (hd : P.underlying dst = some .string) {v : Value} {xs : List UInt8} (h : Sl byt w v xs) :
    (convert src dst v).run P w = .ok (.string ⟨xs.toArray⟩) w := by
  obtain ⟨A, c, hv, _, _, hc⟩ := h.form
  subst hv
  rcases A with _ | ad
  · have h0 : xs = [] := by
      rcases Nat.eq_zero_or_pos xs.length with h0 | h0
      · exact List.eq_nil_of_length_eq_zero h0
      · obtain ⟨b, off, hA, _⟩ := hc h0
        cases hA
    subst h0
    exact run_convert_bytes_nil w src e hs he _ _ dst hd
  · by_cases h0 : 0 < xs.length
    · obtain ⟨b, off, hA, _, hall⟩ := hc h0
      injection hA with hA; subst hA
      rw [run_convert_bytes_arg w src e hs he b off xs.length c (xs.map fun x => (x.toNat : Int)) (by simp) (fun i hi => by rw [hall i hi]; simp [byt, List.getD, List.getElem?_eq_getElem hi]) dst hd, strOf_byt]
    · have hx : xs = [] := List.eq_nil_of_length_eq_zero (by omega)
      subst hx
      rw [run_convert_bytes_string w src dst e (some ad) _ c hs he hd]
      simp [Conv.bytesToString, loadCells, loadCellsFrom]
      rfl
theorem ofInt_i64 (a : Nat) (ha : a < 9223372036854775808) : (BitVec.ofInt 64 (a : Int)).toNat = a := by
  rw [BitVec.ofInt_natCast, BitVec.toNat_ofNat]; exact Nat.mod_eq_of_lt (by omega)
theorem i64_xor_nat (a b : Nat) (ha : a < 9223372036854775808) (hb : b < 9223372036854775808) : bits .xor .i64 (a : Int) (b : Int) = ((a ^^^ b : Nat) : Int) := by
  have hx : a ^^^ b < 2 ^ 63 := Nat.xor_lt_two_pow (by omega) (by omega)
  show IntKind.i64.wrap ((BitVec.ofInt 64 (a : Int) ^^^ BitVec.ofInt 64 (b : Int)).toNat : Int) = _
  rw [BitVec.toNat_xor, ofInt_i64 a ha, ofInt_i64 b hb, IntKind.wrap_i64]
  omega
theorem i64_or_nat (a b : Nat) (ha : a < 9223372036854775808) (hb : b < 9223372036854775808) : bits .or .i64 (a : Int) (b : Int) = ((a ||| b : Nat) : Int) := by
  have hx : a ||| b < 2 ^ 63 := Nat.or_lt_two_pow (by omega) (by omega)
  show IntKind.i64.wrap ((BitVec.ofInt 64 (a : Int) ||| BitVec.ofInt 64 (b : Int)).toNat : Int) = _
  rw [BitVec.toNat_or, ofInt_i64 a ha, ofInt_i64 b hb, IntKind.wrap_i64]
  omega
theorem quiet_left {P : Program} {f : FuncId} {args : Array Value} {w : World} {a n : Nat} {v : Value}
    (h : Calls P f args (w.drewN (a + n)) fun e w' => e = .returned v ∧ w.drewN (a + n) = w') : Calls P f args (w.drewN (a + n)) fun e w'' => e = .returned v ∧ ∃ m, w'' = w.drewN (a + m) :=
  h.mono fun _ _ ⟨he, hm⟩ => ⟨he, n, hm.symm⟩
theorem quiet_left0 {P : Program} {f : FuncId} {args : Array Value} {w : World} {n : Nat} {v : Value}
    (h : Calls P f args (w.drewN n) fun e w' => e = .returned v ∧ w.drewN n = w') : Calls P f args (w.drewN n) fun e w'' => e = .returned v ∧ ∃ m, w'' = (w.drewN n).drewN m :=
  h.mono fun _ _ ⟨he, hm⟩ => ⟨he, 0, hm.symm⟩
theorem Sl.drewN {α : Type} {enc : α → Value} {w : World} {v : Value} {xs : List α} (h : Sl enc w v xs) (n : Nat) : Sl enc (w.drewN n) v xs := h.ext ((Ext.refl w).drewN n)
theorem wrap_add (n k : Nat) (h : n + k ≤ 9223372036854775807) : IntKind.i64.wrap ((n : Int) + (k : Int)) = (n : Int) + (k : Int) ∧ ((n : Int) + (k : Int)).toNat = n + k ∧ 0 ≤ (n : Int) + (k : Int) := by
  refine ⟨?_, by omega, by omega⟩
  rw [IntKind.wrap_i64]; omega
end Go.Proofs.Ytiiflkcebikecaa

/- More general words: cuts of slices, each a value with its run equation. No condition. -/
namespace Go.Proofs.Ytiiflkcebikecaa
open Go.RowKit
set_option linter.unusedVariables false

section
variable {P : Program} {α : Type} {enc : α → Value} {w : World} {A : Option Addr} {n c : Nat} {xs : List α}
theorem Sl.len {v : Value} (h : Sl enc w v xs) : ∃ A c, v = .slice A xs.length c := by obtain ⟨A, c, hv, _⟩ := h.form; exact ⟨A, c, hv⟩
theorem Sl.nle (h : Sl enc w (.slice A n c) xs) : n = xs.length ∧ n ≤ c := by
  obtain ⟨_, _, hv, hl, _⟩ := h.form
  injection hv with _ h1 h2; subst h1; subst h2; exact ⟨rfl, hl⟩
/-- 's[l:h]', l ≤ h ≤ len(s): a value of its own. -/
theorem Sl.cutLH (h : Sl enc w (.slice A n c) xs) {t e : TypeId} {i : TypeInfo} (ht : P.underlying t = some (.slice e)) (hi : P.info? e = some i) (hs : i.size = 1) (l k : Nat) {lI kI : Int} (hlI : lI = l) (hkI : kI = k) (hl : l ≤ k) (hk : k ≤ n) :
    ∃ u, (∀ W, (Instr.sliceAt t (.slice A n c) (some (.int .i64 lI)) (some (.int .i64 kI)) none).run P W = .ok u W) ∧ Sl enc w u ((xs.take k).drop l) := by
  obtain ⟨hn, hc⟩ := h.nle
  subst hlI; subst hkI
  refine ⟨.slice (if c = l then A else A.map (·.add (l * 1))) (k - l) (c - l), fun W => ?_, ?_⟩
  · have b1 : ∀ (code : BoundsCode) (W : World), (Instr.sliceBound (.int .i64 (k : Int)) c code).run P W = .ok k W := fun code W => by
      rw [run_sliceBound W .i64 (k : Int) c code (by omega) (by omega)]; simp
    have b2 : ∀ (code : BoundsCode) (W : World), (Instr.sliceBound (.int .i64 (l : Int)) k code).run P W = .ok l W := fun code W => by
      rw [run_sliceBound W .i64 (l : Int) k code (by omega) (by omega)]; simp
    simp [Instr.sliceAt, Instr.slice, Instr.sliceBounds, run_underlying ht, sizeOf, typeInfo, hi, hs, b1, b2]
  · refine (h.take k hk).drop l hl (fun b off hA hlt => ?_)
    subst hA
    rw [if_neg (by omega)]
    simp [Addr.add]
/-- 's[l:]', l ≤ len(s). -/
theorem Sl.cutL (h : Sl enc w (.slice A n c) xs) {t e : TypeId} {i : TypeInfo} (ht : P.underlying t = some (.slice e)) (hi : P.info? e = some i) (hs : i.size = 1) (l : Nat) {lI : Int} (hlI : lI = l) (hl : l ≤ n) :
    ∃ u, (∀ W, (Instr.sliceAt t (.slice A n c) (some (.int .i64 lI)) none none).run P W = .ok u W) ∧ Sl enc w u (xs.drop l) := by
  obtain ⟨hn, hc⟩ := h.nle
  subst hlI
  refine ⟨.slice (if c = l then A else A.map (·.add (l * 1))) (n - l) (c - l), fun W => ?_, ?_⟩
  · have b2 : ∀ (code : BoundsCode) (W : World), (Instr.sliceBound (.int .i64 (l : Int)) n code).run P W = .ok l W := fun code W => by
      rw [run_sliceBound W .i64 (l : Int) n code (by omega) (by omega)]; simp
    simp [Instr.sliceAt, Instr.slice, Instr.sliceBounds, run_underlying ht, sizeOf, typeInfo, hi, hs, b2]
  · refine h.drop l hl (fun b off hA hlt => ?_)
    subst hA
    rw [if_neg (by omega)]
    simp [Addr.add]
end
/-- append onto a row without room: what is appended, in new memory. -/
theorem run_app0 {P : Program} {w : World} {α : Type} {enc : α → Value} {t e : TypeId} {z : Value} {bytes : Nat} (I : ElI P t e z bytes) (ty : TypeId)
    {ad : Addr} {u : Value} {ys : List α} (hu : Sl enc w u ys) (h63 : ys.length ≤ 1099511627776) (hby : bytes ≤ 24) :
    ∃ v' w', (Builtin.append_ #[t, t] ty #[.slice (some ad) 0 0, u]).run P w = .ok v' w' ∧ Sl enc w' v' ys ∧ Ext w w' := by
  obtain ⟨i, hi, hz, hs, hb⟩ := I.inf
  obtain ⟨A, c, hv, hl, hm, hc⟩ := hu.form
  have hbytes : (0 + ys.length) * bytes ≤ 140737488355328 := by
    calc (0 + ys.length) * bytes ≤ 1099511627776 * 24 := Nat.mul_le_mul (by omega) hby
      _ ≤ 140737488355328 := by decide
  subst hv
  by_cases h0 : 0 < ys.length
  · obtain ⟨b, off, hA, _, hcell⟩ := hc h0
    subst hA
    have hcells : ∀ j q, (ys.map enc)[j]? = some q → w.cell? ((⟨b, off, none⟩ : Addr).add j) = some q := by
      intro j q hq
      rw [List.getElem?_map] at hq
      cases hj : ys[j]? with
      | none => rw [hj] at hq; cases hq
      | some y =>
        rw [hj] at hq
        obtain ⟨hlt, rfl⟩ := List.getElem?_eq_some_iff.1 hj
        have e0 : (⟨b, off, none⟩ : Addr).add j = ⟨b, off + j, none⟩ := by unfold Addr.add; split <;> simp_all
        rw [e0, hcell j hlt]
        simpa using hq
    have hr := run_append_grow (P := P) w t ty e i z I.ht hi hz ad 0 0 [] (by simp) (by simp) ⟨b, off, none⟩ ys.length c (ys.map enc) (by simp [hs]) hcells (by omega) (by omega) (growslice_fits (by omega) (by rw [hb]; exact hbytes))
    refine ⟨_, _, hr, ?_, ((Ext.refl w).drew).alloc _⟩
    have hge := grownCap_ge w (0 + ys.length) 0 e
    have hcm : grownCap w (0 + ys.length) 0 e ≤ maxLen := grownCap_le_maxLen w (0 + ys.length) 0 e (by simp only [maxLen]; omega)
    refine Sl.mk (by omega) hge hcm (fun _ => ⟨w.heap.size, 0, rfl, fun j hj => ?_⟩)
    rw [World.cell?_alloc_at (w := w.drew) _ _ w.heap.size _ rfl]
    rw [Array.getElem?_append_left (by simp; omega)]
    simp [List.getElem?_eq_getElem hj]
  · have hx : ys = [] := List.eq_nil_of_length_eq_zero (by omega)
    subst hx
    refine ⟨.slice (some ad) 0 0, w, ?_, Sl.mk rfl (Nat.le_refl _) (by simp [maxLen]) (fun h => absurd h (by omega)), Ext.refl w⟩
    cases A <;> simp [Builtin.append_, run_underlying I.ht, sizeOf, typeInfo, hi, Builtin.lenOf, Builtin.firstCells, loadCells, loadCellsFrom, storeCells]
/-- The same in a region that draws. -/
theorem step_app0 {P : Program} {w : World} {ops : Array Oper} {o : Oper} {a : Act} {K : Act → World → Prop} {Q : Exit → Act → World → Prop} {E : Prop} (s x : Operand) {t : TypeId}
    {α : Type} {enc : α → Value} {e : TypeId} {z : Value} {bytes : Nat} (I : ElI P t e z bytes)
    (hgd : o.guard = none) (ho : o.op = .call { callee := .builtin .append, args := #[s, x], argTypes := #[t, t] })
    {ad : Addr} {u : Value} {ys : List α} (hs : a.eval s = .slice (some ad) 0 0) (hx : a.eval x = u) (hu : Sl enc w u ys) (h63 : ys.length ≤ 1099511627776) (hby : bytes ≤ 24)
    (h : ∀ v' w', Sl enc w' v' ys → Ext w w' → K (a.put o.dst v') w') : if Region.wanted o (yielded ops a.tmps) = true then Oper.wp P o a w K Q else E := by
  have hw : Region.wanted o (yielded ops a.tmps) = true := by simp [Region.wanted, hgd]
  rw [if_pos hw]
  obtain ⟨v', w', hrun, h2, h3⟩ := run_app0 (P := P) I o.type (ad := ad) hu h63 hby
  unfold Oper.wp execOp
  simp only [ho, resolve, invoke, builtin, Sem.run_bind, Sem.run_pure, Result.andThen_ok, List.map_toArray, List.map_cons, List.map_nil, hs, hx, hrun]
  exact h v' w' h2 h3
theorem wrap_addI (n k : Nat) (kI : Int) (hk : kI = k) (h : n + k ≤ 9223372036854775807) : IntKind.i64.wrap ((n : Int) + kI) = (n : Int) + kI ∧ ((n : Int) + kI).toNat = n + k ∧ 0 ≤ (n : Int) + kI := by
  subst hk
  refine ⟨?_, by omega, by omega⟩
  rw [IntKind.wrap_i64]; omega
end Go.Proofs.Ytiiflkcebikecaa

/- What comes in as data reads in our own words: integers, strings, slices of what reads. No condition. -/
namespace Go.Proofs.Ytiiflkcebikecaa
open Go.RowKit Go.ChangeShapes Go.WideShapes Go.Deep
set_option linter.unusedVariables false

theorem list_of {α : Type} {p : Nat → α → Prop} : ∀ n : Nat, (∀ i, i < n → ∃ x, p i x) → ∃ xs : List α, xs.length = n ∧ ∀ (j : Nat) (x : α), xs[j]? = some x → p j x
  | 0, _ => ⟨[], rfl, fun j x h => by simp at h⟩
  | n + 1, h => by
    obtain ⟨xs, hl, hx⟩ := list_of n (fun i hi => h i (Nat.lt_succ_of_lt hi))
    obtain ⟨y, hy⟩ := h n (Nat.lt_succ_self n)
    refine ⟨xs ++ [y], by simp [hl], fun j x hj => ?_⟩
    rcases Nat.lt_or_ge j n with hlt | hge
    · rw [List.getElem?_append_left (by omega)] at hj; exact hx j x hj
    · rw [List.getElem?_append_right (by omega)] at hj
      rcases Nat.eq_or_lt_of_le hge with he | hgt
      · subst he
        rw [hl, Nat.sub_self] at hj
        simp at hj
        subst hj; exact hy
      · rw [List.getElem?_eq_none (by simp; omega)] at hj; cases hj

theorem spot_none {w : World} {x : Addr} {v : Value} (h : w.cell? x = some v) : x.spot = none := by
  unfold World.cell? at h
  split at h
  · split at h
    · cases h
    · rename_i hs; simpa using hs
  · cases h

section
variable {α : Type}
/-- A value of one cell that reads. -/
def TRV (P : Program) (e : TypeId) (V : World → Value → α → Prop) : Prop :=
  ∀ (H : Type) (enc : TypeId × Value → H) (w : World) (base : Nat) (spare : Nat → Bool) (held : Bool) (fuel : Nat) (v : Value) (x : DataW H × List MemPlace), DataW.trod enc P w base spare held fuel e [v] = some x → ∃ y, V w v y
/-- Cells that read. -/
def TRR (P : Program) (e : TypeId) (size : Nat) (R : World → Nat → Nat → α → Prop) : Prop :=
  ∀ (H : Type) (enc : TypeId × Value → H) (w : World) (base : Nat) (spare : Nat → Bool) (held : Bool) (fuel : Nat) (b o : Nat) (cs : List Value) (x : DataW H × List MemPlace), cs.length = size →
    (∀ j (hj : j < cs.length), w.cell? ⟨b, o + j, none⟩ = some cs[j]) → DataW.trod enc P w base spare held fuel e cs = some x → ∃ y, R w b o y
theorem TRV.mono {P : Program} {e : TypeId} {V V' : World → Value → α → Prop} (h : TRV P e V) (hv : ∀ w v y, V w v y → V' w v y) : TRV P e V' :=
  fun H enc w base spare held fuel v x hx => let ⟨y, hy⟩ := h H enc w base spare held fuel v x hx; ⟨y, hv _ _ _ hy⟩
theorem TRV.cell {P : Program} {e : TypeId} {V : World → Value → α → Prop} (h : TRV P e V) : TRR P e 1 (fun w b o y => ∃ v, w.cell? ⟨b, o, none⟩ = some v ∧ V w v y) := by
  intro H enc w base spare held fuel b o cs x hl hc hx
  match cs, hl with
  | [v], _ =>
    obtain ⟨y, hy⟩ := h H enc w base spare held fuel v x hx
    exact ⟨y, v, by simpa using hc 0 (by simp), hy⟩
theorem TRR.mono {P : Program} {e : TypeId} {size : Nat} {R R' : World → Nat → Nat → α → Prop} (h : TRR P e size R) (hr : ∀ w b o y, R w b o y → R' w b o y) : TRR P e size R' :=
  fun H enc w base spare held fuel b o cs x hl hc hx => let ⟨y, hy⟩ := h H enc w base spare held fuel b o cs x hl hc hx; ⟨y, hr _ _ _ _ hy⟩
end

theorem trv_int {P : Program} {e : TypeId} {k : IntKind} (he : P.underlying e = some (.int k)) : TRV P e (fun _ v (y : Int) => v = .int k y ∧ (Lit.int k y).wf = true) := by
  intro H enc w base spare held fuel v x hx
  obtain ⟨n, hn, _, hw⟩ := DataW.trod_int he hx
  simp at hn
  exact ⟨n, hn, hw⟩
theorem trv_bool {P : Program} {e : TypeId} (he : P.underlying e = some .bool) : TRV P e (fun _ v (y : Bool) => v = .bool y) := by
  intro H enc w base spare held fuel v x hx
  obtain ⟨n, hn, _⟩ := DataW.trod_bool he hx
  simp at hn
  exact ⟨n, hn⟩
theorem trv_string {P : Program} {e : TypeId} (he : P.underlying e = some .string) : TRV P e (fun _ v (y : ByteArray) => v = .string y ∧ y.size ≤ maxLen) := by
  intro H enc w base spare held fuel v x hx
  obtain ⟨n, hn, _, hm⟩ := DataW.trod_string he hx
  simp at hn
  exact ⟨n, hn, hm⟩
theorem SlR.mono {α : Type} {size : Nat} {R R' : World → Nat → Nat → α → Prop} {w : World} {v : Value} {xs : List α} (h : SlR size R w v xs) (hr : ∀ b o y, R w b o y → R' w b o y) : SlR size R' w v xs := by
  obtain ⟨A, c, hv, hl, hm, hc⟩ := h
  refine ⟨A, c, hv, hl, hm, fun h0 => ?_⟩
  obtain ⟨b, off, hA, hj⟩ := hc h0
  exact ⟨b, off, hA, fun j x hx => hr _ _ _ (hj j x hx)⟩
theorem trv_slice {P : Program} {α : Type} {t e : TypeId} {size : Nat} {R : World → Nat → Nat → α → Prop} (h : TRR P e size R) (ht : P.underlying t = some (.slice e)) (hC : P.cellsOf e = size) (h0 : 0 < size) : TRV P t (SlR size R) := by
  intro H enc w base spare held fuel v x hx
  rcases open_slice ht hx with ⟨hv, _⟩ | ⟨a, len, cap, m, n, D, Pl, hv, hb, hl, hm, hmm, _, hel⟩
  · simp at hv
    subst hv
    exact ⟨[], SlR.nil _ _ _⟩
  · simp at hv
    subst hv
    have hle : len ≤ m := by rw [hmm]; split <;> omega
    have key : ∀ i, i < len → ∃ y, (∃ b off, a = ⟨b, off, none⟩ ∧ R w b (off + i * size) y) := by
      intro i hi
      obtain ⟨cs', hc, ht'⟩ := hel i (by omega)
      rw [hC] at hc
      obtain ⟨_, hcl, hat⟩ := World.cells?_some hc
      obtain ⟨cs0, hc0, _⟩ := hel 0 (by omega)
      rw [hC] at hc0
      obtain ⟨_, hcl0, hat0⟩ := World.cells?_some hc0
      have h00 := hat0 0 h0
      have e00 : (a.add (0 * size)).add 0 = a := by simp [Addr.add]
      rw [e00, List.getElem?_eq_getElem (show 0 < cs0.length by omega)] at h00
      have hsp := spot_none h00
      obtain ⟨b, off, sp⟩ := a
      simp only at hsp
      subst hsp
      obtain ⟨y, hy⟩ := h H enc w base spare held n b (off + i * size) cs' (D i, Pl i) hcl (fun j hj => by
        have := hat j (by omega)
        have e1 : ((⟨b, off, none⟩ : Addr).add (i * size)).add j = ⟨b, off + i * size + j, none⟩ := by
          unfold Addr.add
          by_cases h1 : i * size = 0 <;> by_cases h2 : j = 0 <;> simp [h1, h2]
        rw [e1, List.getElem?_eq_getElem hj] at this
        exact this) ht'
      exact ⟨y, b, off, rfl, hy⟩
    obtain ⟨xs, hxl, hxs⟩ := list_of len key
    subst hxl
    refine ⟨xs, some a, cap, rfl, hl, hm, fun hpos => ?_⟩
    obtain ⟨b, off, ha, _⟩ := hxs 0 xs[0] (List.getElem?_eq_getElem hpos)
    subst ha
    refine ⟨b, off, rfl, fun j x hj => ?_⟩
    obtain ⟨b', off', hh, hr⟩ := hxs j x hj
    injection hh with h1 h2
    subst h1; subst h2
    exact hr
theorem byt_of {y : Int} (h : (Lit.int .u8 y).wf = true) : Value.int .u8 y = byt (UInt8.ofNat y.toNat) := by
  have hb : 0 ≤ y ∧ y ≤ 255 := by simpa [Lit.wf, IntKind.min, IntKind.max, IntKind.signed, IntKind.bits] using h
  unfold byt
  rw [UInt8.toNat_ofNat']
  congr 1
  omega
/-- '[]byte'. -/
theorem trv_bytes {P : Program} {t e : TypeId} (ht : P.underlying t = some (.slice e)) (he : P.underlying e = some (.int .u8)) (hC : P.cellsOf e = 1) : TRV P t (Sl byt) := by
  have h1 : TRV P e (fun (_ : World) v (y : UInt8) => v = byt y) := by
    intro H enc w base spare held fuel v x hx
    obtain ⟨y, rfl, hw⟩ := trv_int he H enc w base spare held fuel v x hx
    exact ⟨_, byt_of hw⟩
  exact TRV.mono (trv_slice (TRV.cell h1) ht hC (by omega)) fun w v y h => SlR.mono (R' := One byt) h fun b o x ⟨u, hc, hu⟩ => by subst hu; exact hc
/-- A parameter of a one-cell type. -/
theorem TRV.param {P : Program} {α : Type} {t : TypeId} {V : World → Value → α → Prop} (h : TRV P t V) {H : Type} {enc : TypeId × Value → H} {w : World} {v : Value} {d : DataW H} {p : List MemPlace} {base : Nat} {spare : Nat → Bool} {held : Bool}
    (hv : v.cells = #[v]) (hT : DataW.Trod enc P w base spare held t v d p) : ∃ y, V w v y := by
  obtain ⟨fuel, hf⟩ := hT
  rw [hv] at hf
  exact h H enc w base spare held fuel v (d, p) hf
end Go.Proofs.Ytiiflkcebikecaa

/- What comes in as data reads as plain values: integers, strings, slices, arrays, structs. No condition. -/
namespace Go.Proofs.Ytiiflkcebikecaa
open Go.RowKit Go.ChangeShapes Go.WideShapes Go.Deep
set_option linter.unusedVariables false

/-- Cells that read as a row of plain values. -/
def RIs (w : World) (F : Nat → Prop) (row : List IV) (cs : List Value) : Prop := row.length = cs.length ∧ ∀ (j : Nat) (a : IV) (v : Value), row[j]? = some a → cs[j]? = some v → RepI w F a v
theorem RIs.nil {w : World} {F : Nat → Prop} : RIs w F [] [] := ⟨rfl, fun j a v h => by simp at h⟩
theorem RIs.one {w : World} {F : Nat → Prop} {a : IV} {v : Value} (h : RepI w F a v) : RIs w F [a] [v] := by
  refine ⟨rfl, fun j x u hx hu => ?_⟩
  cases j with
  | zero => simp at hx hu; subst hx; subst hu; exact h
  | succ j => simp at hx
theorem RIs.append {w : World} {F : Nat → Prop} {r s : List IV} {cs ds : List Value} (h : RIs w F r cs) (k : RIs w F s ds) : RIs w F (r ++ s) (cs ++ ds) := by
  refine ⟨by simp [h.1, k.1], fun j a v ha hv => ?_⟩
  by_cases hj : j < r.length
  · rw [List.getElem?_append_left hj] at ha
    rw [List.getElem?_append_left (by rw [← h.1]; exact hj)] at hv
    exact h.2 j a v ha hv
  · rw [List.getElem?_append_right (by omega)] at ha
    rw [List.getElem?_append_right (by rw [← h.1]; omega), ← h.1] at hv
    exact k.2 _ a v ha hv
theorem RIs.repL {w : World} {F : Nat → Prop} {L : LMap} {r : List IV} {cs : List Value} (h : RIs w F r cs) : RepL w F L (r.map .v) cs := by
  refine ⟨by simpa using h.1, fun j x v hx hv => ?_⟩
  rw [List.getElem?_map] at hx
  cases hq : r[j]? with
  | none => simp [hq] at hx
  | some y => simp [hq] at hx; subst hx; exact .v _ _ (h.2 j y v hq hv)

def Low (w : World) : Nat → Prop := fun b => b < w.heap.size

/-- Values of a type read as rows of plain values. -/
def TR {α : Type} (P : Program) (t : TypeId) (n : Nat) (enc : α → List IV) (good : α → Prop) : Prop :=
  ∀ (H : Type) (en : TypeId × Value → H) (w : World) (base : Nat) (spare : Nat → Bool) (held : Bool) (fuel : Nat) (cs : List Value) (x : DataW H × List MemPlace), cs.length = n → DataW.trod en P w base spare held fuel t cs = some x →
    ∃ y, good y ∧ RIs w (Low w) (enc y) cs

section
variable {P : Program} {α β : Type}
theorem TR.map {t : TypeId} {n : Nat} {enc : α → List IV} {good : α → Prop} (h : TR P t n enc good) {enc' : β → List IV} {good' : β → Prop} (f : α → β) (he : ∀ y, enc' (f y) = enc y) (hg : ∀ y, good y → good' (f y)) : TR P t n enc' good' := by
  intro H en w base spare held fuel cs x hl hx
  obtain ⟨y, g, r⟩ := h H en w base spare held fuel cs x hl hx
  exact ⟨f y, hg y g, by rw [he]; exact r⟩
theorem tr_int {t : TypeId} {k : IntKind} (ht : P.underlying t = some (.int k)) : TR P t 1 (fun n : Int => [.int k n]) (fun n => (Lit.int k n).wf = true) := by
  intro H en w base spare held fuel cs x hl hx
  obtain ⟨n, rfl, _, hw⟩ := DataW.trod_int ht hx
  exact ⟨n, hw, RIs.one (.int _ _)⟩
theorem tr_bool {t : TypeId} (ht : P.underlying t = some .bool) : TR P t 1 (fun b : Bool => [.bool b]) (fun _ => True) := by
  intro H en w base spare held fuel cs x hl hx
  obtain ⟨n, rfl, _⟩ := DataW.trod_bool ht hx
  exact ⟨n, trivial, RIs.one (.bool _)⟩
theorem tr_string {t : TypeId} (ht : P.underlying t = some .string) : TR P t 1 (fun s : ByteArray => [.str s]) (fun s => s.size ≤ maxLen) := by
  intro H en w base spare held fuel cs x hl hx
  obtain ⟨n, rfl, _, hm⟩ := DataW.trod_string ht hx
  exact ⟨n, hm, RIs.one (.str _)⟩
theorem tr_slice {t e : TypeId} {n : Nat} {enc : α → List IV} {good : α → Prop} (h : TR P e n enc good) (ht : P.underlying t = some (.slice e)) (hC : P.cellsOf e = n) (h0 : 0 < n) :
    TR P t 1 (fun ys : List α => [.isl n (ys.map enc)]) (fun ys => ys.length ≤ maxLen ∧ ∀ y ∈ ys, good y) := by
  intro H en w base spare held fuel cs x hl hx
  rcases open_slice ht hx with ⟨hv, _⟩ | ⟨a, len, cap, m, f, D, Pl, hv, hb, hll, hm, hmm, _, hel⟩
  · subst hv
    exact ⟨[], ⟨by simp [maxLen], fun y hy => by simp at hy⟩, RIs.one (.isl0 _ _ _ (by simp [maxLen]))⟩
  · subst hv
    have hle : len ≤ m := by rw [hmm]; split <;> omega
    have key : ∀ i, i < len → ∃ y, (good y ∧ ∃ b off, a = ⟨b, off, none⟩ ∧ (enc y).length = n ∧ ∀ (j : Nat) (c : IV), (enc y)[j]? = some c → ∃ v, w.cell? ⟨b, off + i * n + j, none⟩ = some v ∧ RepI w (Low w) c v) := by
      intro i hi
      obtain ⟨cs', hc, ht'⟩ := hel i (by omega)
      rw [hC] at hc
      obtain ⟨_, hcl, hat⟩ := World.cells?_some hc
      obtain ⟨cs0, hc0, _⟩ := hel 0 (by omega)
      rw [hC] at hc0
      obtain ⟨_, hcl0, hat0⟩ := World.cells?_some hc0
      have h00 := hat0 0 h0
      have e00 : (a.add (0 * n)).add 0 = a := by simp [Addr.add]
      rw [e00, List.getElem?_eq_getElem (show 0 < cs0.length by omega)] at h00
      have hsp := spot_none h00
      obtain ⟨b, off, sp⟩ := a
      simp only at hsp
      subst hsp
      obtain ⟨y, hg, hy⟩ := h H en w base spare held f cs' (D i, Pl i) hcl ht'
      refine ⟨y, hg, b, off, rfl, by rw [hy.1, hcl], fun j c hj => ?_⟩
      have hjl : j < cs'.length := by rw [← hy.1]; exact (List.getElem?_eq_some_iff.1 hj).1
      have := hat j (by omega)
      have e1 : ((⟨b, off, none⟩ : Addr).add (i * n)).add j = ⟨b, off + i * n + j, none⟩ := by
        unfold Addr.add
        by_cases h1 : i * n = 0 <;> by_cases h2 : j = 0 <;> simp [h1, h2]
      rw [e1, List.getElem?_eq_getElem hjl] at this
      exact ⟨_, this, hy.2 j c _ hj (List.getElem?_eq_getElem hjl)⟩
    obtain ⟨xs, hxl, hxs⟩ := list_of len key
    subst hxl
    refine ⟨xs, ⟨by omega, fun y hy => ?_⟩, RIs.one ?_⟩
    · obtain ⟨i, hi⟩ := List.mem_iff_getElem?.1 hy
      exact (hxs i y hi).1
    · by_cases hpos : 0 < xs.length
      · obtain ⟨_, b, off, ha, _⟩ := hxs 0 xs[0] (List.getElem?_eq_getElem hpos)
        subst ha
        have hfacts : ∀ (k : Nat) (row : List IV), (xs.map enc)[k]? = some row → row.length = n ∧ ∀ (j : Nat) (c : IV), row[j]? = some c → ∃ v, w.cell? ⟨b, off + k * n + j, none⟩ = some v ∧ RepI w (Low w) c v := by
          intro k row hk
          rw [List.getElem?_map] at hk
          cases hq : xs[k]? with
          | none => rw [hq] at hk; cases hk
          | some y =>
            rw [hq] at hk; cases hk
            obtain ⟨_, b', off', hh, h1, h2⟩ := hxs k y hq
            injection hh with g1 g2
            subst g1; subst g2
            exact ⟨h1, h2⟩
        have hlow : Low w b := by
          obtain ⟨r1, r2⟩ := hfacts 0 (enc xs[0]) (by rw [List.getElem?_map, List.getElem?_eq_getElem hpos]; rfl)
          obtain ⟨v, hv, _⟩ := r2 0 (enc xs[0])[0] (List.getElem?_eq_getElem (by omega))
          exact lt_of_cell hv
        have := RepI.isl (w := w) (F := Low w) (xs.map enc) b off n cap (fun k j => (w.cell? ⟨b, off + k * n + j, none⟩).getD undef) hlow (by simpa using hll) hm (fun k row hk => (hfacts k row hk).1)
          (fun k row j c hk hj => by
            obtain ⟨v, hv, _⟩ := (hfacts k row hk).2 j c hj
            rw [hv]; rfl)
          (fun k row j c hk hj => by
            obtain ⟨v, hv, hr⟩ := (hfacts k row hk).2 j c hj
            rw [hv]; exact hr)
        rw [List.length_map] at this
        exact this
      · have : xs = [] := List.eq_nil_of_length_eq_zero (by omega)
        subst this
        exact .isl0 _ _ _ hm

/-- Fields from a place on. -/
def TRF (P : Program) (fs : List Field) (o n : Nat) (enc : α → List IV) (good : α → Prop) : Prop :=
  ∀ (H : Type) (en : TypeId × Value → H) (w : World) (base : Nat) (spare : Nat → Bool) (held : Bool) (fuel : Nat) (cs : List Value), cs.length = o + n → (∀ f ∈ fs, ∃ x, DataW.trod en P w base spare held fuel f.type ((cs.drop f.offset).take (P.cellsOf f.type)) = some x) →
    ∃ y, good y ∧ RIs w (Low w) (enc y) (cs.drop o)
theorem trf_nil {o : Nat} : TRF P [] o 0 (fun _ : Unit => []) (fun _ => True) := by
  intro H en w base spare held fuel cs hl _
  refine ⟨(), trivial, ?_⟩
  rw [List.drop_eq_nil_of_le (by omega)]
  exact RIs.nil
theorem trf_cons {f : Field} {fs : List Field} {o n m : Nat} {enc : α → List IV} {good : α → Prop} {enc' : β → List IV} {good' : β → Prop} (h : TR P f.type n enc good) (hC : P.cellsOf f.type = n) (ho : f.offset = o) (k : TRF P fs (o + n) m enc' good') :
    TRF P (f :: fs) o (n + m) (fun y : α × β => enc y.1 ++ enc' y.2) (fun y => good y.1 ∧ good' y.2) := by
  intro H en w base spare held fuel cs hl hfs
  obtain ⟨x, hx⟩ := hfs f (by simp)
  rw [ho, hC] at hx
  obtain ⟨y, hg, hy⟩ := h H en w base spare held fuel _ x (by simp; omega) hx
  obtain ⟨z, hg', hz⟩ := k H en w base spare held fuel cs (by omega) (fun f hf => hfs f (by simp [hf]))
  refine ⟨(y, z), ⟨hg, hg'⟩, ?_⟩
  have : cs.drop o = (cs.drop o).take n ++ cs.drop (o + n) := by rw [← List.drop_drop, List.take_append_drop]
  rw [this]
  exact hy.append hz
theorem tr_struct {t : TypeId} {fs : Array Field} {n : Nat} {enc : α → List IV} {good : α → Prop} (ht : P.underlying t = some (.struct fs)) (h : TRF P fs.toList 0 n enc good) : TR P t n enc good := by
  intro H en w base spare held fuel cs x hl hx
  obtain ⟨xs, m, _, _, _, hlen, hf⟩ := DataW.trod_struct ht hx
  obtain ⟨y, hg, hy⟩ := h H en w base spare held m cs (by omega) (fun f hm => by
    obtain ⟨i, hi⟩ := List.mem_iff_getElem?.1 hm
    have hi' : fs[i]? = some f := by simpa using hi
    have hlt : i < xs.length := by rw [hlen]; exact (Array.getElem?_eq_some_iff.1 hi').1
    exact ⟨_, (hf i f hi').trans (List.getElem?_eq_getElem hlt)⟩)
  exact ⟨y, hg, by simpa using hy⟩
theorem tr_array {t e : TypeId} {k n : Nat} {enc : α → List IV} {good : α → Prop} (h : TR P e n enc good) (ht : P.underlying t = some (.array k e)) (hC : P.cellsOf e = n) :
    TR P t (k * n) (fun ys : List α => ys.flatMap enc) (fun ys => ys.length = k ∧ ∀ y ∈ ys, good y) := by
  intro H en w base spare held fuel cs x hl hx
  obtain ⟨xs, m, _, _, _, hlen, hf⟩ := DataW.trod_array ht hx
  have key : ∀ i, i < k → ∃ y, good y ∧ RIs w (Low w) (enc y) ((cs.drop (i * n)).take n) := by
    intro i hi
    have := hf i hi
    rw [hC, List.getElem?_eq_getElem (by omega)] at this
    refine h H en w base spare held m _ _ ?_ this
    have : (i + 1) * n ≤ k * n := Nat.mul_le_mul_right n hi
    rw [Nat.add_mul] at this
    simp
    omega
  obtain ⟨ys, hyl, hys⟩ := list_of k key
  refine ⟨ys, ⟨hyl, fun y hy => ?_⟩, ?_⟩
  · obtain ⟨i, hi⟩ := List.mem_iff_getElem?.1 hy
    exact (hys i y hi).1
  · have gen : ∀ (ys : List α) (o : Nat), cs.length = o * n + ys.length * n → (∀ (j : Nat) (y : α), ys[j]? = some y → RIs w (Low w) (enc y) ((cs.drop ((o + j) * n)).take n)) → RIs w (Low w) (ys.flatMap enc) (cs.drop (o * n)) := by
      intro ys
      induction ys with
      | nil => intro o ho _; rw [List.drop_eq_nil_of_le (by simp at ho; omega)]; exact RIs.nil
      | cons y ys ih =>
        intro o ho hh
        have h1 := hh 0 y rfl
        have h2 := ih (o + 1) (by rw [ho, List.length_cons, Nat.add_mul, Nat.add_mul]; omega) (fun j z hz => by
          have := hh (j + 1) z (by simpa using hz)
          rwa [show o + 1 + j = o + (j + 1) by omega])
        have : cs.drop (o * n) = (cs.drop (o * n)).take n ++ cs.drop ((o + 1) * n) := by rw [Nat.add_mul, Nat.one_mul, ← List.drop_drop, List.take_append_drop]
        rw [this, List.flatMap_cons]
        exact RIs.append (by simpa using h1) h2
    have := gen ys 0 (by rw [hl, hyl]; omega) (fun j y hy => by simpa using (hys j y hy).2)
    simpa using this

/-! Parameters. -/
theorem TR.one {t : TypeId} {enc : α → IV} {good : α → Prop} (h : TR P t 1 (fun y => [enc y]) good) {H : Type} {en : TypeId × Value → H} {w : World} {v : Value} {d : DataW H} {p : List MemPlace} {base : Nat} {spare : Nat → Bool} {held : Bool}
    (hv : v.cells = #[v]) (hT : DataW.Trod en P w base spare held t v d p) : ∃ y, good y ∧ RepI w (Low w) (enc y) v := by
  obtain ⟨fuel, hf⟩ := hT
  rw [hv] at hf
  obtain ⟨y, hg, hy⟩ := h H en w base spare held fuel [v] (d, p) rfl hf
  exact ⟨y, hg, hy.2 0 _ _ rfl rfl⟩
theorem TR.agg {t : TypeId} {n : Nat} {enc : α → List IV} {good : α → Prop} (h : TR P t n enc good) {fs : Array Field} (hs : P.underlying t = some (.struct fs)) (hC : P.cellsOf t = n) {H : Type} {en : TypeId × Value → H} {w : World} {v : Value} {d : DataW H} {p : List MemPlace} {base b0 : Nat} {r : Reach} {spare : Nat → Bool} {held : Bool}
    (hv : Value.okWide P w r b0 t v) (hT : DataW.Trod en P w base spare held t v d p) : ∃ y, good y ∧ RepA w (Low w) (fun _ _ => none) (.agg ((enc y).map .v)) v := by
  obtain ⟨cs, rfl, hsz⟩ := okWide_struct hs hv
  obtain ⟨fuel, hf⟩ := hT
  obtain ⟨y, hg, hy⟩ := h H en w base spare held fuel _ (d, p) (by simpa [Value.cells] using hsz.trans hC) hf
  exact ⟨y, hg, RepL.agg hy.repL⟩
end
end Go.Proofs.Ytiiflkcebikecaa

/- Traces as plain data, and how they lie in memory. No program, no condition. -/
namespace Go.Proofs.Ytiiflkcebikecaa
open Go.RowKit
set_option linter.unusedVariables false

structure Asg where
  v : Int
  val : Int
structure Ev where
  kind : Int
  peer : Int
  msg : Int
  time : Int
  asg : List Asg
structure Vr where
  name : ByteArray
  init : Int
structure Pr where
  name : ByteArray
  vars : List Vr
  evs : List Ev
/-- A trace: its processes. -/
abbrev Tr := List Pr

def RAsg (w : World) (b o : Nat) (x : Asg) : Prop := w.cell? ⟨b, o, none⟩ = some (.int .i64 x.v) ∧ w.cell? ⟨b, o + 1, none⟩ = some (.int .i64 x.val)
def RVr (w : World) (b o : Nat) (x : Vr) : Prop := w.cell? ⟨b, o, none⟩ = some (.string x.name) ∧ w.cell? ⟨b, o + 1, none⟩ = some (.int .i64 x.init) ∧ x.name.size ≤ maxLen
def REv (w : World) (b o : Nat) (x : Ev) : Prop :=
  w.cell? ⟨b, o, none⟩ = some (.int .i64 x.kind) ∧ w.cell? ⟨b, o + 1, none⟩ = some (.int .i64 x.peer) ∧ w.cell? ⟨b, o + 2, none⟩ = some (.int .i64 x.msg) ∧ w.cell? ⟨b, o + 3, none⟩ = some (.int .i64 x.time) ∧
    ∃ v, w.cell? ⟨b, o + 4, none⟩ = some v ∧ SlR 2 RAsg w v x.asg
def RPr (w : World) (b o : Nat) (x : Pr) : Prop :=
  (w.cell? ⟨b, o, none⟩ = some (.string x.name) ∧ x.name.size ≤ maxLen) ∧ (∃ v, w.cell? ⟨b, o + 1, none⟩ = some v ∧ SlR 2 RVr w v x.vars) ∧ ∃ v, w.cell? ⟨b, o + 2, none⟩ = some v ∧ SlR 5 REv w v x.evs
/-- A value of type api.Trace. -/
def VTr (w : World) (v : Value) (t : Tr) : Prop := ∃ u, v = .agg #[u] ∧ SlR 3 RPr w u t
theorem RAsg.keeps : Keeps RAsg := fun _ _ _ _ _ he ⟨h1, h2⟩ => ⟨he.cellAt h1, he.cellAt h2⟩
theorem RVr.keeps : Keeps RVr := fun _ _ _ _ _ he ⟨h1, h2, h3⟩ => ⟨he.cellAt h1, he.cellAt h2, h3⟩
theorem REv.keeps : Keeps REv := fun _ _ _ _ _ he ⟨h1, h2, h3, h4, v, h5, h6⟩ => ⟨he.cellAt h1, he.cellAt h2, he.cellAt h3, he.cellAt h4, v, he.cellAt h5, h6.ext RAsg.keeps he⟩
theorem RPr.keeps : Keeps RPr := fun _ _ _ _ _ he ⟨⟨h1, h2⟩, ⟨v, h3, h4⟩, u, h5, h6⟩ => ⟨⟨he.cellAt h1, h2⟩, ⟨v, he.cellAt h3, h4.ext RVr.keeps he⟩, u, he.cellAt h5, h6.ext REv.keeps he⟩
theorem VTr.ext {w w' : World} {v : Value} {t : Tr} (h : VTr w v t) (he : Ext w w') : VTr w' v t := by
  obtain ⟨u, hv, hs⟩ := h
  exact ⟨u, hv, hs.ext RPr.keeps he⟩

/-- What a slice of structs says of element k. -/
theorem SlR.at_ {α : Type} {size : Nat} {R : World → Nat → Nat → α → Prop} {w : World} {v : Value} {xs : List α} (h : SlR size R w v xs) : ∃ A c, v = .slice A xs.length c ∧ xs.length ≤ c ∧ c ≤ maxLen ∧ (0 < xs.length → ∃ b off, A = some ⟨b, off, none⟩ ∧ ∀ (k : Nat) (hk : k < xs.length), R w b (off + k * size) xs[k]) := by
  obtain ⟨A, c, hv, hl, hm, hc⟩ := h
  refine ⟨A, c, hv, hl, hm, fun h0 => ?_⟩
  obtain ⟨b, off, hA, hj⟩ := hc h0
  exact ⟨b, off, hA, fun k hk => hj k _ (List.getElem?_eq_getElem hk)⟩
end Go.Proofs.Ytiiflkcebikecaa

/- Between the contracts of both kinds: values as plain data, and as what lies in memory. No condition but on lengths of names. -/
namespace Go.Proofs.Ytiiflkcebikecaa
open Go.RowKit
set_option linter.unusedVariables false

section
variable {w : World} {F : Nat → Prop}
/-- Cells in a row that read as plain values. -/
def RowR (w : World) (F : Nat → Prop) (b o : Nat) (row : List IV) : Prop := ∀ (j : Nat) (a : IV), row[j]? = some a → ∃ v, w.cell? ⟨b, o + j, none⟩ = some v ∧ RepI w F a v

theorem repI_isl {sz : Nat} {rows : List (List IV)} {v : Value} (h : RepI w F (.isl sz rows) v) :
    ∃ A c, v = .slice A rows.length c ∧ rows.length ≤ c ∧ c ≤ maxLen ∧ (0 < rows.length → ∃ b off, A = some ⟨b, off, none⟩ ∧ F b ∧ ∀ (k : Nat) (row : List IV), rows[k]? = some row → row.length = sz ∧ RowR w F b (off + k * sz) row) := by
  cases h with
  | isl0 _ a c hm => exact ⟨a, c, rfl, Nat.zero_le _, hm, fun h => by simp at h⟩
  | isl _ b off _ c val hF hc hm hsz hcell hrep =>
    exact ⟨_, c, rfl, hc, hm, fun _ => ⟨b, off, rfl, hF, fun k row hk => ⟨hsz k row hk, fun j a hj => ⟨_, hcell k row j a hk hj, hrep k row j a hk hj⟩⟩⟩⟩

theorem isl_repI {sz : Nat} {rows : List (List IV)} {A : Option Addr} {c : Nat} (h1 : rows.length ≤ c) (h2 : c ≤ maxLen)
    (h : 0 < rows.length → ∃ b off, A = some ⟨b, off, none⟩ ∧ F b ∧ ∀ (k : Nat) (row : List IV), rows[k]? = some row → row.length = sz ∧ RowR w F b (off + k * sz) row) : RepI w F (.isl sz rows) (.slice A rows.length c) := by
  by_cases h0 : 0 < rows.length
  · obtain ⟨b, off, rfl, hF, hr⟩ := h h0
    have cell : ∀ (k : Nat) (row : List IV) (j : Nat) (a : IV), rows[k]? = some row → row[j]? = some a → w.cell? ⟨b, off + k * sz + j, none⟩ = some ((w.cell? ⟨b, off + k * sz + j, none⟩).getD undef) := by
      intro k row j a hk hj
      obtain ⟨v, hv, _⟩ := (hr k row hk).2 j a hj
      rw [hv]; rfl
    exact .isl rows b off sz c (fun k j => (w.cell? ⟨b, off + k * sz + j, none⟩).getD undef) hF h1 h2 (fun k row hk => (hr k row hk).1) cell (fun k row j a hk hj => by
      obtain ⟨v, hv, hr⟩ := (hr k row hk).2 j a hj
      rw [hv]; exact hr)
  · have : rows = [] := List.eq_nil_of_length_eq_zero (by omega)
    subst this
    exact .isl0 _ _ _ h2

section
variable {α : Type} {sz : Nat} {R : World → Nat → Nat → α → Prop} {enc : α → List IV} {xs : List α} {v : Value}
theorem slr_of_rep (hR : ∀ b o x, x ∈ xs → RowR w F b o (enc x) → R w b o x) (h : RepI w F (.isl sz (xs.map enc)) v) : SlR sz R w v xs := by
  obtain ⟨A, c, h1, h2, h3, h4⟩ := repI_isl h
  rw [List.length_map] at h1 h2 h4
  refine ⟨A, c, h1, h2, h3, fun h0 => ?_⟩
  obtain ⟨b, off, h5, h6, h7⟩ := h4 h0
  refine ⟨b, off, h5, fun j x hx => hR _ _ _ (List.mem_of_getElem? hx) (h7 j (enc x) (by rw [List.getElem?_map, hx]; rfl)).2⟩

theorem rep_of_slr (hF : ∀ b, b < w.heap.size → F b) (hsz : ∀ x, (enc x).length = sz) (h0 : 0 < sz) (hR : ∀ b o x, R w b o x → RowR w F b o (enc x)) (h : SlR sz R w v xs) : RepI w F (.isl sz (xs.map enc)) v := by
  obtain ⟨A, c, h1, h2, h3, h4⟩ := h
  subst h1
  have := isl_repI (w := w) (F := F) (sz := sz) (rows := xs.map enc) (A := A) (c := c) (by simpa using h2) h3 (fun hl => by
    rw [List.length_map] at hl
    obtain ⟨b, off, h5, h6⟩ := h4 hl
    have hrow : ∀ (k : Nat) (row : List IV), (xs.map enc)[k]? = some row → row.length = sz ∧ RowR w F b (off + k * sz) row := by
      intro k row hk
      rw [List.getElem?_map] at hk
      cases hx : xs[k]? with
      | none => rw [hx] at hk; cases hk
      | some x => rw [hx] at hk; cases hk; exact ⟨hsz x, hR _ _ _ (h6 k x hx)⟩
    refine ⟨b, off, h5, hF b ?_, hrow⟩
    obtain ⟨r1, r2⟩ := hrow 0 (enc xs[0]) (by rw [List.getElem?_map, List.getElem?_eq_getElem hl]; rfl)
    obtain ⟨u, hu, _⟩ := r2 0 (enc xs[0])[0] (List.getElem?_eq_getElem (by omega))
    exact lt_of_cell hu)
  simpa using this
end

/-! Traces. -/
def eAsg (a : Asg) : List IV := [.int .i64 a.v, .int .i64 a.val]
def eEv (e : Ev) : List IV := [.int .i64 e.kind, .int .i64 e.peer, .int .i64 e.msg, .int .i64 e.time, .isl 2 (e.asg.map eAsg)]
def eVr (v : Vr) : List IV := [.str v.name, .int .i64 v.init]
def ePr (p : Pr) : List IV := [.str p.name, .isl 2 (p.vars.map eVr), .isl 5 (p.evs.map eEv)]
def eT (t : Tr) : IV := .isl 3 (t.map ePr)
def eI (n : Int) : List IV := [.int .i64 n]
/-- Names are no longer than a string may be. -/
def Nm (t : Tr) : Prop := ∀ p ∈ t, p.name.size ≤ maxLen ∧ ∀ v ∈ p.vars, v.name.size ≤ maxLen

theorem rowInt {k : IntKind} {n : Int} {b o j : Nat} {row : List IV} (h : RowR w F b o row) (hj : row[j]? = some (.int k n)) : w.cell? ⟨b, o + j, none⟩ = some (.int k n) := by
  obtain ⟨v, hv, hr⟩ := h j _ hj
  cases hr; exact hv
theorem rowStr {s : ByteArray} {b o j : Nat} {row : List IV} (h : RowR w F b o row) (hj : row[j]? = some (.str s)) : w.cell? ⟨b, o + j, none⟩ = some (.string s) := by
  obtain ⟨v, hv, hr⟩ := h j _ hj
  cases hr; exact hv
theorem asg_in {b o : Nat} {x : Asg} (h : RowR w F b o (eAsg x)) : RAsg w b o x := ⟨rowInt (j := 0) h rfl, rowInt (j := 1) h rfl⟩
theorem vr_in {b o : Nat} {x : Vr} (hx : x.name.size ≤ maxLen) (h : RowR w F b o (eVr x)) : RVr w b o x := ⟨rowStr (j := 0) h rfl, rowInt (j := 1) h rfl, hx⟩
theorem ev_in {b o : Nat} {x : Ev} (h : RowR w F b o (eEv x)) : REv w b o x := by
  obtain ⟨v, h1, h2⟩ := h 4 _ rfl
  exact ⟨rowInt (j := 0) h rfl, rowInt (j := 1) h rfl, rowInt (j := 2) h rfl, rowInt (j := 3) h rfl, v, h1, slr_of_rep (fun _ _ _ _ h => asg_in h) h2⟩
theorem pr_in {b o : Nat} {x : Pr} (hx : x.name.size ≤ maxLen ∧ ∀ v ∈ x.vars, v.name.size ≤ maxLen) (h : RowR w F b o (ePr x)) : RPr w b o x := by
  obtain ⟨v, h1, h2⟩ := h 1 _ rfl
  obtain ⟨u, h3, h4⟩ := h 2 _ rfl
  exact ⟨⟨rowStr (j := 0) h rfl, hx.1⟩, ⟨v, h1, slr_of_rep (fun _ _ y hy h => vr_in (hx.2 y hy) h) h2⟩, u, h3, slr_of_rep (fun _ _ _ _ h => ev_in h) h4⟩
/-- A trace as plain data lies in memory as a trace. -/
theorem tr_in {t : Tr} {v : Value} (hn : Nm t) (h : RepI w F (eT t) v) : SlR 3 RPr w v t := slr_of_rep (fun _ _ x hx h => pr_in (hn x hx) h) h

theorem asg_out {b o : Nat} {x : Asg} (h : RAsg w b o x) : RowR w F b o (eAsg x) := by
  obtain ⟨h1, h2⟩ := h
  intro j a hj
  match j, hj with
  | 0, hj => cases hj; exact ⟨_, h1, .int _ _⟩
  | 1, hj => cases hj; exact ⟨_, h2, .int _ _⟩
theorem vr_out {b o : Nat} {x : Vr} (h : RVr w b o x) : RowR w F b o (eVr x) := by
  obtain ⟨h1, h2, _⟩ := h
  intro j a hj
  match j, hj with
  | 0, hj => cases hj; exact ⟨_, h1, .str _⟩
  | 1, hj => cases hj; exact ⟨_, h2, .int _ _⟩
section
theorem ev_out (hF : ∀ b, b < w.heap.size → F b) {b o : Nat} {x : Ev} (h : REv w b o x) : RowR w F b o (eEv x) := by
  obtain ⟨h1, h2, h3, h4, v, h5, h6⟩ := h
  intro j a hj
  match j, hj with
  | 0, hj => cases hj; exact ⟨_, h1, .int _ _⟩
  | 1, hj => cases hj; exact ⟨_, h2, .int _ _⟩
  | 2, hj => cases hj; exact ⟨_, h3, .int _ _⟩
  | 3, hj => cases hj; exact ⟨_, h4, .int _ _⟩
  | 4, hj => cases hj; exact ⟨_, h5, rep_of_slr hF (fun _ => rfl) (by decide) (fun _ _ _ h => asg_out h) h6⟩
theorem pr_out (hF : ∀ b, b < w.heap.size → F b) {b o : Nat} {x : Pr} (h : RPr w b o x) : RowR w F b o (ePr x) := by
  obtain ⟨⟨h1, _⟩, ⟨v, h2, h3⟩, u, h4, h5⟩ := h
  intro j a hj
  match j, hj with
  | 0, hj => cases hj; exact ⟨_, h1, .str _⟩
  | 1, hj => cases hj; exact ⟨_, h2, rep_of_slr hF (fun _ => rfl) (by decide) (fun _ _ _ h => vr_out h) h3⟩
  | 2, hj => cases hj; exact ⟨_, h4, rep_of_slr hF (fun _ => rfl) (by decide) (fun _ _ _ h => ev_out hF h) h5⟩
/-- A trace in memory reads as plain data. -/
theorem tr_out (hF : ∀ b, b < w.heap.size → F b) {t : Tr} {v : Value} (h : SlR 3 RPr w v t) : RepI w F (eT t) v := rep_of_slr hF (fun _ => rfl) (by decide) (fun _ _ _ h => pr_out hF h) h
end
theorem nm_of {t : Tr} {v : Value} (h : SlR 3 RPr w v t) : Nm t := by
  obtain ⟨A, c, _, _, _, h4⟩ := h
  intro p hp
  obtain ⟨k, hk⟩ := List.mem_iff_getElem?.1 hp
  obtain ⟨b, off, _, h5⟩ := h4 (by have := (List.getElem?_eq_some_iff.1 hk).1; omega)
  obtain ⟨⟨h6, h7⟩, ⟨u, h8, h9⟩, _⟩ := h5 k p hk
  refine ⟨h7, fun x hx => ?_⟩
  obtain ⟨A2, c2, _, _, _, g4⟩ := h9
  obtain ⟨j, hj⟩ := List.mem_iff_getElem?.1 hx
  obtain ⟨b2, off2, _, g5⟩ := g4 (by have := (List.getElem?_eq_some_iff.1 hj).1; omega)
  exact (g5 j x hj).2.2
end

/-! Contracts. -/
section
variable {P : Program}
/-- A contract that only makes memory, in the words of runs. -/
theorem ACalls.of_ext {f : Nat} {args : List AV} {b l : List Row} {Q : AV → List Row → List Row → Prop} (hf : ∃ fn, P.funcs[f]? = some fn ∧ (fn.name == "runtime.NumGoroutine") = false ∧ fn.body.isSome = true)
    (h : ∀ F L w (vs : Array Value), RepL w F L args vs.toList → Calls P f vs w fun en w' => Ext w w' ∧ ∃ v x, en = .returned v ∧ RepA w' F L x v ∧ Q x b l) : ACalls P f args b l Q := by
  refine ⟨hf, fun F L w vs s hr => Calls.mono (h F L w vs hr) ?_⟩
  rintro en w' ⟨he, v, x, h1, h2, h3⟩
  have hblk : ∀ k, k < w.heap.size → w'.heap[k]? = w.heap[k]? := he.block
  refine ⟨v, x, b, l, F, L, h1, h2, ⟨fun i v z els hi => ?_, s.born, s.apart, fun k hk => ⟨Nat.lt_of_lt_of_le (s.imm k hk).1 he.size, (s.imm k hk).2⟩⟩,
    ⟨fun _ h => h, fun _ _ _ _ h => h, he.os, he.tape, he.output, he.size, fun k hk _ => hblk k hk, fun _ _ h => h, fun _ _ _ h => h, fun _ _ h => .inl h⟩, rfl, h3⟩
  obtain ⟨q, g1, g2⟩ := s.row i v z els hi
  exact ⟨q, g1, g2.mono (fun k hk => hblk k (g2.lt hk)) (fun _ _ hx => hx.mono (fun _ h => h) (fun k hk => hblk k (s.imm k hk).1) (fun _ _ _ h => h))⟩

/-- A contract in the words of runs, used in a walk: arguments are plain values. -/
theorem ACalls.calls {f : Nat} {args : List AV} {Q : AV → List Row → List Row → Prop} (h : ACalls P f args [] [] Q) {w : World} {vs : Array Value} (hr : RepL w (fun b => b < w.heap.size) (fun _ _ => none) args vs.toList) :
    Calls P f vs w fun en w' => ∃ v x b' l' F' L', en = .returned v ∧ RepA w' F' L' x v ∧ Ext w w' ∧ Q x b' l' := by
  have no : ∀ k, ¬ Owned (fun _ _ => none) [] k := by rintro k ⟨i, v, s, e1, q, h1, h2, h3⟩; cases h2
  refine Calls.mono (h.2 _ _ w vs ⟨fun i v z els hi => by simp at hi, fun i v q hq => (by cases hq), fun i i' v v' z z' e1 e2 bb q1 q2 h1 => by simp at h1, fun b hb => ⟨hb, no b⟩⟩ hr) ?_
  rintro en w' ⟨v, x, b', l', F', L', h1, h2, h3, h4, h5, h6⟩
  exact ⟨v, x, b', l', F', L', h1, h2, ⟨h4.os, h4.tape, h4.output, h4.size, fun k hk => h4.block k hk (no k)⟩, h6⟩
end
end Go.Proofs.Ytiiflkcebikecaa

/- Traces that come in read as plain data. No condition. -/
namespace Go.Proofs.Ytiiflkcebikecaa
open Go.RowKit
set_option linter.unusedVariables false
theorem tr_i : TR Try.prog 3 1 (fun n : Int => [.int .i64 n]) (fun n => (Lit.int .i64 n).wf = true) := tr_int Try.underlying3
theorem tr_s : TR Try.prog 9 1 (fun s : ByteArray => [.str s]) (fun s => s.size ≤ maxLen) := tr_string Try.underlying9
theorem tr_ints : TR Try.prog 37 1 (fun c : List Int => [.isl 1 (c.map eI)]) (fun c => c.length ≤ maxLen ∧ ∀ n ∈ c, (Lit.int .i64 n).wf = true) := tr_slice tr_i Try.underlying37 (by kernel_rfl) (by decide)
theorem tr_asg : TR Try.prog 152 2 eAsg (fun _ => True) :=
  (tr_struct Try.underlying152 (trf_cons tr_i (by kernel_rfl) rfl (trf_cons tr_i (by kernel_rfl) rfl trf_nil))).map (fun y => ⟨y.1, y.2.1⟩) (fun _ => rfl) (fun _ _ => trivial)
theorem tr_asgs : TR Try.prog 93 1 (fun l : List Asg => [.isl 2 (l.map eAsg)]) (fun l => l.length ≤ maxLen) :=
  (tr_slice tr_asg Try.underlying93 (by kernel_rfl) (by decide)).map id (fun _ => rfl) (fun _ h => h.1)
theorem tr_ev : TR Try.prog 95 5 eEv (fun _ => True) :=
  (tr_struct Try.underlying95 (trf_cons tr_i (by kernel_rfl) rfl (trf_cons tr_i (by kernel_rfl) rfl (trf_cons tr_i (by kernel_rfl) rfl (trf_cons tr_i (by kernel_rfl) rfl (trf_cons tr_asgs (by kernel_rfl) rfl trf_nil)))))).map
    (fun y => ⟨y.1, y.2.1, y.2.2.1, y.2.2.2.1, y.2.2.2.2.1⟩) (fun _ => rfl) (fun _ _ => trivial)
theorem tr_evs : TR Try.prog 64 1 (fun l : List Ev => [.isl 5 (l.map eEv)]) (fun l => l.length ≤ maxLen) :=
  (tr_slice tr_ev Try.underlying64 (by kernel_rfl) (by decide)).map id (fun _ => rfl) (fun _ h => h.1)
theorem tr_var : TR Try.prog 150 2 eVr (fun v => v.name.size ≤ maxLen) :=
  (tr_struct Try.underlying150 (trf_cons tr_s (by kernel_rfl) rfl (trf_cons tr_i (by kernel_rfl) rfl trf_nil))).map (fun y => ⟨y.1, y.2.1⟩) (fun _ => rfl) (fun _ h => h.1)
theorem tr_vars : TR Try.prog 63 1 (fun l : List Vr => [.isl 2 (l.map eVr)]) (fun l => l.length ≤ maxLen ∧ ∀ v ∈ l, v.name.size ≤ maxLen) :=
  tr_slice tr_var Try.underlying63 (by kernel_rfl) (by decide)
def OkPr (p : Pr) : Prop := (p.name.size ≤ maxLen ∧ ∀ v ∈ p.vars, v.name.size ≤ maxLen) ∧ p.vars.length ≤ maxLen ∧ p.evs.length ≤ maxLen
theorem tr_proc : TR Try.prog 66 3 ePr OkPr :=
  (tr_struct Try.underlying66 (trf_cons tr_s (by kernel_rfl) rfl (trf_cons tr_vars (by kernel_rfl) rfl (trf_cons tr_evs (by kernel_rfl) rfl trf_nil)))).map
    (fun y => ⟨y.1, y.2.1, y.2.2.1⟩) (fun _ => rfl) (fun _ h => ⟨⟨h.1, h.2.1.2⟩, h.2.1.1, h.2.2.1⟩)
/-- What is known of a trace that comes in. -/
def OkTr (t : Tr) : Prop := t.length ≤ maxLen ∧ ∀ p ∈ t, OkPr p
theorem tr_trace : TR Try.prog 24 1 (fun t : Tr => [eT t]) OkTr :=
  (tr_struct Try.underlying24 (trf_cons (tr_slice tr_proc Try.underlying22 (by kernel_rfl) (by decide)) (by kernel_rfl) rfl trf_nil)).map (fun y => y.1) (fun _ => rfl) (fun _ h => h.1)
theorem OkTr.nm {t : Tr} (h : OkTr t) : Nm t := fun p hp => (h.2 p hp).1
theorem maxLen_eq : maxLen = 9223372036854775807 := by decide
end Go.Proofs.Ytiiflkcebikecaa
