/- Texts of one proof, laid together: PA, PE, PD, PK. No condition. -/
import Derived.Test.YtanblnhnfkeffaaBU11
import Derived.Test.YtanblnhnfkeffaaBU2
import Derived.Test.YtanblnhnfkeffaaBU8
namespace Go.Proofs.Ytanblnhnfkeffaa
set_option linter.unusedVariables false
set_option linter.unusedSimpArgs false
attribute [local go_sem ↓] run_skip run_region run_draw run_both run_seq run_block run_exit run_ret run_cond atN_app seqC_normal seqC_exit seqC_ret seqQ_normal seqQ_exit seqQ_ret blkQ_normal blkQ_exit blkQ_ret runOps_nil runOps_cons runD_nil runD_cons grdO_true grdO_false grdD_true grdD_false ifC_true ifC_false opS_val opS_call opS_two opK_app dS_val dS_call dS_two dK_app
attribute [local go_sem] rechks_nil rechks_cons rechk gcase_true gcase_false ex_val ex_val0 gd_none gd_some nth_zero nth_succ upd_zero upd_succ put_some put_none ev_t ev_c evs_nil evs_cons evo_some evo_none hget_at hget_first hsetB_at hsetB_first hsetL_at hsetL_first ofOpt_some aop aload astore aslice aappend aiaddr aiaddrA afaddr alen alenS acopy amm acall alookup amupdate alenM atostr comma keyEq apick binV binVB binVS isSh intOp strOp boolOp shOp eqC eqF and2 cellsOf setFrom fillA fillS rd rdI elems mk bounds AV.cell List.all_cons List.all_nil Bool.and_true Bool.true_and Bool.and_self List.length_cons List.length_nil List.length_append Nat.reduceAdd Nat.reduceSub Nat.reduceMul Nat.zero_add Nat.add_zero List.replicate_succ List.replicate_zero List.cons_append List.nil_append List.append_assoc List.append_nil List.getElem?_cons_zero List.getElem?_cons_succ List.getElem?_nil List.set_cons_zero List.set_cons_succ List.drop_zero List.drop_succ_cons List.take_zero List.take_succ_cons List.take_nil List.drop_nil List.map_cons List.map_nil Option.map_some if_true if_false Bool.false_eq_true and_self true_and and_true Nat.reduceLeDiff Nat.reduceLT Nat.le_refl Nat.reduceEqDiff ite_true ite_false beq_self_eq_true beq_true beq_false Bool.not_true Bool.not_false Bool.true_beq Bool.false_beq map_vs vs_len vs_get vs_take vs_drop vs_snoc1 vs_snoc2 vs_snoc3 vs_snoc5 vs_set1 vs_set2 vs_rep wrap_id le_T lt_T le_F lt_F leI_T ltI_T leI_F ltI_F geI gtI get_T decide_true decide_false room List.getElem?_map List.length_map List.length_take Int.toNat_natCast Nat.min_def Nat.min_self List.getElem_cons_zero List.getElem_cons_succ
structure CutIn (t : Tr) (cs : List Int) : Prop where
 len : cs.length = t.length
 le : ∀ (k : Nat) (h : k < t.length) (h2 : k < cs.length), 0 ≤ cs[k] ∧ cs[k] ≤ t[k].evs.length
def evp (t : Tr) (p j : Nat) : Ev := evAt t (p, j + 1)
def toI (t : Tr) (p j : Nat) : Nat := (findV t 3 (evp t p j).msg).2
def pairBad (t : Tr) (p j i : Nat) : Bool :=
 (evp t p j).kind == 2 && ((evp t p i).kind == 2 && ((evp t p j).peer == (evp t p i).peer && (toI t p i != 0 && (toI t p j == 0 || decide (toI t p i < toI t p j)))))
structure FfI (t : Tr) (p q k last : Nat) (mis : Bool) : Prop where
 m1 : ∀ j, j < k → (evp t p j).kind = 2 → (evp t p j).peer = q → toI t p j = 0 → mis = true
 m2 : mis = true → ∃ j, j < k ∧ (evp t p j).kind = 2 ∧ (evp t p j).peer = q ∧ toI t p j = 0
 l1 : ∀ j, j < k → (evp t p j).kind = 2 → (evp t p j).peer = q → toI t p j ≤ last
 l2 : 0 < last → ∃ j, j < k ∧ (evp t p j).kind = 2 ∧ (evp t p j).peer = q ∧ toI t p j = last
 g : ∀ i, i < k → ∀ j, j < i → (evp t p i).peer = q → pairBad t p j i = false
theorem FfI.start (t : Tr) (p q : Nat) : FfI t p q 0 0 false := ⟨fun j h => by omega, fun h => (by cases h), fun j h => by omega, fun h => by omega, fun j h => by omega⟩
theorem FfI.skip {t : Tr} {p q k last : Nat} {mis : Bool} (h : FfI t p q k last mis) (hk : ¬ ((evp t p k).kind = 2 ∧ (evp t p k).peer = q)) : FfI t p q (k + 1) last mis := by
 have up : ∀ j, j < k + 1 → j < k ∨ j = k := fun j hj => by omega
 refine ⟨fun j hj a b c => ?_, fun hm => ?_, fun j hj a b => ?_, fun hl => ?_, fun i hi j hj hp => ?_⟩
 ·rcases up j hj with h1 | rfl
  ·exact h.m1 j h1 a b c
  ·exact absurd ⟨a, b⟩ hk
 ·obtain ⟨j, h1, h2⟩ := h.m2 hm; exact ⟨j, by omega, h2⟩
 ·rcases up j hj with h1 | rfl
  ·exact h.l1 j h1 a b
  ·exact absurd ⟨a, b⟩ hk
 ·obtain ⟨j, h1, h2⟩ := h.l2 hl; exact ⟨j, by omega, h2⟩
 ·rcases up i hi with h1 | rfl
  ·exact h.g i h1 j hj hp
  ·have : ((evp t p i).kind == 2) = false := by
    cases hh : (evp t p i).kind == 2 with
    | false => rfl
    | true => exact absurd ⟨by simpa using hh, hp⟩ hk
   unfold pairBad; rw [this]; simp
theorem FfI.next {t : Tr} {p q k last : Nat} (h : FfI t p q k last false) (h1 : (evp t p k).kind = 2) (h2 : (evp t p k).peer = q) (h3 : toI t p k ≠ 0) (h4 : last ≤ toI t p k) : FfI t p q (k + 1) (toI t p k) false := by
 have up : ∀ j, j < k + 1 → j < k ∨ j = k := fun j hj => by omega
 refine ⟨fun j hj a b c => ?_, fun hm => (by cases hm), fun j hj a b => ?_, fun hl => ⟨k, by omega, h1, h2, rfl⟩, fun i hi j hj hp => ?_⟩
 ·rcases up j hj with g | rfl
  ·exact h.m1 j g a b c
  ·exact absurd c h3
 ·rcases up j hj with g | rfl
  ·have := h.l1 j g a b; omega
  ·exact Nat.le_refl _
 ·rcases up i hi with g | rfl
  ·exact h.g i g j hj hp
  ·unfold pairBad
   cases hk : (evp t p j).kind == 2
   ·simp
   cases he : (evp t p j).peer == (evp t p i).peer
   ·simp
   have hk : (evp t p j).kind = 2 := by simpa using hk
   have he : (evp t p j).peer = q := by rw [← h2]; simpa using he
   have hz : (toI t p j == 0) = false := by
    cases hq : toI t p j == 0 with
    | false => rfl
    | true => exact absurd (h.m1 j hj hk he (by simpa using hq)) (by simp)
   have := h.l1 j hj hk he
   rw [hz, decide_eq_false oM]; simp
theorem FfI.bad {t : Tr} {p q k last : Nat} {mis : Bool} (h : FfI t p q k last mis) (h1 : (evp t p k).kind = 2) (h2 : (evp t p k).peer = q) (h3 : toI t p k ≠ 0) (h4 : mis = true ∨ toI t p k < last) : ∃ j, j < k ∧ pairBad t p j k = true := by
 rcases h4 with h4 | h4
 ·obtain ⟨j, g1, g2, g3, g4⟩ := h.m2 h4
  refine ⟨j, g1, ?_⟩
  unfold pairBad; rw [g2, g3, h1, h2, g4]; simp [h3]
 ·obtain ⟨j, g1, g2, g3, g4⟩ := h.l2 oM
  refine ⟨j, g1, ?_⟩
  unfold pairBad; rw [g2, g3, h1, h2, g4]; simp [h3, h4]
def a_rSame : AFunc := ⟨2,94,[.tmp 4],(.seq (.region [⟨some 2,.box (.t 0),none⟩,⟨some 3,.box (.t 1),none⟩,⟨some 4,.mv (.c (.v (.bool false))),none⟩]) (.seq (.seq (.region [⟨some 10,.faddr 0 (.t 2),none⟩,⟨some 11,.load none (.t 10),none⟩,⟨some 12,.len (.t 11),none⟩,⟨some 13,.faddr 0 (.t 3),none⟩,⟨some 14,.load none (.t 13),none⟩,⟨some 15,.len (.t 14),none⟩,⟨some 16,.bin .neq (.t 12) (.t 15),none⟩]) (.cond (.t 16) (.seq (.region [⟨some 4,.mv (.c (.v (.bool false))),none⟩]) .ret) .skip)) (.seq (.seq (.region [⟨some 5,.mv (.c (.v (.int .i64 0))),none⟩]) (.block 0 (.loop (.seq (.seq (.region [⟨some 17,.mv (.t 5),none⟩,⟨some 18,.faddr 0 (.t 2),none⟩,⟨some 19,.load none (.t 18),none⟩,⟨some 20,.len (.t 19),none⟩,⟨some 21,.bin .lss (.t 17) (.t 20),none⟩]) (.cond (.t 21) .skip (.exit 0))) (.seq (.block 1 (.seq (.draw [⟨0,⟨some 24,.faddr 0 (.t 2),none⟩,[]⟩,⟨1,⟨some 25,.load none (.t 24),none⟩,[]⟩,⟨2,⟨some 26,.mv (.t 5),none⟩,[]⟩,⟨3,⟨some 27,.iaddr 3 (.t 25) (.t 26),none⟩,[]⟩,⟨4,⟨some 28,.load (some 3) (.t 27),none⟩,[]⟩,⟨5,⟨some 29,.faddr 0 (.t 3),none⟩,[]⟩,⟨6,⟨some 30,.load none (.t 29),none⟩,[]⟩,⟨7,⟨some 31,.mv (.t 5),none⟩,[]⟩,⟨8,⟨some 32,.iaddr 3 (.t 30) (.t 31),none⟩,[]⟩,⟨9,⟨some 33,.load (some 3) (.t 32),none⟩,[]⟩,⟨10,⟨some 6,.alloc [(.v (.str ⟨#[]⟩)),(.v .zsl),(.v .zsl)],none⟩,[⟨some 24,.faddr 0 (.t 2),none⟩,⟨some 25,.load none (.t 24),none⟩,⟨some 26,.mv (.t 5),none⟩,⟨some 27,.iaddr 3 (.t 25) (.t 26),none⟩,⟨some 28,.load (some 3) (.t 27),none⟩,⟨some 29,.faddr 0 (.t 3),none⟩,⟨some 30,.load none (.t 29),none⟩,⟨some 31,.mv (.t 5),none⟩,⟨some 32,.iaddr 3 (.t 30) (.t 31),none⟩,⟨some 33,.load (some 3) (.t 32),none⟩]⟩,⟨11,⟨some 7,.alloc [(.v (.str ⟨#[]⟩)),(.v .zsl),(.v .zsl)],none⟩,[⟨some 24,.faddr 0 (.t 2),none⟩,⟨some 25,.load none (.t 24),none⟩,⟨some 26,.mv (.t 5),none⟩,⟨some 27,.iaddr 3 (.t 25) (.t 26),none⟩,⟨some 28,.load (some 3) (.t 27),none⟩,⟨some 29,.faddr 0 (.t 3),none⟩,⟨some 30,.load none (.t 29),none⟩,⟨some 31,.mv (.t 5),none⟩,⟨some 32,.iaddr 3 (.t 30) (.t 31),none⟩,⟨some 33,.load (some 3) (.t 32),none⟩]⟩,⟨12,⟨none,.store 3 (.t 6) (.t 28),none⟩,[⟨some 29,.faddr 0 (.t 3),none⟩,⟨some 30,.load none (.t 29),none⟩,⟨some 31,.mv (.t 5),none⟩,⟨some 32,.iaddr 3 (.t 30) (.t 31),none⟩,⟨some 33,.load (some 3) (.t 32),none⟩]⟩,⟨13,⟨none,.store 3 (.t 7) (.t 33),none⟩,[]⟩]) (.seq (.seq (.region [⟨some 34,.faddr 0 (.t 6),none⟩,⟨some 35,.load none (.t 34),none⟩,⟨some 36,.faddr 0 (.t 7),none⟩,⟨some 37,.load none (.t 36),none⟩,⟨some 38,.binS .neq (.t 35) (.t 37),none⟩,⟨some 39,.mv (.t 38),none⟩,⟨some 40,.faddr 1 (.t 6),some (39,false)⟩,⟨some 41,.load none (.t 40),some (39,false)⟩,⟨some 42,.len (.t 41),some (39,false)⟩,⟨some 43,.faddr 1 (.t 7),some (39,false)⟩,⟨some 44,.load none (.t 43),some (39,false)⟩,⟨some 45,.len (.t 44),some (39,false)⟩,⟨some 46,.bin .neq (.t 42) (.t 45),some (39,false)⟩,⟨some 47,.pick (.t 39) (.c (.v (.bool true))) (.t 46),none⟩,⟨some 48,.mv (.t 47),none⟩,⟨some 49,.faddr 2 (.t 6),some (48,false)⟩,⟨some 50,.load none (.t 49),some (48,false)⟩,⟨some 51,.len (.t 50),some (48,false)⟩,⟨some 52,.faddr 2 (.t 7),some (48,false)⟩,⟨some 53,.load none (.t 52),some (48,false)⟩,⟨some 54,.len (.t 53),some (48,false)⟩,⟨some 55,.bin .neq (.t 51) (.t 54),some (48,false)⟩,⟨some 56,.pick (.t 48) (.c (.v (.bool true))) (.t 55),none⟩]) (.cond (.t 56) (.seq (.region [⟨some 4,.mv (.c (.v (.bool false))),none⟩]) .ret) .skip)) (.seq (.seq (.region [⟨some 8,.mv (.c (.v (.int .i64 0))),none⟩]) (.block 2 (.loop (.seq (.seq (.region [⟨some 57,.mv (.t 8),none⟩,⟨some 58,.faddr 1 (.t 6),none⟩,⟨some 59,.load none (.t 58),none⟩,⟨some 60,.len (.t 59),none⟩,⟨some 61,.bin .lss (.t 57) (.t 60),none⟩]) (.cond (.t 61) .skip (.exit 2))) (.seq (.block 3 (.seq (.draw [⟨0,⟨some 64,.faddr 1 (.t 6),none⟩,[]⟩,⟨1,⟨some 65,.load none (.t 64),none⟩,[]⟩,⟨2,⟨some 66,.mv (.t 8),none⟩,[]⟩,⟨3,⟨some 67,.iaddr 2 (.t 65) (.t 66),none⟩,[]⟩,⟨4,⟨some 68,.load (some 2) (.t 67),none⟩,[]⟩,⟨5,⟨some 69,.faddr 1 (.t 7),none⟩,[]⟩,⟨6,⟨some 70,.load none (.t 69),none⟩,[]⟩,⟨7,⟨some 71,.mv (.t 8),none⟩,[]⟩,⟨8,⟨some 72,.iaddr 2 (.t 70) (.t 71),none⟩,[]⟩,⟨9,⟨some 73,.load (some 2) (.t 72),none⟩,[]⟩,⟨10,⟨some 74,.eqs true [.s,.i] (.t 68) (.t 73),none⟩,[]⟩]) (.cond (.t 74) (.seq (.region [⟨some 4,.mv (.c (.v (.bool false))),none⟩]) .ret) .skip))) (.region [⟨some 62,.mv (.t 8),none⟩,⟨some 63,.bin .add (.t 62) (.c (.v (.int .i64 1))),none⟩,⟨some 8,.mv (.t 63),none⟩])))))) (.seq (.region [⟨some 9,.mv (.c (.v (.int .i64 0))),none⟩]) (.block 4 (.loop (.seq (.seq (.region [⟨some 75,.mv (.t 9),none⟩,⟨some 76,.faddr 2 (.t 6),none⟩,⟨some 77,.load none (.t 76),none⟩,⟨some 78,.len (.t 77),none⟩,⟨some 79,.bin .lss (.t 75) (.t 78),none⟩]) (.cond (.t 79) .skip (.exit 4))) (.seq (.block 5 (.seq (.draw [⟨0,⟨some 82,.faddr 2 (.t 6),none⟩,[]⟩,⟨1,⟨some 83,.load none (.t 82),none⟩,[]⟩,⟨2,⟨some 84,.mv (.t 9),none⟩,[]⟩,⟨3,⟨some 85,.iaddr 5 (.t 83) (.t 84),none⟩,[]⟩,⟨4,⟨some 86,.load (some 5) (.t 85),none⟩,[]⟩,⟨5,⟨some 87,.faddr 2 (.t 7),none⟩,[]⟩,⟨6,⟨some 88,.load none (.t 87),none⟩,[]⟩,⟨7,⟨some 89,.mv (.t 9),none⟩,[]⟩,⟨8,⟨some 90,.iaddr 5 (.t 88) (.t 89),none⟩,[]⟩,⟨9,⟨some 91,.load (some 5) (.t 90),none⟩,[]⟩,⟨10,⟨some 92,.call (.c (.fn 85 [])) [(.t 86),(.t 91)],none⟩,[]⟩,⟨11,⟨some 93,.not (.t 92),none⟩,[]⟩]) (.cond (.t 93) (.seq (.region [⟨some 4,.mv (.c (.v (.bool false))),none⟩]) .ret) .skip))) (.region [⟨some 80,.mv (.t 9),none⟩,⟨some 81,.bin .add (.t 80) (.c (.v (.int .i64 1))),none⟩,⟨some 9,.mv (.t 81),none⟩])))))))))) (.region [⟨some 22,.mv (.t 5),none⟩,⟨some 23,.bin .add (.t 22) (.c (.v (.int .i64 1))),none⟩,⟨some 5,.mv (.t 23),none⟩])))))) (.seq (.region [⟨some 4,.mv (.c (.v (.bool true))),none⟩]) .ret))))⟩
theorem a_rSame_ok : cFunc Try.prog 20 = some a_rSame := by kernel_rfl
def m_rSame0 : List Bool := [false, false, false, false, true, true, true, true, true, true, false, false, false, false, false, false, false, true, true, true, true, true, true, true, true, true, true, true, true, true, true, true, true, true, true, true, true, true, true, true, true, true, true, true, true, true, true, true, true, true, true, true, true, true, true, true, true, true, true, true, true, true, true, true, true, true, true, true, true, true, true, true, true, true, true, true, true, true, true, true, true, true, true, true, true, true, true, true, true, true, true, true, true, true]
def m_rSame1 : List Bool := [false, false, false, false, true, false, false, false, true, false, false, false, false, false, false, false, false, false, false, false, false, false, false, false, false, false, false, false, false, false, false, false, false, false, false, false, false, false, false, false, false, false, false, false, false, false, false, false, false, false, false, false, false, false, false, false, false, true, true, true, true, true, true, true, true, true, true, true, true, true, true, true, true, true, true, false, false, false, false, false, false, false, false, false, false, false, false, false, false, false, false, false, false, false]
def m_rSame2 : List Bool := [false, false, false, false, true, false, false, false, false, true, false, false, false, false, false, false, false, false, false, false, false, false, false, false, false, false, false, false, false, false, false, false, false, false, false, false, false, false, false, false, false, false, false, false, false, false, false, false, false, false, false, false, false, false, false, false, false, false, false, false, false, false, false, false, false, false, false, false, false, false, false, false, false, false, false, true, true, true, true, true, true, true, true, true, true, true, true, true, true, true, true, true, true, true]
def a_rSameEvent : AFunc := ⟨2,59,[.tmp 4],(.seq (.region [⟨some 2,.box (.t 0),none⟩,⟨some 3,.box (.t 1),none⟩,⟨some 4,.mv (.c (.v (.bool false))),none⟩]) (.seq (.seq (.region [⟨some 6,.faddr 0 (.t 2),none⟩,⟨some 7,.load none (.t 6),none⟩,⟨some 8,.faddr 0 (.t 3),none⟩,⟨some 9,.load none (.t 8),none⟩,⟨some 10,.bin .neq (.t 7) (.t 9),none⟩,⟨some 11,.mv (.t 10),none⟩,⟨some 12,.faddr 1 (.t 2),some (11,false)⟩,⟨some 13,.load none (.t 12),some (11,false)⟩,⟨some 14,.faddr 1 (.t 3),some (11,false)⟩,⟨some 15,.load none (.t 14),some (11,false)⟩,⟨some 16,.bin .neq (.t 13) (.t 15),some (11,false)⟩,⟨some 17,.pick (.t 11) (.c (.v (.bool true))) (.t 16),none⟩,⟨some 18,.mv (.t 17),none⟩,⟨some 19,.faddr 2 (.t 2),some (18,false)⟩,⟨some 20,.load none (.t 19),some (18,false)⟩,⟨some 21,.faddr 2 (.t 3),some (18,false)⟩,⟨some 22,.load none (.t 21),some (18,false)⟩,⟨some 23,.bin .neq (.t 20) (.t 22),some (18,false)⟩,⟨some 24,.pick (.t 18) (.c (.v (.bool true))) (.t 23),none⟩,⟨some 25,.mv (.t 24),none⟩,⟨some 26,.faddr 3 (.t 2),some (25,false)⟩,⟨some 27,.load none (.t 26),some (25,false)⟩,⟨some 28,.faddr 3 (.t 3),some (25,false)⟩,⟨some 29,.load none (.t 28),some (25,false)⟩,⟨some 30,.bin .neq (.t 27) (.t 29),some (25,false)⟩,⟨some 31,.pick (.t 25) (.c (.v (.bool true))) (.t 30),none⟩,⟨some 32,.mv (.t 31),none⟩,⟨some 33,.faddr 4 (.t 2),some (32,false)⟩,⟨some 34,.load none (.t 33),some (32,false)⟩,⟨some 35,.len (.t 34),some (32,false)⟩,⟨some 36,.faddr 4 (.t 3),some (32,false)⟩,⟨some 37,.load none (.t 36),some (32,false)⟩,⟨some 38,.len (.t 37),some (32,false)⟩,⟨some 39,.bin .neq (.t 35) (.t 38),some (32,false)⟩,⟨some 40,.pick (.t 32) (.c (.v (.bool true))) (.t 39),none⟩]) (.cond (.t 40) (.seq (.region [⟨some 4,.mv (.c (.v (.bool false))),none⟩]) .ret) .skip)) (.seq (.seq (.region [⟨some 5,.mv (.c (.v (.int .i64 0))),none⟩]) (.block 0 (.loop (.seq (.seq (.region [⟨some 41,.mv (.t 5),none⟩,⟨some 42,.faddr 4 (.t 2),none⟩,⟨some 43,.load none (.t 42),none⟩,⟨some 44,.len (.t 43),none⟩,⟨some 45,.bin .lss (.t 41) (.t 44),none⟩]) (.cond (.t 45) .skip (.exit 0))) (.seq (.block 1 (.seq (.draw [⟨0,⟨some 48,.faddr 4 (.t 2),none⟩,[]⟩,⟨1,⟨some 49,.load none (.t 48),none⟩,[]⟩,⟨2,⟨some 50,.mv (.t 5),none⟩,[]⟩,⟨3,⟨some 51,.iaddr 2 (.t 49) (.t 50),none⟩,[]⟩,⟨4,⟨some 52,.load (some 2) (.t 51),none⟩,[]⟩,⟨5,⟨some 53,.faddr 4 (.t 3),none⟩,[]⟩,⟨6,⟨some 54,.load none (.t 53),none⟩,[]⟩,⟨7,⟨some 55,.mv (.t 5),none⟩,[]⟩,⟨8,⟨some 56,.iaddr 2 (.t 54) (.t 55),none⟩,[]⟩,⟨9,⟨some 57,.load (some 2) (.t 56),none⟩,[]⟩,⟨10,⟨some 58,.eqs true [.i,.i] (.t 52) (.t 57),none⟩,[]⟩]) (.cond (.t 58) (.seq (.region [⟨some 4,.mv (.c (.v (.bool false))),none⟩]) .ret) .skip))) (.region [⟨some 46,.mv (.t 5),none⟩,⟨some 47,.bin .add (.t 46) (.c (.v (.int .i64 1))),none⟩,⟨some 5,.mv (.t 47),none⟩])))))) (.seq (.region [⟨some 4,.mv (.c (.v (.bool true))),none⟩]) .ret))))⟩
theorem a_rSameEvent_ok : cFunc Try.prog 85 = some a_rSameEvent := by kernel_rfl
def m_rSameEvent0 : List Bool := [false, false, false, false, true, true, false, false, false, false, false, false, false, false, false, false, false, false, false, false, false, false, false, false, false, false, false, false, false, false, false, false, false, false, false, false, false, false, false, false, false, true, true, true, true, true, true, true, true, true, true, true, true, true, true, true, true, true, true]

theorem pref_code (t : Tr) (cs : List Int) : prefC t cs = if validL t = false ∨ cs.length ≠ t.length then 1 else if (List.range cs.length).all (rangeB t cs) = false then 2 else if (ids t).any (badL t cs) = true then 18 else 0 := rfl
theorem CutIn.ok {t : Tr} {cs : List Int} (h : CutIn t cs) (hS : Small t) : CutOk t cs := ⟨h.len, hS.np, hS.nv, hS.ne, hS.na, h.le⟩

theorem rSameEvent_refl (x : Ev) (hx : x.asg.length ≤ 1000000) (b l : List Row) : ACalls Try.prog 85 [.agg ((eEv x).map .v), .agg ((eEv x).map .v)] b l (fun r b' l' => r = .v (.bool true) ∧ b' = b ∧ l' = l) := by
 refine calls_of a_rSameEvent_ok rfl ?_
 intro B hB hR _
 have ne : ∀ n : Int, (n != n) = false := by simp
 simp only [a_rSameEvent, eEv, ne, List.length_map, go_sem]
 refine loop_auto (ι := Nat) m_rSameEvent0 (fun i => [(5, .v (.int .i64 i))]) (fun _ => [.live 0 5 [[.v (.int .i64 x.kind), .v (.int .i64 x.peer), .v (.int .i64 x.msg), .v (.int .i64 x.time), .v (.isl 2 (x.asg.map eAsg))]], .live 0 5 [[.v (.int .i64 x.kind), .v (.int .i64 x.peer), .v (.int .i64 x.msg), .v (.int .i64 x.time), .v (.isl 2 (x.asg.map eAsg))]]])
  (fun i => i ≤ x.asg.length) (fun i => x.asg.length - i) 0 (Nat.zero_le _) ?_ ?_
 ·simp only [m_rSameEvent0, ovr_cons, ovr_nil, anyM_t, anyM_f, anyM_nil, upd_zero, upd_succ]
  exact Weak.forget (by simp [Fgt])
 intro i hi
 simp only [m_rSameEvent0, ovr_cons, ovr_nil, anyM_t, anyM_f, anyM_nil, upd_zero, upd_succ]
 by_cases hlt : i < x.asg.length
 ·simp (disch := omega) only [eAsg, go_sem]
  refine ⟨i + 1, hlt, by simp only; omega, ?_⟩
  simp only [m_rSameEvent0, ovr_cons, ovr_nil, anyM_t, anyM_f, anyM_nil, upd_zero, upd_succ]
  exact Weak.forget (by simp [Fgt])
 ·simp (disch := omega) only [go_sem]
  exact leave_pure (.inr rfl) rfl (.v _) hR hB ⟨rfl, rfl, rfl⟩

theorem bytes_beq (s : ByteArray) : (s == s) = true := by
 cases s with
 | mk d => show (d == d) = true; exact beq_self_eq_true d
set_option maxHeartbeats 2000000 in
theorem rSame_refl (t : Tr) (hS : Small t) (b l : List Row) : ACalls Try.prog 20 [.agg [.v (eT t)], .agg [.v (eT t)]] b l (fun r b' l' => r = .v (.bool true) ∧ b' = b ∧ l' = l) := by
 refine calls_of a_rSame_ok rfl ?_
 intro B hB hR _
 have hnp := hS.np
 have ne : ∀ n : Int, (n != n) = false := by simp
 simp only [a_rSame, eT, ne, List.length_map, go_sem]
 refine loop_auto (ι := Nat) m_rSame0 (fun i => [(5, .v (.int .i64 i))]) (fun _ => [.live 0 1 [[.v (.isl 3 (t.map ePr))]], .live 0 1 [[.v (.isl 3 (t.map ePr))]]])
  (fun i => i ≤ t.length) (fun i => t.length - i) 0 (Nat.zero_le _) ?_ ?_
 ·simp only [m_rSame0, ovr_cons, ovr_nil, anyM_t, anyM_f, anyM_nil, upd_zero, upd_succ]
  exact Weak.forget (by simp [Fgt])
 intro i hi
 simp only [m_rSame0, ovr_cons, ovr_nil, anyM_t, anyM_f, anyM_nil, upd_zero, upd_succ]
 by_cases hlt : i < t.length
 ·have hnv := hS.nv _ (List.getElem_mem hlt)
  have hne := hS.ne _ (List.getElem_mem hlt)
  have hna := hS.na _ (List.getElem_mem hlt)
  simp (disch := omega) only [ePr, ne, bytes_beq, go_sem]
  refine loop_auto (ι := Nat) m_rSame1 (fun i => [(8, .v (.int .i64 i))]) (fun _ => [.live 0 1 [[.v (.isl 3 (t.map ePr))]], .live 0 1 [[.v (.isl 3 (t.map ePr))]], .live 0 3 [[.v (.str t[i].name), .v (.isl 2 (t[i].vars.map eVr)), .v (.isl 5 (t[i].evs.map eEv))]], .live 0 3 [[.v (.str t[i].name), .v (.isl 2 (t[i].vars.map eVr)), .v (.isl 5 (t[i].evs.map eEv))]]])
   (fun j => j ≤ t[i].vars.length) (fun j => t[i].vars.length - j) 0 (Nat.zero_le _) ?_ ?_
  ·simp only [m_rSame1, ovr_cons, ovr_nil, anyM_t, anyM_f, anyM_nil, upd_zero, upd_succ]
   exact Weak.forget (by simp [Fgt])
  intro j hj
  simp only [m_rSame1, ovr_cons, ovr_nil, anyM_t, anyM_f, anyM_nil, upd_zero, upd_succ]
  by_cases hjv : j < t[i].vars.length
  ·simp (disch := omega) only [eVr, bytes_beq, go_sem]
   refine ⟨j + 1, hjv, by simp only; omega, ?_⟩
   simp only [m_rSame1, ovr_cons, ovr_nil, anyM_t, anyM_f, anyM_nil, upd_zero, upd_succ]
   exact Weak.forget (by simp [Fgt])
  simp (disch := omega) only [go_sem]
  refine loop_auto (ι := Nat) m_rSame2 (fun i => [(9, .v (.int .i64 i))]) (fun _ => [.live 0 1 [[.v (.isl 3 (t.map ePr))]], .live 0 1 [[.v (.isl 3 (t.map ePr))]], .live 0 3 [[.v (.str t[i].name), .v (.isl 2 (t[i].vars.map eVr)), .v (.isl 5 (t[i].evs.map eEv))]], .live 0 3 [[.v (.str t[i].name), .v (.isl 2 (t[i].vars.map eVr)), .v (.isl 5 (t[i].evs.map eEv))]]])
   (fun j => j ≤ t[i].evs.length) (fun j => t[i].evs.length - j) 0 (Nat.zero_le _) ?_ ?_
  ·simp only [m_rSame2, ovr_cons, ovr_nil, anyM_t, anyM_f, anyM_nil, upd_zero, upd_succ]
   exact Weak.forget (by simp [Fgt])
  intro j hj
  simp only [m_rSame2, ovr_cons, ovr_nil, anyM_t, anyM_f, anyM_nil, upd_zero, upd_succ]
  by_cases hjv : j < t[i].evs.length
  ·simp (disch := omega) only [eEv, go_sem]
   refine ACalls_mono _ _ _ _ _ _ (rSameEvent_refl t[i].evs[j] (hna _ (List.getElem_mem hjv)) _ _) ?_
   rintro r b' l' ⟨rfl, rfl, rfl⟩
   simp (disch := omega) only [go_sem]
   refine ⟨j + 1, hjv, by simp only; omega, ?_⟩
   simp only [m_rSame2, ovr_cons, ovr_nil, anyM_t, anyM_f, anyM_nil, upd_zero, upd_succ]
   exact Weak.forget (by simp [Fgt])
  ·simp (disch := omega) only [go_sem]
   refine ⟨i + 1, hlt, by simp only; omega, ?_⟩
   simp only [m_rSame0, ovr_cons, ovr_nil, anyM_t, anyM_f, anyM_nil, upd_zero, upd_succ]
   exact Weak.round (by simp [Fgt]) rfl kL hR kL
 ·simp (disch := omega) only [go_sem]
  exact leave_pure (.inr rfl) rfl (.v _) hR hB ⟨rfl, rfl, rfl⟩
theorem first_small {t : Tr} {cs : List Int} (hS : Small t) (hl : cs.length = t.length) : Small (firstL t cs) := by
 have key : ∀ x ∈ firstL t cs, ∃ p ∈ t, x.vars = p.vars ∧ ∃ n, x.evs = p.evs.take n := by
  intro x hx
  obtain ⟨i, hi⟩ := List.mem_iff_getElem?.1 hx
  unfold firstL at hi
  rw [List.getElem?_zipWith] at hi
  cases h1 : t[i]? with
  | none => rw [h1] at hi; cases hi
  | some p =>
    cases h2 : cs[i]? with
    | none => rw [h1, h2] at hi; cases hi
    | some n => rw [h1, h2] at hi; cases hi; exact ⟨p, List.mem_of_getElem? h1, rfl, _, rfl⟩
 refine ⟨by have := hS.np; simp [firstL]; omega, fun x hx => ?_, fun x hx => ?_, fun x hx e he => ?_⟩
 ·obtain ⟨p, hp, h1, _⟩ := key x hx; rw [h1]; exact hS.nv p hp
 ·obtain ⟨p, hp, _, n, h2⟩ := key x hx; rw [h2]; have := hS.ne p hp; simp; omega
 ·obtain ⟨p, hp, _, n, h2⟩ := key x hx; rw [h2] at he; exact hS.na p hp e (List.mem_of_mem_take he)

theorem pref_len {t : Tr} {cs : List Int} (h : prefC t cs = 0) : cs.length = t.length := by
 rw [pref_code] at h
 split at h
 ·simp at h
 ·rename_i hn; rw [not_or] at hn; exact Decidable.of_not_not hn.2

end Go.Proofs.Ytanblnhnfkeffaa
namespace Go.Proofs.Ytanblnhnfkeffaa
set_option linter.unusedVariables false
set_option linter.unusedSimpArgs false
structure Cutt (t : Tr) (cs : List Int) : Prop where
 v : Vok t
 len : cs.length = t.length
 rng : ∀ p, p < t.length → 0 ≤ cAt cs p ∧ cAt cs p ≤ (evsOf t p).length
 ok : ∀ x ∈ ids t, (evAt t x).kind = 3 → (x.2 : Int) ≤ cAt cs x.1 → ((sndr t x).2 : Int) ≤ cAt cs (sndr t x).1
def cN (cs : List Int) (p : Nat) : Nat := (cAt cs p).toNat
theorem cutt_of {t : Tr} {cs : List Int} (h : prefC t cs = 0) : Cutt t cs := by
 have hl := pref_len h
 rw [pref_code] at h
 split at h
 ·simp at h
 rename_i h1
 split at h
 ·simp at h
 rename_i h2
 split at h
 ·simp at h
 rename_i h3
 have hval : validL t = true := by
  cases hv : validL t with
  | true => rfl
  | false => exact absurd (.inl hv) h1
 refine ⟨vok hval, hl, fun p hp => ?_, fun x hx hk hle => ?_⟩
 ·have h2 : (List.range cs.length).all (rangeB t cs) = true := by
   cases hq : (List.range cs.length).all (rangeB t cs) with
   | true => rfl
   | false => exact absurd hq h2
  rw [List.all_eq_true] at h2
  have := h2 p (List.mem_range.2 oM)
  unfold rangeB inB at this
  simp only [Bool.and_eq_true, decide_eq_true_eq] at this
  exact this
 ·have h3 : (ids t).any (badL t cs) = false := by
   cases hq : (ids t).any (badL t cs) with
   | false => rfl
   | true => exact absurd hq h3
  rw [List.any_eq_false] at h3
  have := h3 x hx
  unfold badL at this
  have hs : sndr t x = firstOf t (ids t) 2 (evAt t x).msg := rfl
  rw [hs]
  rw [hk] at this
  simp only [show ((3 : Int) == 3) = true from rfl, Bool.true_and, Bool.and_eq_true, Bool.not_eq_true', decide_eq_false_iff_not, decide_eq_true_eq, not_and] at this
  have := this oM
  omega
section
variable {t : Tr} {cs : List Int} (h : Cutt t cs)
include h
theorem cu_len : (firstL t cs).length = t.length := by unfold firstL; simp; have := h.len; omega
theorem cu_get {p : Nat} (hp : p < t.length) : (firstL t cs)[p]'(by rw [cu_len h]; exact hp) = cutP t[p] (cs[p]'(by rw [h.len]; exact hp)) := by
 unfold firstL; simp
theorem cu_at {p : Nat} (hp : p < t.length) : cs[p]'(by rw [h.len]; exact hp) = cAt cs p := by
 unfold cAt; simp [List.getD, show p < cs.length by rw [h.len]; exact hp]
theorem cu_evs {p : Nat} (hp : p < t.length) : evsOf (firstL t cs) p = (evsOf t p).take (cN cs p) := by
 rw [evsOf_lt (by rw [cu_len h]; exact hp), evsOf_lt hp, cu_get h hp]
 unfold cutP cN
 rw [cu_at h hp]
theorem cu_mem {p i : Nat} : (p, i + 1) ∈ ids (firstL t cs) ↔ (p, i + 1) ∈ ids t ∧ i < cN cs p := by
 rw [mem_ids2, mem_ids2, cu_len h]
 constructor
 ·rintro ⟨hp, hi⟩
  rw [cu_evs h hp, List.length_take] at hi
  exact ⟨⟨hp, by omega⟩, by omega⟩
 ·rintro ⟨⟨hp, hi⟩, hc⟩
  refine ⟨hp, ?_⟩
  rw [cu_evs h hp, List.length_take]; omega
theorem cu_mem2 {x : Nat × Nat} : x ∈ ids (firstL t cs) ↔ x ∈ ids t ∧ x.2 ≤ cN cs x.1 := by
 obtain ⟨p, i⟩ := x
 cases i with
 | zero =>
   constructor
   ·intro hx; have := mem_pos hx; simp at this
   ·rintro ⟨hx, _⟩; have := mem_pos hx; simp at this
 | succ i => rw [cu_mem h]; simp only; exact ⟨fun ⟨a, b⟩ => ⟨a, by omega⟩, fun ⟨a, b⟩ => ⟨a, by omega⟩⟩
theorem cu_ev {x : Nat × Nat} (hx : x ∈ ids (firstL t cs)) : evAt (firstL t cs) x = evAt t x := by
 obtain ⟨p, i⟩ := x
 obtain ⟨i, rfl⟩ : ∃ k, i = k + 1 := ⟨i - 1, by have := mem_pos hx; simp only at this; omega⟩
 obtain ⟨h1, h2⟩ := (cu_mem h).1 hx
 have hp := (mem_ids2.1 h1).1
 unfold evAt
 simp only [Nat.add_sub_cancel]
 rw [cu_evs h hp]
 unfold List.getD
 rw [List.getElem?_take_of_lt h2]
theorem key_uniq {x : Nat × Nat} (hx : x ∈ ids t) {k : Int} (hk : k = 2 ∨ k = 3) (hkx : (evAt t x).kind = k) : findL t k (evAt t x).msg = some x := by
 rcases hk with rfl | rfl
 ·exact h.v.paired.send hx hkx
 ·exact (h.v.paired.recv hx hkx).1
theorem cu_find {k m : Int} (hk : k = 2 ∨ k = 3) {y : Nat × Nat} : findL (firstL t cs) k m = some y ↔ findL t k m = some y ∧ y ∈ ids (firstL t cs) := by
 have fw : ∀ z, findL (firstL t cs) k m = some z → findL t k m = some z ∧ z ∈ ids (firstL t cs) := fun z hz => by
  have hm := (firstOf_find hz).2.2
  obtain ⟨k1, k2⟩ := find_key hz
  rw [cu_ev h hm] at k1 k2
  have := key_uniq h ((cu_mem2 h).1 hm).1 hk k1
  rw [k2] at this
  exact ⟨this, hm⟩
 constructor
 ·exact fw y
 ·rintro ⟨h1, h2⟩
  cases hf : findL (firstL t cs) k m with
  | some z =>
    have := (fw z hf).1
    rw [h1] at this
    rw [Option.some.inj this]
  | none =>
    obtain ⟨k1, k2⟩ := find_key h1
    rw [← cu_ev h h2] at k1 k2
    have e : findL (firstL t cs) k m = (ids (firstL t cs)).find? (keyB (firstL t cs) k m) := rfl
    rw [e, List.find?_eq_none] at hf
    exact absurd (by unfold keyB; rw [k1, k2]; simp) (hf y h2)
theorem recv_to {x z : Nat × Nat} (hx : x ∈ ids t) (hk : (evAt t x).kind = 2) (hz : findL t 3 (evAt t x).msg = some z) : (evAt t x).peer = (z.1 : Int) ∧ ∃ q : Nat, (evAt t z).peer = (q : Int) ∧ x.1 = q ∧ sendsB t q (evAt t x).msg z.1 = true := by
 have hzm := (firstOf_find hz).2.2
 obtain ⟨k3, km⟩ := find_key hz
 obtain ⟨m, q, hm, _, hq, hq2, hqp⟩ := formed_open (formF_formed (h.v.form z hzm)) (by rw [k3]; rfl)
 have hp := h.v.pair z hzm
 unfold pairF at hp
 rw [k3] at hp
 simp only [show ((3 : Int) == 2) = false from rfl, show ((3 : Int) == 3) = true from rfl, if_true, Bool.false_eq_true, if_false] at hp
 rw [if_pos (by have := (h.v.paired.recv hzm k3).1; simpa using this)] at hp
 have hs : sendsB t q (evAt t z).msg z.1 = true := by
  cases hc : sendsB t q (evAt t z).msg z.1 with
  | true => rfl
  | false => rw [hq, Int.toNat_natCast, hc] at hp; simp at hp
 have hs0 := hs
 unfold sendsB at hs
 obtain ⟨e, he, hb⟩ := List.any_eq_true.1 hs
 simp only [Bool.and_eq_true, beq_iff_eq] at hb
 rw [evsOf_lt hq2] at he
 obtain ⟨j, hj, rfl⟩ := List.getElem_of_mem he
 have hyi : (q, j + 1) ∈ ids t := mem_ids2.2 ⟨hq2, by rw [evsOf_lt hq2]; exact hj⟩
 have hye := evAt_eq hq2 hj
 have hf := key_uniq h hyi (.inl rfl) (by rw [hye]; exact hb.1.1)
 have hfx := key_uniq h hx (.inl rfl) hk
 rw [hye, hb.1.2, km, hfx] at hf
 have hxe := Option.some.inj hf
 rw [hxe, hye]
 exact ⟨hb.2, q, hq, rfl, by rw [← hxe, ← km] at *; rw [hb.1.2] at *; exact hs0⟩
theorem cu_sndr {x : Nat × Nat} (hx : x ∈ ids (firstL t cs)) (hk : (evAt t x).kind = 3) : sndr t x ∈ ids (firstL t cs) ∧ sndr (firstL t cs) x = sndr t x := by
 obtain ⟨h1, h2⟩ := (cu_mem2 h).1 hx
 obtain ⟨s1, _⟩ := sndr_in h.v h1 hk
 have hp := (mem_ids.1 h1).1
 have hr := h.rng x.1 hp
 have hq := (mem_ids.1 s1).1
 have hr2 := h.rng (sndr t x).1 hq
 have hok := h.ok x h1 hk (by unfold cN at h2; omega)
 have hm : sndr t x ∈ ids (firstL t cs) := (cu_mem2 h).2 ⟨s1, by unfold cN; omega⟩
 refine ⟨hm, ?_⟩
 obtain ⟨y, hy⟩ := (h.v.paired.recv h1 hk).2
 have e1 : sndr t x = y := (firstOf_find hy).1
 have : findL (firstL t cs) 2 (evAt (firstL t cs) x).msg = some y := by
  rw [cu_ev h hx, cu_find h (.inl rfl)]
  exact ⟨hy, by rw [← e1]; exact hm⟩
 rw [e1]
 exact (firstOf_find this).1
theorem cu_hb {x y : Nat × Nat} (hx : x ∈ ids (firstL t cs)) (hh : Hb (firstL t cs) x y) : y ∈ ids (firstL t cs) ∧ Hb t x y := by
 have dir : ∀ {a c : Nat × Nat}, a ∈ ids (firstL t cs) → Dir (firstL t cs) a c → Dir t a c := fun {a c} ha d => by
  have hp := (mem_ids.1 ((cu_mem2 h).1 ha).1).1
  rcases d with ⟨e, hl⟩ | ⟨hk, hf⟩
  ·refine .inl ⟨e, ?_⟩
   rw [cu_evs h hp, List.length_take] at hl
   omega
  ·rw [cu_ev h ha] at hk hf
   exact .inr ⟨hk, ((cu_find h (.inr rfl)).1 hf).1⟩
 induction hh with
 | one d => exact ⟨d.mem hx, .one (dir hx d)⟩
 | more _ d ih => exact ⟨d.mem ih.1, .more ih.2 (dir ih.1 d)⟩
theorem cu_head {p : Nat} (hp : p < t.length) : headF (firstL t cs) p = 0 := by
 have h0 := h.v.head p hp
 have hpu : p < (firstL t cs).length := by rw [cu_len h]; exact hp
 have hmap : (firstL t cs).map (·.name) = t.map (·.name) := by
  refine List.ext_getElem (by simp [cu_len h]) (fun i h1 h2 => ?_)
  simp only [List.length_map] at h1 h2
  simp only [List.getElem_map]
  rw [cu_get h h2]; rfl
 have hg : (firstL t cs).getD p dfPr = cutP t[p] (cs[p]'(by rw [h.len]; exact hp)) := by rw [getD_at hpu, cu_get h hp]
 have hgt : t.getD p dfPr = t[p] := getD_at hp
 have hany : ∀ g : ByteArray → Bool, ((firstL t cs).take p).any (fun y => g y.name) = (t.take p).any (fun y => g y.name) := fun g => by
  have e1 : ∀ l : List Pr, l.any (fun y => g y.name) = (l.map (·.name)).any g := fun l => by rw [List.any_map]; rfl
  rw [e1, e1, List.map_take, List.map_take, hmap]
 unfold headF at h0 ⊢
 rw [hgt] at h0
 rw [hg]
 have hn : (cutP t[p] (cs[p]'(by rw [h.len]; exact hp))).name = t[p].name := rfl
 have hv : (cutP t[p] (cs[p]'(by rw [h.len]; exact hp))).vars = t[p].vars := rfl
 rw [hn, hv]
 have ha : ((firstL t cs).take p).any (fun y => y.name.toList == t[p].name.toList) = (t.take p).any (fun y => y.name.toList == t[p].name.toList) := hany (fun s => s.toList == t[p].name.toList)
 rw [ha]
 split at h0
 ·simp at h0
 rename_i q1
 rw [if_neg q1]
 split at h0
 ·simp at h0
 rename_i q2
 rw [if_neg q2]
 split at h0
 ·rename_i q3; exact absurd h0 q3
 rename_i q3
 rw [if_neg q3]
 split at h0
 ·simp at h0
 rename_i q4
 rw [if_neg]
 have : (cutP t[p] (cs[p]'(by rw [h.len]; exact hp))).evs.length ≤ t[p].evs.length := by unfold cutP; rw [List.length_take]; omega
 omega
theorem cu_form {x : Nat × Nat} (hx : x ∈ ids (firstL t cs)) : formF (firstL t cs) x = 0 := by
 obtain ⟨h1, h2⟩ := (cu_mem2 h).1 hx
 have hp := (mem_ids.1 h1).1
 have h0 := h.v.form x h1
 have hl : lastT (firstL t cs) x = lastT t x := by
  unfold lastT
  by_cases hc : 1 < x.2
  ·rw [if_pos hc, if_pos hc, cu_evs h hp]
   unfold List.getD
   rw [List.getElem?_take_of_lt oM]
  ·rw [if_neg hc, if_neg hc]
 have hg : ((firstL t cs).getD x.1 dfPr).vars = (t.getD x.1 dfPr).vars := by
  rw [getD_at (by rw [cu_len h]; exact hp), cu_get h hp, getD_at hp]; rfl
 unfold formF at h0 ⊢
 rw [cu_ev h hx, cu_len h, hl, hg]
 exact h0
theorem cu_pair {x : Nat × Nat} (hx : x ∈ ids (firstL t cs)) : pairF (firstL t cs) x = 0 := by
 obtain ⟨h1, h2⟩ := (cu_mem2 h).1 hx
 have hev := cu_ev h hx
 unfold pairF
 rw [hev]
 by_cases k2 : (evAt t x).kind = 2
 ·have hf : findL (firstL t cs) 2 (evAt t x).msg = some x := (cu_find h (.inl rfl)).2 ⟨key_uniq h h1 (.inl rfl) k2, hx⟩
  rw [hf, k2]; simp
 ·by_cases k3 : (evAt t x).kind = 3
  ·have hf : findL (firstL t cs) 3 (evAt t x).msg = some x := (cu_find h (.inr rfl)).2 ⟨key_uniq h h1 (.inr rfl) k3, hx⟩
   obtain ⟨sm, _⟩ := cu_sndr h hx k3
   obtain ⟨p1, p2, p3, p4⟩ := sndr_peer h.v h1 k3
   obtain ⟨s1, _⟩ := sndr_in h.v h1 k3
   have hto := (recv_to h s1 p3 (z := x) (by rw [p4]; exact key_uniq h h1 (.inr rfl) k3)).1
   have hsm : sendsB (firstL t cs) (evAt t x).peer.toNat (evAt t x).msg x.1 = true := by
    rw [p1, Int.toNat_natCast]
    unfold sendsB
    rw [List.any_eq_true]
    obtain ⟨⟨sp, si⟩, hs⟩ : ∃ s, sndr t x = s := ⟨_, rfl⟩
    rw [hs] at sm s1 p3 p4 hto ⊢
    obtain ⟨si, rfl⟩ : ∃ k, si = k + 1 := ⟨si - 1, by have := mem_pos s1; simp only at this; omega⟩
    obtain ⟨m1, m2⟩ := mem_ids2.1 sm
    have hev2 := cu_ev h sm
    refine ⟨(evsOf (firstL t cs) sp)[si], List.getElem_mem m2, ?_⟩
    have e : evAt (firstL t cs) (sp, si + 1) = (evsOf (firstL t cs) sp)[si] := by
     unfold evAt; simp only [Nat.add_sub_cancel]; exact getD_at m2
    rw [← e, hev2, p3, p4, hto]; simp
   rw [hf, k3, hsm]; simp
  ·have e2 : ((evAt t x).kind == 2) = false := beq_eq_false_iff_ne.2 k2
   have e3 : ((evAt t x).kind == 3) = false := beq_eq_false_iff_ne.2 k3
   rw [e2, e3]; rfl
theorem cu_vok : Vok (firstL t cs) := by
 refine ⟨by rw [cu_len h]; exact h.v.lo, by rw [cu_len h]; exact h.v.hi, fun p hp => cu_head h (by rw [← cu_len h]; exact hp), fun x hx => cu_form h hx, fun x hx => cu_pair h hx, fun x hx hh => ?_⟩
 exact h.v.acyc x ((cu_mem2 h).1 hx).1 (cu_hb h hx hh).2
end
theorem valid_of {t : Tr} (h : Vok t) : validL t = true := by
 unfold validL faultL
 have h1 : ¬ (t.length < 1 ∨ 8 < t.length) := by have := h.lo; have := h.hi; omega
 rw [if_neg h1]
 have h2 : (List.range t.length).find? (fun p => headF t p != 0) = none := by
  rw [List.find?_eq_none]; intro p hp; rw [h.head p (List.mem_range.1 hp)]; simp
 have h3 : (ids t).find? (fun x => formF t x != 0) = none := by
  rw [List.find?_eq_none]; intro x hx; rw [h.form x hx]; simp
 have h4 : (ids t).find? (fun x => pairF t x != 0) = none := by
  rw [List.find?_eq_none]; intro x hx; rw [h.pair x hx]; simp
 simp only [h2, h3, h4]
 split
 ·rename_i x hx
  have := List.find?_some hx
  have hm := List.mem_of_find?_eq_some hx
  exact absurd (by simpa using this) (h.acyc x hm)
 ·rfl
end Go.Proofs.Ytanblnhnfkeffaa
