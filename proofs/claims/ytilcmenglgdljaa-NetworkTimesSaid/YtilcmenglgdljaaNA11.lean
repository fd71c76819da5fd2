/- Texts of one proof, laid together: NW. No condition. -/
import Derived.Test.YtilcmenglgdljaaNA10
namespace Go.Proofs.Ytilcmenglgdljaa
set_option linter.unusedVariables false
set_option linter.unusedSimpArgs false
attribute [local go_sem ↓] run_skip run_region run_draw run_seq run_block run_exit run_ret run_cond atN_app seqC_normal seqC_exit seqC_ret seqQ_normal seqQ_exit seqQ_ret blkQ_normal blkQ_exit blkQ_ret runOps_nil runOps_cons runD_nil runD_cons grdO_true grdO_false grdD_true grdD_false ifC_true ifC_false opS_val opS_call opS_two opK_app dS_val dS_call dS_two dK_app kUp_same kUp_ne
attribute [local go_sem] rechks_nil rechks_cons rechk gcase_true gcase_false ex_val ex_val0 gd_none gd_some ev_t ev_c evs_nil evs_cons evo_some evo_none hget_at hget_first hsetB_at hsetB_first hsetL_at hsetL_first ofOpt_some aop aload astore aslice aappend aiaddr aiaddrA afaddr alen alenS acopy amm acall alookup amupdate alenM comma keyEq apick binV binVB binVS isSh intOp strOp boolOp shOp eqC eqF and2 cellsOf setFrom fillA fillS rd rdI elems mk bounds AV.cell List.all_cons List.all_nil Bool.and_true Bool.true_and Bool.and_self List.length_cons List.length_nil List.length_append Nat.reduceAdd Nat.reduceSub Nat.reduceMul Nat.zero_add Nat.add_zero List.cons_append List.nil_append List.append_assoc List.append_nil List.getElem?_cons_zero List.getElem?_cons_succ List.getElem?_nil List.set_cons_zero List.set_cons_succ List.drop_zero List.drop_succ_cons List.take_zero List.take_succ_cons List.take_nil List.drop_nil List.map_cons List.map_nil Option.map_some if_true if_false Bool.false_eq_true and_self true_and and_true Nat.reduceLeDiff Nat.reduceLT Nat.le_refl Nat.reduceEqDiff ite_true ite_false beq_self_eq_true beq_true beq_false Bool.not_true Bool.not_false Bool.true_beq Bool.false_beq map_vs vs_len vs_get vs_take vs_drop vs_snoc1 vs_snoc2 vs_snoc3 vs_snoc5 vs_set1 vs_set2 vs_rep wrap_id le_T lt_T le_F lt_F leI_T ltI_T leI_F ltI_F geI gtI get_T decide_true decide_false room List.getElem?_map List.length_map List.length_take Int.toNat_natCast Nat.min_def Nat.min_self nth_kOf put_kOf put_kNo kOv_cons kOv_nil KHas KArgs List.getElem_cons_zero List.getElem_cons_succ
def a_lawTimes : AFunc := ⟨3,162,[.tmp 6],(.seq (.region [⟨some 3,.box (.t 0),none⟩,⟨some 6,.mv (.c (.v (.bool false))),none⟩]) (.seq (.seq (.region [⟨some 20,.call (.c (.fn 27 [])) [],none⟩,⟨some 21,.not (.t 20),none⟩]) (.cond (.t 21) (.seq (.region [⟨some 6,.mv (.c (.v (.bool false))),none⟩]) .ret) .skip)) (.seq (.seq (.region [⟨some 22,.load (some 5) (.t 3),none⟩,⟨some 23,.call (.c (.fn 28 [])) [(.t 22)],none⟩,⟨some 24,.mv (.t 23),none⟩,⟨some 25,.load (some 5) (.t 3),some (24,false)⟩,⟨some 26,.call (.c (.fn 30 [])) [(.t 25)],some (24,false)⟩,⟨some 27,.not (.t 26),some (24,false)⟩,⟨some 28,.pick (.t 24) (.c (.v (.bool true))) (.t 27),none⟩,⟨some 29,.mv (.t 28),none⟩,⟨some 30,.faddr 0 (.t 3),some (29,false)⟩,⟨some 31,.load none (.t 30),some (29,false)⟩,⟨some 32,.bin .gtr (.t 31) (.c (.v (.int .i64 1090921693184))),some (29,false)⟩,⟨some 33,.pick (.t 29) (.c (.v (.bool true))) (.t 32),none⟩]) (.cond (.t 33) (.seq (.region [⟨some 6,.mv (.c (.v (.bool true))),none⟩]) .ret) .skip)) (.seq (.region [⟨some 35,.load (some 5) (.t 3),none⟩,⟨some 36,.faddr 0 (.t 3),none⟩,⟨some 37,.load none (.t 36),none⟩,⟨some 38,.mv (.t 1),none⟩,⟨some 39,.conv .i64 (.t 38),none⟩,⟨some 40,.bin .add (.t 37) (.t 39),none⟩,⟨some 41,.call (.c (.fn 36 [])) [(.t 35),(.t 40)],none⟩,⟨some 34,.mv (.t 41),none⟩,⟨some 42,.extract 0 (.t 34),none⟩,⟨some 43,.extract 1 (.t 34),none⟩,⟨some 7,.alloc [(.v (.int .i64 0)),(.v (.bool false)),(.v .zsl),(.v .zsl),(.v .zsl)],none⟩,⟨none,.store 5 (.t 7) (.t 42),none⟩,⟨some 8,.mv (.t 43),none⟩]) (.seq (.region [⟨some 45,.load (some 5) (.t 7),none⟩,⟨some 46,.faddr 0 (.t 3),none⟩,⟨some 47,.load none (.t 46),none⟩,⟨some 48,.mv (.t 1),none⟩,⟨some 49,.conv .i64 (.t 48),none⟩,⟨some 50,.bin .add (.t 47) (.t 49),none⟩,⟨some 51,.mv (.t 2),none⟩,⟨some 52,.conv .i64 (.t 51),none⟩,⟨some 53,.bin .add (.t 50) (.t 52),none⟩,⟨some 54,.call (.c (.fn 36 [])) [(.t 45),(.t 53)],none⟩,⟨some 44,.mv (.t 54),none⟩,⟨some 55,.extract 0 (.t 44),none⟩,⟨some 56,.extract 1 (.t 44),none⟩,⟨some 9,.alloc [(.v (.int .i64 0)),(.v (.bool false)),(.v .zsl),(.v .zsl),(.v .zsl)],none⟩,⟨none,.store 5 (.t 9) (.t 55),none⟩,⟨some 10,.mv (.t 56),none⟩]) (.seq (.region [⟨some 58,.load (some 5) (.t 3),none⟩,⟨some 59,.faddr 0 (.t 3),none⟩,⟨some 60,.load none (.t 59),none⟩,⟨some 61,.mv (.t 1),none⟩,⟨some 62,.conv .i64 (.t 61),none⟩,⟨some 63,.bin .add (.t 60) (.t 62),none⟩,⟨some 64,.mv (.t 2),none⟩,⟨some 65,.conv .i64 (.t 64),none⟩,⟨some 66,.bin .add (.t 63) (.t 65),none⟩,⟨some 67,.call (.c (.fn 36 [])) [(.t 58),(.t 66)],none⟩,⟨some 57,.mv (.t 67),none⟩,⟨some 68,.extract 0 (.t 57),none⟩,⟨some 69,.extract 1 (.t 57),none⟩,⟨some 11,.alloc [(.v (.int .i64 0)),(.v (.bool false)),(.v .zsl),(.v .zsl),(.v .zsl)],none⟩,⟨none,.store 5 (.t 11) (.t 68),none⟩,⟨some 12,.mv (.t 69),none⟩]) (.seq (.seq (.region [⟨some 70,.mv (.t 8),none⟩,⟨some 71,.bin .neq (.t 70) (.c (.v (.int .i64 0))),none⟩,⟨some 72,.mv (.t 71),none⟩,⟨some 73,.mv (.t 10),some (72,false)⟩,⟨some 74,.bin .neq (.t 73) (.c (.v (.int .i64 0))),some (72,false)⟩,⟨some 75,.pick (.t 72) (.c (.v (.bool true))) (.t 74),none⟩,⟨some 76,.mv (.t 75),none⟩,⟨some 77,.mv (.t 12),some (76,false)⟩,⟨some 78,.bin .neq (.t 77) (.c (.v (.int .i64 0))),some (76,false)⟩,⟨some 79,.pick (.t 76) (.c (.v (.bool true))) (.t 78),none⟩,⟨some 80,.mv (.t 79),none⟩,⟨some 81,.load (some 5) (.t 9),some (80,false)⟩,⟨some 82,.load (some 5) (.t 11),some (80,false)⟩,⟨some 83,.call (.c (.fn 34 [])) [(.t 81),(.t 82)],some (80,false)⟩,⟨some 84,.not (.t 83),some (80,false)⟩,⟨some 85,.pick (.t 80) (.c (.v (.bool true))) (.t 84),none⟩]) (.cond (.t 85) (.seq (.region [⟨some 6,.mv (.c (.v (.bool false))),none⟩]) .ret) .skip)) (.seq (.region [⟨some 13,.mv (.c (.fn 49 [])),none⟩]) (.seq (.seq (.draw [⟨0,⟨some 86,.mv (.t 13),none⟩,[]⟩,⟨1,⟨some 87,.load (some 5) (.t 3),none⟩,[]⟩,⟨3,⟨some 89,.mv (.t 13),none⟩,[]⟩,⟨4,⟨some 90,.load (some 5) (.t 7),none⟩,[]⟩,⟨2,⟨some 88,.call (.t 86) [(.t 87)],none⟩,[⟨some 89,.mv (.t 13),none⟩,⟨some 90,.load (some 5) (.t 7),none⟩]⟩,⟨5,⟨some 91,.call (.t 89) [(.t 90)],none⟩,[]⟩,⟨6,⟨some 92,.bin .gtr (.t 88) (.t 91),none⟩,[]⟩,⟨7,⟨some 93,.mv (.t 92),none⟩,[]⟩,⟨8,⟨some 94,.mv (.t 13),some (93,false)⟩,[]⟩,⟨9,⟨some 95,.load (some 5) (.t 7),some (93,false)⟩,[]⟩,⟨11,⟨some 97,.mv (.t 13),some (93,false)⟩,[]⟩,⟨12,⟨some 98,.load (some 5) (.t 9),some (93,false)⟩,[]⟩,⟨10,⟨some 96,.call (.t 94) [(.t 95)],some (93,false)⟩,[⟨some 97,.mv (.t 13),some (93,false)⟩,⟨some 98,.load (some 5) (.t 9),some (93,false)⟩]⟩,⟨13,⟨some 99,.call (.t 97) [(.t 98)],some (93,false)⟩,[]⟩,⟨14,⟨some 100,.bin .gtr (.t 96) (.t 99),some (93,false)⟩,[]⟩,⟨15,⟨some 101,.pick (.t 93) (.c (.v (.bool true))) (.t 100),none⟩,[]⟩]) (.cond (.t 101) (.seq (.region [⟨some 6,.mv (.c (.v (.bool false))),none⟩]) .ret) .skip)) (.seq (.region [⟨some 103,.load (some 5) (.t 3),none⟩,⟨some 104,.call (.c (.fn 43 [])) [(.t 103)],none⟩,⟨some 102,.mv (.t 104),none⟩,⟨some 105,.extract 0 (.t 102),none⟩,⟨some 106,.extract 1 (.t 102),none⟩,⟨some 14,.mv (.t 105),none⟩,⟨some 15,.mv (.t 106),none⟩]) (.seq (.seq (.region [⟨some 107,.mv (.t 15),none⟩,⟨some 108,.not (.t 107),none⟩]) (.cond (.t 108) (.seq (.draw [⟨0,⟨some 109,.mv (.t 13),none⟩,[]⟩,⟨1,⟨some 110,.load (some 5) (.t 11),none⟩,[]⟩,⟨3,⟨some 112,.mv (.t 13),none⟩,[]⟩,⟨4,⟨some 113,.load (some 5) (.t 3),none⟩,[]⟩,⟨2,⟨some 111,.call (.t 109) [(.t 110)],none⟩,[⟨some 112,.mv (.t 13),none⟩,⟨some 113,.load (some 5) (.t 3),none⟩]⟩,⟨5,⟨some 114,.call (.t 112) [(.t 113)],none⟩,[]⟩,⟨6,⟨some 115,.bin .eql (.t 111) (.t 114),none⟩,[]⟩,⟨7,⟨some 6,.mv (.t 115),none⟩,[]⟩]) .ret) .skip)) (.seq (.seq (.region [⟨some 116,.mv (.t 14),none⟩,⟨some 117,.bin .gtr (.t 116) (.c (.v (.int .i64 1099511627776))),none⟩]) (.cond (.t 117) (.seq (.draw [⟨0,⟨some 118,.mv (.t 13),none⟩,[]⟩,⟨1,⟨some 119,.load (some 5) (.t 11),none⟩,[]⟩,⟨3,⟨some 121,.mv (.t 13),none⟩,[]⟩,⟨4,⟨some 122,.load (some 5) (.t 3),none⟩,[]⟩,⟨2,⟨some 120,.call (.t 118) [(.t 119)],none⟩,[⟨some 121,.mv (.t 13),none⟩,⟨some 122,.load (some 5) (.t 3),none⟩]⟩,⟨5,⟨some 123,.call (.t 121) [(.t 122)],none⟩,[]⟩,⟨6,⟨some 124,.bin .eql (.t 120) (.t 123),none⟩,[]⟩,⟨7,⟨some 6,.mv (.t 124),none⟩,[]⟩]) .ret) .skip)) (.seq (.region [⟨some 126,.load (some 5) (.t 3),none⟩,⟨some 127,.mv (.t 14),none⟩,⟨some 128,.bin .sub (.t 127) (.c (.v (.int .i64 1))),none⟩,⟨some 129,.call (.c (.fn 36 [])) [(.t 126),(.t 128)],none⟩,⟨some 125,.mv (.t 129),none⟩,⟨some 130,.extract 0 (.t 125),none⟩,⟨some 131,.extract 1 (.t 125),none⟩,⟨some 16,.alloc [(.v (.int .i64 0)),(.v (.bool false)),(.v .zsl),(.v .zsl),(.v .zsl)],none⟩,⟨none,.store 5 (.t 16) (.t 130),none⟩,⟨some 17,.mv (.t 131),none⟩]) (.seq (.region [⟨some 133,.load (some 5) (.t 3),none⟩,⟨some 134,.mv (.t 14),none⟩,⟨some 135,.call (.c (.fn 36 [])) [(.t 133),(.t 134)],none⟩,⟨some 132,.mv (.t 135),none⟩,⟨some 136,.extract 0 (.t 132),none⟩,⟨some 137,.extract 1 (.t 132),none⟩,⟨some 18,.alloc [(.v (.int .i64 0)),(.v (.bool false)),(.v .zsl),(.v .zsl),(.v .zsl)],none⟩,⟨none,.store 5 (.t 18) (.t 136),none⟩,⟨some 19,.mv (.t 137),none⟩]) (.seq (.draw [⟨0,⟨some 138,.mv (.t 17),none⟩,[]⟩,⟨1,⟨some 139,.bin .eql (.t 138) (.c (.v (.int .i64 0))),none⟩,[]⟩,⟨2,⟨some 140,.mv (.t 139),none⟩,[]⟩,⟨3,⟨some 141,.mv (.t 13),some (140,true)⟩,[]⟩,⟨4,⟨some 142,.load (some 5) (.t 16),some (140,true)⟩,[]⟩,⟨6,⟨some 144,.mv (.t 13),some (140,true)⟩,[]⟩,⟨7,⟨some 145,.load (some 5) (.t 3),some (140,true)⟩,[]⟩,⟨5,⟨some 143,.call (.t 141) [(.t 142)],some (140,true)⟩,[⟨some 144,.mv (.t 13),some (140,true)⟩,⟨some 145,.load (some 5) (.t 3),some (140,true)⟩]⟩,⟨8,⟨some 146,.call (.t 144) [(.t 145)],some (140,true)⟩,[]⟩,⟨9,⟨some 147,.bin .eql (.t 143) (.t 146),some (140,true)⟩,[]⟩,⟨10,⟨some 148,.pick (.t 140) (.t 147) (.c (.v (.bool false))),none⟩,[]⟩,⟨11,⟨some 149,.mv (.t 148),none⟩,[]⟩,⟨12,⟨some 150,.mv (.t 19),some (149,true)⟩,[]⟩,⟨13,⟨some 151,.bin .eql (.t 150) (.c (.v (.int .i64 0))),some (149,true)⟩,[]⟩,⟨14,⟨some 152,.pick (.t 149) (.t 151) (.c (.v (.bool false))),none⟩,[]⟩,⟨15,⟨some 153,.mv (.t 152),none⟩,[]⟩,⟨16,⟨some 154,.mv (.t 13),some (153,true)⟩,[]⟩,⟨17,⟨some 155,.load (some 5) (.t 18),some (153,true)⟩,[]⟩,⟨19,⟨some 157,.mv (.t 13),some (153,true)⟩,[]⟩,⟨20,⟨some 158,.load (some 5) (.t 3),some (153,true)⟩,[]⟩,⟨18,⟨some 156,.call (.t 154) [(.t 155)],some (153,true)⟩,[⟨some 157,.mv (.t 13),some (153,true)⟩,⟨some 158,.load (some 5) (.t 3),some (153,true)⟩]⟩,⟨21,⟨some 159,.call (.t 157) [(.t 158)],some (153,true)⟩,[]⟩,⟨22,⟨some 160,.bin .gtr (.t 156) (.t 159),some (153,true)⟩,[]⟩,⟨23,⟨some 161,.pick (.t 153) (.t 160) (.c (.v (.bool false))),none⟩,[]⟩,⟨24,⟨some 6,.mv (.t 161),none⟩,[]⟩]) .ret)))))))))))))))⟩
theorem a_lawTimes_ok : cFunc Try.prog 8 = some a_lawTimes := by kernel_rfl
def a_lawTimesC : AFunc := ⟨1,15,[.tmp 2],(.seq (.region [⟨some 1,.box (.t 0),none⟩,⟨some 2,.mv (.c (.v (.int .i64 0))),none⟩]) (.seq (.region [⟨some 3,.mv (.c (.v (.int .i64 0))),none⟩]) (.seq (.seq (.region [⟨some 5,.mv (.c (.v (.int .i64 0))),none⟩]) (.block 0 (.loop (.seq (.region [⟨some 6,.bin .lss (.t 5) (.c (.v (.int .i64 8))),none⟩]) (.seq (.cond (.t 6) .skip (.exit 0)) (.seq (.block 1 (.seq (.region [⟨some 7,.mv (.t 5),none⟩,⟨some 4,.mv (.t 7),none⟩]) (.region [⟨some 8,.mv (.t 3),none⟩,⟨some 9,.load (some 5) (.t 1),none⟩,⟨some 10,.mv (.t 4),none⟩,⟨some 11,.call (.c (.fn 45 [])) [(.t 9),(.t 10)],none⟩,⟨some 12,.bin .add (.t 8) (.t 11),none⟩,⟨some 3,.mv (.t 12),none⟩]))) (.region [⟨some 13,.bin .add (.t 5) (.c (.v (.int .i64 1))),none⟩,⟨some 5,.mv (.t 13),none⟩]))))))) (.seq (.region [⟨some 14,.mv (.t 3),none⟩,⟨some 2,.mv (.t 14),none⟩]) .ret))))⟩
theorem a_lawTimesC_ok : cFunc Try.prog 49 = some a_lawTimesC := by kernel_rfl
def r_lawTimesC0 : List (Nat × Nat) := [(3, 13)]

def nwT (n : Nw) (t : Int) : Nw := { n with now := t }
theorem nwT_ok {n : Nw} (h : NwV n) {t : Int} (h0 : 0 ≤ t) (h1 : t ≤ 1099511627776) : NwV (nwT n t) := ⟨⟨h0, h1⟩, h.len, h.l, h.fl, h.fates, h.ms, h.tm, h.mono⟩
theorem nwT_go {n : Nw} (h : NwV n) {t : Int} (h0 : n.now ≤ t) (h1 : t ≤ 1099511627776) : goE n t = 0 ∧ goN n t = nwT n t := by
 have hn := h.now
 have he : goE n t = 0 := by
  unfold goE
  rw [if_pos (nwB_iff.2 h), if_neg oM, if_neg oM]
 exact ⟨he, by unfold goN; rw [if_pos he]; rfl⟩
def cntN (n : Nw) : Nat → Nat
 | 0 => 0
 | k + 1 => cntN n k + waitN n k
theorem waitN_v {n : Nw} (h : NwV n) {k : Nat} (hk : k < 8) : waitN n k = wtN n k n.l.length := by
 unfold waitN
 rw [if_pos ⟨nwB_iff.2 h, by unfold ptB; exact decide_eq_true oM⟩]
theorem wt_mono {n m : Nw} {to : Int} : ∀ {i : Nat}, (∀ j, j < i → arB n to j = true → arB m to j = true) → wtN n to i ≤ wtN m to i
 | 0, _ => Nat.le_refl _
 | i + 1, h => by
   have ih := wt_mono (i := i) (fun j hj => h j oM)
   have hi := h i oM
   simp only [wtN]
   by_cases q : arB n to i = true
   ·rw [if_pos q, if_pos (hi q)]; omega
   ·rw [if_neg q]; split <;> omega
theorem wt_lt {n m : Nw} {to : Int} {k : Nat} : ∀ {i : Nat}, (∀ j, j < i → arB n to j = true → arB m to j = true) → k < i → arB n to k = false → arB m to k = true → wtN n to i < wtN m to i
 | 0, _, hk, _, _ => by omega
 | i + 1, h, hk, h1, h2 => by
   have hi := h i oM
   simp only [wtN]
   by_cases he : k = i
   ·subst he
    have := wt_mono (i := k) (fun j hj => h j oM)
    rw [if_neg (by rw [h1]; simp), if_pos h2]; omega
   ·have ih := wt_lt (i := i) (fun j hj => h j oM) oM h1 h2
    by_cases q : arB n to i = true
    ·rw [if_pos q, if_pos (hi q)]; omega
    ·rw [if_neg q]; split <;> omega
theorem cnt_mono {n m : Nw} : ∀ {k : Nat}, (∀ j, j < k → waitN n j ≤ waitN m j) → cntN n k ≤ cntN m k
 | 0, _ => Nat.le_refl _
 | k + 1, h => by
   have := cnt_mono (k := k) (fun j hj => h j oM)
   have := h k oM
   simp only [cntN]; omega
theorem cnt_lt {n m : Nw} {p : Nat} : ∀ {k : Nat}, (∀ j, j < k → waitN n j ≤ waitN m j) → p < k → waitN n p < waitN m p → cntN n k < cntN m k
 | 0, _, hp, _ => by omega
 | k + 1, h, hp, hlt => by
   have hk := h k oM
   simp only [cntN]
   by_cases he : p = k
   ·subst he
    have := cnt_mono (k := p) (fun j hj => h j oM)
    omega
   ·have := cnt_lt (k := k) (fun j hj => h j oM) oM hlt
    omega
theorem arB_T {n : Nw} {t : Int} {to : Int} {i : Nat} : arB (nwT n t) to i = (decide ((n.l.getD i dfMs).to = to) && decide (n.tm.getD i 0 ≤ t)) := rfl
theorem wait_mono {n : Nw} {s t : Int} (hs : NwV (nwT n s)) (ht : NwV (nwT n t)) (h : s ≤ t) {j : Nat} (hj : j < 8) : waitN (nwT n s) j ≤ waitN (nwT n t) j := by
 rw [waitN_v hs hj, waitN_v ht hj]
 refine wt_mono (fun i hi q => ?_)
 rw [arB_T, Bool.and_eq_true, decide_eq_true_eq, decide_eq_true_eq] at q ⊢
 exact ⟨q.1, by omega⟩
theorem cntT_mono {n : Nw} {s t : Int} (hs : NwV (nwT n s)) (ht : NwV (nwT n t)) (h : s ≤ t) : cntN (nwT n s) 8 ≤ cntN (nwT n t) 8 := cnt_mono (fun j hj => wait_mono hs ht h hj)
theorem cntT_eq {n : Nw} {s t : Int} (hs : NwV (nwT n s)) (ht : NwV (nwT n t)) (h : s ≤ t) (hq : ∀ i, i < n.l.length → n.tm.getD i 0 ≤ t → n.tm.getD i 0 ≤ s) : cntN (nwT n s) 8 = cntN (nwT n t) 8 := by
 refine Nat.le_antisymm (cntT_mono hs ht h) (cnt_mono (fun j hj => ?_))
 rw [waitN_v hs hj, waitN_v ht hj]
 refine wt_mono (fun i hi q => ?_)
 rw [arB_T, Bool.and_eq_true, decide_eq_true_eq, decide_eq_true_eq] at q ⊢
 exact ⟨q.1, hq i hi q.2⟩
theorem cntT_lt {n : Nw} {s t : Int} (hs : NwV (nwT n s)) (ht : NwV (nwT n t)) (h : s ≤ t) {k : Nat} (hk : k < n.l.length) (h1 : s < n.tm.getD k 0) (h2 : n.tm.getD k 0 ≤ t) : cntN (nwT n s) 8 < cntN (nwT n t) 8 := by
 have hm := hs.ms n.l[k] (List.getElem_mem (l := n.l) hk)
 have hp : 0 ≤ n.l[k].to ∧ n.l[k].to ≤ 7 := by
  unfold msB ptB at hm
  simp only [Bool.and_eq_true, decide_eq_true_eq] at hm
  exact hm.2.1
 refine cnt_lt (p := n.l[k].to.toNat) (fun j hj => wait_mono hs ht h hj) oM ?_
 rw [waitN_v hs oM, waitN_v ht oM]
 have he : ((n.l[k].to.toNat : Nat) : Int) = n.l[k].to := by omega
 refine wt_lt (k := k) (fun i hi q => ?_) hk ?_ ?_
 ·rw [arB_T, Bool.and_eq_true, decide_eq_true_eq, decide_eq_true_eq] at q ⊢
  exact ⟨q.1, by omega⟩
 ·rw [arB_T, getD_at hk, he]
  rw [decide_eq_false (show ¬ n.tm.getD k 0 ≤ s by omega)]; simp
 ·rw [arB_T, getD_at hk, he, decide_eq_true rfl, decide_eq_true h2]; rfl
theorem cntN_le {n : Nw} (h : NwV n) : ∀ {k : Nat}, k ≤ 8 → cntN n k ≤ k * 1000
 | 0, _ => by simp [cntN]
 | k + 1, hk => by
   have := cntN_le h (k := k) oM
   have h2 := waitN_v h (k := k) oM
   have h3 := wtN_le (n := n) (to := k) n.l.length
   have h4 := h.l
   simp only [cntN]; omega
theorem lawTimesC_spec (n : Nw) (h : NwV n) (b l : List Row) : ACalls Try.prog 49 [.agg [.v (.int .i64 n.now), .v (.bool n.fifo), .v (.isl 4 (n.l.map eMs)), .v (.isl 1 (n.tm.map eI)), .v (.isl 2 (n.fates.map eFt))]] b l (fun r b' l' => r = .v (.int .i64 (cntN n 8)) ∧ b' = b ∧ l' = l) := by
 refine calls_kept a_lawTimesC_ok rfl (by decide) ?_
 intro B g hB hR hE hA
 simp only [KArgs] at hA
 have cW := fun to b l => nWait_spec n to b l
 unfold eNw at cW
 simp only [List.map_cons, List.map_nil] at cW
 have z0 : cntN n 0 = 0 := rfl
 simp (disch := (first | decide | omega)) only [a_lawTimesC, hA, go_sem]
 refine loop_kept (ι := Nat) r_lawTimesC0 (fun i => [(3, .v (.int .i64 (cntN n i))), (5, .v (.int .i64 i))]) 1 (fun _ => [.live 0 5 [[.v (.int .i64 n.now), .v (.bool n.fifo), .v (.isl 4 (n.l.map eMs)), .v (.isl 1 (n.tm.map eI)), .v (.isl 2 (n.fates.map eFt))]]])
  (fun i => i ≤ 8) (fun i => 8 - i) 0 (Nat.zero_le _) (by (repeat (first | exact hE.mono oM | refine KLt.up ?_ kL))) (by ((try simp (disch := decide) only [hA, z0, go_sem]) <;> exact kH)) (fun e => Weak.refl _ _ _) ?_
 intro g1 hE1 hEE1 hg1 i hi
 by_cases hlt : i < 8
 ·have d : decide ((i : Int) < 8) = true := decide_eq_true oM
  have hb1 := cntN_le h (k := i) hi
  have hb2 := waitN_v h hlt
  have hb3 := wtN_le (n := n) (to := i) n.l.length
  have hb4 := h.l
  simp (disch := (first | decide | omega)) only [hA, hg1, d, go_sem]
  refine ACalls.nxt (cW i _ _) ?_
  have hs : cntN n (i + 1) = cntN n i + waitN n i := rfl
  simp (disch := (first | decide | omega)) only [hA, hg1, go_sem]
  refine ⟨i + 1, hlt, by simp only; omega, ?_⟩
  exact Weak.kround (p := r_lawTimesC0) (k := 1) (by ((repeat refine (kAny_up rfl).trans ?_); exact hEE1)) (by ((try simp (disch := decide) only [hA, hs, go_sem]) <;> exact kH)) rfl hE1 (by simp) kV hR kL
 ·obtain rfl : i = 8 := by omega
  have d : decide (((8 : Nat) : Int) < 8) = false := by simp
  simp (disch := (first | decide | omega)) only [hA, hg1, d, go_sem]
  exact leave_pure (xs := [.v (.int .i64 (cntN n 8))]) (.inr rfl) (by simp (disch := (first | decide | omega)) only [resVs, resV, go_sem, hA, hg1]) kO hR hB ⟨rfl, rfl, rfl⟩
set_option maxRecDepth 20000 in
set_option maxHeartbeats 8000000 in
theorem lawTimes_run (n : Nw) (u v : Int) (hu : 0 ≤ u ∧ u < 4294967296) (hv0 : 0 ≤ v ∧ v < 4294967296) (b l : List Row) : ACalls Try.prog 8 [.agg ((eNw n).map .v), .v (.int .u32 u), .v (.int .u32 v)] b l (fun r b' l' => r = .v (.bool true) ∧ b' = b ∧ l' = l) := by
 refine calls_kept a_lawTimes_ok rfl (by decide) ?_
 intro B g hB hR hE hA
 simp only [KArgs] at hA
 have cV := fun b l => rnValid_spec n b l
 have cG := fun b l => great53_spec n b l
 have cX := fun b l => nNext_spec n b l
 have cO := fun (n : Nw) t b l => nGo_spec n t b l
 unfold eNw at cV cG cX cO
 simp only [List.map_cons, List.map_nil] at cV cG cX cO
 have n0 : ((0 : Int) != 0) = false := rfl
 have e0 : ((0 : Int) == 0) = true := rfl
 simp (disch := (first | decide | omega)) only [a_lawTimes, hA, eNw, go_sem]
 refine ACalls.nxt (awake53_spec _ _) ?_
 simp (disch := (first | decide | omega)) only [hA, go_sem]
 refine ACalls.nxt (cG _ _) ?_
 cases hg : grB n
 case' true =>
  simp (disch := (first | decide | omega)) only [hA, go_sem]
  exact leave_pure (xs := [.v (.bool true)]) (.inr rfl) (by simp (disch := (first | decide | omega)) only [resVs, resV, go_sem, hA]) kO hR hB ⟨rfl, rfl, rfl⟩
 have hS := grB_s hg
 simp (disch := (first | decide | omega)) only [hA, go_sem]
 refine ACalls.nxt (cV _ _) ?_
 cases h1 : nwB n
 case' false =>
  simp (disch := (first | decide | omega)) only [hA, go_sem]
  exact leave_pure (xs := [.v (.bool true)]) (.inr rfl) (by simp (disch := (first | decide | omega)) only [resVs, resV, go_sem, hA]) kO hR hB ⟨rfl, rfl, rfl⟩
 have hv := nwB_iff.1 h1
 have hnow := hv.now
 by_cases hbig : 1090921693184 < n.now
 case' pos =>
  have d := decide_eq_true hbig
  simp (disch := (first | decide | omega)) only [hA, d, go_sem]
  exact leave_pure (xs := [.v (.bool true)]) (.inr rfl) (by simp (disch := (first | decide | omega)) only [resVs, resV, go_sem, hA]) kO hR hB ⟨rfl, rfl, rfl⟩
 have d := decide_eq_false hbig
 have wu : IntKind.i64.wrap u = u := wrap_id oM oM
 have wv : IntKind.i64.wrap v = v := wrap_id oM oM
 have wa : IntKind.i64.wrap (n.now + u) = n.now + u := wrap_id oM oM
 have wb : IntKind.i64.wrap (n.now + u + v) = n.now + u + v := wrap_id oM oM
 have vn : NwV (nwT n n.now) := nwT_ok hv oM oM
 have vx : NwV (nwT n (n.now + u)) := nwT_ok hv oM oM
 have vz : NwV (nwT n (n.now + u + v)) := nwT_ok hv oM oM
 have hnn : nwT n n.now = n := rfl
 obtain ⟨g1, g2⟩ := nwT_go hv (t := n.now + u) oM oM
 obtain ⟨g3, g4⟩ := nwT_go vx (t := n.now + u + v) (by show n.now + u ≤ n.now + u + v; omega) oM
 obtain ⟨g5, g6⟩ := nwT_go hv (t := n.now + u + v) oM oM
 have g4 : goN (nwT n (n.now + u)) (n.now + u + v) = nwT n (n.now + u + v) := g4
 have c1 := fun b l => cO n (n.now + u) b l
 have c2 := fun b l => cO (nwT n (n.now + u)) (n.now + u + v) b l
 have c3 := fun b l => cO n (n.now + u + v) b l
 rw [g1, g2] at c1
 rw [g3, g4] at c2
 rw [g5, g6] at c3
 have cS := fun b l => sameN_spec (nwT n (n.now + u + v)) (nwT n (n.now + u + v)) ⟨hS.l, hS.tm, hS.fates, hS.body⟩ b l
 rw [eqB_refl] at cS
 change ∀ b l, ACalls Try.prog 34 [nwA (nwT n (n.now + u + v)), nwA (nwT n (n.now + u + v))] b l _ at cS
 rw [nwA_open] at cS
 have k1 := fun b l => lawTimesC_spec n hv b l
 have k2 := fun b l => lawTimesC_spec (nwT n (n.now + u)) vx b l
 have k3 := fun b l => lawTimesC_spec (nwT n (n.now + u + v)) vz b l
 have m1 : cntN n 8 ≤ cntN (nwT n (n.now + u)) 8 := cntT_mono vn vx oM
 have m2 : cntN (nwT n (n.now + u)) 8 ≤ cntN (nwT n (n.now + u + v)) 8 := cntT_mono vx vz oM
 have q1 : decide ((cntN (nwT n (n.now + u)) 8 : Int) < (cntN n 8 : Int)) = false := decide_eq_false oM
 have q2 : decide ((cntN (nwT n (n.now + u + v)) 8 : Int) < (cntN (nwT n (n.now + u)) 8 : Int)) = false := decide_eq_false oM
 simp (disch := (first | decide | omega)) only [hA, d, wu, wv, wa, wb, go_sem]
 refine ACalls.nxt (c1 _ _) ?_
 simp (disch := (first | decide | omega)) only [hA, wu, wv, wa, wb, nwA_open, setFrom, cellsOf, go_sem]
 refine ACalls.nxt (c2 _ _) ?_
 simp (disch := (first | decide | omega)) only [hA, wu, wv, wa, wb, nwA_open, setFrom, cellsOf, go_sem]
 refine ACalls.nxt (c3 _ _) ?_
 simp (disch := (first | decide | omega)) only [hA, n0, nwA_open, setFrom, cellsOf, go_sem]
 refine ACalls.nxt (cS _ _) ?_
 simp (disch := (first | decide | omega)) only [hA, go_sem]
 refine ACalls.nxt (k1 _ _) ?_
 simp (disch := (first | decide | omega)) only [hA, go_sem]
 refine ACalls.nxt (k2 _ _) ?_
 simp (disch := (first | decide | omega)) only [hA, q1, go_sem]
 refine ACalls.nxt (k2 _ _) ?_
 simp (disch := (first | decide | omega)) only [hA, q1, go_sem]
 refine ACalls.nxt (k3 _ _) ?_
 simp (disch := (first | decide | omega)) only [hA, q1, q2, go_sem]
 refine ACalls.nxt (cX _ _) ?_
 have hle := leN_le (l := n.tm) (a := n.now)
 by_cases hls : leN n.tm n.now < n.tm.length
 case' neg =>
  have hx : nextN n = (0, false) := by unfold nextN; rw [if_neg (fun h => hls h.2)]
  have he : ((cntN (nwT n (n.now + u + v)) 8 : Int) == (cntN n 8 : Int)) = true := by
   have := cntT_eq vn vz oM (fun i hi _ => leN_lo (by have := hv.len; omega))
   rw [hnn] at this
   rw [this]; simp
  rw [hx]
  simp (disch := (first | decide | omega)) only [hA, go_sem]
  refine ACalls.nxt (k3 _ _) ?_
  simp (disch := (first | decide | omega)) only [hA, go_sem]
  refine ACalls.nxt (k1 _ _) ?_
  simp (disch := (first | decide | omega)) only [hA, he, go_sem]
  exact leave_pure (xs := [.v (.bool true)]) (.inr rfl) (by simp (disch := (first | decide | omega)) only [resVs, resV, go_sem, hA]) kO hR hB ⟨rfl, rfl, rfl⟩
 have hx : nextN n = (n.tm.getD (leN n.tm n.now) 0, true) := by unfold nextN; rw [if_pos ⟨h1, hls⟩]
 obtain ⟨K, hK⟩ : ∃ K, K = leN n.tm n.now := ⟨_, rfl⟩
 have hgt := leN_hi hls
 have hlo : ∀ j, j < K → n.tm.getD j 0 ≤ n.now := fun j hj => leN_lo (by rw [← hK]; exact hj)
 rw [← hK] at hx hgt hls hle
 obtain ⟨A, hAt⟩ : ∃ A, A = n.tm.getD K 0 := ⟨_, rfl⟩
 rw [← hAt] at hx hgt
 have hsort := hv.sorted
 have hlen := hv.len
 have hAb := hv.tm A (by rw [hAt, getD_at hls]; exact List.getElem_mem _)
 rw [hx]
 by_cases hmx : 1099511627776 < A
 case' pos =>
  have dm := decide_eq_true hmx
  have he : ((cntN (nwT n (n.now + u + v)) 8 : Int) == (cntN n 8 : Int)) = true := by
   have := cntT_eq vn vz oM (fun i hi h => by
    by_cases hiK : i < K
    ·exact hlo i hiK
    ·have := hsort K i oM oM
     omega)
   rw [hnn] at this
   rw [this]; simp
  simp (disch := (first | decide | omega)) only [hA, dm, go_sem]
  refine ACalls.nxt (k3 _ _) ?_
  simp (disch := (first | decide | omega)) only [hA, go_sem]
  refine ACalls.nxt (k1 _ _) ?_
  simp (disch := (first | decide | omega)) only [hA, he, go_sem]
  exact leave_pure (xs := [.v (.bool true)]) (.inr rfl) (by simp (disch := (first | decide | omega)) only [resVs, resV, go_sem, hA]) kO hR hB ⟨rfl, rfl, rfl⟩
 have dm := decide_eq_false hmx
 have vb : NwV (nwT n (A - 1)) := nwT_ok hv oM oM
 have vt : NwV (nwT n A) := nwT_ok hv oM oM
 obtain ⟨g7, g8⟩ := nwT_go hv (t := A - 1) oM oM
 obtain ⟨g9, g10⟩ := nwT_go hv (t := A) oM oM
 have c4 := fun b l => cO n (A - 1) b l
 have c5 := fun b l => cO n A b l
 rw [g7, g8] at c4
 rw [g9, g10] at c5
 have k4 := fun b l => lawTimesC_spec (nwT n (A - 1)) vb b l
 have k5 := fun b l => lawTimesC_spec (nwT n A) vt b l
 have e4 : ((cntN (nwT n (A - 1)) 8 : Int) == (cntN n 8 : Int)) = true := by
  have := cntT_eq vn vb oM (fun i hi h => by
   by_cases hiK : i < K
   ·exact hlo i hiK
   ·have := hsort K i oM oM
    omega)
  rw [hnn] at this
  rw [this]; simp
 have e5 : decide ((cntN n 8 : Int) < (cntN (nwT n A) 8 : Int)) = true := by
  have := cntT_lt vn vt oM (k := K) oM oM oM
  rw [hnn] at this
  exact decide_eq_true oM
 simp (disch := (first | decide | omega)) only [hA, dm, go_sem]
 refine ACalls.nxt (c4 _ _) ?_
 simp (disch := (first | decide | omega)) only [hA, nwA_open, setFrom, cellsOf, go_sem]
 refine ACalls.nxt (c5 _ _) ?_
 simp (disch := (first | decide | omega)) only [hA, e0, nwA_open, setFrom, cellsOf, go_sem]
 refine ACalls.nxt (k4 _ _) ?_
 simp (disch := (first | decide | omega)) only [hA, go_sem]
 refine ACalls.nxt (k1 _ _) ?_
 simp (disch := (first | decide | omega)) only [hA, e0, e4, go_sem]
 refine ACalls.nxt (k5 _ _) ?_
 simp (disch := (first | decide | omega)) only [hA, go_sem]
 refine ACalls.nxt (k1 _ _) ?_
 simp (disch := (first | decide | omega)) only [hA, e5, go_sem]
 exact leave_pure (xs := [.v (.bool true)]) (.inr rfl) (by simp (disch := (first | decide | omega)) only [resVs, resV, go_sem, hA]) kO hR hB ⟨rfl, rfl, rfl⟩
end Go.Proofs.Ytilcmenglgdljaa
