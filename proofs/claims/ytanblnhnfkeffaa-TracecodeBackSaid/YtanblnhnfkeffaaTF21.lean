/- Texts of one proof, laid together: ZJ, ZK. No condition. -/
import Derived.Test.YtanblnhnfkeffaaTF20
import Derived.Test.YtanblnhnfkeffaaTF17
import Derived.Test.YtanblnhnfkeffaaTE7
namespace Go.Proofs.Ytanblnhnfkeffaa
set_option linter.unusedVariables false
set_option linter.unusedSimpArgs false
attribute [local go_sem ↓] run_skip run_region run_draw run_both run_seq run_block run_exit run_ret run_cond atN_app seqC_normal seqC_exit seqC_ret seqQ_normal seqQ_exit seqQ_ret blkQ_normal blkQ_exit blkQ_ret runOps_nil runOps_cons runD_nil runD_cons grdO_true grdO_false grdD_true grdD_false ifC_true ifC_false opS_val opS_call opS_two opK_app dS_val dS_call dS_two dK_app kUp_same kUp_ne
attribute [local go_sem] rechks_nil rechks_cons rechk gcase_true gcase_false ex_val ex_val0 gd_none gd_some ev_t ev_c evs_nil evs_cons evo_some evo_none hget_at hget_first hsetB_at hsetB_first hsetL_at hsetL_first ofOpt_some aop aload astore aslice aappend aiaddr aiaddrA afaddr alen alenS acopy amm acall alookup amupdate alenM atostr aappz comma keyEq apick binV binVB binVS isSh intOp strOp boolOp shOp eqC eqF and2 cellsOf setFrom fillA fillS rd rdI elems mk bounds AV.cell List.all_cons List.all_nil Bool.and_true Bool.true_and Bool.and_self List.length_cons List.length_nil List.length_append Nat.reduceAdd Nat.reduceSub Nat.reduceMul Nat.zero_add Nat.add_zero List.cons_append List.nil_append List.append_assoc List.append_nil List.getElem?_cons_zero List.getElem?_cons_succ List.getElem?_nil List.set_cons_zero List.set_cons_succ List.drop_zero List.drop_succ_cons List.take_zero List.take_succ_cons List.take_nil List.drop_nil List.map_cons List.map_nil Option.map_some if_true if_false Bool.false_eq_true and_self true_and and_true Nat.reduceLeDiff Nat.reduceLT Nat.le_refl Nat.reduceEqDiff ite_true ite_false beq_self_eq_true beq_true beq_false Bool.not_true Bool.not_false Bool.true_beq Bool.false_beq map_vs vs_len vs_get vs_take vs_drop vs_snoc1 vs_snoc2 vs_snoc3 vs_snoc5 vs_set1 vs_set2 vs_rep wrap_id le_T lt_T le_F lt_F leI_T ltI_T leI_F ltI_F geI gtI get_T decide_true decide_false room List.getElem?_map List.length_map List.length_take Int.toNat_natCast Nat.min_def Nat.min_self nth_kOf put_kOf put_kNo kOv_cons kOv_nil KHas KArgs List.getElem_cons_zero List.getElem_cons_succ
def a_tdec : AFunc := ⟨1,83,[.cell 2 (some 1),.tmp 3],(.seq (.region [⟨some 2,.alloc [(.v .zsl)],none⟩,⟨some 3,.mv (.c (.v (.int .i64 0))),none⟩]) (.seq (.block 0 (.seq (.region [⟨some 9,.mv (.t 0),none⟩,⟨some 10,.len (.t 9),none⟩,⟨some 11,.bin .gtr (.t 10) (.c (.v (.int .i64 16384))),none⟩,⟨some 8,.mv (.t 11),none⟩]) (.cond (.t 8) (.seq (.region [⟨some 12,.build [(.v .zsl)] [],none⟩,⟨none,.store 1 (.t 2) (.t 12),none⟩,⟨some 3,.mv (.c (.v (.int .i64 5))),none⟩]) .ret) (.seq (.region [⟨some 14,.mv (.t 0),none⟩,⟨some 15,.len (.t 14),none⟩,⟨some 16,.bin .lss (.t 15) (.c (.v (.int .i64 2))),none⟩,⟨some 13,.mv (.t 16),none⟩]) (.cond (.t 13) (.seq (.region [⟨some 17,.build [(.v .zsl)] [],none⟩,⟨none,.store 1 (.t 2) (.t 17),none⟩,⟨some 3,.mv (.c (.v (.int .i64 4))),none⟩]) .ret) .skip))))) (.seq (.region [⟨some 18,.mv (.t 0),none⟩,⟨some 19,.mv (.t 0),none⟩,⟨some 20,.len (.t 19),none⟩,⟨some 21,.bin .sub (.t 20) (.c (.v (.int .i64 2))),none⟩,⟨some 22,.slice 1 (.t 18) none (some (.t 21)),none⟩,⟨some 4,.mv (.t 22),none⟩]) (.seq (.seq (.draw [⟨0,⟨some 23,.mv (.t 4),none⟩,[]⟩,⟨2,⟨some 25,.mv (.t 0),none⟩,[]⟩,⟨3,⟨some 26,.mv (.t 0),none⟩,[]⟩,⟨4,⟨some 27,.len (.t 26),none⟩,[]⟩,⟨5,⟨some 28,.bin .sub (.t 27) (.c (.v (.int .i64 2))),none⟩,[]⟩,⟨6,⟨some 29,.iaddr 1 (.t 25) (.t 28),none⟩,[]⟩,⟨7,⟨some 30,.load none (.t 29),none⟩,[]⟩,⟨8,⟨some 31,.conv .i64 (.t 30),none⟩,[]⟩,⟨9,⟨some 32,.bin .shl (.t 31) (.c (.v (.int .u64 8))),none⟩,[]⟩,⟨10,⟨some 33,.mv (.t 0),none⟩,[]⟩,⟨11,⟨some 34,.mv (.t 0),none⟩,[]⟩,⟨12,⟨some 35,.len (.t 34),none⟩,[]⟩,⟨13,⟨some 36,.bin .sub (.t 35) (.c (.v (.int .i64 1))),none⟩,[]⟩,⟨14,⟨some 37,.iaddr 1 (.t 33) (.t 36),none⟩,[]⟩,⟨15,⟨some 38,.load none (.t 37),none⟩,[]⟩,⟨16,⟨some 39,.conv .i64 (.t 38),none⟩,[]⟩,⟨17,⟨some 40,.bin .or (.t 32) (.t 39),none⟩,[]⟩,⟨1,⟨some 24,.call (.c (.fn 43 [])) [(.t 23)],none⟩,[⟨some 25,.mv (.t 0),none⟩,⟨some 26,.mv (.t 0),none⟩,⟨some 27,.len (.t 26),none⟩,⟨some 28,.bin .sub (.t 27) (.c (.v (.int .i64 2))),none⟩,⟨some 29,.iaddr 1 (.t 25) (.t 28),none⟩,⟨some 30,.load none (.t 29),none⟩,⟨some 31,.conv .i64 (.t 30),none⟩,⟨some 32,.bin .shl (.t 31) (.c (.v (.int .u64 8))),none⟩,⟨some 33,.mv (.t 0),none⟩,⟨some 34,.mv (.t 0),none⟩,⟨some 35,.len (.t 34),none⟩,⟨some 36,.bin .sub (.t 35) (.c (.v (.int .i64 1))),none⟩,⟨some 37,.iaddr 1 (.t 33) (.t 36),none⟩,⟨some 38,.load none (.t 37),none⟩,⟨some 39,.conv .i64 (.t 38),none⟩,⟨some 40,.bin .or (.t 32) (.t 39),none⟩]⟩,⟨18,⟨some 41,.bin .neq (.t 24) (.t 40),none⟩,[]⟩]) (.cond (.t 41) (.seq (.region [⟨some 42,.build [(.v .zsl)] [],none⟩,⟨none,.store 1 (.t 2) (.t 42),none⟩,⟨some 3,.mv (.c (.v (.int .i64 12))),none⟩]) .ret) .skip)) (.seq (.region [⟨some 43,.mv (.t 4),none⟩,⟨some 44,.build [(.v .zsl),(.v (.bool false))] [(0,1,(.t 43))],none⟩,⟨some 45,.box (.t 44),none⟩,⟨some 5,.mv (.t 45),none⟩]) (.seq (.region [⟨some 6,.alloc [(.v .zsl)],none⟩]) (.seq (.seq (.region [⟨some 46,.mv (.t 5),none⟩,⟨some 47,.call (.c (.fn 111 [])) [(.t 46)],none⟩,⟨some 48,.mv (.c (.v (.int .i64 0))),none⟩]) (.block 1 (.loop (.seq (.region [⟨some 49,.bin .lss (.t 48) (.t 47),none⟩]) (.seq (.cond (.t 49) .skip (.exit 1)) (.seq (.block 2 (.seq (.region [⟨some 50,.mv (.t 5),none⟩,⟨some 51,.call (.c (.fn 112 [])) [(.t 50)],none⟩,⟨some 7,.alloc [(.v (.str ⟨#[]⟩)),(.v .zsl),(.v .zsl)],none⟩,⟨none,.store 3 (.t 7) (.t 51),none⟩]) (.seq (.seq (.region [⟨some 52,.mv (.t 5),none⟩,⟨some 53,.nilck (.t 52),none⟩,⟨some 54,.faddr 1 (.t 53),none⟩,⟨some 55,.load none (.t 54),none⟩]) (.cond (.t 55) (.exit 1) .skip)) (.region [⟨some 56,.faddr 0 (.t 6),none⟩,⟨some 57,.load none (.t 56),none⟩,⟨some 58,.load (some 3) (.t 7),none⟩,⟨some 59,.bslice 3 [(.v (.str ⟨#[]⟩)),(.v .zsl),(.v .zsl)] 1 [(0,(.t 58))],none⟩,⟨some 60,.append 3 64 (.t 57) (.t 59),none⟩,⟨some 61,.faddr 0 (.t 6),none⟩,⟨none,.store 1 (.t 61) (.t 60),none⟩])))) (.region [⟨some 62,.bin .add (.t 48) (.c (.v (.int .i64 1))),none⟩,⟨some 48,.mv (.t 62),none⟩]))))))) (.seq (.block 3 (.seq (.region [⟨some 64,.mv (.t 5),none⟩,⟨some 65,.nilck (.t 64),none⟩,⟨some 66,.faddr 1 (.t 65),none⟩,⟨some 67,.load none (.t 66),none⟩,⟨some 68,.mv (.t 67),none⟩,⟨some 69,.mv (.t 5),some (68,false)⟩,⟨some 70,.nilck (.t 69),some (68,false)⟩,⟨some 71,.faddr 0 (.t 70),some (68,false)⟩,⟨some 72,.load none (.t 71),some (68,false)⟩,⟨some 73,.len (.t 72),some (68,false)⟩,⟨some 74,.bin .gtr (.t 73) (.c (.v (.int .i64 0))),some (68,false)⟩,⟨some 75,.pick (.t 68) (.c (.v (.bool true))) (.t 74),none⟩,⟨some 63,.mv (.t 75),none⟩]) (.cond (.t 63) (.seq (.region [⟨some 76,.build [(.v .zsl)] [],none⟩,⟨none,.store 1 (.t 2) (.t 76),none⟩,⟨some 3,.mv (.c (.v (.int .i64 3))),none⟩]) .ret) (.seq (.region [⟨some 78,.load (some 1) (.t 6),none⟩,⟨some 79,.call (.c (.fn 15 [])) [(.t 78)],none⟩,⟨some 80,.not (.t 79),none⟩,⟨some 77,.mv (.t 80),none⟩]) (.cond (.t 77) (.seq (.region [⟨some 81,.build [(.v .zsl)] [],none⟩,⟨none,.store 1 (.t 2) (.t 81),none⟩,⟨some 3,.mv (.c (.v (.int .i64 1))),none⟩]) .ret) .skip))))) (.seq (.region [⟨some 82,.load (some 1) (.t 6),none⟩,⟨none,.store 1 (.t 2) (.t 82),none⟩,⟨some 3,.mv (.c (.v (.int .i64 0))),none⟩]) .ret)))))))))⟩
theorem a_tdec_ok : cFunc Try.prog 39 = some a_tdec := by kernel_rfl
def r_tdec0 : List (Nat × Nat) := [(7, 7), (48, 62)]

section
variable {α : Type} {f : List α → RS → α × RS}
theorem rdRep_all {P : α → Prop} {N : Nat} (h : ∀ l q, q.1.length ≤ N → P (f l q).1 ∧ (f l q).2.1.length ≤ N) {n : Nat} {s : RS} (hs : s.1.length ≤ N) : (∀ x ∈ (rdRep f n s).1, P x) ∧ (rdRep f n s).2.1.length ≤ N ∧ (rdRep f n s).1.length ≤ n := by
 induction n with
 | zero => exact ⟨fun x hx => (by cases hx), hs, Nat.le_refl _⟩
 | succ n ih =>
   obtain ⟨h1, h2, h3⟩ := ih
   rw [rdRep]
   split
   ·exact ⟨h1, h2, by omega⟩
   have h4 := h (rdRep f n s).1 (rdRep f n s).2 h2
   split
   ·exact ⟨h1, h4.2, by simp only; omega⟩
   ·refine ⟨fun x hx => ?_, h4.2, by simp only [List.length_append, List.length_cons, List.length_nil]; omega⟩
    rcases List.mem_append.1 hx with hx | hx
    ·exact h1 x hx
    ·rw [List.mem_singleton] at hx; rw [hx]; exact h4.1
end
def evBd (e : Ev) : Prop := e.asg.length ≤ 16384
def prBd (p : Pr) : Prop := p.name.size ≤ 16384 ∧ p.vars.length ≤ 16384 ∧ (∀ v ∈ p.vars, v.name.size ≤ 16384) ∧ p.evs.length ≤ 16384 ∧ ∀ e ∈ p.evs, evBd e
theorem rdCnt_n {s : RS} (hs : s.1.length ≤ 16384) : (rdCnt s).1 ≤ 16384 := by
 have h1 := rdCnt_le (s := s)
 have h2 := rdCnt_len (s := s)
 omega
theorem rdName_sz {s : RS} (hs : s.1.length ≤ 16384) : (baOf (rdName s).1).size ≤ 16384 := by
 show ((rdCnt s).2.1.take (rdCnt s).1).toArray.size ≤ 16384
 have := rdCnt_n hs
 simp only [List.size_toArray, List.length_take]
 omega
theorem rdEv_bd {last : Int} {s : RS} (hs : s.1.length ≤ 16384) : evBd (rdEv last s).1 ∧ (rdEv last s).2.1.length ≤ 16384 := by
 have h1 := rdNum_len (s := s)
 have h2 := rdNum_len (s := (rd1 s).2)
 have h3 := rdNum_len (s := (rd2 s).2)
 have h4 := rdNum_len (s := (rd3 s).2)
 have e4 : (rd4 s).2.1.length ≤ 16384 := by unfold rd4 rd3 rd2 rd1 at *; omega
 have h5 : (rd5 s).1 ≤ 16384 := rdCnt_n e4
 have h6 := rdRep_all (f := fun _ => rdAsg) (P := fun _ => True) (N := 16384) (fun l q hq => ⟨trivial, Nat.le_trans (rdNum_len (s := (rdNum q).2)) (Nat.le_trans (rdNum_len (s := q)) hq)⟩) (n := (rd5 s).1) (s := (rd5 s).2) (Nat.le_trans (rdCnt_len (s := (rd4 s).2)) e4)
 have h7 := rdEv_len (last := last) (s := s)
 exact ⟨Nat.le_trans h6.2.2 h5, by omega⟩
theorem rdPr_bd {s : RS} (hs : s.1.length ≤ 16384) : prBd (rdPr s).1 ∧ (rdPr s).2.1.length ≤ 16384 := by
 have h0 : (rdP0 s).2.1.length ≤ 16384 := Nat.le_trans (rdName_len (s := s)) hs
 have h1 : (rdP1 s).2.1.length ≤ 16384 := Nat.le_trans (rdCnt_len (s := (rdP0 s).2)) h0
 have n1 : (rdP1 s).1 ≤ 16384 := rdCnt_n h0
 obtain ⟨a1, a2, a3⟩ := rdRep_all (f := fun _ => rdVr) (P := fun v => v.name.size ≤ 16384) (N := 16384) (fun l q hq => ⟨rdName_sz hq, Nat.le_trans (rdNum_len (s := (rdName q).2)) (Nat.le_trans (rdName_len (s := q)) hq)⟩) (n := (rdP1 s).1) (s := (rdP1 s).2) h1
 have h3 : (rdP3 s).2.1.length ≤ 16384 := Nat.le_trans (rdCnt_len (s := (rdP2 s).2)) a2
 have n3 : (rdP3 s).1 ≤ 16384 := rdCnt_n a2
 obtain ⟨b1, b2, b3⟩ := rdRep_all (f := fun l => rdEv (lastE l)) (P := evBd) (N := 16384) (fun l q hq => rdEv_bd hq) (n := (rdP3 s).1) (s := (rdP3 s).2) h3
 rw [rdPr_eq]
 exact ⟨⟨rdName_sz hs, Nat.le_trans a3 n1, a1, Nat.le_trans b3 n3, b1⟩, b2⟩
theorem rdT_bd {s : RS} (hs : s.1.length ≤ 16384) : (rdT s).1.length ≤ 16384 ∧ (∀ p ∈ (rdT s).1, prBd p) := by
 have h1 : (rdCnt s).2.1.length ≤ 16384 := Nat.le_trans (rdCnt_len (s := s)) hs
 obtain ⟨a1, a2, a3⟩ := rdRep_all (f := fun _ => rdPr) (P := prBd) (N := 16384) (fun l q hq => rdPr_bd hq) (n := (rdCnt s).1) (s := (rdCnt s).2) h1
 exact ⟨Nat.le_trans a3 (rdCnt_n hs), a1⟩
theorem tr_fits {t : Tr} (h1 : t.length ≤ 16384) (h2 : ∀ p ∈ t, prBd p) : Small t ∧ Nm t := by
 refine ⟨⟨by omega, fun p hp => ?_, fun p hp => ?_, fun p hp e he => ?_⟩, fun p hp => ⟨?_, fun v hv => ?_⟩⟩
 ·have := (h2 p hp).2.1; omega
 ·have := (h2 p hp).2.2.2.1; omega
 ·have := (h2 p hp).2.2.2.2 e he; unfold evBd at this; omega
 ·have := (h2 p hp).1; unfold maxLen; omega
 ·have := (h2 p hp).2.2.1 v hv; unfold maxLen; omega
noncomputable def decR (b : List UInt8) : AV := .tup [.agg [.v (eT (decodeL b).1)], .v (.int .i64 (decodeL b).2)]
theorem takePr {i : Nat} {L : Tr} (h : L.length = i) : List.take i (L.map ePr) = L.map ePr := List.take_of_length_le (by rw [List.length_map]; omega)
theorem catPr {L : Tr} {p : Pr} : vs (L.map ePr) ++ [[AV.v (.str p.name), AV.v (.isl 2 (p.vars.map eVr)), AV.v (.isl 5 (p.evs.map eEv))]] = vs ((L ++ [p]).map ePr) := by unfold vs ePr; simp
theorem orHL {hi lo : Nat} (h1 : hi < 256) (h2 : lo < 256) : intOp .or .i64 ((256 * hi : Nat) : Int) (lo : Int) = some (.int .i64 ((hi * 256 + lo : Nat) : Int)) := by
 rw [orI oM oM]
 congr 3
 have := Nat.two_pow_add_eq_or_of_lt (i := 8) (b := lo) oM hi
 rw [show (2 : Nat) ^ 8 = 256 from rfl] at this
 omega
theorem zrow {n : Nat} {l : List Row} {k : Int} {z : IV} (hz : z = .isl 3 []) : Dv n l (.tup [.agg [.v .zsl], .v (.int .i64 k)]) (.tup [.agg [.v z], .v (.int .i64 k)]) := by
 subst hz
 exact Dv.tupL (.cons (Dv.aggL (.cons (.z 3) .nil)) (.cons (.v _) .nil))
set_option maxRecDepth 20000 in
set_option maxHeartbeats 16000000 in
theorem dec_spec (bs : List UInt8) (hl : bs.length ≤ 1000000000) (b l : List Row) :
  ACalls Try.prog 39 [.v (.isl 1 (bs.map eB))] b l (fun r b' l' => r = decR bs ∧ b' = b ∧ l' = l) := by
 refine calls_kept a_tdec_ok rfl (by decide) ?_
 intro B g hB hR hE hA
 simp only [KArgs] at hA
 by_cases h1 : 16384 < bs.length
 ·have d1 : decide ((bs.length : Int) > 16384) = true := decide_eq_true oM
  have hr : decodeL bs = ([], 5) := by unfold decodeL; rw [if_pos h1]
  simp (disch := (first | decide | omega)) only [a_tdec, hA, d1, setFrom, cellsOf, List.length_map, go_sem]
  exact leave_deep (.inr rfl) (xs := [.agg [.v .zsl], .v (.int .i64 5)]) (by simp (disch := (first | decide | omega)) only [resVs, resV, hA, go_sem]) (zrow rfl) hR hB ⟨by unfold decR; rw [hr]; rfl, rfl, rfl⟩
 have d1 : decide ((bs.length : Int) > 16384) = false := decide_eq_false oM
 by_cases h2 : bs.length < 2
 ·have d2 : decide ((bs.length : Int) < 2) = true := decide_eq_true oM
  have hr : decodeL bs = ([], 4) := by unfold decodeL; rw [if_neg h1, if_pos h2]
  simp (disch := (first | decide | omega)) only [a_tdec, hA, d1, d2, setFrom, cellsOf, List.length_map, go_sem]
  exact leave_deep (.inr rfl) (xs := [.agg [.v .zsl], .v (.int .i64 4)]) (by simp (disch := (first | decide | omega)) only [resVs, resV, hA, go_sem]) (zrow rfl) hR hB ⟨by unfold decR; rw [hr]; rfl, rfl, rfl⟩
 have d2 : decide ((bs.length : Int) < 2) = false := decide_eq_false oM
 have m2 : (bs.length : Int) - 2 = ((bs.length - 2 : Nat) : Int) := by omega
 have m1 : (bs.length : Int) - 1 = ((bs.length - 1 : Nat) : Int) := by omega
 have gh := e0B (xs := bs) (i := bs.length - 2) oM
 have gl := e0B (xs := bs) (i := bs.length - 1) oM
 have eh : bs.getD (bs.length - 2) 0 = bs[bs.length - 2] := by rw [List.getD_eq_getElem?_getD, List.getElem?_eq_getElem oM]; rfl
 have el : bs.getD (bs.length - 1) 0 = bs[bs.length - 1] := by rw [List.getD_eq_getElem?_getD, List.getElem?_eq_getElem oM]; rfl
 rw [← eh] at gh
 rw [← el] at gl
 obtain ⟨hi, hhi⟩ : ∃ z, (bs.getD (bs.length - 2) 0).toNat = z := ⟨_, rfl⟩
 obtain ⟨lo, hlo⟩ : ∃ z, (bs.getD (bs.length - 1) 0).toNat = z := ⟨_, rfl⟩
 have b1 : hi < 256 := hhi ▸ UInt8.toNat_lt _
 have b2 : lo < 256 := hlo ▸ UInt8.toNat_lt _
 rw [hhi] at gh
 rw [hlo] at gl
 obtain ⟨body, hbody⟩ : ∃ z, bs.take (bs.length - 2) = z := ⟨_, rfl⟩
 have hbl : body.length ≤ 16384 := by rw [← hbody, List.length_take]; omega
 have hsum : sumOk bs ↔ crc body = hi * 256 + lo := by unfold sumOk; rw [hbody, hhi, hlo]
 have hor := orHL b1 b2
 have hsh : (hi : Int) * 2 ^ Int.toNat 8 = ((256 * hi : Nat) : Int) := by rw [show (2 : Int) ^ Int.toNat 8 = 256 from rfl]; omega
 have hcut : List.take (bs.length - 2) (bs.map eB) = body.map eB := by rw [takeBk, hbody]
 have hcl := crc_lt body
 simp (disch := (first | decide | omega)) only [a_tdec, hA, d1, d2, m2, m1, gh, gl, hsh, ↓hor, takeBk, hbody, setFrom, cellsOf, List.length_map, go_sem]
 refine ACalls.nxt (sum_val body oM _ _) ?_
 by_cases h3 : sumOk bs
 case neg =>
  have hne : ((crc body : Int) != ((hi * 256 + lo : Nat) : Int)) = true := by rw [bne_iff_ne]; intro h; exact h3 (hsum.2 oM)
  have hr : decodeL bs = ([], 12) := by unfold decodeL; rw [if_neg h1, if_neg h2, if_pos h3]
  simp (disch := (first | decide | omega)) only [hA, d1, d2, m2, m1, gh, gl, hsh, ↓hor, hne, setFrom, cellsOf, List.length_map, go_sem]
  exact leave_deep (.inr rfl) (xs := [.agg [.v .zsl], .v (.int .i64 12)]) (by simp (disch := (first | decide | omega)) only [resVs, resV, hA, go_sem]) (zrow rfl) hR hB ⟨by unfold decR; rw [hr]; rfl, rfl, rfl⟩
 have hne : ((crc body : Int) != ((hi * 256 + lo : Nat) : Int)) = false := by rw [← hsum.1 h3]; exact bne_self_eq_false _
 simp (disch := (first | decide | omega)) only [hA, d1, d2, m2, m1, gh, gl, hsh, ↓hor, hne, setFrom, cellsOf, List.length_map, go_sem]
 obtain ⟨⟨n, s1⟩, hc1⟩ : ∃ z, rdCnt (body, false) = z := ⟨_, rfl⟩
 have lc := rdCnt_len (s := (body, false))
 have cp := rdCnt_pos (s := (body, false))
 have ln := rdCnt_n (s := (body, false)) hbl
 rw [hc1] at lc cp ln
 simp only at lc cp ln
 have c1 := fun b l h => cnt_run (B.length + 1) (body, false) (by simp only; omega) b l h
 simp only [hc1] at c1
 have hT : rdT (body, false) = rdRep (fun _ => rdPr) n s1 := by unfold rdT; rw [hc1]
 have hD : decodeL bs = if (rdT (body, false)).2.2 = true ∨ 0 < (rdT (body, false)).2.1.length then ([], 3) else if validL (rdT (body, false)).1 = false then ([], 1) else ((rdT (body, false)).1, 0) := by
  unfold decodeL
  rw [if_neg h1, if_neg h2, if_neg (fun h => h h3), hbody]
 obtain ⟨tb1, tb2⟩ := rdT_bd (s := (body, false)) hbl
 refine ACalls.nxt (c1 _ _ ((hget_at (i := 1)).trans rfl)) ?_
 simp (disch := (first | decide | omega)) only [hA, go_sem]
 refine loop_kept (ι := Nat) r_tdec0 (fun i => [(48, .v (.int .i64 i))]) 4 (fun i => [.live 0 1 [[.v .zsl]], rRow (rdRep (fun _ => rdPr) i s1).2, .live 0 1 [[.sl (B.length + 3) i 0 i]], .live i 3 (vs ((rdRep (fun _ => rdPr) i s1).1.map ePr))])
  (fun i => i ≤ n ∧ (rdRep (fun _ => rdPr) i s1).1.length = i ∧ (i < n → (rdRep (fun _ => rdPr) i s1).2.2 = false) ∧ (rdRep (fun _ => rdPr) i s1).2.1.length ≤ 16384) (fun i => n - i) 0 ⟨Nat.zero_le _, rfl, cp, Nat.le_trans lc hbl⟩ (by (repeat (first | exact hE.mono oM | refine KLt.up ?_ kL))) (by ((try simp (disch := decide) only [hA, go_sem]) <;> exact kH)) (fun e => ?_) ?_
 ·have h := Weak.nilcell (e := e) (b := B) (l := [.live 0 1 [[.v .zsl]], rRow s1, .live 0 1 [[.v .zsl]]]) (i := 2) (k := 0) (j := 0) (sz := 3) rfl rfl rfl
  exact h
 intro g1 hE1 hEE1 hg1 i hi
 obtain ⟨i1, i2, i3, i4⟩ := hi
 obtain ⟨⟨L, S⟩, hLS⟩ : ∃ z, rdRep (fun _ => rdPr) i s1 = z := ⟨_, rfl⟩
 rw [hLS] at i2 i3 i4
 simp only at i2 i3 i4
 simp only [hLS]
 have hbad : ∀ y : List UInt8, rdRep (fun _ => rdPr) n s1 = (L, (y, true)) → decR bs = .tup [.agg [.v (.isl 3 [])], .v (.int .i64 3)] := fun y h => by
  unfold decR
  rw [hD, hT, h, if_pos (.inl rfl)]; rfl
 by_cases hin : i < n
 ·have hgd := i3 hin
  have ho := rdRep_one hLS hgd
  obtain ⟨⟨p, y2, w2⟩, hp⟩ : ∃ z, rdPr S = z := ⟨_, rfl⟩
  rw [hp] at ho
  simp only at ho
  have hpb := rdPr_bd (s := S) i4
  rw [hp] at hpb
  have c7 := fun b l h => proc_run (B.length + 1) S i4 b l h
  simp only [hp] at c7
  simp (disch := (first | decide | omega)) only [hA, hg1, go_sem]
  refine ACalls.nxt (c7 _ _ ((hget_at (i := 1)).trans rfl)) ?_
  cases w2 with
  | true =>
    rw [if_pos rfl] at ho
    have hst := rdRep_stop (f := fun _ => rdPr) (s := s1) (i := i + 1) (n := n) (by rw [ho]) oM
    rw [ho] at hst
    simp (disch := (first | decide | omega)) only [hA, hg1, rRow, prA, setFrom, cellsOf, go_sem]
    exact leave_deep (.inr rfl) (xs := [.agg [.v .zsl], .v (.int .i64 3)]) (by simp (disch := (first | decide | omega)) only [resVs, resV, hA, hg1, go_sem]) (zrow rfl) hR hB ⟨(hbad _ hst).symm, rfl, rfl⟩
  | false =>
    rw [if_neg (by decide)] at ho
    have htk := takePr i2
    have hct := catPr (L := L) (p := p)
    simp (disch := (first | decide | omega)) only [hA, hg1, rRow, prA, setFrom, cellsOf, htk, hct, List.length_map, List.replicate_succ, List.replicate_zero, i2, go_sem]
    refine ⟨i + 1, ⟨hin, by rw [ho]; simp [i2], fun _ => by rw [ho], by rw [ho]; exact hpb.2⟩, by simp only; omega, ?_⟩
    simp only [ho]
    exact Weak.kround (p := r_tdec0) (k := 4) (by ((repeat refine (kAny_up rfl).trans ?_); exact hEE1)) (by ((try simp (disch := decide) only [hA, go_sem]) <;> exact kH)) rfl hE1 (by simp) kV hR (by simp (disch := omega) only [rRow, lts.down, Nat.reduceLT, Nat.reduceAdd])
 ·obtain rfl : n = i := by omega
  obtain ⟨y, w⟩ := S
  cases w with
  | true =>
    simp (disch := (first | decide | omega)) only [hA, hg1, rRow, setFrom, cellsOf, go_sem]
    exact leave_deep (.inr rfl) (xs := [.agg [.v .zsl], .v (.int .i64 3)]) (by simp (disch := (first | decide | omega)) only [resVs, resV, hA, hg1, go_sem]) (zrow rfl) hR hB ⟨(hbad _ hLS).symm, rfl, rfl⟩
  | false =>
    by_cases hy : 0 < y.length
    ·have d3 : decide ((y.length : Int) > 0) = true := decide_eq_true oM
     have hr : decR bs = .tup [.agg [.v (.isl 3 [])], .v (.int .i64 3)] := by
      unfold decR
      rw [hD, hT, hLS, if_pos (.inr hy)]; rfl
     simp (disch := (first | decide | omega)) only [hA, hg1, rRow, d3, setFrom, cellsOf, List.length_map, go_sem]
     exact leave_deep (.inr rfl) (xs := [.agg [.v .zsl], .v (.int .i64 3)]) (by simp (disch := (first | decide | omega)) only [resVs, resV, hA, hg1, go_sem]) (zrow rfl) hR hB ⟨hr.symm, rfl, rfl⟩
    have d3 : decide ((y.length : Int) > 0) = false := decide_eq_false oM
    have hD2 : decodeL bs = if validL L = false then ([], 1) else (L, 0) := by
     rw [hD, hT, hLS, if_neg (by simp only [Bool.false_eq_true, false_or]; exact hy)]
    rw [hT, hLS] at tb1 tb2
    obtain ⟨fS, fN⟩ := tr_fits tb1 tb2
    have cv := fun b l => valid_spec L fS fN b l
    have hdv : Dv (B.length + 3) [.live n 3 (vs (L.map ePr))] (.sl (B.length + 3) n 0 n) (.v (eT L)) := Dv.slV (i := 0) rfl (by simp [i2])
    simp (disch := (first | decide | omega)) only [hA, hg1, rRow, d3, setFrom, cellsOf, List.length_map, go_sem]
    refine ACalls.deepCell (l1 := [.live 0 1 [[.v .zsl]], rRow (y, false), .live 0 1 [[.sl (B.length + 3) n 0 n]]]) (N := [.live n 3 (vs (L.map ePr))]) (l2 := []) (i0 := 2) (args' := [.agg [.v (eT L)]]) rfl (fun i y z hy hz => ?_) rfl hdv ?_
    ·match i, hy, hz with
     | 0, hy, hz => cases hy; cases hz; exact Dv.aggL (.cons hdv .nil)
     | i + 1, hy, hz => simp at hy
    change ACalls _ _ _ _ [.live 0 1 [[.v .zsl]], .live 0 2 [[.v (.isl 1 (y.map eB)), .v (.bool false)]], .live 0 1 [[.v (eT L)]], .dead n] _
    refine ACalls.nxt (cv _ _) ?_
    cases hv : validL L with
    | false =>
      have hr : decR bs = .tup [.agg [.v (.isl 3 [])], .v (.int .i64 1)] := by
       unfold decR
       rw [hD2, if_pos hv]; rfl
      simp (disch := (first | decide | omega)) only [hA, hg1, setFrom, cellsOf, go_sem]
      exact leave_deep (.inr rfl) (xs := [.agg [.v .zsl], .v (.int .i64 1)]) (by simp (disch := (first | decide | omega)) only [resVs, resV, hA, hg1, go_sem]) (zrow rfl) hR hB ⟨hr.symm, rfl, rfl⟩
    | true =>
      have hr : decR bs = .tup [.agg [.v (eT L)], .v (.int .i64 0)] := by
       unfold decR
       rw [hD2, if_neg (by rw [hv]; decide)]
      simp (disch := (first | decide | omega)) only [hA, hg1, setFrom, cellsOf, go_sem]
      exact leave_pure (xs := [.agg [.v (eT L)], .v (.int .i64 0)]) (.inr rfl) (by simp (disch := (first | decide | omega)) only [resVs, resV, hA, hg1, go_sem]) kO hR hB ⟨hr.symm, rfl, rfl⟩
def a_rtdec : AFunc := ⟨1,90,[.cell 2 (some 1),.tmp 3],(.seq (.region [⟨some 2,.alloc [(.v .zsl)],none⟩,⟨some 3,.mv (.c (.v (.int .i64 0))),none⟩]) (.seq (.seq (.region [⟨some 10,.mv (.t 0),none⟩,⟨some 11,.len (.t 10),none⟩,⟨some 12,.bin .gtr (.t 11) (.c (.v (.int .i64 16384))),none⟩]) (.cond (.t 12) (.seq (.region [⟨some 13,.build [(.v .zsl)] [],none⟩,⟨none,.store 1 (.t 2) (.t 13),none⟩,⟨some 3,.mv (.c (.v (.int .i64 5))),none⟩]) .ret) .skip)) (.seq (.seq (.region [⟨some 14,.mv (.t 0),none⟩,⟨some 15,.len (.t 14),none⟩,⟨some 16,.bin .lss (.t 15) (.c (.v (.int .i64 2))),none⟩]) (.cond (.t 16) (.seq (.region [⟨some 17,.build [(.v .zsl)] [],none⟩,⟨none,.store 1 (.t 2) (.t 17),none⟩,⟨some 3,.mv (.c (.v (.int .i64 4))),none⟩]) .ret) .skip)) (.seq (.region [⟨some 18,.mv (.t 0),none⟩,⟨some 19,.mv (.t 0),none⟩,⟨some 20,.len (.t 19),none⟩,⟨some 21,.bin .sub (.t 20) (.c (.v (.int .i64 2))),none⟩,⟨some 22,.slice 1 (.t 18) none (some (.t 21)),none⟩,⟨some 4,.mv (.t 22),none⟩]) (.seq (.region [⟨some 23,.mv (.t 4),none⟩,⟨some 24,.call (.c (.fn 113 [])) [(.t 23)],none⟩,⟨some 5,.mv (.t 24),none⟩]) (.seq (.seq (.region [⟨some 25,.mv (.t 0),none⟩,⟨some 26,.mv (.t 0),none⟩,⟨some 27,.len (.t 26),none⟩,⟨some 28,.bin .sub (.t 27) (.c (.v (.int .i64 2))),none⟩,⟨some 29,.iaddr 1 (.t 25) (.t 28),none⟩,⟨some 30,.load none (.t 29),none⟩,⟨some 31,.conv .i64 (.t 30),none⟩,⟨some 32,.mv (.t 5),none⟩,⟨some 33,.bin .quo (.t 32) (.c (.v (.int .i64 256))),none⟩,⟨some 34,.bin .neq (.t 31) (.t 33),none⟩,⟨some 35,.mv (.t 34),none⟩,⟨some 36,.mv (.t 0),some (35,false)⟩,⟨some 37,.mv (.t 0),some (35,false)⟩,⟨some 38,.len (.t 37),some (35,false)⟩,⟨some 39,.bin .sub (.t 38) (.c (.v (.int .i64 1))),some (35,false)⟩,⟨some 40,.iaddr 1 (.t 36) (.t 39),some (35,false)⟩,⟨some 41,.load none (.t 40),some (35,false)⟩,⟨some 42,.conv .i64 (.t 41),some (35,false)⟩,⟨some 43,.mv (.t 5),some (35,false)⟩,⟨some 44,.bin .rem (.t 43) (.c (.v (.int .i64 256))),some (35,false)⟩,⟨some 45,.bin .neq (.t 42) (.t 44),some (35,false)⟩,⟨some 46,.pick (.t 35) (.c (.v (.bool true))) (.t 45),none⟩]) (.cond (.t 46) (.seq (.region [⟨some 47,.build [(.v .zsl)] [],none⟩,⟨none,.store 1 (.t 2) (.t 47),none⟩,⟨some 3,.mv (.c (.v (.int .i64 12))),none⟩]) .ret) .skip)) (.seq (.region [⟨some 48,.mv (.t 4),none⟩,⟨some 49,.build [(.v .zsl),(.v (.bool false))] [(0,1,(.t 48))],none⟩,⟨some 50,.box (.t 49),none⟩,⟨some 6,.mv (.t 50),none⟩]) (.seq (.region [⟨some 7,.alloc [(.v .zsl)],none⟩]) (.seq (.region [⟨some 51,.mv (.t 6),none⟩,⟨some 52,.call (.c (.fn 114 [])) [(.t 51)],none⟩,⟨some 8,.mv (.t 52),none⟩]) (.seq (.seq (.region [⟨some 9,.mv (.c (.v (.int .i64 0))),none⟩]) (.block 0 (.loop (.seq (.seq (.region [⟨some 53,.mv (.t 9),none⟩,⟨some 54,.mv (.t 8),none⟩,⟨some 55,.bin .lss (.t 53) (.t 54),none⟩,⟨some 56,.mv (.t 55),none⟩,⟨some 57,.mv (.t 6),some (56,true)⟩,⟨some 58,.nilck (.t 57),some (56,true)⟩,⟨some 59,.faddr 1 (.t 58),some (56,true)⟩,⟨some 60,.load none (.t 59),some (56,true)⟩,⟨some 61,.not (.t 60),some (56,true)⟩,⟨some 62,.pick (.t 56) (.t 61) (.c (.v (.bool false))),none⟩]) (.cond (.t 62) .skip (.exit 0))) (.seq (.block 1 (.draw [⟨0,⟨some 65,.faddr 0 (.t 7),none⟩,[]⟩,⟨1,⟨some 66,.load none (.t 65),none⟩,[]⟩,⟨2,⟨some 67,.mv (.t 6),none⟩,[]⟩,⟨3,⟨some 68,.call (.c (.fn 115 [])) [(.t 67)],none⟩,[⟨some 65,.faddr 0 (.t 7),none⟩,⟨some 66,.load none (.t 65),none⟩]⟩,⟨4,⟨some 69,.bslice 3 [(.v (.str ⟨#[]⟩)),(.v .zsl),(.v .zsl)] 1 [(0,(.t 68))],none⟩,[⟨some 65,.faddr 0 (.t 7),none⟩,⟨some 66,.load none (.t 65),none⟩]⟩,⟨5,⟨some 70,.append 3 64 (.t 66) (.t 69),none⟩,[]⟩,⟨6,⟨some 71,.faddr 0 (.t 7),none⟩,[]⟩,⟨7,⟨none,.store 1 (.t 71) (.t 70),none⟩,[]⟩])) (.region [⟨some 63,.mv (.t 9),none⟩,⟨some 64,.bin .add (.t 63) (.c (.v (.int .i64 1))),none⟩,⟨some 9,.mv (.t 64),none⟩])))))) (.seq (.seq (.region [⟨some 72,.mv (.t 6),none⟩,⟨some 73,.nilck (.t 72),none⟩,⟨some 74,.faddr 1 (.t 73),none⟩,⟨some 75,.load none (.t 74),none⟩,⟨some 76,.mv (.t 75),none⟩,⟨some 77,.mv (.t 6),some (76,false)⟩,⟨some 78,.nilck (.t 77),some (76,false)⟩,⟨some 79,.faddr 0 (.t 78),some (76,false)⟩,⟨some 80,.load none (.t 79),some (76,false)⟩,⟨some 81,.len (.t 80),some (76,false)⟩,⟨some 82,.bin .gtr (.t 81) (.c (.v (.int .i64 0))),some (76,false)⟩,⟨some 83,.pick (.t 76) (.c (.v (.bool true))) (.t 82),none⟩]) (.cond (.t 83) (.seq (.region [⟨some 84,.build [(.v .zsl)] [],none⟩,⟨none,.store 1 (.t 2) (.t 84),none⟩,⟨some 3,.mv (.c (.v (.int .i64 3))),none⟩]) .ret) .skip)) (.seq (.seq (.region [⟨some 85,.load (some 1) (.t 7),none⟩,⟨some 86,.call (.c (.fn 36 [])) [(.t 85)],none⟩,⟨some 87,.not (.t 86),none⟩]) (.cond (.t 87) (.seq (.region [⟨some 88,.build [(.v .zsl)] [],none⟩,⟨none,.store 1 (.t 2) (.t 88),none⟩,⟨some 3,.mv (.c (.v (.int .i64 1))),none⟩]) .ret) .skip)) (.seq (.region [⟨some 89,.load (some 1) (.t 7),none⟩,⟨none,.store 1 (.t 2) (.t 89),none⟩,⟨some 3,.mv (.c (.v (.int .i64 0))),none⟩]) .ret)))))))))))))⟩
theorem a_rtdec_ok : cFunc Try.prog 40 = some a_rtdec := by kernel_rfl
def r_rtdec0 : List (Nat × Nat) := [(9, 9), (53, 71)]

section
variable {α : Type} {f : List α → RS → α × RS}
end
theorem rdPrR_len {s : RS} (hs : s.1.length ≤ 16384) : (rdPrR s).2.1.length ≤ 16384 := by
 rw [← (pr_alike s).1]
 exact (rdPr_bd hs).2
theorem orNo {hi lo c : Nat} (h2 : lo < 256) : (c = hi * 256 + lo) ↔ (hi = c / 256 ∧ lo = c % 256) := by omega
set_option maxRecDepth 20000 in
set_option maxHeartbeats 16000000 in
theorem rdec_spec (bs : List UInt8) (hl : bs.length ≤ 1000000000) (b l : List Row) :
  ACalls Try.prog 40 [.v (.isl 1 (bs.map eB))] b l (fun r b' l' => r = decR bs ∧ b' = b ∧ l' = l) := by
 refine calls_kept a_rtdec_ok rfl (by decide) ?_
 intro B g hB hR hE hA
 simp only [KArgs] at hA
 by_cases h1 : 16384 < bs.length
 ·have d1 : decide ((bs.length : Int) > 16384) = true := decide_eq_true oM
  have hr : decodeL bs = ([], 5) := by unfold decodeL; rw [if_pos h1]
  simp (disch := (first | decide | omega)) only [a_rtdec, hA, d1, setFrom, cellsOf, List.length_map, go_sem]
  exact leave_deep (.inr rfl) (xs := [.agg [.v .zsl], .v (.int .i64 5)]) (by simp (disch := (first | decide | omega)) only [resVs, resV, hA, go_sem]) (zrow rfl) hR hB ⟨by unfold decR; rw [hr]; rfl, rfl, rfl⟩
 have d1 : decide ((bs.length : Int) > 16384) = false := decide_eq_false oM
 by_cases h2 : bs.length < 2
 ·have d2 : decide ((bs.length : Int) < 2) = true := decide_eq_true oM
  have hr : decodeL bs = ([], 4) := by unfold decodeL; rw [if_neg h1, if_pos h2]
  simp (disch := (first | decide | omega)) only [a_rtdec, hA, d1, d2, setFrom, cellsOf, List.length_map, go_sem]
  exact leave_deep (.inr rfl) (xs := [.agg [.v .zsl], .v (.int .i64 4)]) (by simp (disch := (first | decide | omega)) only [resVs, resV, hA, go_sem]) (zrow rfl) hR hB ⟨by unfold decR; rw [hr]; rfl, rfl, rfl⟩
 have d2 : decide ((bs.length : Int) < 2) = false := decide_eq_false oM
 have m2 : (bs.length : Int) - 2 = ((bs.length - 2 : Nat) : Int) := by omega
 have m1 : (bs.length : Int) - 1 = ((bs.length - 1 : Nat) : Int) := by omega
 have gh := e0B (xs := bs) (i := bs.length - 2) oM
 have gl := e0B (xs := bs) (i := bs.length - 1) oM
 have eh : bs.getD (bs.length - 2) 0 = bs[bs.length - 2] := by rw [List.getD_eq_getElem?_getD, List.getElem?_eq_getElem oM]; rfl
 have el : bs.getD (bs.length - 1) 0 = bs[bs.length - 1] := by rw [List.getD_eq_getElem?_getD, List.getElem?_eq_getElem oM]; rfl
 rw [← eh] at gh
 rw [← el] at gl
 obtain ⟨hi, hhi⟩ : ∃ z, (bs.getD (bs.length - 2) 0).toNat = z := ⟨_, rfl⟩
 obtain ⟨lo, hlo⟩ : ∃ z, (bs.getD (bs.length - 1) 0).toNat = z := ⟨_, rfl⟩
 have b1 : hi < 256 := hhi ▸ UInt8.toNat_lt _
 have b2 : lo < 256 := hlo ▸ UInt8.toNat_lt _
 rw [hhi] at gh
 rw [hlo] at gl
 obtain ⟨body, hbody⟩ : ∃ z, bs.take (bs.length - 2) = z := ⟨_, rfl⟩
 have hbl : body.length ≤ 16384 := by rw [← hbody, List.length_take]; omega
 have hsum : sumOk bs ↔ crc body = hi * 256 + lo := by unfold sumOk; rw [hbody, hhi, hlo]
 have hcut : List.take (bs.length - 2) (bs.map eB) = body.map eB := by rw [takeBk, hbody]
 obtain ⟨c, hc⟩ : ∃ c, crc body = c := ⟨_, rfl⟩
 rw [hc] at hsum
 have hcl : c < 65536 := hc ▸ crc_lt body
 have n256 : ((256 : Int) = 0) = False := by decide
 have hq : Int.tdiv (c : Int) 256 = ((c / 256 : Nat) : Int) := rfl
 have hr : Int.tmod (c : Int) 256 = ((c % 256 : Nat) : Int) := rfl
 simp (disch := (first | decide | omega)) only [a_rtdec, hA, d1, d2, m2, m1, takeBk, hbody, setFrom, cellsOf, List.length_map, go_sem]
 refine ACalls.nxt (rsum_val body oM _ _) ?_
 by_cases h3 : sumOk bs
 case neg =>
  have hr5 : decodeL bs = ([], 12) := by unfold decodeL; rw [if_neg h1, if_neg h2, if_pos h3]
  have hno : ¬ (hi = c / 256 ∧ lo = c % 256) := fun h => h3 (hsum.2 ((orNo b2).2 h))
  by_cases e1 : hi = c / 256
  ·have k1 : ((hi : Int) != ((c / 256 : Nat) : Int)) = false := by rw [← e1]; exact bne_self_eq_false _
   have k2 : ((lo : Int) != ((c % 256 : Nat) : Int)) = true := by rw [bne_iff_ne]; intro h; exact hno ⟨e1, by omega⟩
   simp (disch := (first | decide | omega)) only [hA, d1, d2, m2, m1, gh, gl, hc, hq, hr, n256, k1, k2, setFrom, cellsOf, List.length_map, go_sem]
   exact leave_deep (.inr rfl) (xs := [.agg [.v .zsl], .v (.int .i64 12)]) (by simp (disch := (first | decide | omega)) only [resVs, resV, hA, go_sem]) (zrow rfl) hR hB ⟨by unfold decR; rw [hr5]; rfl, rfl, rfl⟩
  ·have k1 : ((hi : Int) != ((c / 256 : Nat) : Int)) = true := by rw [bne_iff_ne]; omega
   simp (disch := (first | decide | omega)) only [hA, d1, d2, m2, m1, gh, gl, hc, hq, hr, n256, k1, setFrom, cellsOf, List.length_map, go_sem]
   exact leave_deep (.inr rfl) (xs := [.agg [.v .zsl], .v (.int .i64 12)]) (by simp (disch := (first | decide | omega)) only [resVs, resV, hA, go_sem]) (zrow rfl) hR hB ⟨by unfold decR; rw [hr5]; rfl, rfl, rfl⟩
 obtain ⟨e1, e2⟩ := (orNo b2).1 (hsum.1 h3)
 have k1 : ((hi : Int) != ((c / 256 : Nat) : Int)) = false := by rw [← e1]; exact bne_self_eq_false _
 have k2 : ((lo : Int) != ((c % 256 : Nat) : Int)) = false := by rw [← e2]; exact bne_self_eq_false _
 simp (disch := (first | decide | omega)) only [hA, d1, d2, m2, m1, gh, gl, hc, hq, hr, n256, k1, k2, setFrom, cellsOf, List.length_map, go_sem]
 obtain ⟨⟨n, s1⟩, hc1⟩ : ∃ z, rdCnt (body, false) = z := ⟨_, rfl⟩
 have lc := rdCnt_len (s := (body, false))
 have cp := rdCnt_pos (s := (body, false))
 have ln := rdCnt_n (s := (body, false)) hbl
 rw [hc1] at lc cp ln
 simp only at lc cp ln
 have c1 := fun b l h => rcnt_run (B.length + 1) (body, false) (by simp only; omega) b l h
 simp only [hc1] at c1
 have hTR : rdTR (body, false) = rdRepR (fun _ => rdPrR) n s1 := by unfold rdTR; rw [hc1]
 have hal := t_alike (body, false)
 rw [hTR] at hal
 have hD : decodeL bs = if (rdT (body, false)).2.2 = true ∨ 0 < (rdT (body, false)).2.1.length then ([], 3) else if validL (rdT (body, false)).1 = false then ([], 1) else ((rdT (body, false)).1, 0) := by
  unfold decodeL
  rw [if_neg h1, if_neg h2, if_neg (fun h => h h3), hbody]
 obtain ⟨tb1, tb2⟩ := rdT_bd (s := (body, false)) hbl
 refine ACalls.nxt (c1 _ _ ((hget_at (i := 1)).trans rfl)) ?_
 simp (disch := (first | decide | omega)) only [hA, go_sem]
 refine loop_kept (ι := Nat) r_rtdec0 (fun i => [(9, .v (.int .i64 i))]) 4 (fun i => [.live 0 1 [[.v .zsl]], rRow (rdRepR (fun _ => rdPrR) i s1).2, .live 0 1 [[.sl (B.length + 3) i 0 i]], .live i 3 (vs ((rdRepR (fun _ => rdPrR) i s1).1.map ePr))])
  (fun i => i ≤ n ∧ (rdRepR (fun _ => rdPrR) i s1).1.length = i ∧ (rdRepR (fun _ => rdPrR) i s1).2.1.length ≤ 16384) (fun i => n - i) 0 ⟨Nat.zero_le _, rfl, Nat.le_trans lc hbl⟩ (by (repeat (first | exact hE.mono oM | refine KLt.up ?_ kL))) (by ((try simp (disch := decide) only [hA, go_sem]) <;> exact kH)) (fun e => ?_) ?_
 ·have h := Weak.nilcell (e := e) (b := B) (l := [.live 0 1 [[.v .zsl]], rRow s1, .live 0 1 [[.v .zsl]]]) (i := 2) (k := 0) (j := 0) (sz := 3) rfl rfl rfl
  exact h
 intro g1 hE1 hEE1 hg1 i hi
 obtain ⟨i1, i2, i4⟩ := hi
 obtain ⟨⟨L, y, w⟩, hLS⟩ : ∃ z, rdRepR (fun _ => rdPrR) i s1 = z := ⟨_, rfl⟩
 rw [hLS] at i2 i4
 simp only at i2 i4
 simp only [hLS]
 have hbad : ∀ y : List UInt8, rdRepR (fun _ => rdPrR) n s1 = (L, (y, true)) → decR bs = .tup [.agg [.v (.isl 3 [])], .v (.int .i64 3)] := fun y h => by
  unfold decR
  rw [hD, if_pos (.inl (by rw [hal.1, h]))]; rfl
 by_cases hin : i < n
 ·cases w with
  | true =>
    have hst := rdRepR_stop (f := fun _ => rdPrR) (s := s1) (i := i) (n := n) (by rw [hLS]) oM
    rw [hLS] at hst
    simp (disch := (first | decide | omega)) only [hA, hg1, rRow, setFrom, cellsOf, go_sem]
    exact leave_deep (.inr rfl) (xs := [.agg [.v .zsl], .v (.int .i64 3)]) (by simp (disch := (first | decide | omega)) only [resVs, resV, hA, hg1, go_sem]) (zrow rfl) hR hB ⟨(hbad _ hst).symm, rfl, rfl⟩
  | false =>
    have ho := rdRepR_one hLS rfl
    obtain ⟨⟨p, y2, w2⟩, hp⟩ : ∃ z, rdPrR (y, false) = z := ⟨_, rfl⟩
    rw [hp] at ho
    simp only at ho
    have hpb := rdPrR_len (s := (y, false)) i4
    rw [hp] at hpb
    have c7 := fun b l h => rproc_run (B.length + 1) (y, false) i4 b l h
    simp only [hp] at c7
    simp (disch := (first | decide | omega)) only [hA, hg1, rRow, go_sem]
    refine ACalls.nxt (c7 _ _ ((hget_at (i := 1)).trans rfl)) ?_
    have htk := takePr i2
    have hct := catPr (L := L) (p := p)
    simp (disch := (first | decide | omega)) only [hA, hg1, rRow, prA, setFrom, cellsOf, htk, hct, List.length_map, List.replicate_succ, List.replicate_zero, i2, go_sem]
    refine ⟨i + 1, ⟨hin, by rw [ho]; simp [i2], by rw [ho]; exact hpb⟩, by simp only; omega, ?_⟩
    simp only [ho]
    exact Weak.kround (p := r_rtdec0) (k := 4) (by ((repeat refine (kAny_up rfl).trans ?_); exact hEE1)) (by ((try simp (disch := decide) only [hA, go_sem]) <;> exact kH)) rfl hE1 (by simp) kV hR (by simp (disch := omega) only [rRow, lts.down, Nat.reduceLT, Nat.reduceAdd])
 ·obtain rfl : n = i := by omega
  cases w with
  | true =>
    simp (disch := (first | decide | omega)) only [hA, hg1, rRow, setFrom, cellsOf, go_sem]
    exact leave_deep (.inr rfl) (xs := [.agg [.v .zsl], .v (.int .i64 3)]) (by simp (disch := (first | decide | omega)) only [resVs, resV, hA, hg1, go_sem]) (zrow rfl) hR hB ⟨(hbad _ hLS).symm, rfl, rfl⟩
  | false =>
    have h4 : (rdT (body, false)).2 = (y, false) := by rw [hal.1, hLS]
    have h5 : (rdT (body, false)).1 = L := by rw [hal.2 (by rw [h4]), hLS]
    by_cases hy : 0 < y.length
    ·have d3 : decide ((y.length : Int) > 0) = true := decide_eq_true oM
     have hr : decR bs = .tup [.agg [.v (.isl 3 [])], .v (.int .i64 3)] := by
      unfold decR
      rw [hD, h4, if_pos (.inr hy)]; rfl
     simp (disch := (first | decide | omega)) only [hA, hg1, rRow, d3, setFrom, cellsOf, List.length_map, go_sem]
     exact leave_deep (.inr rfl) (xs := [.agg [.v .zsl], .v (.int .i64 3)]) (by simp (disch := (first | decide | omega)) only [resVs, resV, hA, hg1, go_sem]) (zrow rfl) hR hB ⟨hr.symm, rfl, rfl⟩
    have d3 : decide ((y.length : Int) > 0) = false := decide_eq_false oM
    have hD2 : decodeL bs = if validL L = false then ([], 1) else (L, 0) := by
     rw [hD, h4, h5, if_neg (by simp only [Bool.false_eq_true, false_or]; exact hy)]
    rw [h5] at tb1 tb2
    obtain ⟨fS, fN⟩ := tr_fits tb1 tb2
    have cv := fun b l => rvalid_spec L fS fN b l
    have hdv : Dv (B.length + 3) [.live n 3 (vs (L.map ePr))] (.sl (B.length + 3) n 0 n) (.v (eT L)) := Dv.slV (i := 0) rfl (by simp [i2])
    simp (disch := (first | decide | omega)) only [hA, hg1, rRow, d3, setFrom, cellsOf, List.length_map, go_sem]
    refine ACalls.deepCell (l1 := [.live 0 1 [[.v .zsl]], rRow (y, false), .live 0 1 [[.sl (B.length + 3) n 0 n]]]) (N := [.live n 3 (vs (L.map ePr))]) (l2 := []) (i0 := 2) (args' := [.agg [.v (eT L)]]) rfl (fun i y z hy hz => ?_) rfl hdv ?_
    ·match i, hy, hz with
     | 0, hy, hz => cases hy; cases hz; exact Dv.aggL (.cons hdv .nil)
     | i + 1, hy, hz => simp at hy
    change ACalls _ _ _ _ [.live 0 1 [[.v .zsl]], .live 0 2 [[.v (.isl 1 (y.map eB)), .v (.bool false)]], .live 0 1 [[.v (eT L)]], .dead n] _
    refine ACalls.nxt (cv _ _) ?_
    cases hv : validL L with
    | false =>
      have hr : decR bs = .tup [.agg [.v (.isl 3 [])], .v (.int .i64 1)] := by
       unfold decR
       rw [hD2, if_pos hv]; rfl
      simp (disch := (first | decide | omega)) only [hA, hg1, setFrom, cellsOf, go_sem]
      exact leave_deep (.inr rfl) (xs := [.agg [.v .zsl], .v (.int .i64 1)]) (by simp (disch := (first | decide | omega)) only [resVs, resV, hA, hg1, go_sem]) (zrow rfl) hR hB ⟨hr.symm, rfl, rfl⟩
    | true =>
      have hr : decR bs = .tup [.agg [.v (eT L)], .v (.int .i64 0)] := by
       unfold decR
       rw [hD2, if_neg (by rw [hv]; decide)]
      simp (disch := (first | decide | omega)) only [hA, hg1, setFrom, cellsOf, go_sem]
      exact leave_pure (xs := [.agg [.v (eT L)], .v (.int .i64 0)]) (.inr rfl) (by simp (disch := (first | decide | omega)) only [resVs, resV, hA, hg1, go_sem]) kO hR hB ⟨hr.symm, rfl, rfl⟩
end Go.Proofs.Ytanblnhnfkeffaa
