/- Texts of one proof, laid together: NF, NH, NI, NJ, NL, NS, NU. No condition. -/
import Derived.Test.YtpkemmchpccjdaaND8
namespace Go.Proofs.Ytpkemmchpccjdaa
set_option linter.unusedVariables false
set_option linter.unusedSimpArgs false
attribute [local go_sem ↓] run_skip run_region run_draw run_both run_seq run_block run_exit run_ret run_cond atN_app seqC_normal seqC_exit seqC_ret seqQ_normal seqQ_exit seqQ_ret blkQ_normal blkQ_exit blkQ_ret runOps_nil runOps_cons runD_nil runD_cons grdO_true grdO_false grdD_true grdD_false ifC_true ifC_false opS_val opS_call opS_two opK_app dS_val dS_call dS_two dK_app kUp_same kUp_ne
attribute [local go_sem] rechks_nil rechks_cons rechk gcase_true gcase_false ex_val ex_val0 gd_none gd_some ev_t ev_c evs_nil evs_cons evo_some evo_none hget_at hget_first hsetB_at hsetB_first hsetL_at hsetL_first ofOpt_some aop aload astore aslice aappend aiaddr aiaddrA afaddr alen alenS acopy amm acall alookup amupdate alenM atostr aappz comma keyEq apick binV binVB binVS isSh intOp strOp boolOp shOp eqC eqF and2 cellsOf setFrom fillA fillS rowsI rowI rd rdI elems mk bounds AV.cell List.all_cons List.all_nil Bool.and_true Bool.true_and Bool.and_self List.length_cons List.length_nil List.length_append Nat.reduceAdd Nat.reduceSub Nat.reduceMul Nat.zero_add Nat.add_zero List.cons_append List.nil_append List.append_assoc List.append_nil List.getElem?_cons_zero List.getElem?_cons_succ List.getElem?_nil List.set_cons_zero List.set_cons_succ List.drop_zero List.drop_succ_cons List.take_zero List.take_succ_cons List.take_nil List.drop_nil List.map_cons List.map_nil Option.map_some if_true if_false Bool.false_eq_true and_self true_and and_true Nat.reduceLeDiff Nat.reduceLT Nat.le_refl Nat.reduceEqDiff ite_true ite_false beq_self_eq_true beq_true beq_false Bool.not_true Bool.not_false Bool.true_beq Bool.false_beq map_vs vs_len vs_get vs_take vs_drop vs_snoc1 vs_snoc2 vs_snoc3 vs_snoc5 vs_set1 vs_set2 vs_rep wrap_id le_T lt_T le_F lt_F leI_T ltI_T leI_F ltI_F geI gtI get_T decide_true decide_false room List.getElem?_map List.length_map List.length_take Int.toNat_natCast Nat.min_def Nat.min_self nth_kOf put_kOf put_kNo kOv_cons kOv_nil KHas KArgs List.getElem_cons_zero List.getElem_cons_succ
def a_nRecv : AFunc := ⟨2,59,[.cell 4 (some 5),.cell 5 (some 4),.tmp 6],(.seq (.region [⟨some 2,.box (.t 0),none⟩,⟨some 4,.alloc [(.v (.int .i64 0)),(.v (.bool false)),(.v .zsl),(.v .zsl),(.v .zsl)],none⟩,⟨some 5,.alloc [(.v (.int .i64 0)),(.v (.int .i64 0)),(.v (.int .i64 0)),(.v .zsl)],none⟩,⟨some 6,.mv (.c (.v (.int .i64 0))),none⟩]) (.seq (.block 0 (.seq (.region [⟨some 10,.load (some 5) (.t 2),none⟩,⟨some 11,.call (.c (.fn 13 [])) [(.t 10)],none⟩,⟨some 12,.not (.t 11),none⟩,⟨some 9,.mv (.t 12),none⟩]) (.cond (.t 9) (.seq (.region [⟨some 13,.build [(.v (.int .i64 0)),(.v (.bool false)),(.v .zsl),(.v .zsl),(.v .zsl)] [],none⟩,⟨some 14,.build [(.v (.int .i64 0)),(.v (.int .i64 0)),(.v (.int .i64 0)),(.v .zsl)] [],none⟩,⟨none,.store 5 (.t 4) (.t 13),none⟩,⟨none,.store 4 (.t 5) (.t 14),none⟩,⟨some 6,.mv (.c (.v (.int .i64 1))),none⟩]) .ret) (.seq (.region [⟨some 16,.mv (.t 1),none⟩,⟨some 17,.call (.c (.fn 20 [])) [(.t 16)],none⟩,⟨some 18,.not (.t 17),none⟩,⟨some 15,.mv (.t 18),none⟩]) (.cond (.t 15) (.seq (.region [⟨some 19,.build [(.v (.int .i64 0)),(.v (.bool false)),(.v .zsl),(.v .zsl),(.v .zsl)] [],none⟩,⟨some 20,.build [(.v (.int .i64 0)),(.v (.int .i64 0)),(.v (.int .i64 0)),(.v .zsl)] [],none⟩,⟨none,.store 5 (.t 4) (.t 19),none⟩,⟨none,.store 4 (.t 5) (.t 20),none⟩,⟨some 6,.mv (.c (.v (.int .i64 2))),none⟩]) .ret) .skip))))) (.seq (.seq (.region [⟨some 21,.faddr 2 (.t 2),none⟩,⟨some 22,.load none (.t 21),none⟩,⟨some 23,.len (.t 22),none⟩,⟨some 24,.mv (.c (.v (.int .i64 0))),none⟩]) (.block 1 (.loop (.seq (.region [⟨some 25,.bin .lss (.t 24) (.t 23),none⟩]) (.seq (.cond (.t 25) .skip (.exit 1)) (.seq (.block 2 (.seq (.region [⟨some 26,.mv (.t 24),none⟩,⟨some 7,.mv (.t 26),none⟩]) (.seq (.seq (.region [⟨some 27,.load (some 5) (.t 2),none⟩,⟨some 28,.mv (.t 7),none⟩,⟨some 29,.mv (.t 1),none⟩,⟨some 30,.call (.c (.fn 21 [])) [(.t 27),(.t 28),(.t 29)],none⟩,⟨some 31,.not (.t 30),none⟩]) (.cond (.t 31) (.exit 2) .skip)) (.seq (.region [⟨some 32,.faddr 2 (.t 2),none⟩,⟨some 33,.load none (.t 32),none⟩,⟨some 34,.mv (.t 7),none⟩,⟨some 35,.iaddr 4 (.t 33) (.t 34),none⟩,⟨some 36,.load (some 4) (.t 35),none⟩,⟨some 37,.call (.c (.fn 22 [])) [(.t 36)],none⟩,⟨some 8,.alloc [(.v (.int .i64 0)),(.v (.int .i64 0)),(.v (.int .i64 0)),(.v .zsl)],none⟩,⟨none,.store 4 (.t 8) (.t 37),none⟩]) (.seq (.region [⟨some 38,.load (some 5) (.t 2),none⟩,⟨some 39,.call (.c (.fn 23 [])) [(.t 38)],none⟩,⟨none,.store 5 (.t 2) (.t 39),none⟩]) (.seq (.draw [⟨0,⟨some 40,.faddr 2 (.t 2),none⟩,[]⟩,⟨1,⟨some 41,.load none (.t 40),none⟩,[]⟩,⟨2,⟨some 42,.mv (.t 7),none⟩,[]⟩,⟨3,⟨some 43,.mv (.t 7),none⟩,[]⟩,⟨4,⟨some 44,.bin .add (.t 43) (.c (.v (.int .i64 1))),none⟩,[]⟩,⟨6,⟨some 46,.faddr 3 (.t 2),none⟩,[]⟩,⟨7,⟨some 47,.load none (.t 46),none⟩,[]⟩,⟨8,⟨some 48,.mv (.t 7),none⟩,[]⟩,⟨9,⟨some 49,.mv (.t 7),none⟩,[]⟩,⟨10,⟨some 50,.bin .add (.t 49) (.c (.v (.int .i64 1))),none⟩,[]⟩,⟨5,⟨some 45,.call (.c (.fn 24 [])) [(.t 41),(.t 42),(.t 44)],none⟩,[⟨some 46,.faddr 3 (.t 2),none⟩,⟨some 47,.load none (.t 46),none⟩,⟨some 48,.mv (.t 7),none⟩,⟨some 49,.mv (.t 7),none⟩,⟨some 50,.bin .add (.t 49) (.c (.v (.int .i64 1))),none⟩]⟩,⟨12,⟨some 52,.faddr 2 (.t 2),none⟩,[]⟩,⟨11,⟨some 51,.call (.c (.fn 25 [])) [(.t 47),(.t 48),(.t 50)],none⟩,[⟨some 52,.faddr 2 (.t 2),none⟩]⟩,⟨13,⟨none,.store 1 (.t 52) (.t 45),none⟩,[]⟩,⟨14,⟨some 53,.faddr 3 (.t 2),none⟩,[]⟩,⟨15,⟨none,.store 1 (.t 53) (.t 51),none⟩,[]⟩]) (.seq (.draw [⟨0,⟨some 54,.load (some 5) (.t 2),none⟩,[]⟩,⟨1,⟨some 55,.load (some 4) (.t 8),none⟩,[]⟩,⟨2,⟨none,.store 5 (.t 4) (.t 54),none⟩,[⟨some 55,.load (some 4) (.t 8),none⟩]⟩,⟨3,⟨none,.store 4 (.t 5) (.t 55),none⟩,[]⟩,⟨4,⟨some 6,.mv (.c (.v (.int .i64 0))),none⟩,[]⟩]) .ret))))))) (.region [⟨some 56,.bin .add (.t 24) (.c (.v (.int .i64 1))),none⟩,⟨some 24,.mv (.t 56),none⟩]))))))) (.seq (.region [⟨some 57,.build [(.v (.int .i64 0)),(.v (.bool false)),(.v .zsl),(.v .zsl),(.v .zsl)] [],none⟩,⟨some 58,.build [(.v (.int .i64 0)),(.v (.int .i64 0)),(.v (.int .i64 0)),(.v .zsl)] [],none⟩,⟨none,.store 5 (.t 4) (.t 57),none⟩,⟨none,.store 4 (.t 5) (.t 58),none⟩,⟨some 6,.mv (.c (.v (.int .i64 7))),none⟩]) .ret))))⟩
theorem a_nRecv_ok : cFunc Try.prog 8 = some a_nRecv := by kernel_rfl
def r_nRecv0 : List (Nat × Nat) := [(6, 8), (24, 56)]

def rcE (n : Nw) (to : Int) : Int := if nwB n = true then (if ptB to = true then (if fiR n to < 0 then 7 else 0) else 2) else 1
def rcLv (n : Nw) (k : Nat) : Lv := ⟨n.now, n.fifo, 2, 2, 0, (clone0 n).xs.take k ++ (clone0 n).xs.drop (k + 1), n.tm.take k ++ n.tm.drop (k + 1), n.fates, n.l.map (·.body)⟩
def rcZ (n : Nw) (to : Int) : Option Lv := if rcE n to = 0 then some (rcLv n (fiR n to).toNat) else none
def rcN (n : Nw) (to : Int) : Nw := if rcE n to = 0 then woN n (fiR n to).toNat else nw0
def rcM (n : Nw) (to : Int) : Ms := if rcE n to = 0 then n.l.getD (fiR n to).toNat dfMs else dfMs
def rcMA (n : Nw) (to : Int) (base : Nat) : AV := if rcE n to = 0 then .agg [.v (.int .i64 (rcM n to).fr), .v (.int .i64 (rcM n to).to), .v (.int .i64 (rcM n to).nu), .sl (base + (3 + n.l.length)) 1 0 (rcM n to).body.length] else .agg [.v (.int .i64 0), .v (.int .i64 0), .v (.int .i64 0), .v .zsl]
def rcR (n : Nw) (to : Int) (base : Nat) : List Row := if rcE n to = 0 then (rcLv n (fiR n to).toNat).rows base ++ [bdR (rcM n to).body] else []
theorem rcLv_ok {n : Nw} {k : Nat} : (rcLv n k).ok := by
 refine ⟨Nat.zero_le _, fun x hx => ?_⟩
 refine (clone0_ok n).bd x ?_
 rcases List.mem_append.1 hx with h | h
 ·exact List.mem_of_mem_take h
 ·exact List.mem_of_mem_drop h
theorem rcLv_nw {n : Nw} {k : Nat} : (rcLv n k).nw = woN n k := by
 have h : (clone0 n).xs.map (·.1) = n.l := congrArg Nw.l (clone0_nw n)
 unfold Lv.nw rcLv woN
 simp only [List.map_append, List.map_take, List.map_drop, h, List.drop_zero]
theorem rcZ_nw {n : Nw} {to : Int} : ownN (rcZ n to) = rcN n to := by
 unfold rcZ rcN
 split
 ·exact rcLv_nw
 ·rfl
theorem rcLv_rows {n : Nw} {k base : Nat} : (rcLv n k).rows base = .live 2 4 (((clone0 n).xs.map (lvE base)).take k ++ ((clone0 n).xs.map (lvE base)).drop (k + 1)) :: .live 2 1 (vs ((n.tm.map eI).take k) ++ vs ((n.tm.map eI).drop (k + 1))) :: .live 1 2 (vs (n.fates.map eFt)) :: fl n.l.length (clB n) := by
 have h := clone0_rows (n := n) (base := base)
 unfold Lv.rows at h ⊢
 have h2 := (List.cons.inj (List.cons.inj (List.cons.inj h).2).2).2
 have h3 : (rcLv n k).bd.map bdR = fl n.l.length (clB n) := h2
 rw [h3]
 unfold rcLv
 simp only [List.map_append, List.map_take, List.map_drop, vs_app]
set_option maxRecDepth 20000 in
set_option maxHeartbeats 8000000 in
theorem nRecv_own (n : Nw) (to : Int) (b l : List Row) : ACalls Try.prog 8 [.agg ((eNw n).map .v), .v (.int .i64 to)] b l
  (fun r b' l' => r = .tup [ownA (b.length + l.length) (rcZ n to), rcMA n to (b.length + l.length), .v (.int .i64 (rcE n to))] ∧ b' = b ∧ l' = l ++ rcR n to (b.length + l.length)) := by
 refine calls_kept a_nRecv_ok rfl (by decide) ?_
 intro B g hB hR hE hA; simp only [KArgs] at hA
 have hV := nValid_spec n
 have hC := nclone_spec n
 unfold eNw at hV hC
 simp only [List.map_cons, List.map_nil] at hV hC
 have bad : rcE n to ≠ 0 → rcZ n to = none ∧ rcMA n to (b.length + l.length) = .agg [.v (.int .i64 0), .v (.int .i64 0), .v (.int .i64 0), .v .zsl] ∧ rcR n to (b.length + l.length) = [] := fun h => ⟨if_neg h, if_neg h, if_neg h⟩
 simp (disch := (first | decide | omega)) only [a_nRecv, hA, eNw, go_sem]
 refine ACalls.nxt (hV _ _) ?_
 cases h1 : nwB n
 ·have he : rcE n to = 1 := by unfold rcE; rw [h1]; rfl
  obtain ⟨b1, b2, b3⟩ := bad (by rw [he]; decide)
  rw [b1, b2, b3, he]
  simp (disch := (first | decide | omega)) only [hA, setFrom, cellsOf, go_sem]
  exact leave_pure (.inr rfl) (xs := [zNw, .agg [.v (.int .i64 0), .v (.int .i64 0), .v (.int .i64 0), .v .zsl], .v (.int .i64 1)]) (by simp (disch := (first | decide | omega)) only [resVs, resV, hA, zNw, go_sem]) (by simp only [one, zNw, lts.down, Nat.reduceLT, Nat.reduceAdd]) hR hB ⟨rfl, rfl, by simp⟩
 simp (disch := (first | decide | omega)) only [hA, go_sem]
 refine ACalls.nxt (nparty_spec to _ _) ?_
 cases h2 : ptB to
 ·have he : rcE n to = 2 := by unfold rcE; rw [if_pos h1, h2]; rfl
  obtain ⟨b1, b2, b3⟩ := bad (by rw [he]; decide)
  rw [b1, b2, b3, he]
  simp (disch := (first | decide | omega)) only [hA, setFrom, cellsOf, go_sem]
  exact leave_pure (.inr rfl) (xs := [zNw, .agg [.v (.int .i64 0), .v (.int .i64 0), .v (.int .i64 0), .v .zsl], .v (.int .i64 2)]) (by simp (disch := (first | decide | omega)) only [resVs, resV, hA, zNw, go_sem]) (by simp only [one, zNw, lts.down, Nat.reduceLT, Nat.reduceAdd]) hR hB ⟨rfl, rfl, by simp⟩
 have hv := nwB_iff.1 h1
 have htl := hv.l
 have hlen := hv.len
 simp (disch := (first | decide | omega)) only [hA, go_sem]
 refine loop_kept (ι := Nat) r_nRecv0 (fun i => [(24, .v (.int .i64 i))]) 3 (fun _ => [.live 0 5 [[.v (.int .i64 n.now), .v (.bool n.fifo), .v (.isl 4 (n.l.map eMs)), .v (.isl 1 (n.tm.map eI)), .v (.isl 2 (n.fates.map eFt))]], .live 0 5 [[.v (.int .i64 0), .v (.bool false), .v .zsl, .v .zsl, .v .zsl]], .live 0 4 [[.v (.int .i64 0), .v (.int .i64 0), .v (.int .i64 0), .v .zsl]]])
  (fun i => i ≤ n.l.length ∧ ∀ j, j < i → arB n to j = false) (fun i => n.l.length - i) 0 ⟨Nat.zero_le _, fun j hj => by omega⟩ (by (repeat (first | exact hE.mono oM | refine KLt.up ?_ kL))) (by ((try simp (disch := decide) only [hA, go_sem]) <;> exact kH)) (fun e => Weak.refl _ _ _) ?_
 rintro g1 hE1 hEE1 hg1 k ⟨hk, h0⟩
 by_cases hlt : k < n.l.length
 ·simp (disch := (first | decide | omega)) only [hA, hg1, List.length_map, go_sem]
  refine ACalls.nxt (narr_spec n k hlt oM to _ _) ?_
  cases q : arB n to k
  ·simp (disch := (first | decide | omega)) only [hA, hg1, go_sem]
   refine ⟨k + 1, ⟨hlt, fun j hj => ?_⟩, by simp only; omega, ?_⟩
   ·rcases Nat.lt_or_ge j k with hji | hji
    ·exact h0 j hji
    ·obtain rfl : j = k := by omega
     exact q
   ·exact Weak.kround (p := r_nRecv0) (k := 3) (by ((repeat refine (kAny_up rfl).trans ?_); exact hEE1)) (by ((try simp (disch := decide) only [hA, go_sem]) <;> exact kH)) rfl hE1 (by simp) kV hR kL
  have hfi : fiR n to = k := wIdx_at hlt h0 q
  have he : rcE n to = 0 := by unfold rcE; rw [if_pos h1, if_pos h2, hfi, if_neg oM]
  have hkk : (fiR n to).toNat = k := by rw [hfi]; rfl
  have hZ : rcZ n to = some (rcLv n k) := by unfold rcZ; rw [if_pos he, hkk]
  have hM : rcM n to = n.l[k] := by unfold rcM; rw [if_pos he, hkk, getD_at hlt]
  have hMA : rcMA n to (b.length + l.length) = .agg [.v (.int .i64 n.l[k].fr), .v (.int .i64 n.l[k].to), .v (.int .i64 n.l[k].nu), .sl (b.length + l.length + (3 + n.l.length)) 1 0 n.l[k].body.length] := by unfold rcMA; rw [if_pos he, hM]
  have hRR : rcR n to (b.length + l.length) = (rcLv n k).rows (b.length + l.length) ++ [bdR n.l[k].body] := by unfold rcR; rw [if_pos he, hkk, hM]
  rw [hZ, hMA, hRR, he]
  have hmg := eMs_get hlt
  simp (disch := (first | decide | omega)) only [hA, hg1, hmg, List.length_map, go_sem]
  refine ACalls.nxt (ncop_spec n.l[k] (hv.s.body _ (List.getElem_mem hlt)) _ _) ?_
  simp (disch := (first | decide | omega)) only [hA, hg1, setFrom, cellsOf, go_sem]
  refine ACalls.nxt (hC hv.s _ _) ?_
  have hxl : (clone0 n).xs.length = n.l.length := fl_len
  have hav : ∀ base, (clone0 n).av base = .agg [.v (.int .i64 n.now), .v (.bool n.fifo), .sl base 1 0 n.l.length, .sl (base + 1) 1 0 n.tm.length, .sl (base + 2) 1 0 n.fates.length] := fun base => by
   unfold Lv.av; rw [hxl]; rfl
  have e1 : B.length + 5 + 1 = B.length + 6 := rfl
  have e2 : B.length + 5 + 2 = B.length + 7 := rfl
  have hrw := clone0_rows (n := n) (base := B.length + 5)
  simp (disch := (first | decide | omega)) only [hA, hg1, hav, hrw, e1, e2, setFrom, cellsOf, go_sem]
  have hD := fun b l hid => delM_run (B.length + 5) 1 k ((clone0 n).xs.map (lvE (B.length + 5))) b l hid (by rw [List.length_map, hxl]; exact hlt)
  simp only [List.length_map, hxl] at hD
  refine ACalls.nxt (hD _ _ (by rw [List.getElem?_append_right oM, Nat.add_sub_cancel_left]; rfl)) ?_
  simp (disch := (first | decide | omega)) only [hA, hg1, setFrom, cellsOf, go_sem]
  have hI := fun b l hid => delI_run (B.length + 6) 1 k (vs (n.tm.map eI)) b l hid (by rw [vs_len, List.length_map]; omega)
  simp only [List.length_map, vs_len] at hI
  refine ACalls.nxt (hI _ _ (by rw [List.getElem?_append_right oM, Nat.add_sub_cancel_left]; rfl)) ?_
  simp (disch := (first | decide | omega)) only [hA, hg1, setFrom, cellsOf, go_sem]
  rw [← rcLv_rows]
  obtain ⟨σ, s1, s2⟩ : ∃ σ : Nat → Nat, (∀ j, j < n.l.length + 3 → σ j = j + 5) ∧ σ (n.l.length + 3) = 3 := ⟨fun j => if j < n.l.length + 3 then j + 5 else 3, fun j h => if_pos h, if_neg oM⟩
  have hbd : (rcLv n k).bd.length = n.l.length := by unfold rcLv; simp
  have hrl : ((rcLv n k).rows B.length).length = n.l.length + 3 := by unfold Lv.rows; simp [hbd]
  have hzx : (rcLv n k).xs.length = n.l.length - 1 := by
   unfold rcLv
   simp only [List.length_append, List.length_take, List.length_drop, hxl]; omega
  have hzt : (rcLv n k).tm.length = n.tm.length - 1 := by
   unfold rcLv
   simp only [List.length_append, List.length_take, List.length_drop]; omega
  have hza : (rcLv n k).av (B.length + 5) = .agg [.v (.int .i64 n.now), .v (.bool n.fifo), .sl (B.length + 5) 2 0 (n.l.length - 1), .sl (B.length + 6) 2 0 (n.tm.length - 1), .sl (B.length + 7) 1 0 n.fates.length] := by
   unfold Lv.av
   rw [hzx, hzt]
   rfl
  refine leave_ren (.inr rfl) (xs := [(rcLv n k).av (B.length + 5), .agg [.v (.int .i64 n.l[k].fr), .v (.int .i64 n.l[k].to), .v (.int .i64 n.l[k].nu), .sl (B.length + 3) 1 0 n.l[k].body.length], .v (.int .i64 0)]) (y := .tup [(rcLv n k).av B.length, .agg [.v (.int .i64 n.l[k].fr), .v (.int .i64 n.l[k].to), .v (.int .i64 n.l[k].nu), .sl (B.length + (3 + n.l.length)) 1 0 n.l[k].body.length], .v (.int .i64 0)]) (l' := (rcLv n k).rows B.length ++ [bdR n.l[k].body]) (by simp (disch := (first | decide | omega)) only [resVs, resV, hA, hg1, hza, go_sem]) (m := n.l.length + 4) (by rw [List.length_append, hrl]; rfl) σ (fun a c ha hc h => ?_) (fun j r' h => ?_) ?_ hR hB ⟨by rw [hB, List.length_append]; rfl, rfl, by rw [hB, List.length_append]⟩
  ·by_cases h1 : a < n.l.length + 3 <;> by_cases h2 : c < n.l.length + 3
   ·rw [s1 a h1, s1 c h2] at h; omega
   ·rw [s1 a h1, show c = n.l.length + 3 by omega, s2] at h; omega
   ·rw [s1 c h2, show a = n.l.length + 3 by omega, s2] at h; omega
   ·omega
  ·by_cases hj : j < n.l.length + 3
   ·rw [List.getElem?_append_left oM] at h
    have key : ∀ pre : List Row, pre.length = 5 → ∃ r, (pre ++ (rcLv n k).rows (B.length + 5))[σ j]? = some r ∧ RnR B.length (n.l.length + 4) σ r r' := fun pre hp => by
     have := Lv.rnR (z := rcLv n k) rcLv_ok (n := B.length) (s := 5) (m := n.l.length + 4) oM (σ := σ) (fun j hj => s1 j oM) (pre := pre) (junk := []) hp j r' h
     rwa [List.append_nil] at this
    exact key [_, _, _, _, _] rfl
   ·have hl := (List.getElem?_eq_some_iff.1 h).1
    rw [List.length_append, hrl] at hl
    have hl : j < n.l.length + 3 + 1 := hl
    obtain rfl : j = n.l.length + 3 := by omega
    rw [List.getElem?_append_right oM, hrl, Nat.sub_self] at h
    cases h
    rw [s2]
    exact ⟨_, rfl, RnR.plain⟩
  ·refine Rn.tupL (.cons (Lv.rnA oM (fun j hj => s1 j oM)) (.cons (Rn.aggL (.cons (.v _) (.cons (.v _) (.cons (.v _) (.cons ?_ .nil))))) (.cons (.v _) .nil)))
   exact Rn.slE (by rw [Nat.add_comm 3]; exact s2) oM
 ·obtain rfl : k = n.l.length := by omega
  have hfi : fiR n to = -1 := wIdx_none h0
  have he : rcE n to = 7 := by unfold rcE; rw [if_pos h1, if_pos h2, hfi]; rfl
  obtain ⟨b1, b2, b3⟩ := bad (by rw [he]; decide)
  rw [b1, b2, b3, he]
  simp (disch := (first | decide | omega)) only [hA, hg1, setFrom, cellsOf, go_sem]
  exact leave_pure (.inr rfl) (xs := [zNw, .agg [.v (.int .i64 0), .v (.int .i64 0), .v (.int .i64 0), .v .zsl], .v (.int .i64 7)]) (by simp (disch := (first | decide | omega)) only [resVs, resV, hA, hg1, zNw, go_sem]) (by simp only [one, zNw, lts.down, Nat.reduceLT, Nat.reduceAdd]) hR hB ⟨rfl, rfl, by simp⟩
theorem rcMA_dv {n : Nw} {to : Int} {base : Nat} : Dv base (rcR n to base) (rcMA n to base) (.agg ((eMs (rcM n to)).map .v)) := by
 by_cases he : rcE n to = 0
 ·unfold rcMA rcR
  rw [if_pos he, if_pos he]
  unfold eMs
  refine Dv.aggL (.cons (.v _) (.cons (.v _) (.cons (.v _) (.cons ?_ .nil))))
  refine Dv.slV (rows := (rcM n to).body.map eI) ?_ (by simp)
  have hrl : ((rcLv n (fiR n to).toNat).rows base).length = 3 + n.l.length := by unfold Lv.rows rcLv; simp; omega
  rw [List.getElem?_append_right oM, hrl, Nat.sub_self]
  rfl
 ·unfold rcMA rcM
  rw [if_neg he, if_neg he]
  exact Dv.aggL (.cons (.v _) (.cons (.v _) (.cons (.v _) (.cons (.z 1) .nil))))
theorem rcZ_dv {n : Nw} {to : Int} {base : Nat} : Dv base (rcR n to base) (ownA base (rcZ n to)) (nwA (rcN n to)) := by
 rw [← rcZ_nw]
 by_cases he : rcE n to = 0
 ·unfold rcZ rcR
  rw [if_pos he, if_pos he]
  exact (Lv.dv rcLv_ok base).more _
 ·unfold rcZ
  rw [if_neg he]
  exact zNw_dv
theorem nRecv_spec (n : Nw) (to : Int) (b l : List Row) : ACalls Try.prog 8 [.agg ((eNw n).map .v), .v (.int .i64 to)] b l
  (fun r b' l' => r = .tup [nwA (rcN n to), .agg ((eMs (rcM n to)).map .v), .v (.int .i64 (rcE n to))] ∧ b' = b ∧ l' = l) :=
 ACalls.deep (Dv.tupL (.cons rcZ_dv (.cons rcMA_dv (.cons (.v _) .nil)))) (nRecv_own n to b l)
def a_rin : AFunc := ⟨3,15,[.tmp 6],(.seq (.region [⟨some 6,.mv (.c (.v (.bool false))),none⟩]) (.seq (.region [⟨some 7,.mv (.t 0),none⟩,⟨some 8,.mv (.t 1),none⟩,⟨some 9,.bin .geq (.t 7) (.t 8),none⟩,⟨some 10,.mv (.t 9),none⟩,⟨some 11,.mv (.t 0),some (10,true)⟩,⟨some 12,.mv (.t 2),some (10,true)⟩,⟨some 13,.bin .leq (.t 11) (.t 12),some (10,true)⟩,⟨some 14,.pick (.t 10) (.t 13) (.c (.v (.bool false))),none⟩,⟨some 6,.mv (.t 14),none⟩]) .ret))⟩
theorem a_rin_ok : cFunc Try.prog 31 = some a_rin := by kernel_rfl
def a_rfate : AFunc := ⟨1,11,[.tmp 2],(.seq (.region [⟨some 1,.box (.t 0),none⟩,⟨some 2,.mv (.c (.v (.bool false))),none⟩]) (.seq (.region [⟨some 3,.faddr 0 (.t 1),none⟩,⟨some 4,.load none (.t 3),none⟩,⟨some 5,.call (.c (.fn 31 [])) [(.t 4),(.c (.v (.int .i64 0))),(.c (.v (.int .i64 3)))],none⟩,⟨some 6,.mv (.t 5),none⟩,⟨some 7,.faddr 1 (.t 1),some (6,true)⟩,⟨some 8,.load none (.t 7),some (6,true)⟩,⟨some 9,.call (.c (.fn 31 [])) [(.t 8),(.c (.v (.int .i64 0))),(.c (.v (.int .i64 1000000)))],some (6,true)⟩,⟨some 10,.pick (.t 6) (.t 9) (.c (.v (.bool false))),none⟩,⟨some 2,.mv (.t 10),none⟩]) .ret))⟩
theorem a_rfate_ok : cFunc Try.prog 17 = some a_rfate := by kernel_rfl
def a_rfates : AFunc := ⟨1,16,[.tmp 2],(.seq (.region [⟨some 2,.mv (.c (.v (.bool false))),none⟩]) (.seq (.seq (.region [⟨some 3,.mv (.c (.v (.int .i64 0))),none⟩]) (.block 0 (.loop (.seq (.seq (.region [⟨some 4,.mv (.t 3),none⟩,⟨some 5,.mv (.t 0),none⟩,⟨some 6,.len (.t 5),none⟩,⟨some 7,.bin .lss (.t 4) (.t 6),none⟩]) (.cond (.t 7) .skip (.exit 0))) (.seq (.block 1 (.seq (.region [⟨some 10,.mv (.t 0),none⟩,⟨some 11,.mv (.t 3),none⟩,⟨some 12,.iaddr 2 (.t 10) (.t 11),none⟩,⟨some 13,.load (some 2) (.t 12),none⟩,⟨some 14,.call (.c (.fn 17 [])) [(.t 13)],none⟩,⟨some 15,.not (.t 14),none⟩]) (.cond (.t 15) (.seq (.region [⟨some 2,.mv (.c (.v (.bool false))),none⟩]) .ret) .skip))) (.region [⟨some 8,.mv (.t 3),none⟩,⟨some 9,.bin .add (.t 8) (.c (.v (.int .i64 1))),none⟩,⟨some 3,.mv (.t 9),none⟩])))))) (.seq (.region [⟨some 2,.mv (.c (.v (.bool true))),none⟩]) .ret)))⟩
theorem a_rfates_ok : cFunc Try.prog 5 = some a_rfates := by kernel_rfl
def r_rfates0 : List (Nat × Nat) := [(2, 15)]

def inZ (x lo hi : Int) : Bool := decide (lo ≤ x ∧ x ≤ hi)
theorem rinZ_spec (x lo hi : Int) (b l : List Row) : ACalls Try.prog 31 [.v (.int .i64 x), .v (.int .i64 lo), .v (.int .i64 hi)] b l (fun r b' l' => r = .v (.bool (inZ x lo hi)) ∧ b' = b ∧ l' = l) := by
 refine calls_kept a_rin_ok rfl (by decide) ?_
 intro B g hB hR hE hA; simp only [KArgs] at hA
 by_cases h1 : lo ≤ x
 ·have d1 := decide_eq_true h1
  by_cases h2 : x ≤ hi
  ·have d2 := decide_eq_true h2
   simp (disch := (first | decide | omega)) only [a_rin, hA, d1, d2, go_sem]
   exact leave_pure (xs := [.v (.bool true)]) (.inr rfl) (by simp (disch := (first | decide | omega)) only [resVs, resV, go_sem, hA]) kO hR hB ⟨by unfold inZ; rw [decide_eq_true (show lo ≤ x ∧ x ≤ hi from ⟨h1, h2⟩)]; rfl, rfl, rfl⟩
  ·have d2 := decide_eq_false h2
   simp (disch := (first | decide | omega)) only [a_rin, hA, d1, d2, go_sem]
   exact leave_pure (xs := [.v (.bool false)]) (.inr rfl) (by simp (disch := (first | decide | omega)) only [resVs, resV, go_sem, hA]) kO hR hB ⟨by unfold inZ; rw [decide_eq_false (show ¬ (lo ≤ x ∧ x ≤ hi) from fun h => h2 h.2)]; rfl, rfl, rfl⟩
 ·have d1 := decide_eq_false h1
  simp (disch := (first | decide | omega)) only [a_rin, hA, d1, go_sem]
  exact leave_pure (xs := [.v (.bool false)]) (.inr rfl) (by simp (disch := (first | decide | omega)) only [resVs, resV, go_sem, hA]) kO hR hB ⟨by unfold inZ; rw [decide_eq_false (show ¬ (lo ≤ x ∧ x ≤ hi) from fun h => h1 h.1)]; rfl, rfl, rfl⟩
theorem rin_spec (x lo hi : Int) (b l : List Row) : ACalls Try.prog 31 [.v (.int .i64 x), .v (.int .i64 lo), .v (.int .i64 hi)] b l (fun r b' l' => r = .v (.bool (decide (lo ≤ x ∧ x ≤ hi))) ∧ b' = b ∧ l' = l) := rinZ_spec x lo hi b l
theorem rfate_spec (f : Int × Int) (b l : List Row) : ACalls Try.prog 17 [.agg [.v (.int .i64 f.1), .v (.int .i64 f.2)]] b l (fun r b' l' => r = .v (.bool (ftB f)) ∧ b' = b ∧ l' = l) := by
 refine calls_kept a_rfate_ok rfl (by decide) ?_
 intro B g hB hR hE hA; simp only [KArgs] at hA
 simp (disch := (first | decide | omega)) only [a_rfate, hA, go_sem]
 refine ACalls.nxt (rin_spec f.1 0 3 _ _) ?_
 cases q : decide (0 ≤ f.1 ∧ f.1 ≤ 3)
 ·simp (disch := (first | decide | omega)) only [hA, go_sem]
  exact leave_pure (xs := [.v (.bool false)]) (.inr rfl) (by simp (disch := (first | decide | omega)) only [resVs, resV, go_sem, hA]) kO hR hB ⟨by unfold ftB; rw [decide_eq_false (fun h => by rw [decide_eq_false_iff_not] at q; exact q h.1)]; rfl, rfl, rfl⟩
 ·simp (disch := (first | decide | omega)) only [hA, go_sem]
  refine ACalls.nxt (rin_spec f.2 0 1000000 _ _) ?_
  simp (disch := (first | decide | omega)) only [hA, go_sem]
  exact leave_pure (xs := [.v (.bool (decide (0 ≤ f.2 ∧ f.2 ≤ 1000000)))]) (.inr rfl) (by simp (disch := (first | decide | omega)) only [resVs, resV, go_sem, hA]) kO hR hB ⟨by unfold ftB; rw [decide_eq_true_iff] at q; simp only [q, true_and, one], rfl, rfl⟩
theorem rfates_spec (v : List (Int × Int)) (hn : v.length ≤ 1000000) (b l : List Row) : ACalls Try.prog 5 [.v (.isl 2 (v.map eFt))] b l (fun r b' l' => r = .v (.bool (ftsB v)) ∧ b' = b ∧ l' = l) := by
 refine calls_kept a_rfates_ok rfl (by decide) ?_
 intro B g hB hR hE hA; simp only [KArgs] at hA
 simp (disch := (first | decide | omega)) only [a_rfates, hA, go_sem]
 refine loop_kept (ι := Nat) r_rfates0 (fun i => [(3, .v (.int .i64 i))]) 0 (fun _ => [])
  (fun i => i ≤ v.length ∧ ∀ j (h : j < v.length), j < i → ftB v[j] = true) (fun i => v.length - i) 0 ⟨Nat.zero_le _, fun j _ hj => by omega⟩ (by (repeat (first | exact hE.mono oM | refine KLt.up ?_ kL))) (by ((try simp (disch := decide) only [hA, go_sem]) <;> exact kH)) (fun e => Weak.refl _ _ _) ?_
 rintro g1 hE1 hEE1 hg1 i ⟨hi, h0⟩
 by_cases hlt : i < v.length
 ·have hg : (v.map eFt)[i]? = some [.int .i64 v[i].1, .int .i64 v[i].2] := by rw [List.getElem?_map, List.getElem?_eq_getElem hlt]; rfl
  simp (disch := (first | decide | omega)) only [hA, hg1, hg, List.length_map, go_sem]
  refine ACalls.nxt (rfate_spec v[i] _ _) ?_
  cases q : ftB v[i]
  ·simp (disch := (first | decide | omega)) only [hA, hg1, go_sem]
   exact leave_pure (xs := [.v (.bool false)]) (.inr rfl) (by simp (disch := (first | decide | omega)) only [resVs, resV, go_sem, hA, hg1]) kO hR hB ⟨by unfold ftsB; rw [List.all_eq_false.2 ⟨v[i], List.getElem_mem hlt, by rw [q]; simp⟩]; rfl, rfl, rfl⟩
  ·simp (disch := (first | decide | omega)) only [hA, hg1, go_sem]
   refine ⟨i + 1, ⟨hlt, fun j hj hji => ?_⟩, by simp only; omega, ?_⟩
   ·rcases Nat.lt_or_ge j i with h | h
    ·exact h0 j hj h
    ·obtain rfl : j = i := by omega
     exact q
   ·exact Weak.kround (p := r_rfates0) (k := 0) (by ((repeat refine (kAny_up rfl).trans ?_); exact hEE1)) (by ((try simp (disch := decide) only [hA, go_sem]) <;> exact kH)) rfl hE1 (by simp) kV hR kL
 ·obtain rfl : i = v.length := by omega
  simp (disch := (first | decide | omega)) only [hA, hg1, List.length_map, go_sem]
  exact leave_pure (xs := [.v (.bool true)]) (.inr rfl) (by simp (disch := (first | decide | omega)) only [resVs, resV, go_sem, hA, hg1]) kO hR hB ⟨by unfold ftsB; rw [List.all_eq_true.2 (fun x hx => by obtain ⟨j, hj, rfl⟩ := List.getElem_of_mem hx; exact h0 j hj hj)]; rfl, rfl, rfl⟩
def a_sameM : AFunc := ⟨2,52,[.tmp 4],(.seq (.region [⟨some 2,.box (.t 0),none⟩,⟨some 3,.box (.t 1),none⟩,⟨some 4,.mv (.c (.v (.bool false))),none⟩]) (.seq (.seq (.region [⟨some 6,.faddr 0 (.t 2),none⟩,⟨some 7,.load none (.t 6),none⟩,⟨some 8,.faddr 0 (.t 3),none⟩,⟨some 9,.load none (.t 8),none⟩,⟨some 10,.bin .neq (.t 7) (.t 9),none⟩,⟨some 11,.mv (.t 10),none⟩,⟨some 12,.faddr 1 (.t 2),some (11,false)⟩,⟨some 13,.load none (.t 12),some (11,false)⟩,⟨some 14,.faddr 1 (.t 3),some (11,false)⟩,⟨some 15,.load none (.t 14),some (11,false)⟩,⟨some 16,.bin .neq (.t 13) (.t 15),some (11,false)⟩,⟨some 17,.pick (.t 11) (.c (.v (.bool true))) (.t 16),none⟩,⟨some 18,.mv (.t 17),none⟩,⟨some 19,.faddr 2 (.t 2),some (18,false)⟩,⟨some 20,.load none (.t 19),some (18,false)⟩,⟨some 21,.faddr 2 (.t 3),some (18,false)⟩,⟨some 22,.load none (.t 21),some (18,false)⟩,⟨some 23,.bin .neq (.t 20) (.t 22),some (18,false)⟩,⟨some 24,.pick (.t 18) (.c (.v (.bool true))) (.t 23),none⟩,⟨some 25,.mv (.t 24),none⟩,⟨some 26,.faddr 3 (.t 2),some (25,false)⟩,⟨some 27,.load none (.t 26),some (25,false)⟩,⟨some 28,.len (.t 27),some (25,false)⟩,⟨some 29,.faddr 3 (.t 3),some (25,false)⟩,⟨some 30,.load none (.t 29),some (25,false)⟩,⟨some 31,.len (.t 30),some (25,false)⟩,⟨some 32,.bin .neq (.t 28) (.t 31),some (25,false)⟩,⟨some 33,.pick (.t 25) (.c (.v (.bool true))) (.t 32),none⟩]) (.cond (.t 33) (.seq (.region [⟨some 4,.mv (.c (.v (.bool false))),none⟩]) .ret) .skip)) (.seq (.seq (.region [⟨some 5,.mv (.c (.v (.int .i64 0))),none⟩]) (.block 0 (.loop (.seq (.seq (.region [⟨some 34,.mv (.t 5),none⟩,⟨some 35,.faddr 3 (.t 2),none⟩,⟨some 36,.load none (.t 35),none⟩,⟨some 37,.len (.t 36),none⟩,⟨some 38,.bin .lss (.t 34) (.t 37),none⟩]) (.cond (.t 38) .skip (.exit 0))) (.seq (.block 1 (.seq (.draw [⟨0,⟨some 41,.faddr 3 (.t 2),none⟩,[]⟩,⟨1,⟨some 42,.load none (.t 41),none⟩,[]⟩,⟨2,⟨some 43,.mv (.t 5),none⟩,[]⟩,⟨3,⟨some 44,.iaddr 1 (.t 42) (.t 43),none⟩,[]⟩,⟨4,⟨some 45,.load none (.t 44),none⟩,[]⟩,⟨5,⟨some 46,.faddr 3 (.t 3),none⟩,[]⟩,⟨6,⟨some 47,.load none (.t 46),none⟩,[]⟩,⟨7,⟨some 48,.mv (.t 5),none⟩,[]⟩,⟨8,⟨some 49,.iaddr 1 (.t 47) (.t 48),none⟩,[]⟩,⟨9,⟨some 50,.load none (.t 49),none⟩,[]⟩,⟨10,⟨some 51,.bin .neq (.t 45) (.t 50),none⟩,[]⟩]) (.cond (.t 51) (.seq (.region [⟨some 4,.mv (.c (.v (.bool false))),none⟩]) .ret) .skip))) (.region [⟨some 39,.mv (.t 5),none⟩,⟨some 40,.bin .add (.t 39) (.c (.v (.int .i64 1))),none⟩,⟨some 5,.mv (.t 40),none⟩])))))) (.seq (.region [⟨some 4,.mv (.c (.v (.bool true))),none⟩]) .ret))))⟩
theorem a_sameM_ok : cFunc Try.prog 10 = some a_sameM := by kernel_rfl
def r_sameM0 : List (Nat × Nat) := [(4, 5), (34, 51)]

noncomputable def eqB {α : Type} (a c : α) : Bool := @decide (a = c) (Classical.propDecidable _)
theorem eqB_T {α : Type} {a c : α} (h : a = c) : eqB a c = true := by unfold eqB; exact @decide_eq_true _ (Classical.propDecidable _) h
theorem eqB_F {α : Type} {a c : α} (h : a ≠ c) : eqB a c = false := by unfold eqB; exact @decide_eq_false _ (Classical.propDecidable _) h
theorem ext_gD {α : Type} {d : α} {v w : List α} (hl : v.length = w.length) (h : ∀ i, i < v.length → v.getD i d = w.getD i d) : v = w := by
 refine List.ext_getElem hl (fun i h1 h2 => ?_)
 have := h i h1
 rwa [getD_at h1, getD_at h2] at this
set_option maxRecDepth 20000 in
set_option maxHeartbeats 2000000 in
theorem sameM_spec (a c : Ms) (hn : a.body.length ≤ 1000000) (b l : List Row) : ACalls Try.prog 10 [.agg [.v (.int .i64 a.fr), .v (.int .i64 a.to), .v (.int .i64 a.nu), .v (.isl 1 (a.body.map eI))], .agg [.v (.int .i64 c.fr), .v (.int .i64 c.to), .v (.int .i64 c.nu), .v (.isl 1 (c.body.map eI))]] b l (fun r b' l' => r = .v (.bool (eqB a c)) ∧ b' = b ∧ l' = l) := by
 refine calls_kept a_sameM_ok rfl (by decide) ?_
 intro B g hB hR hE hA; simp only [KArgs] at hA
 by_cases h1 : a.fr = c.fr
 case neg =>
  have d1 : (a.fr != c.fr) = true := by simp [h1]
  simp (disch := (first | decide | omega)) only [a_sameM, hA, d1, go_sem]
  exact leave_pure (xs := [.v (.bool false)]) (.inr rfl) (by simp (disch := (first | decide | omega)) only [resVs, resV, go_sem, hA]) kO hR hB ⟨by rw [eqB_F (fun h => h1 (by rw [h]))]; rfl, rfl, rfl⟩
 have d1 : (a.fr != c.fr) = false := by simp [h1]
 by_cases h2 : a.to = c.to
 case neg =>
  have d2 : (a.to != c.to) = true := by simp [h2]
  simp (disch := (first | decide | omega)) only [a_sameM, hA, d1, d2, go_sem]
  exact leave_pure (xs := [.v (.bool false)]) (.inr rfl) (by simp (disch := (first | decide | omega)) only [resVs, resV, go_sem, hA]) kO hR hB ⟨by rw [eqB_F (fun h => h2 (by rw [h]))]; rfl, rfl, rfl⟩
 have d2 : (a.to != c.to) = false := by simp [h2]
 by_cases h3 : a.nu = c.nu
 case neg =>
  have d3 : (a.nu != c.nu) = true := by simp [h3]
  simp (disch := (first | decide | omega)) only [a_sameM, hA, d1, d2, d3, go_sem]
  exact leave_pure (xs := [.v (.bool false)]) (.inr rfl) (by simp (disch := (first | decide | omega)) only [resVs, resV, go_sem, hA]) kO hR hB ⟨by rw [eqB_F (fun h => h3 (by rw [h]))]; rfl, rfl, rfl⟩
 have d3 : (a.nu != c.nu) = false := by simp [h3]
 by_cases h4 : a.body.length = c.body.length
 case neg =>
  have d4 : ((a.body.length : Int) != (c.body.length : Int)) = true := by simp; omega
  simp (disch := (first | decide | omega)) only [a_sameM, hA, d1, d2, d3, d4, List.length_map, go_sem]
  exact leave_pure (xs := [.v (.bool false)]) (.inr rfl) (by simp (disch := (first | decide | omega)) only [resVs, resV, go_sem, hA]) kO hR hB ⟨by rw [eqB_F (fun h => h4 (by rw [h]))]; rfl, rfl, rfl⟩
 have d4 : ((a.body.length : Int) != (c.body.length : Int)) = false := by simp; omega
 simp (disch := (first | decide | omega)) only [a_sameM, hA, d1, d2, d3, d4, List.length_map, go_sem]
 refine loop_kept (ι := Nat) r_sameM0 (fun i => [(5, .v (.int .i64 i))]) 2 (fun _ => [.live 0 4 [[.v (.int .i64 a.fr), .v (.int .i64 a.to), .v (.int .i64 a.nu), .v (.isl 1 (a.body.map eI))]], .live 0 4 [[.v (.int .i64 c.fr), .v (.int .i64 c.to), .v (.int .i64 c.nu), .v (.isl 1 (c.body.map eI))]]])
  (fun i => i ≤ a.body.length ∧ ∀ j, j < i → a.body.getD j 0 = c.body.getD j 0) (fun i => a.body.length - i) 0 ⟨Nat.zero_le _, fun j hj => by omega⟩ (by (repeat (first | exact hE.mono oM | refine KLt.up ?_ kL))) (by ((try simp (disch := decide) only [hA, go_sem]) <;> exact kH)) (fun e => Weak.refl _ _ _) ?_
 rintro g1 hE1 hEE1 hg1 i ⟨hi, h0⟩
 by_cases hlt : i < a.body.length
 ·have ha := eI_get hlt
  have hc := eI_get (show i < c.body.length by omega)
  by_cases h5 : a.body.getD i 0 = c.body.getD i 0
  ·have d5 : (a.body.getD i 0 != c.body.getD i 0) = false := by rw [h5]; simp
   simp (disch := (first | decide | omega)) only [hA, hg1, ha, hc, d5, List.length_map, go_sem]
   refine ⟨i + 1, ⟨hlt, fun j hj => ?_⟩, by simp only; omega, ?_⟩
   ·rcases Nat.lt_or_ge j i with hji | hji
    ·exact h0 j hji
    ·obtain rfl : j = i := by omega
     exact h5
   ·exact Weak.kround (p := r_sameM0) (k := 2) (by ((repeat refine (kAny_up rfl).trans ?_); exact hEE1)) (by ((try simp (disch := decide) only [hA, go_sem]) <;> exact kH)) rfl hE1 (by simp) kV hR kL
  ·have d5 : (a.body.getD i 0 != c.body.getD i 0) = true := bne_iff_ne.2 h5
   simp (disch := (first | decide | omega)) only [hA, hg1, ha, hc, d5, List.length_map, go_sem]
   exact leave_pure (xs := [.v (.bool false)]) (.inr rfl) (by simp (disch := (first | decide | omega)) only [resVs, resV, go_sem, hA, hg1]) kO hR hB ⟨by rw [eqB_F (fun h => h5 (by rw [h]))]; rfl, rfl, rfl⟩
 ·obtain rfl : i = a.body.length := by omega
  simp (disch := (first | decide | omega)) only [hA, hg1, List.length_map, go_sem]
  have he : a = c := by
   have hb := ext_gD h4 h0
   cases a; cases c; simp_all
  exact leave_pure (xs := [.v (.bool true)]) (.inr rfl) (by simp (disch := (first | decide | omega)) only [resVs, resV, go_sem, hA, hg1]) kO hR hB ⟨by rw [eqB_T he]; rfl, rfl, rfl⟩
theorem vs_snoc4 {r : List (List IV)} {a c d f : IV} : vs r ++ [[.v a, .v c, .v d, .v f]] = vs (r ++ [[a, c, d, f]]) := by simp [vs]
def a_awake53 : AFunc := ⟨0,81,[.tmp 0],(.seq (.region [⟨some 0,.mv (.c (.v (.bool false))),none⟩]) (.seq (.seq (.region [⟨some 12,.bslice 1 [(.v (.bool false))] 2 [(0,(.c (.v (.bool false)))),(1,(.c (.v (.bool true))))],none⟩,⟨some 13,.len (.t 12),none⟩,⟨some 14,.mv (.c (.v (.int .i64 0))),none⟩]) (.block 0 (.loop (.seq (.region [⟨some 15,.bin .lss (.t 14) (.t 13),none⟩]) (.seq (.cond (.t 15) .skip (.exit 0)) (.seq (.block 1 (.seq (.region [⟨some 16,.iaddr 1 (.t 12) (.t 14),none⟩,⟨some 17,.load none (.t 16),none⟩,⟨some 2,.mv (.t 17),none⟩]) (.seq (.region [⟨some 19,.mv (.t 2),none⟩,⟨some 20,.build [(.v (.int .i64 0)),(.v (.int .i64 0))] [(0,1,(.c (.v (.int .i64 1)))),(1,1,(.c (.v (.int .i64 5))))],none⟩,⟨some 21,.build [(.v (.int .i64 0)),(.v (.int .i64 0))] [(0,1,(.c (.v (.int .i64 1))))],none⟩,⟨some 22,.bslice 2 [(.v (.int .i64 0)),(.v (.int .i64 0))] 2 [(0,(.t 20)),(1,(.t 21))],none⟩,⟨some 23,.call (.c (.fn 6 [])) [(.t 19),(.t 22)],none⟩,⟨some 18,.mv (.t 23),none⟩,⟨some 24,.extract 0 (.t 18),none⟩,⟨some 25,.extract 1 (.t 18),none⟩,⟨some 3,.alloc [(.v (.int .i64 0)),(.v (.bool false)),(.v .zsl),(.v .zsl),(.v .zsl)],none⟩,⟨none,.store 5 (.t 3) (.t 24),none⟩,⟨some 4,.mv (.t 25),none⟩]) (.seq (.region [⟨some 27,.load (some 5) (.t 3),none⟩,⟨some 28,.build [(.v (.int .i64 0)),(.v (.int .i64 0)),(.v (.int .i64 0)),(.v .zsl)] [(1,1,(.c (.v (.int .i64 1)))),(2,1,(.c (.v (.int .i64 7))))],none⟩,⟨some 29,.call (.c (.fn 11 [])) [(.t 27),(.t 28)],none⟩,⟨some 26,.mv (.t 29),none⟩,⟨some 30,.extract 0 (.t 26),none⟩,⟨some 31,.extract 1 (.t 26),none⟩,⟨none,.store 5 (.t 3) (.t 30),none⟩,⟨some 5,.mv (.t 31),none⟩]) (.seq (.region [⟨some 33,.load (some 5) (.t 3),none⟩,⟨some 34,.build [(.v (.int .i64 0)),(.v (.int .i64 0)),(.v (.int .i64 0)),(.v .zsl)] [(1,1,(.c (.v (.int .i64 1)))),(2,1,(.c (.v (.int .i64 8))))],none⟩,⟨some 35,.call (.c (.fn 11 [])) [(.t 33),(.t 34)],none⟩,⟨some 32,.mv (.t 35),none⟩,⟨some 36,.extract 0 (.t 32),none⟩,⟨some 37,.extract 1 (.t 32),none⟩,⟨none,.store 5 (.t 3) (.t 36),none⟩,⟨some 6,.mv (.t 37),none⟩]) (.seq (.region [⟨some 7,.mv (.c (.v (.int .i64 1))),none⟩]) (.seq (.seq (.region [⟨some 38,.mv (.t 2),none⟩]) (.cond (.t 38) (.region [⟨some 7,.mv (.c (.v (.int .i64 0))),none⟩]) .skip)) (.seq (.seq (.region [⟨some 39,.mv (.t 4),none⟩,⟨some 40,.bin .neq (.t 39) (.c (.v (.int .i64 0))),none⟩,⟨some 41,.mv (.t 40),none⟩,⟨some 42,.mv (.t 5),some (41,false)⟩,⟨some 43,.bin .neq (.t 42) (.c (.v (.int .i64 0))),some (41,false)⟩,⟨some 44,.pick (.t 41) (.c (.v (.bool true))) (.t 43),none⟩,⟨some 45,.mv (.t 44),none⟩,⟨some 46,.mv (.t 6),some (45,false)⟩,⟨some 47,.bin .neq (.t 46) (.c (.v (.int .i64 0))),some (45,false)⟩,⟨some 48,.pick (.t 45) (.c (.v (.bool true))) (.t 47),none⟩,⟨some 49,.mv (.t 48),none⟩,⟨some 50,.load (some 5) (.t 3),some (49,false)⟩,⟨some 51,.call (.c (.fn 9 [])) [(.t 50),(.c (.v (.int .i64 1)))],some (49,false)⟩,⟨some 52,.mv (.t 7),some (49,false)⟩,⟨some 53,.bin .neq (.t 51) (.t 52),some (49,false)⟩,⟨some 54,.pick (.t 49) (.c (.v (.bool true))) (.t 53),none⟩]) (.cond (.t 54) (.seq (.region [⟨some 0,.mv (.c (.v (.bool false))),none⟩]) .ret) .skip)) (.seq (.region [⟨some 56,.load (some 5) (.t 3),none⟩,⟨some 57,.call (.c (.fn 12 [])) [(.t 56),(.c (.v (.int .i64 5)))],none⟩,⟨some 55,.mv (.t 57),none⟩,⟨some 58,.extract 0 (.t 55),none⟩,⟨some 59,.extract 1 (.t 55),none⟩,⟨none,.store 5 (.t 3) (.t 58),none⟩,⟨some 8,.mv (.t 59),none⟩]) (.seq (.region [⟨some 61,.load (some 5) (.t 3),none⟩,⟨some 62,.call (.c (.fn 8 [])) [(.t 61),(.c (.v (.int .i64 1)))],none⟩,⟨some 60,.mv (.t 62),none⟩,⟨some 63,.extract 0 (.t 60),none⟩,⟨some 64,.extract 1 (.t 60),none⟩,⟨some 65,.extract 2 (.t 60),none⟩,⟨some 9,.alloc [(.v (.int .i64 0)),(.v (.bool false)),(.v .zsl),(.v .zsl),(.v .zsl)],none⟩,⟨some 10,.alloc [(.v (.int .i64 0)),(.v (.int .i64 0)),(.v (.int .i64 0)),(.v .zsl)],none⟩,⟨none,.store 5 (.t 9) (.t 63),none⟩,⟨none,.store 4 (.t 10) (.t 64),none⟩,⟨some 11,.mv (.t 65),none⟩]) (.seq (.draw [⟨0,⟨some 66,.mv (.t 8),none⟩,[]⟩,⟨1,⟨some 67,.bin .neq (.t 66) (.c (.v (.int .i64 0))),none⟩,[]⟩,⟨2,⟨some 68,.mv (.t 67),none⟩,[]⟩,⟨3,⟨some 69,.mv (.t 11),some (68,false)⟩,[]⟩,⟨4,⟨some 70,.bin .neq (.t 69) (.c (.v (.int .i64 0))),some (68,false)⟩,[]⟩,⟨5,⟨some 71,.pick (.t 68) (.c (.v (.bool true))) (.t 70),none⟩,[]⟩,⟨6,⟨some 72,.mv (.t 71),none⟩,[]⟩,⟨7,⟨some 73,.faddr 2 (.t 10),some (72,false)⟩,[]⟩,⟨8,⟨some 74,.load none (.t 73),some (72,false)⟩,[]⟩,⟨9,⟨some 75,.mv (.t 2),some (72,false)⟩,[]⟩,⟨10,⟨some 76,.call (.c (.fn 16 [])) [(.t 75)],some (72,false)⟩,[⟨some 73,.faddr 2 (.t 10),some (72,false)⟩,⟨some 74,.load none (.t 73),some (72,false)⟩]⟩,⟨11,⟨some 77,.bin .sub (.c (.v (.int .i64 8))) (.t 76),some (72,false)⟩,[]⟩,⟨12,⟨some 78,.bin .neq (.t 74) (.t 77),some (72,false)⟩,[]⟩,⟨13,⟨some 79,.pick (.t 72) (.c (.v (.bool true))) (.t 78),none⟩,[]⟩]) (.cond (.t 79) (.seq (.region [⟨some 0,.mv (.c (.v (.bool false))),none⟩]) .ret) .skip)))))))))))) (.region [⟨some 80,.bin .add (.t 14) (.c (.v (.int .i64 1))),none⟩,⟨some 14,.mv (.t 80),none⟩]))))))) (.seq (.region [⟨some 0,.mv (.c (.v (.bool true))),none⟩]) .ret)))⟩
theorem a_awake53_ok : cFunc Try.prog 4 = some a_awake53 := by kernel_rfl
def r_awake530 : List (Nat × Nat) := [(0, 0), (2, 11), (14, 80)]
def a_btoi53 : AFunc := ⟨1,4,[.tmp 2],(.seq (.region [⟨some 2,.mv (.c (.v (.int .i64 0))),none⟩]) (.seq (.seq (.region [⟨some 3,.mv (.t 0),none⟩]) (.cond (.t 3) (.seq (.region [⟨some 2,.mv (.c (.v (.int .i64 1))),none⟩]) .ret) .skip)) (.seq (.region [⟨some 2,.mv (.c (.v (.int .i64 0))),none⟩]) .ret)))⟩
theorem a_btoi53_ok : cFunc Try.prog 16 = some a_btoi53 := by kernel_rfl

def btZ (t : Bool) : Int := if t = true then 1 else 0
theorem btoi53_spec (t : Bool) (b l : List Row) : ACalls Try.prog 16 [.v (.bool t)] b l (fun r b' l' => r = .v (.int .i64 (btZ t)) ∧ b' = b ∧ l' = l) := by
 refine calls_kept a_btoi53_ok rfl (by decide) ?_
 intro B g hB hR hE hA; simp only [KArgs] at hA
 cases t
 ·simp (disch := (first | decide | omega)) only [a_btoi53, hA, go_sem]
  exact leave_pure (xs := [.v (.int .i64 0)]) (.inr rfl) (by simp (disch := (first | decide | omega)) only [resVs, resV, go_sem, hA]) kO hR hB ⟨rfl, rfl, rfl⟩
 ·simp (disch := (first | decide | omega)) only [a_btoi53, hA, go_sem]
  exact leave_pure (xs := [.v (.int .i64 1)]) (.inr rfl) (by simp (disch := (first | decide | omega)) only [resVs, resV, go_sem, hA]) kO hR hB ⟨rfl, rfl, rfl⟩
def fs53 : List (Int × Int) := [(1, 5), (1, 0)]
def m7 : Ms := ⟨0, 1, 7, []⟩
def m8 : Ms := ⟨0, 1, 8, []⟩
def n53a (t : Bool) : Nw := newR t fs53
def n53b (t : Bool) : Nw := sndN (n53a t) m7
def n53c (t : Bool) : Nw := sndN (n53b t) m8
def n53d (t : Bool) : Nw := goN (n53c t) 5
theorem f53 (t : Bool) : newE fs53 = 0 ∧ sndE (n53a t) m7 = 0 ∧ sndE (n53b t) m8 = 0 ∧ (waitN (n53c t) 1 : Int) = (if t = true then 0 else 1) ∧ goE (n53c t) 5 = 0 ∧ rcE (n53d t) 1 = 0 ∧ (rcM (n53d t) 1).nu = 8 - btZ t := by
 cases t <;> exact ⟨by kernel_rfl, by kernel_rfl, by kernel_rfl, by kernel_rfl, by kernel_rfl, by kernel_rfl, by kernel_rfl⟩
theorem nwA_open (n : Nw) : nwA n = .agg [.v (.int .i64 n.now), .v (.bool n.fifo), .v (.isl 4 (n.l.map eMs)), .v (.isl 1 (n.tm.map eI)), .v (.isl 2 (n.fates.map eFt))] := rfl
theorem eMs_open (m : Ms) : (eMs m).map AV.v = [.v (.int .i64 m.fr), .v (.int .i64 m.to), .v (.int .i64 m.nu), .v (.isl 1 (m.body.map eI))] := rfl
theorem nSend_z (n : Nw) (to nu : Int) (b l : List Row) : ACalls Try.prog 11 [.agg [.v (.int .i64 n.now), .v (.bool n.fifo), .v (.isl 4 (n.l.map eMs)), .v (.isl 1 (n.tm.map eI)), .v (.isl 2 (n.fates.map eFt))], .agg [.v (.int .i64 0), .v (.int .i64 to), .v (.int .i64 nu), .v .zsl]] b l
  (fun r b' l' => r = .tup [nwA (sndN n ⟨0, to, nu, []⟩), .v (.int .i64 (sndE n ⟨0, to, nu, []⟩))] ∧ b' = b ∧ l' = l) := by
 refine (nSend_spec n ⟨0, to, nu, []⟩ b l).le rfl (fun i x y hx hy => ?_)
 match i, hx, hy with
 | 0, hx, hy => cases hx; cases hy; exact .refl _
 | 1, hx, hy =>
   cases hx; cases hy
   refine .agg _ _ rfl (fun j u v hu hv => ?_)
   match j, hu, hv with
   | 0, hu, hv => cases hu; cases hv; exact .refl _
   | 1, hu, hv => cases hu; cases hv; exact .refl _
   | 2, hu, hv => cases hu; cases hv; exact .refl _
   | 3, hu, hv => cases hu; cases hv; exact .v _ _ (.zsl 1)
set_option maxRecDepth 20000 in
set_option maxHeartbeats 4000000 in
theorem awake53_spec (b l : List Row) : ACalls Try.prog 4 [] b l (fun r b' l' => r = .v (.bool true) ∧ b' = b ∧ l' = l) := by
 refine calls_kept a_awake53_ok rfl (by decide) ?_
 intro B g hB hR hE hA; simp only [KArgs] at hA
 simp (disch := (first | decide | omega)) only [a_awake53, hA, fillS, setFrom, cellsOf, go_sem]
 refine loop_kept (ι := Nat) r_awake530 (fun i => [(14, .v (.int .i64 i))]) 1 (fun _ => [.live 0 1 [[.v (.bool false)], [.v (.bool true)]]])
  (fun i => i ≤ 2) (fun i => 2 - i) 0 (Nat.zero_le _) (by (repeat (first | exact hE.mono oM | refine KLt.up ?_ kL))) (by ((try simp (disch := decide) only [hA, go_sem]) <;> exact kH)) (fun e => Weak.refl _ _ _) ?_
 intro g1 hE1 hEE1 hg1 i hi
 by_cases hlt : i < 2
 ·obtain ⟨t, ht⟩ : ∃ t : Bool, ([[AV.v (.bool false)], [AV.v (.bool true)]] : List (List AV))[i]? = some [.v (.bool t)] := by
   match i, hlt with
   | 0, _ => exact ⟨false, rfl⟩
   | 1, _ => exact ⟨true, rfl⟩
  obtain ⟨q1, q2, q3, q4, q5, q6, q7⟩ := f53 t
  have dlt : decide ((i : Int) < ((2 : Nat) : Int)) = true := decide_eq_true oM
  have hi2 : (0 ≤ (i : Int) ∧ (i : Int) < ((2 : Nat) : Int)) = True := eq_true oM
  have hi3 : ((i : Int) < ((2 : Nat) : Int)) = True := eq_true oM
  have hw : ∀ x : Int, (x != x) = false := fun x => by simp
  have key : ∀ (t' : Bool) (_ : t' = t), ACalls Try.prog 16 [.v (.bool t')] B [] (fun r b' l' => r = .v (.int .i64 (btZ t)) ∧ b' = B ∧ l' = []) := fun t' h => by subst h; exact btoi53_spec t' B []
  have e2 : sndE (newR t fs53) ⟨0, 1, 7, []⟩ = 0 := q2
  have e3 : sndE (sndN (newR t fs53) ⟨0, 1, 7, []⟩) ⟨0, 1, 8, []⟩ = 0 := q3
  have e4 : (waitN (sndN (sndN (newR t fs53) ⟨0, 1, 7, []⟩) ⟨0, 1, 8, []⟩) 1 : Int) = (if t = true then 0 else 1) := q4
  have e5 : goE (sndN (sndN (newR t fs53) ⟨0, 1, 7, []⟩) ⟨0, 1, 8, []⟩) 5 = 0 := q5
  have e6 : rcE (goN (sndN (sndN (newR t fs53) ⟨0, 1, 7, []⟩) ⟨0, 1, 8, []⟩) 5) 1 = 0 := q6
  have e7 : (rcM (goN (sndN (sndN (newR t fs53) ⟨0, 1, 7, []⟩) ⟨0, 1, 8, []⟩) 5) 1).nu = 8 - btZ t := q7
  have hbt : 0 ≤ btZ t ∧ btZ t ≤ 1 := by unfold btZ; split <;> omega
  simp (disch := (first | decide | omega)) only [hA, hg1, dlt, hi2, hi3, ht, fillA, fillS, setFrom, cellsOf, List.replicate_succ, List.replicate_zero, go_sem]
  refine ACalls.frzB (i := 1) (ver := 0) (sz := 2) (rows := fs53.map eFt) (args' := [.v (.bool t), .v (.isl 2 (fs53.map eFt))]) rfl (by simp [frz, frz0, fs53, eFt]) ?_
  refine ACalls.nxt (nNew_spec t fs53 _ _) ?_
  rw [q1]
  simp (disch := (first | decide | omega)) only [hA, hg1, nwA_open, setFrom, cellsOf, fillA, go_sem]
  refine ACalls.nxt (nSend_z (newR t fs53) 1 7 _ _) ?_
  rw [e2]
  obtain ⟨n1, hn1⟩ : ∃ n1, n1 = sndN (newR t fs53) ⟨0, 1, 7, []⟩ := ⟨_, rfl⟩
  rw [← hn1] at e3 e4 e5 e6 e7 ⊢
  simp (disch := (first | decide | omega)) only [hA, hg1, nwA_open, setFrom, cellsOf, fillA, go_sem]
  refine ACalls.nxt (nSend_z n1 1 8 _ _) ?_
  rw [e3]
  obtain ⟨n2, hn2⟩ : ∃ n2, n2 = sndN n1 ⟨0, 1, 8, []⟩ := ⟨_, rfl⟩
  rw [← hn2] at e4 e5 e6 e7 ⊢
  have hW := fun b l => nWait_spec n2 1 b l
  have hG := fun b l => nGo_spec n2 5 b l
  rw [e4] at hW
  rw [e5] at hG
  obtain ⟨n3, hn3⟩ : ∃ n3, n3 = goN n2 5 := ⟨_, rfl⟩
  rw [← hn3] at e6 e7 hG
  have hV := fun b l => nRecv_spec n3 1 b l
  rw [e6] at hV
  obtain ⟨n4, hn4⟩ : ∃ n4, n4 = rcN n3 1 := ⟨_, rfl⟩
  obtain ⟨mm, hmm⟩ : ∃ mm, mm = rcM n3 1 := ⟨_, rfl⟩
  rw [← hn4, ← hmm] at hV
  rw [← hmm] at e7
  unfold eNw at hW hG hV
  simp only [List.map_cons, List.map_nil] at hW hG hV
  clear hn1 hn2 hn3 hn4 hmm q1 q2 q3 q4 q5 q6 q7 e2 e3 e5 e6
  simp (disch := (first | decide | omega)) only [hA, hg1, nwA_open, setFrom, cellsOf, fillA, go_sem]
  cases t
  case' false =>
   have d1 : (if false = true then (0 : Int) else 1) = 1 := rfl
   rw [d1] at hW
   have hb : btZ false = 0 := rfl
   rw [hb] at e7
   have dd : ((1 : Int) != 1) = false := rfl
   have hne : (mm.nu != 8 - btZ false) = false := by rw [e7, hb]; rfl
   simp (disch := (first | decide | omega)) only [hA, hg1, nwA_open, setFrom, cellsOf, fillA, go_sem]
  case' true =>
   have d1 : (if true = true then (0 : Int) else 1) = 0 := rfl
   rw [d1] at hW
   have hb : btZ true = 1 := rfl
   rw [hb] at e7
   have dd : ((0 : Int) != 0) = false := rfl
   have hne : (mm.nu != 8 - btZ true) = false := by rw [e7, hb]; rfl
   simp (disch := (first | decide | omega)) only [hA, hg1, nwA_open, setFrom, cellsOf, fillA, go_sem]
  all_goals
   have z0 : ((0 : Int) != 0) = false := rfl
   simp (disch := (first | decide | omega)) only [hA, hg1, z0, nwA_open, setFrom, cellsOf, fillA, go_sem]
   refine ACalls.nxt (hW _ _) ?_
   simp (disch := (first | decide | omega)) only [hA, hg1, dd, z0, nwA_open, setFrom, cellsOf, fillA, go_sem]
   refine ACalls.nxt (hG _ _) ?_
   simp (disch := (first | decide | omega)) only [hA, hg1, nwA_open, setFrom, cellsOf, fillA, go_sem]
   refine ACalls.nxt (hV _ _) ?_
   simp (disch := (first | decide | omega)) only [hA, hg1, z0, nwA_open, eMs_open, setFrom, cellsOf, fillA, go_sem]
   refine ACalls.nxt (btoi53_spec _ _ _) ?_
   simp (disch := (first | decide | omega)) only [hA, hg1, hne, z0, nwA_open, eMs_open, setFrom, cellsOf, fillA, go_sem]
   refine ⟨i + 1, hlt, by simp only; omega, ?_⟩
   exact Weak.kround (p := r_awake530) (k := 1) (by ((repeat refine (kAny_up rfl).trans ?_); exact hEE1)) (by ((try simp (disch := decide) only [hA, hg1, go_sem]) <;> exact kH)) rfl hE1 (by simp) kV hR kL
 ·obtain rfl : i = 2 := by omega
  have dlt : decide (((2 : Nat) : Int) < ((2 : Nat) : Int)) = false := by simp
  simp (disch := (first | decide | omega)) only [hA, hg1, dlt, go_sem]
  exact leave_pure (xs := [.v (.bool true)]) (.inr rfl) (by simp (disch := (first | decide | omega)) only [resVs, resV, go_sem, hA, hg1]) kO hR hB ⟨rfl, rfl, rfl⟩
theorem eqB_refl {α : Type} (a : α) : eqB a a = true := eqB_T rfl
theorem fiR_in {n : Nw} {to : Int} (h : 0 ≤ fiR n to) : ∃ k : Nat, fiR n to = k ∧ k < n.l.length ∧ arB n to k = true ∧ ∀ j, j < k → arB n to j = false := by
 unfold fiR wIdx at *
 cases hf : (List.range n.l.length).find? (arB n to) with
 | none => rw [hf] at h; cases h
 | some k =>
   refine ⟨k, rfl, List.mem_range.1 (List.mem_of_find?_eq_some hf), List.find?_some hf, fun j hj => ?_⟩
   obtain ⟨as1, bs1, h1, h2⟩ := List.find?_eq_some_iff_append.1 hf |>.2
   have hjr : (List.range n.l.length)[j]? = some j := List.getElem?_range (by have := List.mem_range.1 (List.mem_of_find?_eq_some hf); omega)
   have hlen : as1.length = k := by
    have h3 : (List.range n.l.length)[as1.length]? = some k := by rw [h1]; simp
    have h4 := (List.getElem?_eq_some_iff.1 h3).1
    rw [List.length_range] at h4
    rw [List.getElem?_range h4] at h3
    exact Option.some.inj h3
   rw [h1, List.getElem?_append_left oM] at hjr
   have := h2 j (List.mem_of_getElem? hjr)
   simpa using this
end Go.Proofs.Ytpkemmchpccjdaa
