/- Texts of one proof, laid together: Q8. No condition. -/
import Derived.Test.YtnihdkfmmbpilaaDoorPK22
import Derived.Test.YtnihdkfmmbpilaaDoorPK18
import Derived.Test.YtnihdkfmmbpilaaDoorPK15
import Derived.Test.YtnihdkfmmbpilaaDoorPK14
import Derived.Test.YtnihdkfmmbpilaaDoorPK20
namespace Go.Proofs.YtnihdkfmmbpilaaDoor
set_option linter.unusedVariables false
set_option linter.unusedSimpArgs false
attribute [local go_sem ↓] run_skip run_region run_draw run_both run_seq run_block run_exit run_ret run_cond atN_app seqC_normal seqC_exit seqC_ret seqQ_normal seqQ_exit seqQ_ret blkQ_normal blkQ_exit blkQ_ret runOps_nil runOps_cons runD_nil runD_cons grdO_true grdO_false grdD_true grdD_false ifC_true ifC_false opS_val opS_call opS_two opK_app dS_val dS_call dS_two dK_app kUp_same kUp_ne
attribute [local go_sem] rechks_nil rechks_cons rechk gcase_true gcase_false ex_val ex_val0 gd_none gd_some ev_t ev_c evs_nil evs_cons evo_some evo_none hget_at hget_first hsetB_at hsetB_first hsetL_at hsetL_first ofOpt_some aop aload astore aslice aappend aiaddr aiaddrA afaddr alen alenS acopy amm acall alookup amupdate alenM atostr aappz comma keyEq apick binV binVB binVS isSh intOp strOp boolOp shOp eqC eqF and2 cellsOf setFrom fillA fillS rd rdI elems mk bounds AV.cell List.all_cons List.all_nil Bool.and_true Bool.true_and Bool.and_self List.length_cons List.length_nil List.length_append Nat.reduceAdd Nat.reduceSub Nat.reduceMul Nat.zero_add Nat.add_zero List.cons_append List.nil_append List.append_assoc List.append_nil List.getElem?_cons_zero List.getElem?_cons_succ List.getElem?_nil List.set_cons_zero List.set_cons_succ List.drop_zero List.drop_succ_cons List.take_zero List.take_succ_cons List.take_nil List.drop_nil List.map_cons List.map_nil Option.map_some if_true if_false Bool.false_eq_true and_self true_and and_true Nat.reduceLeDiff Nat.reduceLT Nat.le_refl Nat.reduceEqDiff ite_true ite_false beq_self_eq_true beq_true beq_false Bool.not_true Bool.not_false Bool.true_beq Bool.false_beq map_vs vs_len vs_get vs_take vs_drop vs_snoc1 vs_snoc2 vs_snoc3 vs_snoc5 vs_set1 vs_set2 vs_rep wrap_id le_T lt_T le_F lt_F leI_T ltI_T leI_F ltI_F geI gtI get_T decide_true decide_false room List.getElem?_map List.length_map List.length_take Int.toNat_natCast Nat.min_def Nat.min_self nth_kOf put_kOf put_kNo kOv_cons kOv_nil KHas KArgs List.getElem_cons_zero List.getElem_cons_succ
def a_KeepsL : AFunc := ⟨2,204,[.tmp 4],(.seq (.region [⟨some 2,.box (.t 0),none⟩,⟨some 4,.mv (.c (.v (.bool false))),none⟩]) (.seq (.region [⟨some 26,.load (some 1) (.t 2),none⟩,⟨some 27,.call (.c (.fn 20 [])) [(.t 26)],none⟩,⟨some 5,.mv (.t 27),none⟩]) (.seq (.seq (.region [⟨some 28,.call (.c (.fn 6 [])) [],none⟩,⟨some 29,.not (.t 28),none⟩,⟨some 30,.mv (.t 29),none⟩,⟨some 31,.load (some 1) (.t 2),some (30,false)⟩,⟨some 32,.call (.c (.fn 7 [])) [(.t 31)],some (30,false)⟩,⟨some 33,.not (.t 32),some (30,false)⟩,⟨some 34,.pick (.t 30) (.c (.v (.bool true))) (.t 33),none⟩,⟨some 35,.mv (.t 34),none⟩,⟨some 36,.mv (.t 5),some (35,false)⟩,⟨some 37,.len (.t 36),some (35,false)⟩,⟨some 38,.bin .gtr (.t 37) (.c (.v (.int .i64 24))),some (35,false)⟩,⟨some 39,.pick (.t 35) (.c (.v (.bool true))) (.t 38),none⟩,⟨some 40,.mv (.t 39),none⟩,⟨some 41,.load (some 1) (.t 2),some (40,false)⟩,⟨some 42,.call (.c (.fn 21 [])) [(.t 41)],some (40,false)⟩,⟨some 43,.not (.t 42),some (40,false)⟩,⟨some 44,.pick (.t 40) (.c (.v (.bool true))) (.t 43),none⟩]) (.cond (.t 44) (.seq (.region [⟨some 45,.call (.c (.fn 6 [])) [],none⟩,⟨some 4,.mv (.t 45),none⟩]) .ret) .skip)) (.seq (.region [⟨some 46,.mv (.t 1),none⟩,⟨some 47,.conv .i64 (.t 46),none⟩,⟨some 48,.bin .rem (.t 47) (.c (.v (.int .i64 8))),none⟩,⟨some 49,.bin .add (.c (.v (.int .i64 1))) (.t 48),none⟩,⟨some 6,.mv (.t 49),none⟩]) (.seq (.region [⟨some 51,.load (some 1) (.t 2),none⟩,⟨some 52,.mv (.t 6),none⟩,⟨some 53,.call (.c (.fn 22 [])) [(.t 51),(.t 52)],none⟩,⟨some 50,.mv (.t 53),none⟩,⟨some 54,.extract 0 (.t 50),none⟩,⟨some 55,.extract 1 (.t 50),none⟩,⟨some 7,.mv (.t 54),none⟩,⟨some 8,.mv (.t 55),none⟩]) (.seq (.region [⟨some 57,.load (some 1) (.t 2),none⟩,⟨some 58,.mv (.t 6),none⟩,⟨some 59,.call (.c (.fn 23 [])) [(.t 57),(.t 58)],none⟩,⟨some 56,.mv (.t 59),none⟩,⟨some 60,.extract 0 (.t 56),none⟩,⟨some 61,.extract 1 (.t 56),none⟩,⟨some 9,.mv (.t 60),none⟩,⟨some 10,.mv (.t 61),none⟩]) (.seq (.region [⟨some 63,.load (some 1) (.t 2),none⟩,⟨some 64,.call (.c (.fn 24 [])) [(.t 63)],none⟩,⟨some 62,.mv (.t 64),none⟩,⟨some 65,.extract 0 (.t 62),none⟩,⟨some 66,.extract 1 (.t 62),none⟩,⟨some 67,.extract 2 (.t 62),none⟩,⟨some 11,.mv (.t 65),none⟩,⟨some 12,.mv (.t 66),none⟩,⟨some 13,.mv (.t 67),none⟩]) (.seq (.seq (.region [⟨some 68,.mv (.t 8),none⟩,⟨some 69,.bin .neq (.t 68) (.c (.v (.int .i64 0))),none⟩,⟨some 70,.mv (.t 69),none⟩,⟨some 71,.mv (.t 10),some (70,false)⟩,⟨some 72,.bin .neq (.t 71) (.c (.v (.int .i64 0))),some (70,false)⟩,⟨some 73,.pick (.t 70) (.c (.v (.bool true))) (.t 72),none⟩,⟨some 74,.mv (.t 73),none⟩,⟨some 75,.mv (.t 13),some (74,false)⟩,⟨some 76,.bin .neq (.t 75) (.c (.v (.int .i64 0))),some (74,false)⟩,⟨some 77,.pick (.t 74) (.c (.v (.bool true))) (.t 76),none⟩,⟨some 78,.mv (.t 77),none⟩,⟨some 79,.load (some 1) (.t 2),some (78,false)⟩,⟨some 80,.mv (.t 6),some (78,false)⟩,⟨some 81,.mv (.t 7),some (78,false)⟩,⟨some 82,.call (.c (.fn 25 [])) [(.t 79),(.t 80),(.t 81)],some (78,false)⟩,⟨some 83,.not (.t 82),some (78,false)⟩,⟨some 84,.pick (.t 78) (.c (.v (.bool true))) (.t 83),none⟩,⟨some 85,.mv (.t 84),none⟩,⟨some 86,.load (some 1) (.t 2),some (85,false)⟩,⟨some 87,.mv (.t 6),some (85,false)⟩,⟨some 88,.mv (.t 7),some (85,false)⟩,⟨some 89,.call (.c (.fn 12 [])) [(.t 86),(.t 87),(.t 88)],some (85,false)⟩,⟨some 90,.not (.t 89),some (85,false)⟩,⟨some 91,.pick (.t 85) (.c (.v (.bool true))) (.t 90),none⟩]) (.cond (.t 91) (.seq (.region [⟨some 4,.mv (.c (.v (.bool false))),none⟩]) .ret) .skip)) (.seq (.region [⟨some 14,.mv (.c (.v (.int .i64 0))),none⟩,⟨some 15,.mv (.c (.v (.int .i64 0))),none⟩]) (.seq (.seq (.region [⟨some 92,.mv (.t 5),none⟩,⟨some 93,.len (.t 92),none⟩,⟨some 94,.mv (.c (.v (.int .i64 0))),none⟩]) (.block 0 (.loop (.seq (.region [⟨some 95,.bin .lss (.t 94) (.t 93),none⟩]) (.seq (.cond (.t 95) .skip (.exit 0)) (.seq (.block 1 (.seq (.region [⟨some 96,.mv (.t 94),none⟩,⟨some 97,.iaddr 2 (.t 92) (.t 94),none⟩,⟨some 98,.load (some 2) (.t 97),none⟩,⟨some 17,.alloc [(.v (.int .i64 0)),(.v (.int .i64 0))],none⟩,⟨some 16,.mv (.t 96),none⟩,⟨none,.store 2 (.t 17) (.t 98),none⟩]) (.seq (.region [⟨some 99,.mv (.t 5),none⟩,⟨some 100,.len (.t 99),none⟩,⟨some 101,.mv (.c (.v (.int .i64 0))),none⟩]) (.block 2 (.loop (.seq (.region [⟨some 102,.bin .lss (.t 101) (.t 100),none⟩]) (.seq (.cond (.t 102) .skip (.exit 2)) (.seq (.block 3 (.seq (.region [⟨some 103,.mv (.t 101),none⟩,⟨some 104,.iaddr 2 (.t 99) (.t 101),none⟩,⟨some 105,.load (some 2) (.t 104),none⟩,⟨some 19,.alloc [(.v (.int .i64 0)),(.v (.int .i64 0))],none⟩,⟨some 18,.mv (.t 103),none⟩,⟨none,.store 2 (.t 19) (.t 105),none⟩]) (.seq (.region [⟨some 107,.load (some 1) (.t 2),none⟩,⟨some 108,.load (some 2) (.t 17),none⟩,⟨some 109,.load (some 2) (.t 19),none⟩,⟨some 110,.call (.c (.fn 26 [])) [(.t 107),(.t 108),(.t 109)],none⟩,⟨some 106,.mv (.t 110),none⟩,⟨some 111,.extract 0 (.t 106),none⟩,⟨some 112,.extract 1 (.t 106),none⟩,⟨some 20,.mv (.t 111),none⟩,⟨some 21,.mv (.t 112),none⟩]) (.seq (.region [⟨some 114,.load (some 1) (.t 2),none⟩,⟨some 115,.load (some 2) (.t 17),none⟩,⟨some 116,.load (some 2) (.t 19),none⟩,⟨some 117,.call (.c (.fn 27 [])) [(.t 114),(.t 115),(.t 116)],none⟩,⟨some 113,.mv (.t 117),none⟩,⟨some 118,.extract 0 (.t 113),none⟩,⟨some 119,.extract 1 (.t 113),none⟩,⟨some 22,.mv (.t 118),none⟩,⟨some 23,.mv (.t 119),none⟩]) (.seq (.draw [⟨0,⟨some 121,.mv (.t 7),none⟩,[]⟩,⟨1,⟨some 122,.faddr 0 (.t 17),none⟩,[]⟩,⟨2,⟨some 123,.load none (.t 122),none⟩,[]⟩,⟨3,⟨some 124,.iaddr 1 (.t 121) (.t 123),none⟩,[]⟩,⟨4,⟨some 125,.load none (.t 124),none⟩,[]⟩,⟨5,⟨some 126,.faddr 1 (.t 17),none⟩,[]⟩,⟨6,⟨some 127,.load none (.t 126),none⟩,[]⟩,⟨7,⟨some 128,.bin .sub (.t 127) (.c (.v (.int .i64 1))),none⟩,[]⟩,⟨8,⟨some 129,.iaddr 1 (.t 125) (.t 128),none⟩,[]⟩,⟨9,⟨some 130,.load none (.t 129),none⟩,[]⟩,⟨10,⟨some 131,.mv (.t 7),none⟩,[]⟩,⟨11,⟨some 132,.faddr 0 (.t 19),none⟩,[]⟩,⟨12,⟨some 133,.load none (.t 132),none⟩,[]⟩,⟨13,⟨some 134,.iaddr 1 (.t 131) (.t 133),none⟩,[]⟩,⟨14,⟨some 135,.load none (.t 134),none⟩,[]⟩,⟨15,⟨some 136,.faddr 1 (.t 19),none⟩,[]⟩,⟨16,⟨some 137,.load none (.t 136),none⟩,[]⟩,⟨17,⟨some 138,.bin .sub (.t 137) (.c (.v (.int .i64 1))),none⟩,[]⟩,⟨18,⟨some 139,.iaddr 1 (.t 135) (.t 138),none⟩,[]⟩,⟨19,⟨some 140,.load none (.t 139),none⟩,[]⟩,⟨20,⟨some 141,.call (.c (.fn 28 [])) [(.t 130),(.t 140)],none⟩,[]⟩,⟨21,⟨some 120,.mv (.t 141),none⟩,[]⟩,⟨22,⟨some 142,.extract 0 (.t 120),none⟩,[]⟩,⟨23,⟨some 143,.extract 1 (.t 120),none⟩,[]⟩,⟨24,⟨some 24,.mv (.t 142),none⟩,[]⟩,⟨25,⟨some 25,.mv (.t 143),none⟩,[]⟩]) (.seq (.seq (.region [⟨some 144,.mv (.t 21),none⟩,⟨some 145,.bin .neq (.t 144) (.c (.v (.int .i64 0))),none⟩,⟨some 146,.mv (.t 145),none⟩,⟨some 147,.mv (.t 23),some (146,false)⟩,⟨some 148,.bin .neq (.t 147) (.c (.v (.int .i64 0))),some (146,false)⟩,⟨some 149,.pick (.t 146) (.c (.v (.bool true))) (.t 148),none⟩,⟨some 150,.mv (.t 149),none⟩,⟨some 151,.mv (.t 25),some (150,false)⟩,⟨some 152,.bin .neq (.t 151) (.c (.v (.int .i64 0))),some (150,false)⟩,⟨some 153,.pick (.t 150) (.c (.v (.bool true))) (.t 152),none⟩,⟨some 154,.mv (.t 153),none⟩,⟨some 155,.mv (.t 20),some (154,false)⟩,⟨some 156,.mv (.t 155),some (154,false)⟩,⟨some 157,.mv (.t 24),some (156,true)⟩,⟨some 158,.bin .neq (.t 157) (.c (.v (.int .i64 (-1)))),some (156,true)⟩,⟨some 159,.pick (.t 156) (.t 158) (.c (.v (.bool false))),some (154,false)⟩,⟨some 160,.pick (.t 154) (.c (.v (.bool true))) (.t 159),none⟩]) (.cond (.t 160) (.seq (.region [⟨some 4,.mv (.c (.v (.bool false))),none⟩]) .ret) .skip)) (.seq (.seq (.region [⟨some 161,.mv (.t 20),none⟩]) (.cond (.t 161) (.region [⟨some 162,.mv (.t 15),none⟩,⟨some 163,.bin .add (.t 162) (.c (.v (.int .i64 1))),none⟩,⟨some 15,.mv (.t 163),none⟩]) .skip)) (.seq (.region [⟨some 164,.mv (.t 16),none⟩,⟨some 165,.mv (.t 18),none⟩,⟨some 166,.bin .lss (.t 164) (.t 165),none⟩,⟨some 167,.mv (.t 166),none⟩,⟨some 168,.mv (.t 22),some (167,true)⟩,⟨some 169,.pick (.t 167) (.t 168) (.c (.v (.bool false))),none⟩,⟨some 170,.mv (.t 169),none⟩,⟨some 171,.mv (.t 24),some (170,true)⟩,⟨some 172,.bin .neq (.t 171) (.c (.v (.int .i64 2))),some (170,true)⟩,⟨some 173,.pick (.t 170) (.t 172) (.c (.v (.bool false))),none⟩]) (.cond (.t 173) (.region [⟨some 174,.mv (.t 14),none⟩,⟨some 175,.bin .add (.t 174) (.c (.v (.int .i64 1))),none⟩,⟨some 14,.mv (.t 175),none⟩]) .skip))))))))) (.region [⟨some 176,.bin .add (.t 101) (.c (.v (.int .i64 1))),none⟩,⟨some 101,.mv (.t 176),none⟩]))))))))) (.region [⟨some 177,.bin .add (.t 94) (.c (.v (.int .i64 1))),none⟩,⟨some 94,.mv (.t 177),none⟩]))))))) (.seq (.region [⟨some 178,.mv (.t 14),none⟩,⟨some 179,.mv (.t 9),none⟩,⟨some 180,.bin .eql (.t 178) (.t 179),none⟩,⟨some 181,.mv (.t 180),none⟩,⟨some 182,.mv (.t 15),some (181,true)⟩,⟨some 183,.mv (.t 11),some (181,true)⟩,⟨some 184,.bin .eql (.t 182) (.t 183),some (181,true)⟩,⟨some 185,.pick (.t 181) (.t 184) (.c (.v (.bool false))),none⟩,⟨some 186,.mv (.t 185),none⟩,⟨some 187,.mv (.t 11),some (186,true)⟩,⟨some 188,.mv (.t 12),some (186,true)⟩,⟨some 189,.bin .add (.t 187) (.t 188),some (186,true)⟩,⟨some 190,.mv (.t 5),some (186,true)⟩,⟨some 191,.len (.t 190),some (186,true)⟩,⟨some 192,.mv (.t 5),some (186,true)⟩,⟨some 193,.len (.t 192),some (186,true)⟩,⟨some 194,.bin .sub (.t 193) (.c (.v (.int .i64 1))),some (186,true)⟩,⟨some 195,.bin .mul (.t 191) (.t 194),some (186,true)⟩,⟨some 196,.bin .quo (.t 195) (.c (.v (.int .i64 2))),some (186,true)⟩,⟨some 197,.bin .eql (.t 189) (.t 196),some (186,true)⟩,⟨some 198,.pick (.t 186) (.t 197) (.c (.v (.bool false))),none⟩,⟨some 199,.mv (.t 198),none⟩,⟨some 200,.mv (.t 9),some (199,true)⟩,⟨some 201,.mv (.t 12),some (199,true)⟩,⟨some 202,.bin .leq (.t 200) (.t 201),some (199,true)⟩,⟨some 203,.pick (.t 199) (.t 202) (.c (.v (.bool false))),none⟩,⟨some 4,.mv (.t 203),none⟩]) .ret)))))))))))⟩
theorem a_KeepsL_ok : cFunc Tryd.prog 5 = some a_KeepsL := by kernel_rfl
def r_KeepsL0 : List (Nat × Nat) := [(4, 4), (14, 25), (94, 177)]
def r_KeepsL1 : List (Nat × Nat) := [(4, 4), (14, 15), (18, 25), (101, 176)]

def sqC (e : Nat → Nat → Nat) (N i j : Nat) : Nat := sumTo (fun a => sumTo (e a) N) i + sumTo (e i) j
theorem sqC_zero {e : Nat → Nat → Nat} {N : Nat} : sqC e N 0 0 = 0 := rfl
theorem sqC_step {e : Nat → Nat → Nat} {N i j : Nat} : sqC e N i (j + 1) = sqC e N i j + e i j := by unfold sqC; rw [sumTo]; omega
theorem sqC_next {e : Nat → Nat → Nat} {N i : Nat} : sqC e N i N = sqC e N (i + 1) 0 := by unfold sqC; rw [sumTo, sumTo]; rfl
theorem sqC_le {e : Nat → Nat → Nat} (h : ∀ a b, e a b ≤ 1) {N i j : Nat} (hN : N ≤ 24) (hi : i ≤ N) (hj : j ≤ N) : sqC e N i j ≤ 1000 := by
 unfold sqC
 have h1 : sumTo (fun a => sumTo (e a) N) i ≤ i * 24 := sumTo_le (fun a _ => by
  have := sumTo_le (f := e a) (m := 1) (n := N) (fun b _ => h a b)
  omega)
 have h2 := sumTo_le (f := e i) (m := 1) (n := j) (fun b _ => h i b)
 have h3 : i * 24 ≤ 24 * 24 := Nat.mul_le_mul oM oM
 omega
theorem sqC_all {e : Nat → Nat → Nat} : ∀ {N : Nat}, sumTo (fun a => sumTo (e a) N) N = cLat (fun j i => e j i + e i j) N + sumTo (fun a => e a a) N
 | 0 => rfl
 | N + 1 => by
   have ih := sqC_all (e := e) (N := N)
   have h1 : sumTo (fun a => sumTo (e a) (N + 1)) N = sumTo (fun a => sumTo (e a) N) N + sumTo (fun a => e a N) N := by
    rw [← sumTo_add]; exact sumTo_congr (fun a _ => rfl)
   have h2 : cLat (fun j i => e j i + e i j) (N + 1) = cLat (fun j i => e j i + e i j) N + (sumTo (fun j => e j N) N + sumTo (fun j => e N j) N) := by
    unfold cLat
    rw [sumTo, sumTo_add]
   rw [sumTo, h1, h2, sumTo, sumTo]
   have h3 : sumTo (e N) N = sumTo (fun j => e N j) N := rfl
   omega
noncomputable def hbN (t : Tr) (a b : Nat) : Nat := if hpB t a b = true then 1 else 0
noncomputable def erQ (t : Tr) (k a b : Nat) : Nat := if (decide (a < b) && (concB2 t (idN t a) (idN t b) && !decide (cmN t k a b = 2))) = true then 1 else 0
theorem hbN_le {t : Tr} (a b : Nat) : hbN t a b ≤ 1 := by unfold hbN; split <;> omega
theorem erQ_le {t : Tr} {k : Nat} (a b : Nat) : erQ t k a b ≤ 1 := by unfold erQ; split <;> omega
theorem hpB_irr {t : Tr} {a : Nat} : hpB t a a = false := by unfold hpB befB; simp
theorem hpB_asym {t : Tr} (hv : Vok t) {a b : Nat} (ha : a < (ids t).length) (hb : b < (ids t).length) (h : hpB t a b = true) : hpB t b a = false := by
 rw [Bool.eq_false_iff]
 intro h2
 have h1 := rk_lt hv (idN_mem hb) ((befB_iff hv (idN_mem ha) (idN_mem hb)).1 h)
 have h3 := rk_lt hv (idN_mem ha) ((befB_iff hv (idN_mem hb) (idN_mem ha)).1 h2)
 omega
theorem hbN_all {t : Tr} (hv : Vok t) : sqC (hbN t) (ids t).length (ids t).length 0 = cLat (orN t) (ids t).length := by
 unfold sqC
 rw [sqC_all, sumTo_zero.2 (fun i _ => by unfold hbN; rw [hpB_irr]; rfl)]
 show cLat _ _ + 0 + 0 = _
 simp only [Nat.add_zero]
 refine cLat_congr (fun j i hji hi => ?_)
 unfold hbN orN
 cases h1 : hpB t j i with
 | true => rw [hpB_asym hv oM hi h1]; rfl
 | false => cases hpB t i j <;> rfl
theorem erQ_all {t : Tr} {k : Nat} : sqC (erQ t k) (ids t).length (ids t).length 0 = cLat (erN t k) (ids t).length := by
 unfold sqC
 rw [sqC_all, sumTo_zero.2 (fun i _ => by unfold erQ; simp)]
 show cLat _ _ + 0 + 0 = _
 simp only [Nat.add_zero]
 refine cLat_congr (fun j i hji hi => ?_)
 have e2 : erQ t k i j = 0 := by unfold erQ; rw [decide_eq_false oM]; rfl
 rw [e2, Nat.add_zero]
 unfold erQ erN
 have hne := idN_inj (t := t) hi hji
 have hc : concB2 t (idN t j) (idN t i) = unB t j i := by
  rw [unB_hpB hi oM]
  unfold concB2 hpB
  rw [decide_eq_false hne]
  cases befB t (idN t j) (idN t i) <;> cases befB t (idN t i) (idN t j) <;> rfl
 rw [hc, decide_eq_true hji, Bool.true_and]
theorem fcs_cmp {t : Tr} (hv : Vok t) {k : Nat} (hk : 1 ≤ k) {x y : Nat × Nat} (hx : x ∈ ids t) (h : Hb t x y) : cmpV (fcs t k x) (fcs t k y) = -1 := by
 have hg : ∀ z c, c < k → (fcs t k z).getD c 0 = (fc t k z c : Int) := fun z c hc => by unfold fcs; rw [fl_getD hc]
 have h1 : leqV (fcs t k x) (fcs t k y) = true := by
  rw [leqV_iff]
  intro c hc
  rw [fcs_len] at hc
  rw [hg _ _ hc, hg _ _ hc]
  have := fc_hb hv k hx h c
  omega
 have h2 : leqV (fcs t k y) (fcs t k x) = false := by
  rw [Bool.eq_false_iff]
  intro h3
  rw [leqV_iff] at h3
  have hm : y.1 % k < k := Nat.mod_lt _ oM
  have h4 := h3 (y.1 % k) (by rw [fcs_len]; exact hm)
  rw [hg _ _ hm, hg _ _ hm] at h4
  have := fc_hb hv k hx h (y.1 % k)
  rw [if_pos rfl] at this
  omega
 unfold cmpV
 rw [h1, h2]
 rfl
noncomputable def fsQ (t : Tr) (k : Nat) : List (List (List Int)) := fl t.length fun p => fl (evsOf t p).length fun i => fcs t k (p, i + 1)
theorem flQ_map {α β : Type} {n : Nat} {f : Nat → α} {g : α → β} : (fl n f).map g = fl n fun i => g (f i) := by unfold fl; rw [List.map_map]; rfl
theorem fsAll_Q {t : Tr} {k : Nat} : fsAll t k = (fsQ t k).map eMq := by
 unfold fsQ fsAll
 rw [flQ_map]
 refine fl_congr (fun p hp => ?_)
 unfold eMq fsRow
 rw [flQ_map]
 rfl
theorem cuB_Q {t : Tr} {k : Nat} {x : Nat × Nat} (hx : x ∈ ids t) : cuB (fsQ t k) x = fcs t k x := by
 obtain ⟨p, i⟩ := x
 obtain ⟨i, rfl⟩ : ∃ j, i = j + 1 := ⟨i - 1, by have := mem_pos hx; simp only at this; omega⟩
 obtain ⟨hp, hi⟩ := mem_ids2.1 hx
 unfold cuB fsQ
 rw [fl_getD hp, Nat.add_sub_cancel, fl_getD hi]
theorem fsQ_chk {t : Tr} (hval : validL t = true) {k : Nat} (h1 : 1 ≤ k) (h8 : k ≤ 8) (hC : (ids t).length ≤ 1000000) : chkB t k (fsQ t k) = true := by
 have hv := vok hval
 unfold chkB
 rw [hval, decide_eq_true (show (1 : Int) ≤ k ∧ (k : Int) ≤ 8 by omega), Int.toNat_natCast, Bool.true_and, Bool.true_and, Bool.and_eq_true]
 have hl : (fsQ t k).length = t.length := fl_len
 refine ⟨?_, ?_⟩
 ·unfold fitB
  rw [decide_eq_true hl, Bool.true_and, List.all_eq_true]
  intro p hp
  have hp : p < t.length := by rw [← hl]; exact List.mem_range.1 hp
  have e : (fsQ t k).getD p [] = fl (evsOf t p).length fun i => fcs t k (p, i + 1) := by unfold fsQ; rw [fl_getD hp]
  unfold okR
  rw [e, fl_len, decide_eq_true rfl, Bool.true_and, List.all_eq_true]
  intro i hi
  rw [fl_getD (List.mem_range.1 hi)]
  unfold okV
  rw [decide_eq_true fcs_len, fcs_V h1 h8 hC]
  rfl
 ·refine keep_true (fun i hi j hj => ?_)
  obtain ⟨hjN, hb⟩ := (mbL_hp hi).1 hj
  rw [cuB_Q (idN_mem hi), cuB_Q (idN_mem hjN)]
  exact fcs_cmp hv h1 (idN_mem hi) ((befB_iff hv (idN_mem hi) (idN_mem hjN)).1 hb)
theorem conR_ids {t : Tr} (hval : validL t = true) {a c : Nat × Nat} (ha : a ∈ ids t) (hc : c ∈ ids t) : conR t ((a.1 : Int), (a.2 : Int)) ((c.1 : Int), (c.2 : Int)) = .tup [.v (.bool (concB2 t a c)), .v (.int .i64 0)] := by
 have h := befR_ids hval ha hc
 unfold befR at h
 unfold conR
 simp only [AV.tup.injEq, List.cons.injEq, AV.v.injEq, IV.int.injEq, true_and, and_true] at h
 rw [h.2, decide_eq_true rfl, Bool.true_and]
 rfl
set_option maxRecDepth 20000 in
set_option maxHeartbeats 8000000 in
theorem plausibleKeeps_run (t : Tr) (m : Int) (hm : 0 ≤ m ∧ m < 256) (hS : Small t) (hC0 : (ids t).length ≤ 1000000) (hN : Nm t) (b l : List Row) :
  ACalls Tryd.prog 5 [.agg [.v (eT t)], .v (.int .u8 m)] b l (fun r b' l' => r = .v (.bool true) ∧ b' = b ∧ l' = l) := by
 refine calls_kept a_KeepsL_ok rfl (by decide) ?_
 intro B g hB hR hE hA
 simp only [KArgs] at hA
 have hnp := hS.np
 have hM : ∀ x ∈ t, x.evs.length ≤ 9223372036854775807 := fun x hx => by have := hS.ne x hx; omega
 have haw := fun b l => awake18_spec b l
 have hev := fun b l => rEv18_spec t hS hC0 b l
 have hva := fun b l => rvalid_specS t hS.sm hN b l
 have hgE : ∀ i, i < (ids t).length → ((ids t).map eId)[i]? = some [.int .i64 (idN t i).1, .int .i64 (idN t i).2] := fun i hi => by
  rw [List.getElem?_map, List.getElem?_eq_getElem hi]
  unfold idN
  rw [getD_at hi]; rfl
 obtain ⟨EV, hEV⟩ : ∃ EV, (ids t).map eId = EV := ⟨_, rfl⟩
 have hEl : EV.length = (ids t).length := by rw [← hEV, List.length_map]
 rw [hEV] at hev hgE
 simp (disch := (first | decide | omega)) only [a_KeepsL, hA, go_sem]
 refine ACalls.nxt (hev _ _) ?_
 simp (disch := (first | decide | omega)) only [hA, go_sem]
 refine ACalls.nxt (haw _ _) ?_
 simp (disch := (first | decide | omega)) only [hA, go_sem]
 refine ACalls.nxt (few18W_spec t oM hM _ _) ?_
 cases hf : few18W t with
 | false =>
   simp (disch := (first | decide | omega)) only [hA, go_sem]
   refine ACalls.nxt (haw _ _) ?_
   simp (disch := (first | decide | omega)) only [hA, go_sem]
   exact leave_pure (xs := [.v (.bool true)]) (.inr rfl) (by simp (disch := (first | decide | omega)) only [resVs, resV, go_sem, hA]) kO hR hB ⟨rfl, rfl, rfl⟩
 | true =>
   by_cases h24 : 24 < (ids t).length
   ·have hd : decide (((ids t).length : Int) > 24) = true := decide_eq_true oM
    have hd' : decide ((24 : Int) < ((ids t).length : Int)) = true := hd
    simp (disch := (first | decide | omega)) only [hA, hEl, hd, hd', go_sem]
    refine ACalls.nxt (haw _ _) ?_
    simp (disch := (first | decide | omega)) only [hA, go_sem]
    exact leave_pure (xs := [.v (.bool true)]) (.inr rfl) (by simp (disch := (first | decide | omega)) only [resVs, resV, go_sem, hA]) kO hR hB ⟨rfl, rfl, rfl⟩
   have hd : decide (((ids t).length : Int) > 24) = false := decide_eq_false oM
   have hd' : decide ((24 : Int) < ((ids t).length : Int)) = false := hd
   cases hval : validL t with
   | false =>
     rw [hval] at hva
     simp (disch := (first | decide | omega)) only [hA, hEl, hd, hd', go_sem]
     refine ACalls.nxt (hva _ _) ?_
     simp (disch := (first | decide | omega)) only [hA, go_sem]
     refine ACalls.nxt (haw _ _) ?_
     simp (disch := (first | decide | omega)) only [hA, go_sem]
     exact leave_pure (xs := [.v (.bool true)]) (.inr rfl) (by simp (disch := (first | decide | omega)) only [resVs, resV, go_sem, hA]) kO hR hB ⟨rfl, rfl, rfl⟩
   | true =>
     rw [hval] at hva
     have hv := vok hval
     obtain ⟨mm, rfl⟩ : ∃ n : Nat, m = n := ⟨m.toNat, by omega⟩
     obtain ⟨k, hk⟩ : ∃ k, 1 + mm % 8 = k := ⟨_, rfl⟩
     have hmod : mm % 8 < 8 := Nat.mod_lt _ oM
     have hk1 : 1 ≤ k := by omega
     have hk8 : k ≤ 8 := by omega
     have w0 : IntKind.i64.wrap (mm : Int) = (mm : Int) := by rw [IntKind.wrap_i64]; omega
     have w3 : Int.tmod (mm : Int) 8 = ((mm % 8 : Nat) : Int) := rfl
     have w4 : (1 : Int) + ((mm % 8 : Nat) : Int) = (k : Int) := by omega
     have w5 : ((8 : Int) = 0) = False := by simp
     have hgv : (1 : Int) ≤ (k : Int) ∧ (k : Int) ≤ 8 := by omega
     have hck := fun b l => pcheck_spec t hS hN (fun _ => by omega) (k : Int) (fsQ t k) ⟨by rw [show (fsQ t k).length = t.length from fl_len]; exact hnp, fun r hr => by
      obtain ⟨p, hp, rfl⟩ := List.getElem_of_mem hr
      have e : (fsQ t k)[p] = fl (evsOf t p).length fun i => fcs t k (p, i + 1) := fl_getE hp
      have hpt : p < t.length := by have : (fsQ t k).length = t.length := fl_len; omega
      rw [e, fl_len, evsOf_lt hpt]
      exact hS.ne _ (List.getElem_mem hpt)⟩ b l
     rw [fsQ_chk hval hk1 hk8 hC0, ← fsAll_Q] at hck
     have hst : ∀ b l, ACalls Tryd.prog 22 [.agg [.v (eT t)], .v (.int .i64 k)] b l (fun r b' l' => r = .tup [.v (.isl 1 (fsAll t k)), .v (.int .i64 0)] ∧ b' = b ∧ l' = l) := fun b l => by
      have h := pStamps_spec t hS hN oM (k : Int) b l
      unfold pStR at h
      rw [if_pos (by unfold givE; rw [if_pos hval, if_pos hgv]), Int.toNat_natCast] at h
      exact h
     have her : ∀ b l, ACalls Tryd.prog 23 [.agg [.v (eT t)], .v (.int .i64 k)] b l (fun r b' l' => r = .tup [.v (.int .i64 (cLat (erN t k) (ids t).length : Nat)), .v (.int .i64 0)] ∧ b' = b ∧ l' = l) := fun b l => by
      have h := pErrors_spec t hS hN (fun _ => by omega) (k : Int) b l
      unfold pErR at h
      rw [if_pos (by unfold givE; rw [if_pos hval, if_pos hgv]), Int.toNat_natCast, nEr_nat oM] at h
      exact h
     have hpr : ∀ b l, ACalls Tryd.prog 24 [.agg [.v (eT t)]] b l (fun r b' l' => r = .tup [.v (.int .i64 (cLat (orN t) (ids t).length : Nat)), .v (.int .i64 (cLat (coN t) (ids t).length : Nat)), .v (.int .i64 0)] ∧ b' = b ∧ l' = l) := fun b l => by
      have h := ppairs_spec t hS hN (fun _ => by omega) b l
      unfold pPr at h
      rw [if_pos hval, ord_eq hval oM, nCo_nat oM] at h
      exact h
     have hfi := fun b l => rFits18_spec t hS oM k hk1 hk8 b l
     have e1 := hbN_all hv
     have e2 := erQ_all (t := t) (k := k)
     have h1 : cLat (orN t) (ids t).length + cLat (cnN t) (ids t).length = cLat (fun _ _ => 1) (ids t).length := by
      rw [← cLat_add]
      exact cLat_congr (fun j i _ _ => by unfold orN cnN; split <;> rfl)
     have h2 := cLat_one (N := (ids t).length)
     rw [cnN_eq] at h1
     have hle : cLat (erN t k) (ids t).length ≤ cLat (coN t) (ids t).length := by
      have e : cLat (coN t) (ids t).length = cLat (fun j i => erN t k j i + (coN t j i - erN t k j i)) (ids t).length := cLat_congr (fun j i _ _ => by
       have : erN t k j i ≤ coN t j i := by unfold erN coN; cases unB t j i <;> simp; split <;> omega
       omega)
      rw [e, cLat_add]; omega
     have hNN : (ids t).length * ((ids t).length - 1) ≤ 24 * 24 := Nat.mul_le_mul oM oM
     have hprod : ((ids t).length : Int) * (((ids t).length : Int) - 1) = (((ids t).length * ((ids t).length - 1) : Nat) : Int) := by
      cases (ids t).length with
      | zero => simp
      | succ n => rw [Nat.add_sub_cancel, Int.natCast_mul]; congr 1; omega
     obtain ⟨oN, hoN⟩ : ∃ n : Nat, cLat (orN t) (ids t).length = n := ⟨_, rfl⟩
     obtain ⟨cN, hcN⟩ : ∃ n : Nat, cLat (coN t) (ids t).length = n := ⟨_, rfl⟩
     obtain ⟨eN', heN⟩ : ∃ n : Nat, cLat (erN t k) (ids t).length = n := ⟨_, rfl⟩
     obtain ⟨XX, hXX⟩ : ∃ n : Nat, (ids t).length * ((ids t).length - 1) = n := ⟨_, rfl⟩
     simp only [hoN, hcN, heN, hXX] at her hpr e1 e2 h1 h2 hle hNN hprod
     have hquo : Int.tdiv (XX : Int) 2 = ((XX / 2 : Nat) : Int) := rfl
     have hsum : (oN : Int) + (cN : Int) = ((XX / 2 : Nat) : Int) := by omega
     have hee : ∀ n : Int, (n == n) = true := fun n => by simp
     have hcl : decide ((eN' : Int) ≤ (cN : Int)) = true := decide_eq_true oM
     have n00 : ((0 : Int) != 0) = false := rfl
     have hgF : ∀ q, q < t.length → (fsAll t k)[q]? = some [.isl 1 (fsRow t k q (evsOf t q).length)] := fun q hq => fl_get hq
     have hFl : (fsAll t k).length = t.length := fl_len
     obtain ⟨FA, hFA⟩ : ∃ FA, fsAll t k = FA := ⟨_, rfl⟩
     rw [hFA] at hst hck hfi hgF hFl
     have hb0 := fun a c (ha : a < (ids t).length) (hc : c < (ids t).length) b l => Before_spec t hS hN (fun _ => by omega) ((idN t a).1, (idN t a).2) ((idN t c).1, (idN t c).2) b l
     have hc0 := fun a c (ha : a < (ids t).length) (hc : c < (ids t).length) b l => ConcC_spec t hS hN (fun _ => by omega) ((idN t a).1, (idN t a).2) ((idN t c).1, (idN t c).2) b l
     simp only [idP] at hb0 hc0
     have hb1 : ∀ a c (ha : a < (ids t).length) (hc : c < (ids t).length) b l, ACalls Tryd.prog 26 [.agg [.v (eT t)], .agg [.v (.int .i64 (idN t a).1), .v (.int .i64 (idN t a).2)], .agg [.v (.int .i64 (idN t c).1), .v (.int .i64 (idN t c).2)]] b l (fun r b' l' => r = .tup [.v (.bool (hpB t a c)), .v (.int .i64 0)] ∧ b' = b ∧ l' = l) := fun a c ha hc b l => by
      have h := hb0 a c ha hc b l
      rw [befR_ids hval (idN_mem ha) (idN_mem hc)] at h
      exact h
     have hc1 : ∀ a c (ha : a < (ids t).length) (hc : c < (ids t).length) b l, ACalls Tryd.prog 27 [.agg [.v (eT t)], .agg [.v (.int .i64 (idN t a).1), .v (.int .i64 (idN t a).2)], .agg [.v (.int .i64 (idN t c).1), .v (.int .i64 (idN t c).2)]] b l (fun r b' l' => r = .tup [.v (.bool (concB2 t (idN t a) (idN t c))), .v (.int .i64 0)] ∧ b' = b ∧ l' = l) := fun a c ha hc b l => by
      have h := hc0 a c ha hc b l
      rw [conR_ids hval (idN_mem ha) (idN_mem hc)] at h
      exact h
     have hd1 : ∀ a c (ha : a < (ids t).length) (hc : c < (ids t).length) b l, ACalls Tryd.prog 28 [.v (.isl 1 ((fcs t k (idN t a)).map eI)), .v (.isl 1 ((fcs t k (idN t c)).map eI))] b l (fun r b' l' => r = .tup [.v (.int .i64 (cmN t k a c)), .v (.int .i64 0)] ∧ b' = b ∧ l' = l) := fun a c ha hc b l => by
      have h := pCompare_spec (fcs t k (idN t a)) (fcs t k (idN t c)) (by rw [fcs_len]; omega) (by rw [fcs_len]; omega) b l
      have hbo : bothV (fcs t k (idN t a)) (fcs t k (idN t c)) = true := by
       unfold bothV
       rw [fcs_V hk1 hk8 hC0, fcs_V hk1 hk8 hC0, decide_eq_true (by rw [fcs_len, fcs_len])]; rfl
      unfold pcV pcE at h
      rw [if_pos hbo, if_pos hbo] at h
      exact h
     have hpos : ∀ i, i < (ids t).length → ∃ p q, idN t i = (p, q + 1) ∧ p < t.length ∧ q < (evsOf t p).length ∧ (evsOf t p).length ≤ 1000000 := fun i hi => by
      have hx := idN_mem hi
      obtain ⟨⟨p, q⟩, hpq⟩ : ∃ y, idN t i = y := ⟨_, rfl⟩
      rw [hpq] at hx ⊢
      obtain ⟨q, rfl⟩ : ∃ j, q = j + 1 := ⟨q - 1, by have := mem_pos hx; simp only at this; omega⟩
      obtain ⟨hp, hq⟩ := mem_ids2.1 hx
      exact ⟨p, q, rfl, hp, hq, by rw [evsOf_lt hp]; exact hS.ne _ (List.getElem_mem hp)⟩
     simp (disch := (first | decide | omega)) only [hA, hEl, hd, hd', go_sem]
     refine ACalls.nxt (hva _ _) ?_
     simp (disch := (first | decide | omega)) only [hA, w0, w3, w4, w5, if_false, go_sem]
     refine ACalls.nxt (hst _ _) ?_
     simp (disch := (first | decide | omega)) only [hA, go_sem]
     refine ACalls.nxt (her _ _) ?_
     simp (disch := (first | decide | omega)) only [hA, go_sem]
     refine ACalls.nxt (hpr _ _) ?_
     simp (disch := (first | decide | omega)) only [hA, n00, go_sem]
     refine ACalls.nxt (hfi _ _) ?_
     simp (disch := (first | decide | omega)) only [hA, n00, go_sem]
     refine ACalls.nxt (hck _ _) ?_
     simp (disch := (first | decide | omega)) only [hA, n00, hEl, go_sem]
     refine loop_kept (ι := Nat) r_KeepsL0 (fun i => [(94, .v (.int .i64 i)), (14, .v (.int .i64 (sqC (erQ t k) (ids t).length i 0))), (15, .v (.int .i64 (sqC (hbN t) (ids t).length i 0)))]) 1 (fun _ => [.live 0 1 [[.v (eT t)]]])
      (fun i => i ≤ (ids t).length) (fun i => (ids t).length - i) 0 (Nat.zero_le _) (by (repeat (first | exact hE.mono oM | refine KLt.up ?_ kL))) (by ((try simp (disch := decide) only [hA, sqC_zero, go_sem]) <;> exact kH)) (fun e => Weak.refl _ _ _) ?_
     intro g1 hE1 hEE1 hg1 i hi
     have b1 := sqC_le (e := erQ t k) erQ_le (N := (ids t).length) (i := i) (j := 0) oM hi (Nat.zero_le _)
     have b2 := sqC_le (e := hbN t) hbN_le (N := (ids t).length) (i := i) (j := 0) oM hi (Nat.zero_le _)
     by_cases hil : i < (ids t).length
     ·obtain ⟨p, q, x1, x2, x3, x4⟩ := hpos i hil
      have gi := hgE i hil
      simp (disch := (first | decide | omega)) only [hA, hg1, hEl, gi, setFrom, cellsOf, go_sem]
      refine loop_kept (ι := Nat) r_KeepsL1 (fun j => [(101, .v (.int .i64 j)), (14, .v (.int .i64 (sqC (erQ t k) (ids t).length i j))), (15, .v (.int .i64 (sqC (hbN t) (ids t).length i j)))]) 2 (fun _ => [.live 0 1 [[.v (eT t)]], .live 0 2 [[.v (.int .i64 (idN t i).1), .v (.int .i64 (idN t i).2)]]])
       (fun j => j ≤ (ids t).length) (fun j => (ids t).length - j) 0 (Nat.zero_le _) (by (repeat (first | exact hE1.mono oM | refine KLt.up ?_ kL))) (by ((try simp (disch := decide) only [hA, hg1, go_sem]) <;> exact kH)) (fun e => Weak.refl _ _ _) ?_
      intro g2 hE2 hEE2 hg2 j hj
      have c1 := sqC_le (e := erQ t k) erQ_le (N := (ids t).length) (i := i) (j := j) oM hi hj
      have c2 := sqC_le (e := hbN t) hbN_le (N := (ids t).length) (i := i) (j := j) oM hi hj
      by_cases hjl : j < (ids t).length
      ·obtain ⟨p', q', y1, y2, y3, y4⟩ := hpos j hjl
       have gj := hgE j hjl
       have hbf := hb1 i j hil hjl
       have hcc := hc1 i j hil hjl
       have hdd := hd1 i j hil hjl
       have s1 := sqC_step (e := erQ t k) (N := (ids t).length) (i := i) (j := j)
       have s2 := sqC_step (e := hbN t) (N := (ids t).length) (i := i) (j := j)
       have gF := hgF p x2
       have gF' := hgF p' y2
       have lF : (fsRow t k p (evsOf t p).length).length = (evsOf t p).length := fl_len
       have lF' : (fsRow t k p' (evsOf t p').length).length = (evsOf t p').length := fl_len
       have gR : (fsRow t k p (evsOf t p).length)[q]? = some [.isl 1 ((fcs t k (idN t i)).map eI)] := by rw [x1]; exact fl_get x3
       have gR' : (fsRow t k p' (evsOf t p').length)[q']? = some [.isl 1 ((fcs t k (idN t j)).map eI)] := by rw [y1]; exact fl_get y3
       have hx1 : (idN t i).1 = p := by rw [x1]
       have hx2 : (idN t i).2 = q + 1 := by rw [x1]
       have hy1 : (idN t j).1 = p' := by rw [y1]
       have hy2 : (idN t j).2 = q' + 1 := by rw [y1]
       have qq : ((q + 1 : Nat) : Int) - 1 = (q : Int) := by omega
       have qq' : ((q' + 1 : Nat) : Int) - 1 = (q' : Int) := by omega
       obtain ⟨V1, hV1⟩ : ∃ V, (fcs t k (idN t i)).map eI = V := ⟨_, rfl⟩
       obtain ⟨V2, hV2⟩ : ∃ V, (fcs t k (idN t j)).map eI = V := ⟨_, rfl⟩
       rw [hV1] at gR
       rw [hV2] at gR'
       rw [hV1, hV2] at hdd
       have hord : hpB t i j = true → cmN t k i j = -1 := fun h => fcs_cmp hv hk1 (idN_mem hil) ((befB_iff hv (idN_mem hil) (idN_mem hjl)).1 h)
       obtain ⟨cc, hccv⟩ : ∃ z, concB2 t (idN t i) (idN t j) = z := ⟨_, rfl⟩
       rw [hccv] at hcc
       have hne : hpB t i j = true → cc = false := fun h => by
        rw [← hccv]; unfold concB2; unfold hpB at h; rw [h]; simp
       have ser : erQ t k i j = if (decide (i < j) && (cc && !decide (cmN t k i j = 2))) = true then 1 else 0 := by unfold erQ; rw [hccv]
       have shb : hbN t i j = if hpB t i j = true then 1 else 0 := rfl
       obtain ⟨z, hz⟩ : ∃ z, cmN t k i j = z := ⟨_, rfl⟩
       rw [hz] at hdd hord ser
       rw [hx1, hx2] at gi hbf hcc
       rw [hy1, hy2] at gj hbf hcc
       rw [hx1, hx2]
       have hlt : decide ((i : Int) < (j : Int)) = decide (i < j) := by rw [decide_eq_decide]; omega
       have k1 : ((sqC (hbN t) (ids t).length i j : Nat) : Int) + 1 = ((sqC (hbN t) (ids t).length i j + 1 : Nat) : Int) := by omega
       have k2 : ((sqC (erQ t k) (ids t).length i j : Nat) : Int) + 1 = ((sqC (erQ t k) (ids t).length i j + 1 : Nat) : Int) := by omega
       simp (disch := (first | decide | omega)) only [hA, hg1, hg2, hEl, gj, setFrom, cellsOf, go_sem]
       refine ACalls.nxt (hbf _ _) ?_
       simp (disch := (first | decide | omega)) only [hA, hg1, hg2, go_sem]
       refine ACalls.nxt (hcc _ _) ?_
       simp (disch := (first | decide | omega)) only [hA, hg1, hg2, hFl, gF, gF', lF, lF', gR, gR', qq, qq', go_sem]
       refine ACalls.nxt (hdd _ _) ?_
       cases hb : hpB t i j with
       | true =>
         have hzz := hord hb
         subst hzz
         have hcf := hne hb
         subst hcf
         rw [hb, if_pos rfl] at shb
         rw [Bool.false_and, Bool.and_false, if_neg (by decide)] at ser
         simp only [ser, Nat.add_zero] at s1
         rw [shb] at s2
         have m1 : ((-1 : Int) != -1) = false := rfl
         cases hij : decide (i < j)
         all_goals
          simp (disch := (first | decide | omega)) only [hA, hg1, hg2, n00, m1, hlt, hij, k1, go_sem]
          rw [← s2, ← s1]
          refine ⟨j + 1, hjl, by simp only; omega, ?_⟩
          simp only [hx1, hx2]
          exact Weak.kround (p := r_KeepsL1) (k := 2) (by ((repeat refine (kAny_up rfl).trans ?_); exact hEE2)) (by ((try simp (disch := decide) only [hA, go_sem]) <;> exact kH)) rfl hE2 (by simp) kV hR kL
       | false =>
         rw [hb, if_neg (by decide)] at shb
         simp only [shb, Nat.add_zero] at s2
         cases hij : decide (i < j) with
         | false =>
           rw [hij, Bool.false_and, if_neg (by decide)] at ser
           simp only [ser, Nat.add_zero] at s1
           simp (disch := (first | decide | omega)) only [hA, hg1, hg2, n00, hlt, hij, go_sem]
           rw [← s2, ← s1]
           refine ⟨j + 1, hjl, by simp only; omega, ?_⟩
           simp only [hx1, hx2]
           exact Weak.kround (p := r_KeepsL1) (k := 2) (by ((repeat refine (kAny_up rfl).trans ?_); exact hEE2)) (by ((try simp (disch := decide) only [hA, go_sem]) <;> exact kH)) rfl hE2 (by simp) kV hR kL
         | true =>
           cases cc with
           | false =>
             rw [hij, Bool.false_and, Bool.and_false, if_neg (by decide)] at ser
             simp only [ser, Nat.add_zero] at s1
             simp (disch := (first | decide | omega)) only [hA, hg1, hg2, n00, hlt, hij, go_sem]
             rw [← s2, ← s1]
             refine ⟨j + 1, hjl, by simp only; omega, ?_⟩
             simp only [hx1, hx2]
             exact Weak.kround (p := r_KeepsL1) (k := 2) (by ((repeat refine (kAny_up rfl).trans ?_); exact hEE2)) (by ((try simp (disch := decide) only [hA, go_sem]) <;> exact kH)) rfl hE2 (by simp) kV hR kL
           | true =>
             by_cases hz2 : z = 2
             ·have m2 : (z != 2) = false := by simp [hz2]
              rw [hij, decide_eq_true hz2, if_neg (by decide)] at ser
              simp only [ser, Nat.add_zero] at s1
              simp (disch := (first | decide | omega)) only [hA, hg1, hg2, n00, hlt, hij, m2, go_sem]
              rw [← s2, ← s1]
              refine ⟨j + 1, hjl, by simp only; omega, ?_⟩
              simp only [hx1, hx2]
              exact Weak.kround (p := r_KeepsL1) (k := 2) (by ((repeat refine (kAny_up rfl).trans ?_); exact hEE2)) (by ((try simp (disch := decide) only [hA, go_sem]) <;> exact kH)) rfl hE2 (by simp) kV hR kL
             ·have m2 : (z != 2) = true := by simpa using hz2
              rw [hij, decide_eq_false hz2, if_pos (by decide)] at ser
              rw [ser] at s1
              simp (disch := (first | decide | omega)) only [hA, hg1, hg2, n00, hlt, hij, m2, k2, go_sem]
              rw [← s2, ← s1]
              refine ⟨j + 1, hjl, by simp only; omega, ?_⟩
              simp only [hx1, hx2]
              exact Weak.kround (p := r_KeepsL1) (k := 2) (by ((repeat refine (kAny_up rfl).trans ?_); exact hEE2)) (by ((try simp (disch := decide) only [hA, go_sem]) <;> exact kH)) rfl hE2 (by simp) kV hR kL
      ·obtain rfl : j = (ids t).length := by omega
       simp (disch := (first | decide | omega)) only [hA, hg1, hg2, hEl, go_sem]
       rw [sqC_next, sqC_next]
       refine ⟨i + 1, hil, by simp only; omega, ?_⟩
       exact Weak.kround (p := r_KeepsL0) (k := 1) (by ((repeat refine (kAny_up rfl).trans ?_); refine (kAny_sub hg2 (kIn_sub rfl)).trans ?_; (repeat refine (kAny_up rfl).trans ?_); exact hEE1)) (by ((try simp (disch := decide) only [hA, hg1, go_sem]) <;> exact kH)) rfl hE1 (by simp) kV hR kL
     ·obtain rfl : i = (ids t).length := by omega
      simp only [e1, e2]
      have h20 : ((2 : Int) = 0) = False := by simp
      simp (disch := (first | decide | omega)) only [hA, hg1, hEl, hprod, hquo, hsum, hee, hcl, h20, if_false, go_sem]
      exact leave_pure (xs := [.v (.bool true)]) (.inr rfl) (by simp (disch := (first | decide | omega)) only [resVs, resV, go_sem, hA, hg1]) kO hR hB ⟨rfl, rfl, rfl⟩
end Go.Proofs.YtnihdkfmmbpilaaDoor
