/- Texts of one proof, laid together: PA, PE, PD, PK. No condition. -/
import Derived.Test.YtoccdlnoaindmaaGreatDoorWB6
import Derived.Test.YtoccdlnoaindmaaGreatDoorWB5
import Derived.Test.YtoccdlnoaindmaaGreatDoorWB2
import Derived.Test.YtoccdlnoaindmaaGreatDoorWB7
import Derived.Test.YtoccdlnoaindmaaGreatDoorProg
namespace Go.Proofs.YtoccdlnoaindmaaGreatDoor
set_option linter.unusedVariables false
set_option linter.unusedSimpArgs false
attribute [local go_sem ↓] aB EA IB RB tC yB GB nC DB IC pA vB bB nA jB eB aA iB EB CA mA SB wB xB QB uB XB pB qB pC TB mC lC sD GC tD nD
attribute [local go_sem] AA lA gD YB bA rD bC eC fC tG nG TC PC TF sG QI XI aC MB LB FB uC uA lB eA mB fA ZB aop YE jD ZD VC QD OB XD pH GE tE amm vE AB rB dE OC nE comma RC aE nH bE eE YH iE xE kD XH eqC eqF rF cellsOf YA aD lD uE PG rd rdI TD mk MC AV.cell List.all_cons List.all_nil Bool.and_true Bool.true_and Bool.and_self List.length_cons List.length_nil List.length_append Nat.reduceAdd Nat.reduceSub Nat.reduceMul Nat.zero_add Nat.add_zero List.replicate_succ List.replicate_zero List.cons_append List.nil_append List.append_assoc List.append_nil List.getElem?_cons_zero List.getElem?_cons_succ List.getElem?_nil List.set_cons_zero List.set_cons_succ List.drop_zero List.drop_succ_cons List.take_zero List.take_succ_cons List.take_nil List.drop_nil List.map_cons List.map_nil Option.map_some if_true if_false Bool.false_eq_true and_self true_and and_true Nat.reduceLeDiff Nat.reduceLT Nat.le_refl Nat.reduceEqDiff ite_true ite_false beq_self_eq_true beq_true beq_false Bool.not_true Bool.not_false Bool.true_beq Bool.false_beq XE XC sB JD KD jC qC zC KC UD VD QE VB QJ DI XJ ZJ eF lF bF fF geI gtI aF decide_true decide_false room List.getElem?_map List.length_map List.length_take Int.toNat_natCast Nat.min_def Nat.min_self List.getElem_cons_zero List.getElem_cons_succ
structure CutIn (t:Tr) (cs:List Int):Prop where
 len:cs.length=t.length
 le:∀(k:Nat) (h:k<t.length) (h2:k<cs.length),0≤cs[k]∧cs[k]≤t[k].evs.length
def evp (t:Tr) (p j:Nat):Ev:=sA t (p,j+1)
def toI (t:Tr) (p j:Nat):Nat:=(xG t 3 (evp t p j).msg).2
def SL (t:Tr) (p j i:Nat):Bool:=
 (evp t p j).kind==2&&((evp t p i).kind==2&&((evp t p j).peer==(evp t p i).peer&&(toI t p i != 0&&(toI t p j==0||decide (toI t p i<toI t p j)))))
structure FfI (t:Tr) (p q k last:Nat) (mis:Bool):Prop where
 m1:∀j,j<k→(evp t p j).kind=2→(evp t p j).peer=q→toI t p j=0→mis=true
 m2:mis=true→∃j,j<k∧(evp t p j).kind=2∧(evp t p j).peer=q∧toI t p j=0
 l1:∀j,j<k→(evp t p j).kind=2→(evp t p j).peer=q→toI t p j≤last
 l2:0<last→∃j,j<k∧(evp t p j).kind=2∧(evp t p j).peer=q∧toI t p j=last
 g:∀i,i<k→∀j,j<i→(evp t p i).peer=q→SL t p j i=false
theorem FfI.start (t:Tr) (p q:Nat):FfI t p q 0 0 false:=⟨fun j h=>by omega,fun h=>(by cases h),fun j h=>by omega,fun h=>by omega,fun j h=>by omega⟩
theorem FfI.skip {t:Tr} {p q k last:Nat} {mis:Bool} (h:FfI t p q k last mis) (hk:¬((evp t p k).kind=2∧(evp t p k).peer=q)):FfI t p q (k+1) last mis:=by
 have up:∀j,j<k+1→j<k∨j=k:=fun j hj=>by omega
 refine⟨fun j hj a b c=>?_,fun hm=>?_,fun j hj a b=>?_,fun hl=>?_,fun i hi j hj hp=>?_⟩
 ·rcases up j hj with h1|rfl
  ·exact h.m1 j h1 a b c
  ·exact absurd ⟨a,b⟩ hk
 ·obtain⟨j,h1,h2⟩:=h.m2 hm;exact⟨j,by omega,h2⟩
 ·rcases up j hj with h1|rfl
  ·exact h.l1 j h1 a b
  ·exact absurd ⟨a,b⟩ hk
 ·obtain⟨j,h1,h2⟩:=h.l2 hl;exact⟨j,by omega,h2⟩
 ·rcases up i hi with h1|rfl
  ·exact h.g i h1 j hj hp
  ·have:((evp t p i).kind==2)=false:=by
    cases hh:(evp t p i).kind==2 with
    |false=>rfl
    |true=>exact absurd ⟨by simpa using hh,hp⟩ hk
   unfold SL;rw[this];simp
theorem FfI.next {t:Tr} {p q k last:Nat} (h:FfI t p q k last false) (h1:(evp t p k).kind=2) (h2:(evp t p k).peer=q) (h3:toI t p k≠0) (h4:last≤toI t p k):FfI t p q (k+1) (toI t p k) false:=by
 have up:∀j,j<k+1→j<k∨j=k:=fun j hj=>by omega
 refine⟨fun j hj a b c=>?_,fun hm=>(by cases hm),fun j hj a b=>?_,fun hl=>⟨k,by omega,h1,h2,rfl⟩,fun i hi j hj hp=>?_⟩
 ·rcases up j hj with g|rfl
  ·exact h.m1 j g a b c
  ·exact absurd c h3
 ·rcases up j hj with g|rfl
  ·have:=h.l1 j g a b;omega
  ·exact Nat.le_refl _
 ·rcases up i hi with g|rfl
  ·exact h.g i g j hj hp
  ·unfold SL
   cases hk:(evp t p j).kind==2
   ·simp
   cases he:(evp t p j).peer==(evp t p i).peer
   ·simp
   have hk:(evp t p j).kind=2:=by simpa using hk
   have he:(evp t p j).peer=q:=by rw[←h2];simpa using he
   have hz:(toI t p j==0)=false:=by
    cases hq:toI t p j==0 with
    |false=>rfl
    |true=>exact absurd (h.m1 j hj hk he (by simpa using hq)) (by simp)
   have:=h.l1 j hj hk he
   rw[hz,decide_eq_false oM];simp
theorem FfI.bad {t:Tr} {p q k last:Nat} {mis:Bool} (h:FfI t p q k last mis) (h1:(evp t p k).kind=2) (h2:(evp t p k).peer=q) (h3:toI t p k≠0) (h4:mis=true∨toI t p k<last):∃j,j<k∧SL t p j k=true:=by
 rcases h4 with h4|h4
 ·obtain⟨j,g1,g2,g3,g4⟩:=h.m2 h4
  refine⟨j,g1,?_⟩
  unfold SL;rw[g2,g3,h1,h2,g4];simp[h3]
 ·obtain⟨j,g1,g2,g3,g4⟩:=h.l2 oM
  refine⟨j,g1,?_⟩
  unfold SL;rw[g2,g3,h1,h2,g4];simp[h3,h4]
def a_rSame:AFunc:=⟨2,94,[.tmp 4],(.seq (.region [⟨some 2,.box (.t 0),none⟩,⟨some 3,.box (.t 1),none⟩,⟨some 4,.mv (.c (.v (.bool false))),none⟩]) (.seq (.seq (.region [⟨some 10,.faddr 0 (.t 2),none⟩,⟨some 11,.load none (.t 10),none⟩,⟨some 12,.len (.t 11),none⟩,⟨some 13,.faddr 0 (.t 3),none⟩,⟨some 14,.load none (.t 13),none⟩,⟨some 15,.len (.t 14),none⟩,⟨some 16,.bin .neq (.t 12) (.t 15),none⟩]) (.cond (.t 16) (.seq (.region [⟨some 4,.mv (.c (.v (.bool false))),none⟩]) .ret) .skip)) (.seq (.seq (.region [⟨some 5,.mv (.c (.v (.int .i64 0))),none⟩]) (.block 0 (.loop (.seq (.seq (.region [⟨some 17,.mv (.t 5),none⟩,⟨some 18,.faddr 0 (.t 2),none⟩,⟨some 19,.load none (.t 18),none⟩,⟨some 20,.len (.t 19),none⟩,⟨some 21,.bin .lss (.t 17) (.t 20),none⟩]) (.cond (.t 21) .skip (.exit 0))) (.seq (.block 1 (.seq (.draw [⟨0,⟨some 24,.faddr 0 (.t 2),none⟩,[]⟩,⟨1,⟨some 25,.load none (.t 24),none⟩,[]⟩,⟨2,⟨some 26,.mv (.t 5),none⟩,[]⟩,⟨3,⟨some 27,.iaddr 3 (.t 25) (.t 26),none⟩,[]⟩,⟨4,⟨some 28,.load (some 3) (.t 27),none⟩,[]⟩,⟨5,⟨some 29,.faddr 0 (.t 3),none⟩,[]⟩,⟨6,⟨some 30,.load none (.t 29),none⟩,[]⟩,⟨7,⟨some 31,.mv (.t 5),none⟩,[]⟩,⟨8,⟨some 32,.iaddr 3 (.t 30) (.t 31),none⟩,[]⟩,⟨9,⟨some 33,.load (some 3) (.t 32),none⟩,[]⟩,⟨10,⟨some 6,.alloc [(.v (.str ⟨#[]⟩)),(.v .zsl),(.v .zsl)],none⟩,[⟨some 24,.faddr 0 (.t 2),none⟩,⟨some 25,.load none (.t 24),none⟩,⟨some 26,.mv (.t 5),none⟩,⟨some 27,.iaddr 3 (.t 25) (.t 26),none⟩,⟨some 28,.load (some 3) (.t 27),none⟩,⟨some 29,.faddr 0 (.t 3),none⟩,⟨some 30,.load none (.t 29),none⟩,⟨some 31,.mv (.t 5),none⟩,⟨some 32,.iaddr 3 (.t 30) (.t 31),none⟩,⟨some 33,.load (some 3) (.t 32),none⟩]⟩,⟨11,⟨some 7,.alloc [(.v (.str ⟨#[]⟩)),(.v .zsl),(.v .zsl)],none⟩,[⟨some 24,.faddr 0 (.t 2),none⟩,⟨some 25,.load none (.t 24),none⟩,⟨some 26,.mv (.t 5),none⟩,⟨some 27,.iaddr 3 (.t 25) (.t 26),none⟩,⟨some 28,.load (some 3) (.t 27),none⟩,⟨some 29,.faddr 0 (.t 3),none⟩,⟨some 30,.load none (.t 29),none⟩,⟨some 31,.mv (.t 5),none⟩,⟨some 32,.iaddr 3 (.t 30) (.t 31),none⟩,⟨some 33,.load (some 3) (.t 32),none⟩]⟩,⟨12,⟨none,.store 3 (.t 6) (.t 28),none⟩,[⟨some 29,.faddr 0 (.t 3),none⟩,⟨some 30,.load none (.t 29),none⟩,⟨some 31,.mv (.t 5),none⟩,⟨some 32,.iaddr 3 (.t 30) (.t 31),none⟩,⟨some 33,.load (some 3) (.t 32),none⟩]⟩,⟨13,⟨none,.store 3 (.t 7) (.t 33),none⟩,[]⟩]) (.seq (.seq (.region [⟨some 34,.faddr 0 (.t 6),none⟩,⟨some 35,.load none (.t 34),none⟩,⟨some 36,.faddr 0 (.t 7),none⟩,⟨some 37,.load none (.t 36),none⟩,⟨some 38,.binS .neq (.t 35) (.t 37),none⟩,⟨some 39,.mv (.t 38),none⟩,⟨some 40,.faddr 1 (.t 6),some (39,false)⟩,⟨some 41,.load none (.t 40),some (39,false)⟩,⟨some 42,.len (.t 41),some (39,false)⟩,⟨some 43,.faddr 1 (.t 7),some (39,false)⟩,⟨some 44,.load none (.t 43),some (39,false)⟩,⟨some 45,.len (.t 44),some (39,false)⟩,⟨some 46,.bin .neq (.t 42) (.t 45),some (39,false)⟩,⟨some 47,.pick (.t 39) (.c (.v (.bool true))) (.t 46),none⟩,⟨some 48,.mv (.t 47),none⟩,⟨some 49,.faddr 2 (.t 6),some (48,false)⟩,⟨some 50,.load none (.t 49),some (48,false)⟩,⟨some 51,.len (.t 50),some (48,false)⟩,⟨some 52,.faddr 2 (.t 7),some (48,false)⟩,⟨some 53,.load none (.t 52),some (48,false)⟩,⟨some 54,.len (.t 53),some (48,false)⟩,⟨some 55,.bin .neq (.t 51) (.t 54),some (48,false)⟩,⟨some 56,.pick (.t 48) (.c (.v (.bool true))) (.t 55),none⟩]) (.cond (.t 56) (.seq (.region [⟨some 4,.mv (.c (.v (.bool false))),none⟩]) .ret) .skip)) (.seq (.seq (.region [⟨some 8,.mv (.c (.v (.int .i64 0))),none⟩]) (.block 2 (.loop (.seq (.seq (.region [⟨some 57,.mv (.t 8),none⟩,⟨some 58,.faddr 1 (.t 6),none⟩,⟨some 59,.load none (.t 58),none⟩,⟨some 60,.len (.t 59),none⟩,⟨some 61,.bin .lss (.t 57) (.t 60),none⟩]) (.cond (.t 61) .skip (.exit 2))) (.seq (.block 3 (.seq (.draw [⟨0,⟨some 64,.faddr 1 (.t 6),none⟩,[]⟩,⟨1,⟨some 65,.load none (.t 64),none⟩,[]⟩,⟨2,⟨some 66,.mv (.t 8),none⟩,[]⟩,⟨3,⟨some 67,.iaddr 2 (.t 65) (.t 66),none⟩,[]⟩,⟨4,⟨some 68,.load (some 2) (.t 67),none⟩,[]⟩,⟨5,⟨some 69,.faddr 1 (.t 7),none⟩,[]⟩,⟨6,⟨some 70,.load none (.t 69),none⟩,[]⟩,⟨7,⟨some 71,.mv (.t 8),none⟩,[]⟩,⟨8,⟨some 72,.iaddr 2 (.t 70) (.t 71),none⟩,[]⟩,⟨9,⟨some 73,.load (some 2) (.t 72),none⟩,[]⟩,⟨10,⟨some 74,.eqs true [.s,.i] (.t 68) (.t 73),none⟩,[]⟩]) (.cond (.t 74) (.seq (.region [⟨some 4,.mv (.c (.v (.bool false))),none⟩]) .ret) .skip))) (.region [⟨some 62,.mv (.t 8),none⟩,⟨some 63,.bin .add (.t 62) (.c (.v (.int .i64 1))),none⟩,⟨some 8,.mv (.t 63),none⟩])))))) (.seq (.region [⟨some 9,.mv (.c (.v (.int .i64 0))),none⟩]) (.block 4 (.loop (.seq (.seq (.region [⟨some 75,.mv (.t 9),none⟩,⟨some 76,.faddr 2 (.t 6),none⟩,⟨some 77,.load none (.t 76),none⟩,⟨some 78,.len (.t 77),none⟩,⟨some 79,.bin .lss (.t 75) (.t 78),none⟩]) (.cond (.t 79) .skip (.exit 4))) (.seq (.block 5 (.seq (.draw [⟨0,⟨some 82,.faddr 2 (.t 6),none⟩,[]⟩,⟨1,⟨some 83,.load none (.t 82),none⟩,[]⟩,⟨2,⟨some 84,.mv (.t 9),none⟩,[]⟩,⟨3,⟨some 85,.iaddr 5 (.t 83) (.t 84),none⟩,[]⟩,⟨4,⟨some 86,.load (some 5) (.t 85),none⟩,[]⟩,⟨5,⟨some 87,.faddr 2 (.t 7),none⟩,[]⟩,⟨6,⟨some 88,.load none (.t 87),none⟩,[]⟩,⟨7,⟨some 89,.mv (.t 9),none⟩,[]⟩,⟨8,⟨some 90,.iaddr 5 (.t 88) (.t 89),none⟩,[]⟩,⟨9,⟨some 91,.load (some 5) (.t 90),none⟩,[]⟩,⟨10,⟨some 92,.call (.c (.fn 97 [])) [(.t 86),(.t 91)],none⟩,[]⟩,⟨11,⟨some 93,.not (.t 92),none⟩,[]⟩]) (.cond (.t 93) (.seq (.region [⟨some 4,.mv (.c (.v (.bool false))),none⟩]) .ret) .skip))) (.region [⟨some 80,.mv (.t 9),none⟩,⟨some 81,.bin .add (.t 80) (.c (.v (.int .i64 1))),none⟩,⟨some 9,.mv (.t 81),none⟩])))))))))) (.region [⟨some 22,.mv (.t 5),none⟩,⟨some 23,.bin .add (.t 22) (.c (.v (.int .i64 1))),none⟩,⟨some 5,.mv (.t 23),none⟩])))))) (.seq (.region [⟨some 4,.mv (.c (.v (.bool true))),none⟩]) .ret))))⟩
theorem TZ:dA Tryz.prog 43=some a_rSame:=by kernel_rfl
def YN:List Bool:=[false,false,false,false,true,true,true,true,true,true,false,false,false,false,false,false,false,true,true,true,true,true,true,true,true,true,true,true,true,true,true,true,true,true,true,true,true,true,true,true,true,true,true,true,true,true,true,true,true,true,true,true,true,true,true,true,true,true,true,true,true,true,true,true,true,true,true,true,true,true,true,true,true,true,true,true,true,true,true,true,true,true,true,true,true,true,true,true,true,true,true,true,true,true]
def XN:List Bool:=[false,false,false,false,true,false,false,false,true,false,false,false,false,false,false,false,false,false,false,false,false,false,false,false,false,false,false,false,false,false,false,false,false,false,false,false,false,false,false,false,false,false,false,false,false,false,false,false,false,false,false,false,false,false,false,false,false,true,true,true,true,true,true,true,true,true,true,true,true,true,true,true,true,true,true,false,false,false,false,false,false,false,false,false,false,false,false,false,false,false,false,false,false,false]
def QN:List Bool:=[false,false,false,false,true,false,false,false,false,true,false,false,false,false,false,false,false,false,false,false,false,false,false,false,false,false,false,false,false,false,false,false,false,false,false,false,false,false,false,false,false,false,false,false,false,false,false,false,false,false,false,false,false,false,false,false,false,false,false,false,false,false,false,false,false,false,false,false,false,false,false,false,false,false,false,true,true,true,true,true,true,true,true,true,true,true,true,true,true,true,true,true,true,true]
def a_rSameEvent:AFunc:=⟨2,59,[.tmp 4],(.seq (.region [⟨some 2,.box (.t 0),none⟩,⟨some 3,.box (.t 1),none⟩,⟨some 4,.mv (.c (.v (.bool false))),none⟩]) (.seq (.seq (.region [⟨some 6,.faddr 0 (.t 2),none⟩,⟨some 7,.load none (.t 6),none⟩,⟨some 8,.faddr 0 (.t 3),none⟩,⟨some 9,.load none (.t 8),none⟩,⟨some 10,.bin .neq (.t 7) (.t 9),none⟩,⟨some 11,.mv (.t 10),none⟩,⟨some 12,.faddr 1 (.t 2),some (11,false)⟩,⟨some 13,.load none (.t 12),some (11,false)⟩,⟨some 14,.faddr 1 (.t 3),some (11,false)⟩,⟨some 15,.load none (.t 14),some (11,false)⟩,⟨some 16,.bin .neq (.t 13) (.t 15),some (11,false)⟩,⟨some 17,.pick (.t 11) (.c (.v (.bool true))) (.t 16),none⟩,⟨some 18,.mv (.t 17),none⟩,⟨some 19,.faddr 2 (.t 2),some (18,false)⟩,⟨some 20,.load none (.t 19),some (18,false)⟩,⟨some 21,.faddr 2 (.t 3),some (18,false)⟩,⟨some 22,.load none (.t 21),some (18,false)⟩,⟨some 23,.bin .neq (.t 20) (.t 22),some (18,false)⟩,⟨some 24,.pick (.t 18) (.c (.v (.bool true))) (.t 23),none⟩,⟨some 25,.mv (.t 24),none⟩,⟨some 26,.faddr 3 (.t 2),some (25,false)⟩,⟨some 27,.load none (.t 26),some (25,false)⟩,⟨some 28,.faddr 3 (.t 3),some (25,false)⟩,⟨some 29,.load none (.t 28),some (25,false)⟩,⟨some 30,.bin .neq (.t 27) (.t 29),some (25,false)⟩,⟨some 31,.pick (.t 25) (.c (.v (.bool true))) (.t 30),none⟩,⟨some 32,.mv (.t 31),none⟩,⟨some 33,.faddr 4 (.t 2),some (32,false)⟩,⟨some 34,.load none (.t 33),some (32,false)⟩,⟨some 35,.len (.t 34),some (32,false)⟩,⟨some 36,.faddr 4 (.t 3),some (32,false)⟩,⟨some 37,.load none (.t 36),some (32,false)⟩,⟨some 38,.len (.t 37),some (32,false)⟩,⟨some 39,.bin .neq (.t 35) (.t 38),some (32,false)⟩,⟨some 40,.pick (.t 32) (.c (.v (.bool true))) (.t 39),none⟩]) (.cond (.t 40) (.seq (.region [⟨some 4,.mv (.c (.v (.bool false))),none⟩]) .ret) .skip)) (.seq (.seq (.region [⟨some 5,.mv (.c (.v (.int .i64 0))),none⟩]) (.block 0 (.loop (.seq (.seq (.region [⟨some 41,.mv (.t 5),none⟩,⟨some 42,.faddr 4 (.t 2),none⟩,⟨some 43,.load none (.t 42),none⟩,⟨some 44,.len (.t 43),none⟩,⟨some 45,.bin .lss (.t 41) (.t 44),none⟩]) (.cond (.t 45) .skip (.exit 0))) (.seq (.block 1 (.seq (.draw [⟨0,⟨some 48,.faddr 4 (.t 2),none⟩,[]⟩,⟨1,⟨some 49,.load none (.t 48),none⟩,[]⟩,⟨2,⟨some 50,.mv (.t 5),none⟩,[]⟩,⟨3,⟨some 51,.iaddr 2 (.t 49) (.t 50),none⟩,[]⟩,⟨4,⟨some 52,.load (some 2) (.t 51),none⟩,[]⟩,⟨5,⟨some 53,.faddr 4 (.t 3),none⟩,[]⟩,⟨6,⟨some 54,.load none (.t 53),none⟩,[]⟩,⟨7,⟨some 55,.mv (.t 5),none⟩,[]⟩,⟨8,⟨some 56,.iaddr 2 (.t 54) (.t 55),none⟩,[]⟩,⟨9,⟨some 57,.load (some 2) (.t 56),none⟩,[]⟩,⟨10,⟨some 58,.eqs true [.i,.i] (.t 52) (.t 57),none⟩,[]⟩]) (.cond (.t 58) (.seq (.region [⟨some 4,.mv (.c (.v (.bool false))),none⟩]) .ret) .skip))) (.region [⟨some 46,.mv (.t 5),none⟩,⟨some 47,.bin .add (.t 46) (.c (.v (.int .i64 1))),none⟩,⟨some 5,.mv (.t 47),none⟩])))))) (.seq (.region [⟨some 4,.mv (.c (.v (.bool true))),none⟩]) .ret))))⟩
theorem BO:dA Tryz.prog 97=some a_rSameEvent:=by kernel_rfl
def NG:List Bool:=[false,false,false,false,true,true,false,false,false,false,false,false,false,false,false,false,false,false,false,false,false,false,false,false,false,false,false,false,false,false,false,false,false,false,false,false,false,false,false,false,false,true,true,true,true,true,true,true,true,true,true,true,true,true,true,true,true,true,true]

theorem CutIn.ok {t:Tr} {cs:List Int} (h:CutIn t cs) (hS:Small t):CutOk t cs:=⟨h.len,hS.np,hS.nv,hS.ne,hS.na,h.le⟩

theorem FO (x:Ev) (hx:x.asg.length≤1000000) (b l:List Row):QA Tryz.prog 97 [.agg ((eEv x).map .v),.agg ((eEv x).map .v)] b l (fun r b' l'=>r=.v (.bool true)∧b'=b∧l'=l):=by
 refine zL BO rfl ?_
 intro B hB hR _
 have ne:∀n:Int,(n != n)=false:=by simp
 simp only[a_rSameEvent,eEv,ne,List.length_map,go_sem]
 refine uL (ι:=Nat) NG (fun i=>[(5,.v (.int .i64 i))]) (fun _=>[.live 0 5 [[.v (.int .i64 x.kind),.v (.int .i64 x.peer),.v (.int .i64 x.msg),.v (.int .i64 x.time),.v (.isl 2 (x.asg.map ZM))]],.live 0 5 [[.v (.int .i64 x.kind),.v (.int .i64 x.peer),.v (.int .i64 x.msg),.v (.int .i64 x.time),.v (.isl 2 (x.asg.map ZM))]]])
  (fun i=>i≤x.asg.length) (fun i=>x.asg.length-i) 0 (Nat.zero_le _) ?_ ?_
 ·simp only[NG,CE,JG,cH,bH,ZF,TC,PC]
  exact qA.forget (by simp[Fgt])
 intro i hi
 simp only[NG,CE,JG,cH,bH,ZF,TC,PC]
 by_cases LA:i<x.asg.length
 ·simp (disch:=omega) only[ZM,go_sem]
  refine⟨i+1,LA,by simp only;omega,?_⟩
  simp only[NG,CE,JG,cH,bH,ZF,TC,PC]
  exact qA.forget (by simp[Fgt])
 ·simp (disch:=omega) only[go_sem]
  exact ZA (.inr rfl) rfl (.v _) hR hB ⟨rfl,rfl,rfl⟩

theorem pL (s:ByteArray):(s==s)=true:=by
 cases s with
 |mk d=>show (d==d)=true;exact beq_self_eq_true d
set_option maxHeartbeats 2000000 in
theorem cY (t:Tr) (hS:Small t) (b l:List Row):QA Tryz.prog 43 [.agg [.v (eT t)],.agg [.v (eT t)]] b l (fun r b' l'=>r=.v (.bool true)∧b'=b∧l'=l):=by
 refine zL TZ rfl ?_
 intro B hB hR _
 have hnp:=hS.np
 have ne:∀n:Int,(n != n)=false:=by simp
 simp only[a_rSame,eT,ne,List.length_map,go_sem]
 refine uL (ι:=Nat) YN (fun i=>[(5,.v (.int .i64 i))]) (fun _=>[.live 0 1 [[.v (.isl 3 (t.map ePr))]],.live 0 1 [[.v (.isl 3 (t.map ePr))]]])
  (fun i=>i≤t.length) (fun i=>t.length-i) 0 (Nat.zero_le _) ?_ ?_
 ·simp only[YN,CE,JG,cH,bH,ZF,TC,PC]
  exact qA.forget (by simp[Fgt])
 intro i hi
 simp only[YN,CE,JG,cH,bH,ZF,TC,PC]
 by_cases LA:i<t.length
 ·have hnv:=hS.nv _ (List.getElem_mem LA)
  have KH:=hS.ne _ (List.getElem_mem LA)
  have hna:=hS.na _ (List.getElem_mem LA)
  simp (disch:=omega) only[ePr,ne,pL,go_sem]
  refine uL (ι:=Nat) XN (fun i=>[(8,.v (.int .i64 i))]) (fun _=>[.live 0 1 [[.v (.isl 3 (t.map ePr))]],.live 0 1 [[.v (.isl 3 (t.map ePr))]],.live 0 3 [[.v (.str t[i].name),.v (.isl 2 (t[i].vars.map eVr)),.v (.isl 5 (t[i].evs.map eEv))]],.live 0 3 [[.v (.str t[i].name),.v (.isl 2 (t[i].vars.map eVr)),.v (.isl 5 (t[i].evs.map eEv))]]])
   (fun j=>j≤t[i].vars.length) (fun j=>t[i].vars.length-j) 0 (Nat.zero_le _) ?_ ?_
  ·simp only[XN,CE,JG,cH,bH,ZF,TC,PC]
   exact qA.forget (by simp[Fgt])
  intro j hj
  simp only[XN,CE,JG,cH,bH,ZF,TC,PC]
  by_cases hjv:j<t[i].vars.length
  ·simp (disch:=omega) only[eVr,pL,go_sem]
   refine⟨j+1,hjv,by simp only;omega,?_⟩
   simp only[XN,CE,JG,cH,bH,ZF,TC,PC]
   exact qA.forget (by simp[Fgt])
  simp (disch:=omega) only[go_sem]
  refine uL (ι:=Nat) QN (fun i=>[(9,.v (.int .i64 i))]) (fun _=>[.live 0 1 [[.v (.isl 3 (t.map ePr))]],.live 0 1 [[.v (.isl 3 (t.map ePr))]],.live 0 3 [[.v (.str t[i].name),.v (.isl 2 (t[i].vars.map eVr)),.v (.isl 5 (t[i].evs.map eEv))]],.live 0 3 [[.v (.str t[i].name),.v (.isl 2 (t[i].vars.map eVr)),.v (.isl 5 (t[i].evs.map eEv))]]])
   (fun j=>j≤t[i].evs.length) (fun j=>t[i].evs.length-j) 0 (Nat.zero_le _) ?_ ?_
  ·simp only[QN,CE,JG,cH,bH,ZF,TC,PC]
   exact qA.forget (by simp[Fgt])
  intro j hj
  simp only[QN,CE,JG,cH,bH,ZF,TC,PC]
  by_cases hjv:j<t[i].evs.length
  ·simp (disch:=omega) only[eEv,go_sem]
   refine KE _ _ _ _ _ _ (FO t[i].evs[j] (hna _ (List.getElem_mem hjv)) _ _) ?_
   rintro r b' l' ⟨rfl,rfl,rfl⟩
   simp (disch:=omega) only[go_sem]
   refine⟨j+1,hjv,by simp only;omega,?_⟩
   simp only[QN,CE,JG,cH,bH,ZF,TC,PC]
   exact qA.forget (by simp[Fgt])
  ·simp (disch:=omega) only[go_sem]
   refine⟨i+1,LA,by simp only;omega,?_⟩
   simp only[YN,CE,JG,cH,bH,ZF,TC,PC]
   exact qA.round (by simp[Fgt]) rfl kL hR kL
 ·simp (disch:=omega) only[go_sem]
  exact ZA (.inr rfl) rfl (.v _) hR hB ⟨rfl,rfl,rfl⟩
structure Cutt (t:Tr) (cs:List Int):Prop where
 v:Vok t
 len:cs.length=t.length
 rng:∀p,p<t.length→0≤cAt cs p∧cAt cs p≤(DA t p).length
 ok:∀x∈ids t,(sA t x).kind=3→(x.2:Int)≤cAt cs x.1→((sndr t x).2:Int)≤cAt cs (sndr t x).1
def cN (cs:List Int) (p:Nat):Nat:=(cAt cs p).toNat
section
variable {t:Tr} {cs:List Int} (h:Cutt t cs)
include h
end
theorem UI {t:Tr} (h:Vok t):pE t=true:=by
 unfold pE vF
 have h1:¬(t.length<1∨8<t.length):=by have:=h.lo;have:=h.hi;omega
 rw[if_neg h1]
 have h2:(List.range t.length).find? (fun p=>bD t p != 0)=none:=by
  rw[List.find?_eq_none];intro p hp;rw[h.head p (List.mem_range.1 hp)];simp
 have h3:(ids t).find? (fun x=>ZE t x != 0)=none:=by
  rw[List.find?_eq_none];intro x hx;rw[h.form x hx];simp
 have h4:(ids t).find? (fun x=>QF t x != 0)=none:=by
  rw[List.find?_eq_none];intro x hx;rw[h.pair x hx];simp
 simp only[h2,h3,h4]
 split
 ·rename_i x hx
  have:=List.find?_some hx
  have hm:=List.mem_of_find?_eq_some hx
  exact absurd (by simpa using this) (h.acyc x hm)
 ·rfl
end Go.Proofs.YtoccdlnoaindmaaGreatDoor
