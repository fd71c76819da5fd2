/- Texts of one proof, laid together: PA, PE, PD, PK. No condition. -/
import Derived.Test.YtoccdlnoaindmaaGreatDoorWC6
import Derived.Test.YtoccdlnoaindmaaGreatDoorWC5
import Derived.Test.YtoccdlnoaindmaaGreatDoorWC2
import Derived.Test.YtoccdlnoaindmaaGreatDoorProg
namespace Go.Proofs.YtoccdlnoaindmaaGreatDoor
set_option linter.unusedVariables false
set_option linter.unusedSimpArgs false
attribute [local go_sem ↓] Zz Z0 QB QD Q8 Zg QA Q9 QC Qk ZM Zf Zy ZL Ze Zx ZS Zk QJ Z1 ZN QE Zh Zi Z4 Zj Z5 Zt Zd Qa QF Qc Qd XQ Qj XR XS
attribute [local go_sem] Z2 ZO XT Z6 ZR XP Qh Qf Qe Yv Yw Yo Yp Ya Yu KT KU Qi QG QH QI Q7 ZI Zv ZQ Zu ZP Z3 aop YC XG XB Q2 XC QU XD Uh Y4 YZ amm YK QT Zp YQ XA Y0 comma Qx Y3 Ug Y2 Y1 UL YO YM XJ UK eqC eqF Jg cellsOf ZC Xm Xg YN Vx rd rdI Xs mk Qr AV.cell List.all_cons List.all_nil Bool.and_true Bool.true_and Bool.and_self List.length_cons List.length_nil List.length_append Nat.reduceAdd Nat.reduceSub Nat.reduceMul Nat.zero_add Nat.add_zero List.replicate_succ List.replicate_zero List.cons_append List.nil_append List.append_assoc List.append_nil List.getElem?_cons_zero List.getElem?_cons_succ List.getElem?_nil List.set_cons_zero List.set_cons_succ List.drop_zero List.drop_succ_cons List.take_zero List.take_succ_cons List.take_nil List.drop_nil List.map_cons List.map_nil Option.map_some if_true if_false Bool.false_eq_true and_self true_and and_true Nat.reduceLeDiff Nat.reduceLT Nat.le_refl Nat.reduceEqDiff ite_true ite_false beq_self_eq_true beq_true beq_false Bool.not_true Bool.not_false Bool.true_beq Bool.false_beq Xl Q4 Zr Qt Qw QZ QY QX QW Qv Qu Xi Z7 ZAR Ke ZAS ZAP JJ JH JK JI geI gtI JM decide_true decide_false room List.getElem?_map List.length_map List.length_take Int.toNat_natCast Nat.min_def Nat.min_self List.getElem_cons_zero List.getElem_cons_succ
structure CutIn (t:Tr) (cs:List Int):Prop where
 len:cs.length=t.length
 le:∀(k:Nat) (h:k<t.length) (h2:k<cs.length),0≤cs[k]∧cs[k]≤t[k].evs.length
def evp (t:Tr) (p j:Nat):Ev:=Zm t (p,j+1)
def toI (t:Tr) (p j:Nat):Nat:=(J2 t 3 (evp t p j).msg).2
def Uo (t:Tr) (p j i:Nat):Bool:=
 (evp t p j).kind==2&&((evp t p i).kind==2&&((evp t p j).peer==(evp t p i).peer&&(toI t p i != 0&&(toI t p j==0||decide (toI t p i<toI t p j)))))
structure FfI (t:Tr) (p q k last:Nat) (mis:Bool):Prop where
 m1:∀j,j<k→(evp t p j).kind=2→(evp t p j).peer=q→toI t p j=0→mis=true
 m2:mis=true→∃j,j<k∧(evp t p j).kind=2∧(evp t p j).peer=q∧toI t p j=0
 l1:∀j,j<k→(evp t p j).kind=2→(evp t p j).peer=q→toI t p j≤last
 l2:0<last→∃j,j<k∧(evp t p j).kind=2∧(evp t p j).peer=q∧toI t p j=last
 g:∀i,i<k→∀j,j<i→(evp t p i).peer=q→Uo t p j i=false
theorem FfI.start (t:Tr) (p q:Nat):FfI t p q 0 0 false:=⟨fun j h=>by omega,fun h=>(by cases h),fun j h=>by omega,fun h=>by omega,fun j h=>by omega⟩
theorem FfI.skip {t:Tr} {p q k last:Nat} {mis:Bool} (h:FfI t p q k last mis) (hk:¬((evp t p k).kind=2∧(evp t p k).peer=q)):FfI t p q (k+1) last mis:=by
 have up:∀j,j<k+1→j<k∨j=k:=fun j hj=>by omega
 refine⟨fun j hj a b c=>?_,fun hm=>?_,fun j hj a b=>?_,fun hl=>?_,fun i hi j hj hp=>?_⟩
 ·rcases up j hj with h1|rfl
  ·exact h.m1 j h1 a b c
  ·exact absurd ⟨a,b⟩ hk
 ·obtain⟨j,h1,h2⟩:=h.m2 hm;exact⟨j,by omega,h2⟩
 ·rcases up j hj with h1|rfl
  ·exact h.l1 j h1 a b
  ·exact absurd ⟨a,b⟩ hk
 ·obtain⟨j,h1,h2⟩:=h.l2 hl;exact⟨j,by omega,h2⟩
 ·rcases up i hi with h1|rfl
  ·exact h.g i h1 j hj hp
  ·have:((evp t p i).kind==2)=false:=by
    cases hh:(evp t p i).kind==2 with
    |false=>rfl
    |true=>exact absurd ⟨by simpa using hh,hp⟩ hk
   unfold Uo;rw[this];simp
theorem FfI.next {t:Tr} {p q k last:Nat} (h:FfI t p q k last false) (h1:(evp t p k).kind=2) (h2:(evp t p k).peer=q) (h3:toI t p k≠0) (h4:last≤toI t p k):FfI t p q (k+1) (toI t p k) false:=by
 have up:∀j,j<k+1→j<k∨j=k:=fun j hj=>by omega
 refine⟨fun j hj a b c=>?_,fun hm=>(by cases hm),fun j hj a b=>?_,fun hl=>⟨k,by omega,h1,h2,rfl⟩,fun i hi j hj hp=>?_⟩
 ·rcases up j hj with g|rfl
  ·exact h.m1 j g a b c
  ·exact absurd c h3
 ·rcases up j hj with g|rfl
  ·have:=h.l1 j g a b;omega
  ·exact Nat.le_refl _
 ·rcases up i hi with g|rfl
  ·exact h.g i g j hj hp
  ·unfold Uo
   cases hk:(evp t p j).kind==2
   ·simp
   cases he:(evp t p j).peer==(evp t p i).peer
   ·simp
   have hk:(evp t p j).kind=2:=by simpa using hk
   have he:(evp t p j).peer=q:=by rw[←h2];simpa using he
   have hz:(toI t p j==0)=false:=by
    cases hq:toI t p j==0 with
    |false=>rfl
    |true=>exact absurd (h.m1 j hj hk he (by simpa using hq)) (by simp)
   have:=h.l1 j hj hk he
   rw[hz,decide_eq_false oM];simp
theorem FfI.bad {t:Tr} {p q k last:Nat} {mis:Bool} (h:FfI t p q k last mis) (h1:(evp t p k).kind=2) (h2:(evp t p k).peer=q) (h3:toI t p k≠0) (h4:mis=true∨toI t p k<last):∃j,j<k∧Uo t p j k=true:=by
 rcases h4 with h4|h4
 ·obtain⟨j,g1,g2,g3,g4⟩:=h.m2 h4
  refine⟨j,g1,?_⟩
  unfold Uo;rw[g2,g3,h1,h2,g4];simp[h3]
 ·obtain⟨j,g1,g2,g3,g4⟩:=h.l2 oM
  refine⟨j,g1,?_⟩
  unfold Uo;rw[g2,g3,h1,h2,g4];simp[h3,h4]
theorem CutIn.ok {t:Tr} {cs:List Int} (h:CutIn t cs) (hS:Small t):CutOk t cs:=⟨h.len,hS.np,hS.nv,hS.ne,hS.na,h.le⟩

end Go.Proofs.YtoccdlnoaindmaaGreatDoor
namespace Go.Proofs.YtoccdlnoaindmaaGreatDoor
set_option linter.unusedVariables false
set_option linter.unusedSimpArgs false
structure Cutt (t:Tr) (cs:List Int):Prop where
 v:Vok t
 len:cs.length=t.length
 rng:∀p,p<t.length→0≤cAt cs p∧cAt cs p≤(Zc t p).length
 ok:∀x∈ids t,(Zm t x).kind=3→(x.2:Int)≤cAt cs x.1→((sndr t x).2:Int)≤cAt cs (sndr t x).1
def cN (cs:List Int) (p:Nat):Nat:=(cAt cs p).toNat
section
variable {t:Tr} {cs:List Int} (h:Cutt t cs)
include h
end
theorem Jh {t:Tr} (h:Vok t):Xv t=true:=by
 unfold Xv Y6
 have h1:¬(t.length<1∨8<t.length):=by have:=h.lo;have:=h.hi;omega
 rw[if_neg h1]
 have h2:(List.range t.length).find? (fun p=>Xf t p != 0)=none:=by
  rw[List.find?_eq_none];intro p hp;rw[h.head p (List.mem_range.1 hp)];simp
 have h3:(ids t).find? (fun x=>Xq t x != 0)=none:=by
  rw[List.find?_eq_none];intro x hx;rw[h.form x hx];simp
 have h4:(ids t).find? (fun x=>Y7 t x != 0)=none:=by
  rw[List.find?_eq_none];intro x hx;rw[h.pair x hx];simp
 simp only[h2,h3,h4]
 split
 ·rename_i x hx
  have:=List.find?_some hx
  have hm:=List.mem_of_find?_eq_some hx
  exact absurd (by simpa using this) (h.acyc x hm)
 ·rfl
end Go.Proofs.YtoccdlnoaindmaaGreatDoor
