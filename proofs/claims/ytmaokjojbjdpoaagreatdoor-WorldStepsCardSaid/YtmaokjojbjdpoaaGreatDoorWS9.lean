/- Texts of one proof, laid together: X7, RW, NT, TR, TX, R2, X5, X9, XB. No condition. -/
import Derived.Test.YtmaokjojbjdpoaaGreatDoorWS7
import Derived.KernelRfl
set_option linter.unusedSimpArgs false
set_option maxHeartbeats 16000000
set_option maxRecDepth 20000
namespace Go.Proofs.YtmaokjojbjdpoaaGreatDoor
set_option maxHeartbeats 16000000
set_option maxRecDepth 100000
set_option linter.unusedVariables false
set_option linter.unusedSimpArgs false
attribute [local go_sem ↓] kC JB xC iC yD mB wC kD uC nD TA pB yC SA nB vC AA bB pC VB MA dC lB fB qB eB jB XC sB wD rC gD xD lE tD fE eE RB AB
attribute [local go_sem] UB LA QE vB CA mE rD dD iD UL KL sD sC tC nC XD nA JC EA YC FA KB aop AE AD DD MC SD bC TD OJ QG WF amm UF eC TB dF ID GF comma OC ZG CJ AF EF yJ uF gF qE vJ eqC eqF eG cellsOf iB fC IB xF DI rd rdI IE mk mD AV.cell List.all_cons List.all_nil Bool.and_true Bool.true_and Bool.and_self List.length_cons List.length_nil List.length_append Nat.reduceAdd Nat.reduceSub Nat.reduceMul Nat.zero_add Nat.add_zero List.cons_append List.nil_append List.append_assoc List.append_nil List.getElem?_cons_zero List.getElem?_cons_succ List.getElem?_nil List.set_cons_zero List.set_cons_succ List.drop_zero List.drop_succ_cons List.take_zero List.take_succ_cons List.take_nil List.drop_nil List.map_cons List.map_nil Option.map_some if_true if_false Bool.false_eq_true and_self true_and and_true Nat.reduceLeDiff Nat.reduceLT Nat.le_refl Nat.reduceEqDiff ite_true ite_false beq_self_eq_true beq_true beq_false Bool.not_true Bool.not_false Bool.true_beq Bool.false_beq pE DB xB zD vD jC qC zC KC jD qD nE pA XL sK YL QL dG uG rG iG geI gtI sG decide_true decide_false room List.getElem?_map List.length_map List.length_take Int.toNat_natCast Nat.min_def Nat.min_self uD QD MD tB bD mF KA List.getElem_cons_zero List.getElem_cons_succ
abbrev oH:List AV:=[(.v (.int .i64 0)),(.v (.int .i64 0)),(.v (.int .i64 0))]
abbrev oI:List AV:=[(.v (.str ⟨#[]⟩)),(.v .zsl),(.v (.int .i64 0)),(.v .zsl),(.v (.int .i64 0)),(.v (.int .i64 0))]
abbrev oJ:List AV:=[(.v .zsl),(.v (.int .i64 0)),(.v (.bool false)),(.v .zsl),(.v .zsl),(.v .zsl),(.v (.int .i64 0)),(.v (.int .i64 0)),(.v .zsl)]
def a_awk54:AFunc:=⟨0,76,[.tmp 0],(.seq (.region [⟨some 0,.mv (.c (.v (.bool false))),none⟩]) (.seq (.region [⟨some 8,.build oH [(0,1,(.c (.v (.int .i64 3)))),(1,1,(.c (.v (.int .i64 0)))),(2,1,(.c (.v (.int .i64 1))))],none⟩,⟨some 9,.build oH [(0,1,(.c (.v (.int .i64 8))))],none⟩,⟨some 10,.bslice 3 oH 2 [(0,(.t 8)),(1,(.t 9))],none⟩,⟨some 11,.bslice 1 [(.v (.int .i64 0))] 1 [(0,(.c (.v (.int .i64 5))))],none⟩,⟨some 12,.build oI [(0,1,(.c (.v (.str ⟨#[97]⟩)))),(1,1,(.t 10)),(3,1,(.t 11)),(5,1,(.c (.v (.int .i64 1000))))],none⟩,⟨some 13,.build oH [(0,1,(.c (.v (.int .i64 4))))],none⟩,⟨some 14,.build oH [(0,1,(.c (.v (.int .i64 2)))),(1,1,(.c (.v (.int .i64 0)))),(2,1,(.c (.v (.int .i64 1))))],none⟩,⟨some 15,.bslice 3 oH 2 [(0,(.t 13)),(1,(.t 14))],none⟩,⟨some 16,.bslice 1 [(.v (.int .i64 0))] 1 [(0,(.c (.v (.int .i64 0))))],none⟩,⟨some 17,.build oI [(0,1,(.c (.v (.str ⟨#[98]⟩)))),(1,1,(.t 15)),(3,1,(.t 16)),(5,1,(.c (.v (.int .i64 1000))))],none⟩,⟨some 18,.bslice 6 oI 2 [(0,(.t 12)),(1,(.t 17))],none⟩,oA 1 18]) (.seq (.region [oA 20 1,⟨some 21,.build [(.v (.int .i64 0)),(.v (.bool false)),(.v .zsl),(.v .zsl),(.v .zsl)] [],none⟩,⟨some 22,.call (.c (.fn 33 [])) [(.t 20),(.t 21)],none⟩,oA 19 22,⟨some 23,.extract 0 (.t 19),none⟩,⟨some 24,.extract 1 (.t 19),none⟩,⟨some 2,.alloc oJ,none⟩,⟨none,.store 9 (.t 2) (.t 23),none⟩,oA 3 24]) (.seq (.region [⟨some 26,.load (some 9) (.t 2),none⟩,⟨some 27,.call (.c (.fn 20 [])) [(.t 26)],none⟩,oA 25 27,⟨some 28,.extract 0 (.t 25),none⟩,⟨some 29,.extract 1 (.t 25),none⟩,oA 4 28,oA 5 29]) (.seq (.region [⟨some 31,.load (some 9) (.t 2),none⟩,⟨some 32,.bslice 1 [(.v (.int .i64 0))] 3 [(0,(.c (.v (.int .i64 0)))),(1,(.c (.v (.int .i64 1)))),(2,(.c (.v (.int .i64 1))))],none⟩,⟨some 33,.call (.c (.fn 12 [])) [(.t 31),(.t 32)],none⟩,oA 30 33,⟨some 34,.extract 0 (.t 30),none⟩,⟨some 35,.extract 1 (.t 30),none⟩,⟨some 6,.alloc oJ,none⟩,⟨none,.store 9 (.t 6) (.t 34),none⟩,oA 7 35]) (.seq (.region [oA 36 3,⟨some 37,.bin .eql (.t 36) (.c (.v (.int .i64 0))),none⟩,oA 38 37,oA 39 5 (some (38,true)),⟨some 40,.bin .eql (.t 39) (.c (.v (.int .i64 0))),some (38,true)⟩,⟨some 41,.pick (.t 38) (.t 40) (.c (.v (.bool false))),none⟩,oA 42 41,oA 43 4 (some (42,true)),⟨some 44,.bslice 1 [(.v (.int .i64 0))] 1 [(0,(.c (.v (.int .i64 0))))],some (42,true)⟩,⟨some 45,.call (.c (.fn 24 [])) [(.t 43),(.t 44)],some (42,true)⟩,⟨some 46,.pick (.t 42) (.t 45) (.c (.v (.bool false))),none⟩,oA 47 46,oA 48 7 (some (47,true)),⟨some 49,.bin .eql (.t 48) (.c (.v (.int .i64 0))),some (47,true)⟩,⟨some 50,.pick (.t 47) (.t 49) (.c (.v (.bool false))),none⟩,oA 51 50,⟨some 52,.load (some 9) (.t 6),some (51,true)⟩,⟨some 53,.call (.c (.fn 23 [])) [(.t 52)],some (51,true)⟩,⟨some 54,.pick (.t 51) (.t 53) (.c (.v (.bool false))),none⟩,oA 55 54,oB 56 0 6 (some (55,true)),oC 57 56 (some (55,true)),oF 58 57 (some (55,true)),⟨some 59,.bin .eql (.t 58) (.c (.v (.int .i64 2))),some (55,true)⟩,⟨some 60,.pick (.t 55) (.t 59) (.c (.v (.bool false))),none⟩,oA 61 60,oB 62 0 6 (some (61,true)),oC 63 62 (some (61,true)),⟨some 64,.iaddr 6 (.t 63) (.c (.v (.int .i64 1))),some (61,true)⟩,oB 65 3 64 (some (61,true)),oC 66 65 (some (61,true)),⟨some 67,.bslice 1 [(.v (.int .i64 0))] 1 [(0,(.c (.v (.int .i64 6))))],some (61,true)⟩,⟨some 68,.call (.c (.fn 24 [])) [(.t 66),(.t 67)],some (61,true)⟩,⟨some 69,.pick (.t 61) (.t 68) (.c (.v (.bool false))),none⟩,oA 70 69,oB 71 8 6 (some (70,true)),⟨some 72,.load (some 1) (.t 71),some (70,true)⟩,⟨some 73,.call (.c (.fn 39 [])) [(.t 72)],some (70,true)⟩,⟨some 74,.bin .eql (.t 73) (.c (.v (.int .i64 3))),some (70,true)⟩,⟨some 75,.pick (.t 70) (.t 74) (.c (.v (.bool false))),none⟩,oA 0 75]) .ret))))))⟩
theorem G8:qA Tryz.prog 9=some a_awk54:=by kernel_rfl

theorem ZAb {l:List Sv} (p:Nat):sA (l.map npr) p=[]:=by
 unfold sA
 rw[au,an]
 cases l[p]? <;> rfl
theorem ZS {l:List Sv} (x:Nat×Nat):x∉ids (l.map npr):=fun hx=>by
 obtain⟨p,i⟩:=x
 obtain⟨i,rfl⟩:∃k,i=k+1:=⟨i-1,by have:=mG hx;simp only at this;omega⟩
 have:=(jE.1 hx).2
 rw[ZAb]at this
 exact absurd this kS
theorem ZD2:∀i:Fin 8,lD (zH i)=true:=by decide
theorem ZD3:∀i j:Fin 8,j<i→(zH j==zH i)=false:=by decide
theorem ZJF {v:Int} (h:vlB v=true):ZL v=true:=by
 unfold vlB at h;unfold ZL
 simpa using h
theorem ZEA {l:List Sv} (h:SF l=true) {p:Nat} (hp:p<l.length):EC (l.map npr) p=0:=by
 obtain⟨hv,hd⟩:=GH h hp
 have hg:l.getD p dfSv=l[p]:=YA hp
 rw[hg]at hv
 unfold EC
 rw[ZAa hp]
 have c1:((l.map npr).take p).any (fun y=>y.name.toList==(npr l[p]).name.toList)=false:=by
  rw[fz]
  intro y hy hc
  obtain⟨q,hq⟩:=ek.1 hy
  rw[de]at hq
  split at hq
  ·rename_i hqp
   rw[an,ah oM]at hq
   cases hq
   rw[←beq_toListBytes]at hc
   have:=hd q hqp
   rw[hg,YA oM]at this
   exact this (AT hc)
  ·cases hq
 have c3:dB (zN (npr l[p]).vars) (npr l[p]).vars.length=0:=by
  rw[LG]
  intro i hi
  have hi:i<l[p].vars.length:=by rw[←dI (l:=l[p].vars)];exact hi
  have h8:=hv.vl
  have EH:∀j,j<l[p].vars.length→(npr l[p]).vars.getD j CO=wVr l[p].vars j:=fun j hj=>ZAn hj
  unfold zN
  rw[EH i hi]
  have a1:lD (wVr l[p].vars i).name=true:=ZD2 ⟨i,by omega⟩
  have a2:((npr l[p]).vars.take i).any (fun y=>y.name.toList==(wVr l[p].vars i).name.toList)=false:=by
   rw[fz]
   intro y hy hc
   obtain⟨q,hq⟩:=ek.1 hy
   rw[de]at hq
   split at hq
   ·rename_i hqi
    have e:=EH q oM
    rw[au,hq,fu]at e
    rw[e,←beq_toListBytes]at hc
    have:=ZD3 ⟨i,by omega⟩ ⟨q,by omega⟩ hqi
    have zS:(zH q==zH i)=true:=hc
    rw[zS]at this;cases this
   ·cases hq
  have a3:ZL (wVr l[p].vars i).init=true:=ZJF (by show vlB (l[p].vars.getD i 0)=true;rw[YA hi];exact hv.vs _ (ak hi))
  rw[a1,a2,a3];rfl
 have c0:lD (npr l[p]).name=true:=hv.name
 have c2:¬8<(npr l[p]).vars.length:=by
  have:=hv.vl
  show ¬8<(sN l[p].vars).length
  rw[dI];omega
 rw[c0,c1,c3]
 simp only[iu,Bool.or_false,dw,if_false,ne_eq,not_true_eq_false]
 rw[if_neg c2]
 rfl
theorem ZHI {l:List Sv} (h:SF l=true):Vok (l.map npr):=by
 have hn:=AP h
 exact⟨by rw[aa];omega,by rw[aa];omega,fun p hp=>ZEA h (by rwa [aa]at hp),fun x hx=>absurd hx (ZS x),fun x hx=>absurd hx (ZS x),fun x hx=>absurd hx (ZS x)⟩
theorem D5 (v:List Int):(sN v).map (·.init)=v:=by
 apply ec
 intro i
 rw[an]
 by_cases hi:i<v.length
 ·unfold sN
  rw[FB hi,ah hi]
  show some (v.getD i 0)=_
  rw[YA hi]
 ·rw[cg (by rw[dI];omega),cg oM];rfl
theorem ZHJ (s:Sv) (now:Int):xI (npr s) s now=true:=by
 unfold xI
 have h1:((npr s).name==s.name)=true:=MK _
 have h2:(npr s).vars.length=s.vars.length:=dI
 have h3:IY (npr s) s.vars.length=true:=by
  unfold IY
  rw[bl]
  intro i hi
  have e:(npr s).vars.getD i CO=wVr s.vars i:=ZAn (ay.1 hi)
  rw[e];exact MK _
 have h4:iM (npr s)=s.vars:=D5 s.vars
 have h5:ZV (npr s) (CH s now)=true:=by unfold ZV;exact ae (.inl rfl)
 rw[h1,ae h2,h3,ae h4,h5];rfl
theorem ZAc {l:List Sv}:∀k,cSd (l.map npr) k=0
 |0=>rfl
 |k+1=>by
   simp only[cSd]
   rw[ZAc k,ZAb];rfl
theorem ZBi {l:List Sv} {n:Nw} (h:SF l=true) (hn:NwV n) (h0:n.now=0) (hl:n.l=[]):WdV (R9 l n):=by
 refine⟨h,⟨il _,by show (0:Int)≤1000000000;decide⟩,hn,h0,ZHI h,by show (l.map npr).length=l.length;rw[aa],fun p hp=>?_,fun x hx=>absurd hx (ZS x),?_,fun m hm=>?_⟩
 ·have hp:p<l.length:=by rw[←aa (f:=npr)];exact hp
  show xI ((l.map npr).getD p dfPr) (l.getD p dfSv) 0=true
  rw[ZAa hp,YA hp]
  exact ZHJ _ _
 ·show ((cSd (l.map npr) _:Nat):Int)=0
  rw[ZAc];rfl
 ·have hm:m∈n.l:=hm
  rw[hl]at hm;cases hm
def awL:List Sv:=[⟨⟨#[97]⟩,[⟨3,0,1⟩,⟨8,0,0⟩],0,[5],0,1000⟩,⟨⟨#[98]⟩,[⟨4,0,0⟩,⟨2,0,1⟩],0,[0],0,1000⟩]
theorem c9:SF awL=true:=by kernel_rfl
theorem z9:nwB nw0=true:=by kernel_rfl
noncomputable def aw0:Wd:=R9 awL nw0
noncomputable def aw1:Wd:=(stW aw0 0).1
noncomputable def aw2:Wd:=(stW aw1 1).1
noncomputable def aw3:Wd:=(stW aw2 1).1
theorem yM:WdV aw0:=ZBi c9 (YG.1 z9) rfl rfl
theorem ZI5:GE aw0 0=true:=by kernel_rfl
theorem ZI4:(stW aw0 0).2=0:=by kernel_rfl
theorem aw0_l:jH aw0 2=[0]:=by kernel_rfl
theorem ZI0:WdV aw1:=xO yM (by show 0<2;omega) ZI5 ZI4
theorem ZI2:aw1.sv.length=2:=by kernel_rfl
theorem ZI3:GE aw1 1=true:=by kernel_rfl
theorem ZI1:(stW aw1 1).2=0:=by kernel_rfl
theorem ZIW:WdV aw2:=xO ZI0 (by rw[ZI2];omega) ZI3 ZI1
theorem ZIY:aw2.sv.length=2:=by kernel_rfl
theorem ZIZ:GE aw2 1=true:=by kernel_rfl
theorem ZIX:(stW aw2 1).2=0:=by kernel_rfl
theorem mR:WdV aw3:=xO ZIW (by rw[ZIY];omega) ZIZ ZIX
theorem aw3_n:aw3.sv.length=2:=by kernel_rfl
theorem aw3_x:aw3.sv.all endB=true:=by kernel_rfl
theorem ZIV:(ids aw3.tr).length=3:=by kernel_rfl
theorem aw3_r:(aw3.sv.map eSv)[1]? = some [.str ⟨#[98]⟩,.isl 3 [[.int .i64 4,.int .i64 0,.int .i64 0],[.int .i64 2,.int .i64 0,.int .i64 1]],.int .i64 2,.isl 1 [[.int .i64 6]],.int .i64 0,.int .i64 1000]:=by kernel_rfl
theorem sY {w:Wd} (hw:WdV w) {p:Nat} (hp:p<w.sv.length) (he:GE w p=true):SL w p=stW w p:=by
 unfold SL
 rw[if_pos oM]
 unfold EJ
 rw[if_pos hw.to,if_neg oM,ca,if_pos he]
theorem ZJq:bY aw0 [0,1,1]=(aw3,0):=by
 have h0:SL aw0 0=stW aw0 0:=sY (p:=0) yM (by show 0<2;omega) ZI5
 have h1:SL aw1 1=stW aw1 1:=sY (p:=1) ZI0 (by rw[ZI2];omega) ZI3
 have h2:SL aw2 1=stW aw2 1:=sY (p:=1) ZIW (by rw[ZIY];omega) ZIZ
 unfold bY
 rw[if_pos yM.to,if_neg kE]
 have e1:(stW aw0 0).1=aw1:=rfl
 have e2:(stW aw1 1).1=aw2:=rfl
 have e3:(stW aw2 1).1=aw3:=rfl
 simp only[aY]
 rw[h0,if_pos ZI4,e1,h1,if_pos ZI1,e2,h2,if_pos ZIX,e3]
theorem jO (b l:List Row):QA Tryz.prog 9 [] b l (fun r b' l'=>r=.v (.bool true)∧b'=b∧l'=l):=by
 refine XA G8 rfl kE ?_
 intro B g hB hR hE hA;simp only[KA]at hA
 have cN:∀b l,QA Tryz.prog 33 [.v (.isl 6 (awL.map eSv)),.agg [.v (.int .i64 0),.v (.bool false),.v .zsl,.v .zsl,.v .zsl]] b l (fun r b' l'=>r=.tup [.agg ((eWd aw0).map .v),.v (.int .i64 0)]∧b'=b∧l'=l):=fun b l=>by
  have hb:OO awL nw0=(aw0,0):=by
   unfold OO
   rw[if_pos ⟨c9,z9⟩,if_neg (by rintro (h|h|h);exact h rfl;exact absurd h kE;exact absurd h kE)];rfl
  have:=S5 awL (ZIL c9) nw0 (YG.1 z9).s b l
  rw[hb]at this
  refine this.le rfl (fun i x y hx hy=>?_)
  match i,hx,hy with
  |0,hx,hy=>cases hx;cases hy;exact .refl _
  |1,hx,hy =>
    cases hx;cases hy
    refine .agg _ _ rfl (fun j u v hu hv=>?_)
    match j,hu,hv with
    |0,hu,hv=>cases hu;cases hv;exact .refl _
    |1,hu,hv=>cases hu;cases hv;exact .refl _
    |2,hu,hv=>cases hu;cases hv;exact .v _ _ (.zsl 4)
    |3,hu,hv=>cases hu;cases hv;exact .v _ _ (.zsl 1)
    |4,hu,hv=>cases hu;cases hv;exact .v _ _ (.zsl 2)
 have cE:=fun b l=>KQ aw0 yM.small yM.nm yM.svS yM.net.s yM.to b l
 have hq:bJ aw0 aw0.sv.length=[[.int .i64 0]]:=by
  show (jH aw0 2).map _=_
  rw[aw0_l];rfl
 rw[hq]at cE
 have cR:=fun b l=>ZBN aw0 yM.small.sm yM.nm yM.svS yM.net.s [0,1,1] kS kS b l
 rw[ZJq]at cR
 have cD:=fun b l=>UQ aw3 mR.small.sm mR.nm mR.svS mR.net.s b l
 have hd:O4 aw3=true:=by unfold O4;rw[mR.to,aw3_x];rfl
 rw[hd]at cD
 have cC:=fun b l=>i7 aw3.tr mR.small mR.nm b l (by rw[ZIV];omega)
 have hc:CM aw3.tr=3:=by unfold CM;rw[if_pos (NI mR.tr),ZIV]
 rw[hc]at cC
 simp only[eT]at cC
 have q0:∀b l,QA Tryz.prog 24 [.v (.isl 1 [[.int .i64 0]]),.v (.isl 1 [[.int .i64 0]])] b l (fun r b' l'=>r=.v (.bool true)∧b'=b∧l'=l):=fun b l=>lO [0] [0] kS b l
 have q6:∀b l,QA Tryz.prog 24 [.v (.isl 1 [[.int .i64 6]]),.v (.isl 1 [[.int .i64 6]])] b l (fun r b' l'=>r=.v (.bool true)∧b'=b∧l'=l):=fun b l=>lO [6] [6] kS b l
 have g1:=aw3_r
 have n3:=aw3_n
 obtain⟨W,hW⟩:∃W,aw0=W:=⟨_,rfl⟩
 obtain⟨V,hV⟩:∃V,aw3=V:=⟨_,rfl⟩
 rw[hW]at cN cE cR
 rw[hV]at cR cD cC g1 n3
 simp only[SB]at cN cE cR cD
 have b1:((0:Int)==0)=true:=rfl
 have b2:((3:Int)==3)=true:=rfl
 have b3:(((3:Nat):Int)==3)=true:=rfl
 have b4:(((2:Nat):Int)==2)=true:=rfl
 have b5:((2:Int)==2)=true:=rfl
 have t1:Int.toNat 1=1:=rfl
 simp (disch:=first|decide|omega) only[a_awk54,hA,uB,bq,bs,ez,fo,go_sem]
 refine QA.deepMid (l1:=[]) (l2:=[]) (N:=[.live 0 3 [[.v (.int .i64 3),.v (.int .i64 0),.v (.int .i64 1)],[.v (.int .i64 8),.v (.int .i64 0),.v (.int .i64 0)]],.live 0 1 [[.v (.int .i64 5)]],.live 0 3 [[.v (.int .i64 4),.v (.int .i64 0),.v (.int .i64 0)],[.v (.int .i64 2),.v (.int .i64 0),.v (.int .i64 1)]],.live 0 1 [[.v (.int .i64 0)]],.live 0 6 [[.v (.str ⟨#[97]⟩),.sl B.length 0 0 2,.v (.int .i64 0),.sl (B.length+1) 0 0 1,.v (.int .i64 0),.v (.int .i64 1000)],[.v (.str ⟨#[98]⟩),.sl (B.length+2) 0 0 2,.v (.int .i64 0),.sl (B.length+3) 0 0 1,.v (.int .i64 0),.v (.int .i64 1000)]]]) (args':=[.v (.isl 6 (awL.map eSv)),.agg [.v (.int .i64 0),.v (.bool false),.v .zsl,.v .zsl,.v .zsl]]) rfl (fun i x y hx hy=>?_) ?_
 ·match i,hx,hy with
  |0,hx,hy =>
    cases hx;cases hy
    refine Dv.slR (i:=4) rfl kS rfl (fun k r row h1 h2=>?_)
    match k,h1,h2 with
    |0,h1,h2=>cases h1;cases h2;exact DvR.cons (.v _) (DvR.cons (Dv.slV (i:=0) (rows:=[[.int .i64 3,.int .i64 0,.int .i64 1],[.int .i64 8,.int .i64 0,.int .i64 0]]) rfl rfl) (DvR.cons (.v _) (DvR.cons (Dv.slV (i:=1) (rows:=[[.int .i64 5]]) rfl rfl) (DvR.cons (.v _) (DvR.cons (.v _) DvR.nil)))))
    |1,h1,h2=>cases h1;cases h2;exact DvR.cons (.v _) (DvR.cons (Dv.slV (i:=2) (rows:=[[.int .i64 4,.int .i64 0,.int .i64 0],[.int .i64 2,.int .i64 0,.int .i64 1]]) rfl rfl) (DvR.cons (.v _) (DvR.cons (Dv.slV (i:=3) (rows:=[[.int .i64 0]]) rfl rfl) (DvR.cons (.v _) (DvR.cons (.v _) DvR.nil)))))
  |1,hx,hy=>cases hx;cases hy;exact Dv.aggL (.cons (.v _) (.cons (.v _) (.cons (.v _) (.cons (.v _) (.cons (.v _) .nil)))))
 refine QA.nxt (cN _ _) ?_
 simp (disch:=first|decide|omega) only[hA,iF,uB,go_sem]
 refine QA.nxt (cE _ _) ?_
 simp (disch:=first|decide|omega) only[hA,iF,uB,bq,bs,ez,fo,go_sem]
 refine QA.frzB (i:=6) (ver:=0) (sz:=1) (rows:=[[.int .i64 0],[.int .i64 1],[.int .i64 1]]) (args':=[.agg (zWA W),.v (.isl 1 ([0,1,1].map eI))]) rfl (by simp[frz,CD,eI]) ?_
 refine QA.nxt (cR _ _) ?_
 simp (disch:=first|decide|omega) only[hA,b1,iF,uB,bq,bs,ez,fo,go_sem]
 refine QA.frzB (i:=8) (ver:=0) (sz:=1) (rows:=[[.int .i64 0]]) (args':=[.v (.isl 1 [[.int .i64 0]]),.v (.isl 1 [[.int .i64 0]])]) rfl (by simp[frz,CD]) ?_
 refine QA.nxt (q0 _ _) ?_
 simp (disch:=first|decide|omega) only[hA,b1,uB,go_sem]
 refine QA.nxt (cD _ _) ?_
 simp (disch:=first|decide|omega) only[hA,b1,b4,b5,n3,t1,g1,uB,bq,bs,ez,fo,go_sem]
 refine QA.frzB (i:=9) (ver:=0) (sz:=1) (rows:=[[.int .i64 6]]) (args':=[.v (.isl 1 [[.int .i64 6]]),.v (.isl 1 [[.int .i64 6]])]) rfl (by simp[frz,CD]) ?_
 refine QA.nxt (q6 _ _) ?_
 simp (disch:=first|decide|omega) only[hA,b1,b4,b5,n3,t1,g1,uB,go_sem]
 refine QA.nxt (cC _ _) ?_
 simp (disch:=first|decide|omega) only[hA,b1,b2,b3,go_sem]
 exact ZA (xs:=[.v (.bool true)])
open Go.RowKit Go.ChangeShapes Go.WideShapes Go.Deep

def RIs (w:World) (F:Nat→Prop) (row:List IV) (cs:List Value):Prop:=row.length=cs.length∧∀(j:Nat) (a:IV) (v:Value),row[j]? = some a→cs[j]? = some v→RepI w F a v
theorem RIs.nil {w:World} {F:Nat→Prop}:RIs w F [] []:=⟨rfl,fun j a v h=>by simp at h⟩
theorem RIs.one {w:World} {F:Nat→Prop} {a:IV} {v:Value} (h:RepI w F a v):RIs w F [a] [v]:=by
 refine⟨rfl,fun j x u hx hu=>?_⟩
 cases j with
 |zero=>simp at hx hu;subst hx;subst hu;exact h
 |succ j=>simp at hx
theorem RIs.append {w:World} {F:Nat→Prop} {r s:List IV} {cs ds:List Value} (h:RIs w F r cs) (k:RIs w F s ds):RIs w F (r++s) (cs++ds):=by
 refine⟨by simp[h.1,k.1],fun j a v ha hv=>?_⟩
 by_cases hj:j<r.length
 ·rw[aw hj]at ha
  rw[aw (by rw[←h.1];exact hj)]at hv
  exact h.2 j a v ha hv
 ·rw[aq oM]at ha
  rw[aq (by rw[←h.1];omega),←h.1]at hv
  exact k.2 _ a v ha hv
theorem RIs.repL {w:World} {F:Nat→Prop} {L:LMap} {r:List IV} {cs:List Value} (h:RIs w F r cs):DA w F L (r.map .v) cs:=by
 refine⟨by simpa using h.1,fun j x v hx hv=>?_⟩
 rw[an]at hx
 cases hq:r[j]? with
 |none=>simp[hq]at hx
 |some y=>simp[hq]at hx;subst hx;exact .v _ _ (h.2 j y v hq hv)

def Low (w:World):Nat→Prop:=fun b=>b<w.heap.size

def TR {α:Type} (P:Program) (t:TypeId) (n:Nat) (enc:α→List IV) (good:α→Prop):Prop:=
 ∀(H:Type) (en:TypeId×Value→H) (w:World) (base:Nat) (spare:Nat→Bool) (held:Bool) (fuel:Nat) (cs:List Value) (x:DataW H×List MemPlace),cs.length=n→DataW.trod en P w base spare held fuel t cs=some x →
  ∃y,good y∧RIs w (Low w) (enc y) cs

section
variable {P:Program} {α β:Type}
theorem TR.map {t:TypeId} {n:Nat} {enc:α→List IV} {good:α→Prop} (h:TR P t n enc good) {enc':β→List IV} {good':β→Prop} (f:α→β) (he:∀y,enc' (f y)=enc y) (hg:∀y,good y→good' (f y)):TR P t n enc' good':=by
 intro H en w base spare held fuel cs x hl hx
 obtain⟨y,g,r⟩:=h H en w base spare held fuel cs x hl hx
 exact⟨f y,hg y g,by rw[he];exact r⟩
theorem ZEu {t:TypeId} {k:IntKind} (ht:P.underlying t=some (.int k)):TR P t 1 (fun n:Int=>[.int k n]) (fun n=>(Lit.int k n).wf=true):=by
 intro H en w base spare held fuel cs x hl hx
 obtain⟨n,rfl,_,hw⟩:=DataW.trod_int ht hx
 exact⟨n,hw,RIs.one (.int _ _)⟩
theorem ZG2 {t:TypeId} (ht:P.underlying t=some .bool):TR P t 1 (fun b:Bool=>[.bool b]) (fun _=>True):=by
 intro H en w base spare held fuel cs x hl hx
 obtain⟨n,rfl,_⟩:=DataW.trod_bool ht hx
 exact⟨n,trivial,RIs.one (.bool _)⟩
theorem nV {t:TypeId} (ht:P.underlying t=some .string):TR P t 1 (fun s:ByteArray=>[.str s]) (fun s=>s.size≤maxLen):=by
 intro H en w base spare held fuel cs x hl hx
 obtain⟨n,rfl,_,hm⟩:=DataW.trod_string ht hx
 exact⟨n,hm,RIs.one (.str _)⟩
theorem ZH {t e:TypeId} {n:Nat} {enc:α→List IV} {good:α→Prop} (h:TR P e n enc good) (ht:P.underlying t=some (.slice e)) (hC:P.cellsOf e=n) (h0:0<n) :
  TR P t 1 (fun ys:List α=>[.isl n (ys.map enc)]) (fun ys=>ys.length≤maxLen∧∀y∈ys,good y):=by
 intro H en w base spare held fuel cs x hl hx
 rcases open_slice ht hx with ⟨hv,_⟩|⟨a,len,cap,m,f,D,Pl,hv,hb,hll,hm,hmm,_,OI⟩
 ·subst hv
  exact⟨[],⟨by simp[maxLen],fun y hy=>by simp at hy⟩,RIs.one (.isl0 _ _ _ (by simp[maxLen]))⟩
 ·subst hv
  have PJ:len≤m:=by rw[hmm];split<;>omega
  have key:∀i,i<len→∃y,(good y∧∃b off,a=⟨b,off,none⟩∧(enc y).length=n∧∀(j:Nat) (c:IV),(enc y)[j]? = some c→∃v,w.cell? ⟨b,off+i*n+j,none⟩=some v∧RepI w (Low w) c v):=by
   intro i hi
   obtain⟨cs',hc,ht'⟩:=OI i oM
   rw[hC]at hc
   obtain⟨_,bM,hat⟩:=World.cells?_some hc
   obtain⟨cs0,hc0,_⟩:=OI 0 oM
   rw[hC]at hc0
   obtain⟨_,hcl0,ZNW⟩:=World.cells?_some hc0
   have P9:=ZNW 0 h0
   have e00:(a.add (0*n)).add 0=a:=by simp[Addr.add]
   rw[e00,ah (show 0<cs0.length by omega)]at P9
   have hsp:=ZBP P9
   obtain⟨b,off,sp⟩:=a
   simp only at hsp
   subst hsp
   obtain⟨y,hg,hy⟩:=h H en w base spare held f cs' (D i,Pl i) bM ht'
   refine⟨y,hg,b,off,rfl,by rw[hy.1,bM],fun j c hj=>?_⟩
   have yG:j<cs'.length:=by rw[←hy.1];exact (am.1 hj).1
   have:=hat j oM
   have e1:((⟨b,off,none⟩:Addr).add (i*n)).add j=⟨b,off+i*n+j,none⟩:=by
    unfold Addr.add
    by_cases h1:i*n=0<;>by_cases h2:j=0<;>simp[h1,h2]
   rw[e1,ah yG]at this
   exact⟨_,this,hy.2 j c _ hj (ah yG)⟩
  obtain⟨xs,hxl,N8⟩:=ZAf len key
  subst hxl
  refine⟨xs,⟨by omega,fun y hy=>?_⟩,RIs.one ?_⟩
  ·obtain⟨i,hi⟩:=ek.1 hy
   exact (N8 i y hi).1
  ·by_cases yT:0<xs.length
   ·obtain⟨_,b,off,ha,_⟩:=N8 0 xs[0] (ah yT)
    subst ha
    have ZN:∀(k:Nat) (row:List IV),(xs.map enc)[k]? = some row→row.length=n∧∀(j:Nat) (c:IV),row[j]? = some c→∃v,w.cell? ⟨b,off+k*n+j,none⟩=some v∧RepI w (Low w) c v:=by
     intro k row hk
     rw[an]at hk
     cases hq:xs[k]? with
     |none=>rw[hq]at hk;cases hk
     |some y =>
       rw[hq]at hk;cases hk
       obtain⟨_,b',off',hh,h1,h2⟩:=N8 k y hq
       injection hh with g1 g2
       subst g1;subst g2
       exact⟨h1,h2⟩
    have ZNX:Low w b:=by
     obtain⟨r1,r2⟩:=ZN 0 (enc xs[0]) (by rw[an,ah yT];rfl)
     obtain⟨v,hv,_⟩:=r2 0 (enc xs[0])[0] (ah oM)
     exact zB hv
    have:=RepI.isl (w:=w) (F:=Low w) (xs.map enc) b off n cap (fun k j=>(w.cell? ⟨b,off+k*n+j,none⟩).getD undef) ZNX (by simpa using hll) hm (fun k row hk=>(ZN k row hk).1)
     (fun k row j c hk hj=>by
      obtain⟨v,hv,_⟩:=(ZN k row hk).2 j c hj
      rw[hv];rfl)
     (fun k row j c hk hj=>by
      obtain⟨v,hv,hr⟩:=(ZN k row hk).2 j c hj
      rw[hv];exact hr)
    rw[aa]at this
    exact this
   ·have:xs=[]:=ct oM
    subst this
    exact .isl0 _ _ _ hm

def TRF (P:Program) (fs:List Field) (o n:Nat) (enc:α→List IV) (good:α→Prop):Prop:=
 ∀(H:Type) (en:TypeId×Value→H) (w:World) (base:Nat) (spare:Nat→Bool) (held:Bool) (fuel:Nat) (cs:List Value),cs.length=o+n→(∀f∈fs,∃x,DataW.trod en P w base spare held fuel f.type ((cs.drop f.offset).take (P.cellsOf f.type))=some x) →
  ∃y,good y∧RIs w (Low w) (enc y) (cs.drop o)
theorem JH {o:Nat}:TRF P [] o 0 (fun _:Unit=>[]) (fun _=>True):=by
 intro H en w base spare held fuel cs hl _
 refine⟨(),trivial,?_⟩
 rw[ki oM]
 exact RIs.nil
theorem fA {f:Field} {fs:List Field} {o n m:Nat} {enc:α→List IV} {good:α→Prop} {enc':β→List IV} {good':β→Prop} (h:TR P f.type n enc good) (hC:P.cellsOf f.type=n) (ho:f.offset=o) (k:TRF P fs (o+n) m enc' good') :
  TRF P (f::fs) o (n+m) (fun y:α×β=>enc y.1++enc' y.2) (fun y=>good y.1∧good' y.2):=by
 intro H en w base spare held fuel cs hl hfs
 obtain⟨x,hx⟩:=hfs f kS
 rw[ho,hC]at hx
 obtain⟨y,hg,hy⟩:=h H en w base spare held fuel _ x (by simp;omega) hx
 obtain⟨z,hg',hz⟩:=k H en w base spare held fuel cs oM (fun f hf=>hfs f (by simp[hf]))
 refine⟨(y,z),⟨hg,hg'⟩,?_⟩
 have:cs.drop o=(cs.drop o).take n++cs.drop (o+n):=by rw[←List.drop_drop,iy]
 rw[this]
 exact hy.append hz
theorem TE {t:TypeId} {fs:Array Field} {n:Nat} {enc:α→List IV} {good:α→Prop} (ht:P.underlying t=some (.struct fs)) (h:TRF P fs.toList 0 n enc good):TR P t n enc good:=by
 intro H en w base spare held fuel cs x hl hx
 obtain⟨xs,m,_,_,_,aB,hf⟩:=DataW.trod_struct ht hx
 obtain⟨y,hg,hy⟩:=h H en w base spare held m cs oM (fun f hm=>by
  obtain⟨i,hi⟩:=ek.1 hm
  have hi':fs[i]? = some f:=by simpa using hi
  have yA:i<xs.length:=by rw[aB];exact (bw.1 hi').1
  exact⟨_,(hf i f hi').trans (ah yA)⟩)
 exact⟨y,hg,by simpa using hy⟩
theorem TR.one {t:TypeId} {enc:α→IV} {good:α→Prop} (h:TR P t 1 (fun y=>[enc y]) good) {H:Type} {en:TypeId×Value→H} {w:World} {v:Value} {d:DataW H} {p:List MemPlace} {base:Nat} {spare:Nat→Bool} {held:Bool}
  (hv:v.cells=#[v]) (hT:DataW.Trod en P w base spare held t v d p):∃y,good y∧RepI w (Low w) (enc y) v:=by
 obtain⟨fuel,hf⟩:=hT
 rw[hv]at hf
 obtain⟨y,hg,hy⟩:=h H en w base spare held fuel [v] (d,p) rfl hf
 exact⟨y,hg,hy.2 0 _ _ rfl rfl⟩
theorem TR.agg {t:TypeId} {n:Nat} {enc:α→List IV} {good:α→Prop} (h:TR P t n enc good) {fs:Array Field} (hs:P.underlying t=some (.struct fs)) (hC:P.cellsOf t=n) {H:Type} {en:TypeId×Value→H} {w:World} {v:Value} {d:DataW H} {p:List MemPlace} {base b0:Nat} {r:Reach} {spare:Nat→Bool} {held:Bool}
  (hv:Value.okWide P w r b0 t v) (hT:DataW.Trod en P w base spare held t v d p):∃y,good y∧RepA w (Low w) (fun _ _=>none) (.agg ((enc y).map .v)) v:=by
 obtain⟨cs,rfl,SN⟩:=okWide_struct hs hv
 obtain⟨fuel,hf⟩:=hT
 obtain⟨y,hg,hy⟩:=h H en w base spare held fuel _ (d,p) (by simpa [Value.cells] using SN.trans hC) hf
 exact⟨y,hg,DA.agg hy.repL⟩
end
end Go.Proofs.YtmaokjojbjdpoaaGreatDoor
namespace Go.Proofs.YtmaokjojbjdpoaaGreatDoor
open Go.RowKit
set_option linter.unusedVariables false
theorem QJ:TR Tryz.prog 3 1 (fun n:Int=>[.int .i64 n]) (fun n=>(Lit.int .i64 n).wf=true):=ZEu Tryz.underlying3
theorem trn_b:TR Tryz.prog 4 1 (fun n:Bool=>[.bool n]) (fun _=>True):=ZG2 Tryz.underlying4
theorem wT:TR Tryz.prog 24 1 (fun c:List Int=>[.isl 1 (c.map eI)]) (fun c=>c.length≤maxLen):=(ZH QJ Tryz.underlying24 (by kernel_rfl) kE).map id (fun _=>rfl) (fun _ h=>h.1)
theorem ZG1:TR Tryz.prog 92 2 eFt (fun _=>True):=
 (TE Tryz.underlying92 (fA QJ (by kernel_rfl) rfl (fA QJ (by kernel_rfl) rfl JH))).map (fun y=>(y.1,y.2.1)) (fun _=>rfl) (fun _ _=>trivial)
theorem ZD5:TR Tryz.prog 25 1 (fun l:List (Int×Int)=>[.isl 2 (l.map eFt)]) (fun l=>l.length≤maxLen):=
 (ZH ZG1 Tryz.underlying25 (by kernel_rfl) kE).map id (fun _=>rfl) (fun _ h=>h.1)
theorem ZJK:TR Tryz.prog 106 4 eMs (fun m=>m.body.length≤maxLen):=
 (TE Tryz.underlying106 (fA QJ (by kernel_rfl) rfl (fA QJ (by kernel_rfl) rfl (fA QJ (by kernel_rfl) rfl (fA wT (by kernel_rfl) rfl JH))))).map
  (fun y=>⟨y.1,y.2.1,y.2.2.1,y.2.2.2.1⟩) (fun _=>rfl) (fun _ h=>h.2.2.2.1)
theorem ZGZ:TR Tryz.prog 23 1 (fun l:List Ms=>[.isl 4 (l.map eMs)]) (fun l=>l.length≤maxLen∧∀m∈l,m.body.length≤maxLen):=
 ZH ZJK Tryz.underlying23 (by kernel_rfl) kE
theorem ZJJ:TR Tryz.prog 27 5 eNw (fun n=>(Lit.int .i64 n.now).wf=true∧n.l.length≤maxLen∧n.tm.length≤maxLen∧n.fates.length≤maxLen):=
 (TE Tryz.underlying27 (fA QJ (by kernel_rfl) rfl (fA trn_b (by kernel_rfl) rfl (fA ZGZ (by kernel_rfl) rfl (fA wT (by kernel_rfl) rfl (fA ZD5 (by kernel_rfl) rfl JH)))))).map
  (fun y=>⟨y.1,y.2.1,y.2.2.1,y.2.2.2.1,y.2.2.2.2.1⟩) (fun _=>rfl) (fun _ h=>⟨h.1,h.2.2.1.1,h.2.2.2.1,h.2.2.2.2.1⟩)
theorem ZCl:TR Tryz.prog 3 1 (fun n:Int=>[.int .i64 n]) (fun n=>(Lit.int .i64 n).wf=true):=ZEu Tryz.underlying3
theorem tr_s:TR Tryz.prog 9 1 (fun s:ByteArray=>[.str s]) (fun s=>s.size≤maxLen):=nV Tryz.underlying9
theorem ZJN:TR Tryz.prog 75 2 eAsg (fun _=>True):=
 (TE Tryz.underlying75 (fA ZCl (by kernel_rfl) rfl (fA ZCl (by kernel_rfl) rfl JH))).map (fun y=>⟨y.1,y.2.1⟩) (fun _=>rfl) (fun _ _=>trivial)
theorem ZG3:TR Tryz.prog 66 1 (fun l:List Asg=>[.isl 2 (l.map eAsg)]) (fun l=>l.length≤maxLen):=
 (ZH ZJN Tryz.underlying66 (by kernel_rfl) kE).map id (fun _=>rfl) (fun _ h=>h.1)
theorem tr_ev:TR Tryz.prog 68 5 eEv (fun _=>True):=
 (TE Tryz.underlying68 (fA ZCl (by kernel_rfl) rfl (fA ZCl (by kernel_rfl) rfl (fA ZCl (by kernel_rfl) rfl (fA ZCl (by kernel_rfl) rfl (fA ZG3 (by kernel_rfl) rfl JH)))))).map
  (fun y=>⟨y.1,y.2.1,y.2.2.1,y.2.2.2.1,y.2.2.2.2.1⟩) (fun _=>rfl) (fun _ _=>trivial)
theorem ZJM:TR Tryz.prog 63 1 (fun l:List Ev=>[.isl 5 (l.map eEv)]) (fun l=>l.length≤maxLen):=
 (ZH tr_ev Tryz.underlying63 (by kernel_rfl) kE).map id (fun _=>rfl) (fun _ h=>h.1)
theorem ZJH:TR Tryz.prog 99 2 eVr (fun v=>v.name.size≤maxLen):=
 (TE Tryz.underlying99 (fA tr_s (by kernel_rfl) rfl (fA ZCl (by kernel_rfl) rfl JH))).map (fun y=>⟨y.1,y.2.1⟩) (fun _=>rfl) (fun _ h=>h.1)
theorem ZGX:TR Tryz.prog 62 1 (fun l:List Vr=>[.isl 2 (l.map eVr)]) (fun l=>l.length≤maxLen∧∀v∈l,v.name.size≤maxLen):=
 ZH ZJH Tryz.underlying62 (by kernel_rfl) kE
def OkPr (p:Pr):Prop:=(p.name.size≤maxLen∧∀v∈p.vars,v.name.size≤maxLen)∧p.vars.length≤maxLen∧p.evs.length≤maxLen
theorem ZGY:TR Tryz.prog 65 3 ePr OkPr:=
 (TE Tryz.underlying65 (fA tr_s (by kernel_rfl) rfl (fA ZGX (by kernel_rfl) rfl (fA ZJM (by kernel_rfl) rfl JH)))).map
  (fun y=>⟨y.1,y.2.1,y.2.2.1⟩) (fun _=>rfl) (fun _ h=>⟨⟨h.1,h.2.1.2⟩,h.2.1.1,h.2.2.1⟩)
def OkTr (t:Tr):Prop:=t.length≤maxLen∧∀p∈t,OkPr p
theorem ZD4:TR Tryz.prog 30 1 (fun t:Tr=>[eT t]) OkTr:=
 (TE Tryz.underlying30 (fA (ZH ZGY Tryz.underlying28 (by kernel_rfl) kE) (by kernel_rfl) rfl JH)).map (fun y=>y.1) (fun _=>rfl) (fun _ h=>h.1)
theorem OkTr.nm {t:Tr} (h:OkTr t):Nm t:=fun p hp=>(h.2 p hp).1
theorem KW:maxLen=9223372036854775807:=by decide
theorem trx_s:TR Tryz.prog 9 1 (fun s:ByteArray=>[.str s]) (fun s=>s.size≤maxLen):=nV Tryz.underlying9
theorem ZJL:TR Tryz.prog 50 3 eIn (fun _=>True):=
 (TE Tryz.underlying50 (fA QJ (by kernel_rfl) rfl (fA QJ (by kernel_rfl) rfl (fA QJ (by kernel_rfl) rfl JH)))).map (fun y=>⟨y.1,y.2.1,y.2.2.1⟩) (fun _=>rfl) (fun _ _=>trivial)
theorem ZG0:TR Tryz.prog 46 1 (fun l:List In=>[.isl 3 (l.map eIn)]) (fun l=>l.length≤maxLen):=
 (ZH ZJL Tryz.underlying46 (by kernel_rfl) kE).map id (fun _=>rfl) (fun _ h=>h.1)
def OkSv (s:Sv):Prop:=s.name.size≤maxLen∧s.code.length≤maxLen∧s.vars.length≤maxLen
theorem tr_sv:TR Tryz.prog 48 6 eSv OkSv:=
 (TE Tryz.underlying48 (fA trx_s (by kernel_rfl) rfl (fA ZG0 (by kernel_rfl) rfl (fA QJ (by kernel_rfl) rfl (fA wT (by kernel_rfl) rfl (fA QJ (by kernel_rfl) rfl (fA QJ (by kernel_rfl) rfl JH))))))).map
  (fun y=>⟨y.1,y.2.1,y.2.2.1,y.2.2.2.1,y.2.2.2.2.1,y.2.2.2.2.2.1⟩) (fun _=>rfl) (fun _ h=>⟨h.1,h.2.1,h.2.2.2.1⟩)
theorem ZJI:TR Tryz.prog 22 1 (fun l:List Sv=>[.isl 6 (l.map eSv)]) (fun l=>l.length≤maxLen∧∀s∈l,OkSv s):=
 ZH tr_sv Tryz.underlying22 (by kernel_rfl) kE
def OkWd (w:Wd):Prop:=((w.sv.length≤maxLen∧∀s∈w.sv,OkSv s)∧(w.net.l.length≤maxLen∧w.net.tm.length≤maxLen∧w.net.fates.length≤maxLen))∧OkTr w.tr
theorem tr_wd:TR Tryz.prog 32 9 eWd OkWd:=
 (TE Tryz.underlying32 (fA ZJI (by kernel_rfl) rfl (fA ZJJ (by kernel_rfl) rfl (fA QJ (by kernel_rfl) rfl (fA QJ (by kernel_rfl) rfl (fA ZD4 (by kernel_rfl) rfl JH)))))).map
  (fun y=>⟨y.1,y.2.1,y.2.2.1,y.2.2.2.1,y.2.2.2.2.1⟩) (fun _=>rfl) (fun _ h=>⟨⟨h.1,h.2.1.2⟩,h.2.2.2.2.1⟩)
theorem OkWd.nm {w:Wd} (h:OkWd w):Nm w.tr:=h.2.nm
theorem OkWd.tl {w:Wd} (h:OkWd w):w.tr.length≤9223372036854775807:=by have:=h.2.1;rwa [KW]at this
theorem OkWd.ev {w:Wd} (h:OkWd w):∀x∈w.tr,x.evs.length≤9223372036854775807:=fun x hx=>by have:=(h.2.2 x hx).2.2;rwa [KW]at this
end Go.Proofs.YtmaokjojbjdpoaaGreatDoor
namespace Go.Proofs.YtmaokjojbjdpoaaGreatDoor
set_option linter.unusedVariables false
set_option linter.unusedSimpArgs false
attribute [local go_sem ↓] kC JB xC iC yD mB wC kD uC nD TA pB yC SA nB vC AA bB pC VB MA dC lB fB qB eB jB XC sB wD rC gD xD lE tD fE eE RB AB
attribute [local go_sem] UB LA QE vB CA mE rD dD iD UL KL sD sC tC nC XD nA JC EA YC FA KB aop AE AD DD MC SD bC TD OJ QG WF amm UF eC TB dF ID GF comma OC ZG CJ AF EF yJ uF gF qE vJ eqC eqF eG cellsOf iB fC IB xF DI rd rdI IE mk mD AV.cell List.all_cons List.all_nil Bool.and_true Bool.true_and Bool.and_self List.length_cons List.length_nil List.length_append Nat.reduceAdd Nat.reduceSub Nat.reduceMul Nat.zero_add Nat.add_zero List.cons_append List.nil_append List.append_assoc List.append_nil List.getElem?_cons_zero List.getElem?_cons_succ List.getElem?_nil List.set_cons_zero List.set_cons_succ List.drop_zero List.drop_succ_cons List.take_zero List.take_succ_cons List.take_nil List.drop_nil List.map_cons List.map_nil Option.map_some if_true if_false Bool.false_eq_true and_self true_and and_true Nat.reduceLeDiff Nat.reduceLT Nat.le_refl Nat.reduceEqDiff ite_true ite_false beq_self_eq_true beq_true beq_false Bool.not_true Bool.not_false Bool.true_beq Bool.false_beq pE DB xB zD vD jC qC zC KC jD qD nE pA XL sK YL QL dG uG rG iG geI gtI sG decide_true decide_false room List.getElem?_map List.length_map List.length_take Int.toNat_natCast Nat.min_def Nat.min_self uD QD MD tB bD mF KA List.getElem_cons_zero List.getElem_cons_succ
abbrev oK:List AOper:=[oB 24 0 2,oC 25 24,oA 26 5,oE 27 3 25 26,⟨some 28,.load (some 3) (.t 27),none⟩,oB 29 0 3,oC 30 29,oA 31 5,oE 32 3 30 31,⟨some 33,.load (some 3) (.t 32),none⟩]
abbrev oL:List AOper:=[⟨some 4,.mv (.c (.v (.bool false))),none⟩]
def a_sTr:AFunc:=⟨2,94,[.tmp 4],(.seq (.region [⟨some 2,.box (.t 0),none⟩,⟨some 3,.box (.t 1),none⟩,⟨some 4,.mv (.c (.v (.bool false))),none⟩]) (.seq (.seq (.region [oB 10 0 2,oC 11 10,oF 12 11,oB 13 0 3,oC 14 13,oF 15 14,oD 16 12 15]) (.cond (.t 16) (.seq (.region oL) .ret) .skip)) (.seq (.seq (.region [⟨some 5,.mv (.c (.v (.int .i64 0))),none⟩]) (.block 0 (.loop (.seq (.seq (.region [oA 17 5,oB 18 0 2,oC 19 18,oF 20 19,⟨some 21,.bin .lss (.t 17) (.t 20),none⟩]) (.cond (.t 21) .skip (.exit 0))) (.seq (.block 1 (.seq (.draw [⟨0,oB 24 0 2,[]⟩,⟨1,oC 25 24,[]⟩,⟨2,oA 26 5,[]⟩,⟨3,oE 27 3 25 26,[]⟩,⟨4,⟨some 28,.load (some 3) (.t 27),none⟩,[]⟩,⟨5,oB 29 0 3,[]⟩,⟨6,oC 30 29,[]⟩,⟨7,oA 31 5,[]⟩,⟨8,oE 32 3 30 31,[]⟩,⟨9,⟨some 33,.load (some 3) (.t 32),none⟩,[]⟩,⟨10,⟨some 6,.alloc [(.v (.str ⟨#[]⟩)),(.v .zsl),(.v .zsl)],none⟩,oK⟩,⟨11,⟨some 7,.alloc [(.v (.str ⟨#[]⟩)),(.v .zsl),(.v .zsl)],none⟩,oK⟩,⟨12,⟨none,.store 3 (.t 6) (.t 28),none⟩,[oB 29 0 3,oC 30 29,oA 31 5,oE 32 3 30 31,⟨some 33,.load (some 3) (.t 32),none⟩]⟩,⟨13,⟨none,.store 3 (.t 7) (.t 33),none⟩,[]⟩]) (.seq (.seq (.region [oB 34 0 6,oC 35 34,oB 36 0 7,oC 37 36,⟨some 38,.binS .neq (.t 35) (.t 37),none⟩,oA 39 38,oB 40 1 6 (some (39,false)),oC 41 40 (some (39,false)),oF 42 41 (some (39,false)),oB 43 1 7 (some (39,false)),oC 44 43 (some (39,false)),oF 45 44 (some (39,false)),oD 46 42 45 (some (39,false)),⟨some 47,.pick (.t 39) (.c (.v (.bool true))) (.t 46),none⟩,oA 48 47,oB 49 2 6 (some (48,false)),oC 50 49 (some (48,false)),oF 51 50 (some (48,false)),oB 52 2 7 (some (48,false)),oC 53 52 (some (48,false)),oF 54 53 (some (48,false)),oD 55 51 54 (some (48,false)),⟨some 56,.pick (.t 48) (.c (.v (.bool true))) (.t 55),none⟩]) (.cond (.t 56) (.seq (.region oL) .ret) .skip)) (.seq (.seq (.region [⟨some 8,.mv (.c (.v (.int .i64 0))),none⟩]) (.block 2 (.loop (.seq (.seq (.region [oA 57 8,oB 58 1 6,oC 59 58,oF 60 59,⟨some 61,.bin .lss (.t 57) (.t 60),none⟩]) (.cond (.t 61) .skip (.exit 2))) (.seq (.block 3 (.seq (.draw [⟨0,oB 64 1 6,[]⟩,⟨1,oC 65 64,[]⟩,⟨2,oA 66 8,[]⟩,⟨3,oE 67 2 65 66,[]⟩,⟨4,⟨some 68,.load (some 2) (.t 67),none⟩,[]⟩,⟨5,oB 69 1 7,[]⟩,⟨6,oC 70 69,[]⟩,⟨7,oA 71 8,[]⟩,⟨8,oE 72 2 70 71,[]⟩,⟨9,⟨some 73,.load (some 2) (.t 72),none⟩,[]⟩,⟨10,⟨some 74,.eqs true [.s,.i] (.t 68) (.t 73),none⟩,[]⟩]) (.cond (.t 74) (.seq (.region oL) .ret) .skip))) (.region [oA 62 8,⟨some 63,.bin .add (.t 62) (.c (.v (.int .i64 1))),none⟩,oA 8 63])))))) (.seq (.region [⟨some 9,.mv (.c (.v (.int .i64 0))),none⟩]) (.block 4 (.loop (.seq (.seq (.region [oA 75 9,oB 76 2 6,oC 77 76,oF 78 77,⟨some 79,.bin .lss (.t 75) (.t 78),none⟩]) (.cond (.t 79) .skip (.exit 4))) (.seq (.block 5 (.seq (.draw [⟨0,oB 82 2 6,[]⟩,⟨1,oC 83 82,[]⟩,⟨2,oA 84 9,[]⟩,⟨3,oE 85 5 83 84,[]⟩,⟨4,⟨some 86,.load (some 5) (.t 85),none⟩,[]⟩,⟨5,oB 87 2 7,[]⟩,⟨6,oC 88 87,[]⟩,⟨7,oA 89 9,[]⟩,⟨8,oE 90 5 88 89,[]⟩,⟨9,⟨some 91,.load (some 5) (.t 90),none⟩,[]⟩,⟨10,⟨some 92,.call (.c (.fn 84 [])) [(.t 86),(.t 91)],none⟩,[]⟩,⟨11,⟨some 93,.not (.t 92),none⟩,[]⟩]) (.cond (.t 93) (.seq (.region oL) .ret) .skip))) (.region [oA 80 9,⟨some 81,.bin .add (.t 80) (.c (.v (.int .i64 1))),none⟩,oA 9 81])))))))))) (.region [oA 22 5,⟨some 23,.bin .add (.t 22) (.c (.v (.int .i64 1))),none⟩,oA 5 23])))))) (.seq (.region [⟨some 4,.mv (.c (.v (.bool true))),none⟩]) .ret))))⟩
theorem ZEa:qA Tryz.prog 34=some a_sTr:=by kernel_rfl
def ZFD:List (Nat×Nat):=[(4,9),(17,93)]
def ZFC:List (Nat×Nat):=[(4,4),(8,8),(57,74)]
def ZFB:List (Nat×Nat):=[(4,4),(9,9),(75,93)]
abbrev oN:List AOper:=[⟨some 4,.mv (.c (.v (.bool false))),none⟩]
def a_sEv:AFunc:=⟨2,59,[.tmp 4],(.seq (.region [⟨some 2,.box (.t 0),none⟩,⟨some 3,.box (.t 1),none⟩,⟨some 4,.mv (.c (.v (.bool false))),none⟩]) (.seq (.seq (.region [oB 6 0 2,oC 7 6,oB 8 0 3,oC 9 8,oD 10 7 9,oA 11 10,oB 12 1 2 (some (11,false)),oC 13 12 (some (11,false)),oB 14 1 3 (some (11,false)),oC 15 14 (some (11,false)),oD 16 13 15 (some (11,false)),⟨some 17,.pick (.t 11) (.c (.v (.bool true))) (.t 16),none⟩,oA 18 17,oB 19 2 2 (some (18,false)),oC 20 19 (some (18,false)),oB 21 2 3 (some (18,false)),oC 22 21 (some (18,false)),oD 23 20 22 (some (18,false)),⟨some 24,.pick (.t 18) (.c (.v (.bool true))) (.t 23),none⟩,oA 25 24,oB 26 3 2 (some (25,false)),oC 27 26 (some (25,false)),oB 28 3 3 (some (25,false)),oC 29 28 (some (25,false)),oD 30 27 29 (some (25,false)),⟨some 31,.pick (.t 25) (.c (.v (.bool true))) (.t 30),none⟩,oA 32 31,oB 33 4 2 (some (32,false)),oC 34 33 (some (32,false)),oF 35 34 (some (32,false)),oB 36 4 3 (some (32,false)),oC 37 36 (some (32,false)),oF 38 37 (some (32,false)),oD 39 35 38 (some (32,false)),⟨some 40,.pick (.t 32) (.c (.v (.bool true))) (.t 39),none⟩]) (.cond (.t 40) (.seq (.region oN) .ret) .skip)) (.seq (.seq (.region [⟨some 5,.mv (.c (.v (.int .i64 0))),none⟩]) (.block 0 (.loop (.seq (.seq (.region [oA 41 5,oB 42 4 2,oC 43 42,oF 44 43,⟨some 45,.bin .lss (.t 41) (.t 44),none⟩]) (.cond (.t 45) .skip (.exit 0))) (.seq (.block 1 (.seq (.draw [⟨0,oB 48 4 2,[]⟩,⟨1,oC 49 48,[]⟩,⟨2,oA 50 5,[]⟩,⟨3,oE 51 2 49 50,[]⟩,⟨4,⟨some 52,.load (some 2) (.t 51),none⟩,[]⟩,⟨5,oB 53 4 3,[]⟩,⟨6,oC 54 53,[]⟩,⟨7,oA 55 5,[]⟩,⟨8,oE 56 2 54 55,[]⟩,⟨9,⟨some 57,.load (some 2) (.t 56),none⟩,[]⟩,⟨10,⟨some 58,.eqs true [.i,.i] (.t 52) (.t 57),none⟩,[]⟩]) (.cond (.t 58) (.seq (.region oN) .ret) .skip))) (.region [oA 46 5,⟨some 47,.bin .add (.t 46) (.c (.v (.int .i64 1))),none⟩,oA 5 47])))))) (.seq (.region [⟨some 4,.mv (.c (.v (.bool true))),none⟩]) .ret))))⟩
theorem ZEd:qA Tryz.prog 84=some a_sEv:=by kernel_rfl
def ZFI:List (Nat×Nat):=[(4,5),(41,58)]

theorem lY (s:ByteArray):(s==s)=true:=by
 cases s with
 |mk d=>show (d==d)=true;exact jk d
theorem ZDf (x:Ev) (hx:x.asg.length≤1000000) (b l:List Row):QA Tryz.prog 84 [.agg ((eEv x).map .v),.agg ((eEv x).map .v)] b l (fun r b' l'=>r=.v (.bool true)∧b'=b∧l'=l):=by
 refine XA ZEd rfl kE ?_
 intro B g hB hR hE hA;simp only[KA]at hA
 have ne:∀n:Int,(n != n)=false:=by simp
 simp only[eEv,bh,cd]at hA
 simp (disch:=first|decide|omega) only[a_sEv,hA,ne,aa,go_sem]
 refine JA (ι:=Nat) ZFI (fun i=>[(5,.v (.int .i64 i))]) 2 (fun _=>[.live 0 5 [(zEA x)],.live 0 5 [(zEA x)]])
  (fun i=>i≤x.asg.length) (fun i=>x.asg.length-i) 0 (aj _) kM kA kF ?_
 intro g1 ZF bE iA i hi
 by_cases yA:i<x.asg.length
 ·simp (disch:=first|decide|omega) only[hA,iA,ne,eAsg,aa,go_sem]
  refine⟨i+1,yA,by simp only;omega,?_⟩
  exact VA.kround (p:=ZFI) (k:=2) kQ kA rfl ZF kS kV hR kL
 ·simp (disch:=first|decide|omega) only[hA,iA,aa,go_sem]
  exact ZA (xs:=[.v (.bool true)])
theorem ZDc (t:Tr) (hS:Small t) (b l:List Row):QA Tryz.prog 34 [.agg [.v (eT t)],.agg [.v (eT t)]] b l (fun r b' l'=>r=.v (.bool true)∧b'=b∧l'=l):=by
 refine XA ZEa rfl kE ?_
 intro B g hB hR hE hA;simp only[KA]at hA
 have R8:=hS.np
 have ne:∀n:Int,(n != n)=false:=by simp
 have eTe:eT t=.isl 3 (t.map ePr):=rfl
 simp only[eTe]at hA
 simp (disch:=first|decide|omega) only[a_sTr,hA,ne,aa,go_sem]
 refine JA (ι:=Nat) ZFD (fun i=>[(5,.v (.int .i64 i))]) 2 (fun _=>[(zTA t),(zTA t)])
  (fun i=>i≤t.length) (fun i=>t.length-i) 0 (aj _) kM kA kF ?_
 intro g1 ZF bE iA i hi
 by_cases yA:i<t.length
 ·have hnv:=hS.nv _ (ak yA)
  have zG:=hS.ne _ (ak yA)
  have hna:=hS.na _ (ak yA)
  simp (disch:=first|decide|omega) only[hA,iA,ePr,ne,lY,aa,go_sem]
  refine JA (ι:=Nat) ZFC (fun i=>[(8,.v (.int .i64 i))]) 4 (fun _=>[(zTA t),(zTA t),.live 0 3 [[.v (.str t[i].name),.v (.isl 2 (t[i].vars.map eVr)),.v (.isl 5 (t[i].evs.map eEv))]],.live 0 3 [[.v (.str t[i].name),.v (.isl 2 (t[i].vars.map eVr)),.v (.isl 5 (t[i].evs.map eEv))]]])
   (fun j=>j≤t[i].vars.length) (fun j=>t[i].vars.length-j) 0 (aj _) kM kA kF ?_
  intro g2 IJ ZO GD j hj
  by_cases hjv:j<t[i].vars.length
  ·simp (disch:=first|decide|omega) only[hA,iA,GD,eVr,ne,lY,aa,go_sem]
   refine⟨j+1,hjv,by simp only;omega,?_⟩
   exact VA.kround (p:=ZFC) (k:=4) kQ kA rfl IJ kS kV hR kL
  simp (disch:=first|decide|omega) only[hA,iA,GD,aa,go_sem]
  refine JA (ι:=Nat) ZFB (fun i=>[(9,.v (.int .i64 i))]) 4 (fun _=>[(zTA t),(zTA t),.live 0 3 [[.v (.str t[i].name),.v (.isl 2 (t[i].vars.map eVr)),.v (.isl 5 (t[i].evs.map eEv))]],.live 0 3 [[.v (.str t[i].name),.v (.isl 2 (t[i].vars.map eVr)),.v (.isl 5 (t[i].evs.map eEv))]]])
   (fun j=>j≤t[i].evs.length) (fun j=>t[i].evs.length-j) 0 (aj _) kM kA kF ?_
  intro g3 GW rR AG j hj
  by_cases hjv:j<t[i].evs.length
  ·have cE:=fun b l=>ZDf t[i].evs[j] (hna _ (ak hjv)) b l
   simp only[eEv,bh,cd]at cE
   simp (disch:=first|decide|omega) only[hA,iA,GD,AG,eEv,aa,go_sem]
   refine QA.nxt (cE _ _) ?_
   simp (disch:=first|decide|omega) only[hA,iA,GD,AG,go_sem]
   refine⟨j+1,hjv,by simp only;omega,?_⟩
   exact VA.kround (p:=ZFB) (k:=4) kQ kA rfl GW kS kV hR kL
  ·simp (disch:=first|decide|omega) only[hA,iA,GD,AG,aa,go_sem]
   refine⟨i+1,yA,by simp only;omega,?_⟩
   exact VA.kround (p:=ZFD) (k:=2) kQ kA rfl ZF kS kV hR kL
 ·simp (disch:=first|decide|omega) only[hA,iA,aa,go_sem]
  exact ZA (xs:=[.v (.bool true)])
abbrev oO:List AOper:=[⟨some 4,.mv (.c (.v (.bool false))),none⟩]
def a_sSvc:AFunc:=⟨2,87,[.tmp 4],(.seq (.region [⟨some 2,.box (.t 0),none⟩,⟨some 3,.box (.t 1),none⟩,⟨some 4,.mv (.c (.v (.bool false))),none⟩]) (.seq (.seq (.region [oB 7 0 2,oC 8 7,oB 9 0 3,oC 10 9,⟨some 11,.binS .neq (.t 8) (.t 10),none⟩,oA 12 11,oB 13 2 2 (some (12,false)),oC 14 13 (some (12,false)),oB 15 2 3 (some (12,false)),oC 16 15 (some (12,false)),oD 17 14 16 (some (12,false)),⟨some 18,.pick (.t 12) (.c (.v (.bool true))) (.t 17),none⟩,oA 19 18,oB 20 4 2 (some (19,false)),oC 21 20 (some (19,false)),oB 22 4 3 (some (19,false)),oC 23 22 (some (19,false)),oD 24 21 23 (some (19,false)),⟨some 25,.pick (.t 19) (.c (.v (.bool true))) (.t 24),none⟩,oA 26 25,oB 27 5 2 (some (26,false)),oC 28 27 (some (26,false)),oB 29 5 3 (some (26,false)),oC 30 29 (some (26,false)),oD 31 28 30 (some (26,false)),⟨some 32,.pick (.t 26) (.c (.v (.bool true))) (.t 31),none⟩,oA 33 32,oB 34 1 2 (some (33,false)),oC 35 34 (some (33,false)),oF 36 35 (some (33,false)),oB 37 1 3 (some (33,false)),oC 38 37 (some (33,false)),oF 39 38 (some (33,false)),oD 40 36 39 (some (33,false)),⟨some 41,.pick (.t 33) (.c (.v (.bool true))) (.t 40),none⟩,oA 42 41,oB 43 3 2 (some (42,false)),oC 44 43 (some (42,false)),oF 45 44 (some (42,false)),oB 46 3 3 (some (42,false)),oC 47 46 (some (42,false)),oF 48 47 (some (42,false)),oD 49 45 48 (some (42,false)),⟨some 50,.pick (.t 42) (.c (.v (.bool true))) (.t 49),none⟩]) (.cond (.t 50) (.seq (.region oO) .ret) .skip)) (.seq (.seq (.region [⟨some 5,.mv (.c (.v (.int .i64 0))),none⟩]) (.block 0 (.loop (.seq (.seq (.region [oA 51 5,oB 52 1 2,oC 53 52,oF 54 53,⟨some 55,.bin .lss (.t 51) (.t 54),none⟩]) (.cond (.t 55) .skip (.exit 0))) (.seq (.block 1 (.seq (.draw [⟨0,oB 58 1 2,[]⟩,⟨1,oC 59 58,[]⟩,⟨2,oA 60 5,[]⟩,⟨3,oE 61 3 59 60,[]⟩,⟨4,⟨some 62,.load (some 3) (.t 61),none⟩,[]⟩,⟨5,oB 63 1 3,[]⟩,⟨6,oC 64 63,[]⟩,⟨7,oA 65 5,[]⟩,⟨8,oE 66 3 64 65,[]⟩,⟨9,⟨some 67,.load (some 3) (.t 66),none⟩,[]⟩,⟨10,⟨some 68,.eqs true [.i,.i,.i] (.t 62) (.t 67),none⟩,[]⟩]) (.cond (.t 68) (.seq (.region oO) .ret) .skip))) (.region [oA 56 5,⟨some 57,.bin .add (.t 56) (.c (.v (.int .i64 1))),none⟩,oA 5 57])))))) (.seq (.seq (.region [⟨some 6,.mv (.c (.v (.int .i64 0))),none⟩]) (.block 2 (.loop (.seq (.seq (.region [oA 69 6,oB 70 3 2,oC 71 70,oF 72 71,⟨some 73,.bin .lss (.t 69) (.t 72),none⟩]) (.cond (.t 73) .skip (.exit 2))) (.seq (.block 3 (.seq (.draw [⟨0,oB 76 3 2,[]⟩,⟨1,oC 77 76,[]⟩,⟨2,oA 78 6,[]⟩,⟨3,oE 79 1 77 78,[]⟩,⟨4,oC 80 79,[]⟩,⟨5,oB 81 3 3,[]⟩,⟨6,oC 82 81,[]⟩,⟨7,oA 83 6,[]⟩,⟨8,oE 84 1 82 83,[]⟩,⟨9,oC 85 84,[]⟩,⟨10,oD 86 80 85,[]⟩]) (.cond (.t 86) (.seq (.region oO) .ret) .skip))) (.region [oA 74 6,⟨some 75,.bin .add (.t 74) (.c (.v (.int .i64 1))),none⟩,oA 6 75])))))) (.seq (.region [⟨some 4,.mv (.c (.v (.bool true))),none⟩]) .ret)))))⟩
theorem ZCR:qA Tryz.prog 59=some a_sSvc:=by kernel_rfl
def ZAO:List (Nat×Nat):=[(4,5),(51,68)]
def ZAN:List (Nat×Nat):=[(4,4),(6,6),(69,86)]
def a_sWd:AFunc:=({c:=_}:CF Tryz.prog 16).c
theorem ZE9:qA Tryz.prog 16=some a_sWd:=by kernel_rfl
def ZFA:List (Nat×Nat):=[(4,5),(43,61)]
def a_noneW:AFunc:=({c:=_}:CF Tryz.prog 14).c
theorem V8:qA Tryz.prog 14=some a_noneW:=by kernel_rfl

theorem neS (s:ByteArray):(s != s)=false:=by
 show (!(s==s))=false
 rw[lY];rfl
theorem ZBS (s:Sv) (hS:SvS s) (b l:List Row):QA Tryz.prog 59 [.agg ((eSv s).map .v),.agg ((eSv s).map .v)] b l (fun r b' l'=>r=.v (.bool true)∧b'=b∧l'=l):=by
 refine XA ZCR rfl kE ?_
 intro B g hB hR hE hA;simp only[KA]at hA
 have heS:(eSv s).map AV.v=(zSA s):=rfl
 rw[heS]at hA
 have bM:=hS.code
 have KS:=hS.vars
 simp (disch:=first|decide|omega) only[a_sSvc,hA,neI,neS,lY,aa,go_sem]
 refine JA (ι:=Nat) ZAO (fun i=>[(5,.v (.int .i64 i))]) 2 (fun _=>[.live 0 6 [(zSA s)],.live 0 6 [(zSA s)]])
  (fun i=>i≤s.code.length) (fun i=>s.code.length-i) 0 (aj _) kM kA kF ?_
 intro g1 ZF bE iA i hi
 by_cases yA:i<s.code.length
 ·have EH:=pI yA
  simp (disch:=first|decide|omega) only[hA,iA,EH,neI,aa,go_sem]
  refine⟨i+1,yA,by simp only;omega,?_⟩
  exact VA.kround (p:=ZAO) (k:=2) kQ kA rfl ZF kS kV hR kL
 obtain rfl:i=s.code.length:=by omega
 simp (disch:=first|decide|omega) only[hA,iA,aa,go_sem]
 refine JA (ι:=Nat) ZAN (fun i=>[(6,.v (.int .i64 i))]) 2 (fun _=>[.live 0 6 [(zSA s)],.live 0 6 [(zSA s)]])
  (fun i=>i≤s.vars.length) (fun i=>s.vars.length-i) 0 (aj _) kM kA kF ?_
 intro g2 IJ ZO GD i hi
 by_cases yA:i<s.vars.length
 ·have EH:=aC yA
  simp (disch:=first|decide|omega) only[hA,iA,GD,EH,neI,aa,go_sem]
  refine⟨i+1,yA,by simp only;omega,?_⟩
  exact VA.kround (p:=ZAN) (k:=2) kQ kA rfl IJ kS kV hR kL
 obtain rfl:i=s.vars.length:=by omega
 simp (disch:=first|decide|omega) only[hA,iA,GD,aa,go_sem]
 exact ZA (xs:=[.v (.bool true)])
theorem S1 (w:Wd) (hS:Small w.tr) (mJ:SvsS w.sv) (sV:NwS w.net) (b l:List Row):QA Tryz.prog 16 [.agg ((eWd w).map .v),.agg ((eWd w).map .v)] b l (fun r b' l'=>r=.v (.bool true)∧b'=b∧l'=l):=by
 refine XA ZE9 rfl kE ?_
 intro B g hB hR hE hA;simp only[KA]at hA
 have MJ:(eWd w).map AV.v=(zWA w):=rfl
 rw[MJ]at hA
 have jU:=mJ.len
 have cN:=fun b l=>ZDd w.net sV b l
 simp only[eNw,bh,cd]at cN
 have cT:=fun b l=>ZDc w.tr hS b l
 simp only[eT]at cT
 simp (disch:=first|decide|omega) only[a_sWd,hA,neI,aa,go_sem]
 refine QA.nxt (cN _ _) ?_
 simp (disch:=first|decide|omega) only[hA,neI,aa,go_sem]
 refine QA.nxt (cT _ _) ?_
 simp (disch:=first|decide|omega) only[hA,neI,aa,go_sem]
 refine JA (ι:=Nat) ZFA (fun i=>[(5,.v (.int .i64 i))]) 2 (fun _=>[.live 0 9 [(eWd w).map .v],.live 0 9 [(eWd w).map .v]])
  (fun i=>i≤w.sv.length) (fun i=>w.sv.length-i) 0 (aj _) kM kA kF ?_
 intro g1 ZF bE iA i hi
 rw[MJ]
 by_cases yA:i<w.sv.length
 ·have EH:=UG yA
  have cS:=fun b l=>ZBS w.sv[i] (mJ.all _ (ak yA)) b l
  simp only[eSv,bh,cd]at cS
  simp (disch:=first|decide|omega) only[hA,iA,EH,neI,aa,go_sem]
  refine QA.nxt (cS _ _) ?_
  simp (disch:=first|decide|omega) only[hA,iA,EH,neI,aa,go_sem]
  refine⟨i+1,yA,by simp only;omega,?_⟩
  simp only[MJ]
  exact VA.kround (p:=ZFA) (k:=2) kQ kA rfl ZF kS kV hR kL
 obtain rfl:i=w.sv.length:=by omega
 simp (disch:=first|decide|omega) only[hA,iA,aa,go_sem]
 exact ZA (xs:=[.v (.bool true)])
theorem ZBg (b l:List Row):QA Tryz.prog 14 [.agg ((eWd wd0).map .v)] b l (fun r b' l'=>r=.v (.bool true)∧b'=b∧l'=l):=by
 refine XA V8 rfl kE ?_
 intro B g hB hR hE hA;simp only[KA]at hA
 have MJ:(eWd wd0).map AV.v=[.v (.isl 6 []),.v (.int .i64 0),.v (.bool false),.v (.isl 4 []),.v (.isl 1 []),.v (.isl 2 []),.v (.int .i64 0),.v (.int .i64 0),.v (.isl 3 [])]:=rfl
 rw[MJ]at hA
 have cS:∀b l,QA Tryz.prog 16 [.agg [.v (.isl 6 []),.v (.int .i64 0),.v (.bool false),.v (.isl 4 []),.v (.isl 1 []),.v (.isl 2 []),.v (.int .i64 0),.v (.int .i64 0),.v (.isl 3 [])],.agg zZA] b l (fun r b' l'=>r=.v (.bool true)∧b'=b∧l'=l):=fun b l=>by
  refine (S1 wd0 ⟨by simp[wd0],by simp[wd0],by simp[wd0],by simp[wd0]⟩ ⟨by simp[wd0],by simp[wd0]⟩ ⟨by simp[wd0,nw0],by simp[wd0,nw0],by simp[wd0,nw0],by simp[wd0,nw0]⟩ b l).le rfl (fun i x y hx hy=>?_)
  match i,hx,hy with
  |0,hx,hy=>cases hx;cases hy;rw[MJ];exact .refl _
  |1,hx,hy =>
    cases hx;cases hy
    rw[MJ]
    refine .agg _ _ rfl (fun j u v hu hv=>?_)
    match j,hu,hv with
    |0,hu,hv=>cases hu;cases hv;exact .v _ _ (.zsl 6)
    |1,hu,hv=>cases hu;cases hv;exact .refl _
    |2,hu,hv=>cases hu;cases hv;exact .refl _
    |3,hu,hv=>cases hu;cases hv;exact .v _ _ (.zsl 4)
    |4,hu,hv=>cases hu;cases hv;exact .v _ _ (.zsl 1)
    |5,hu,hv=>cases hu;cases hv;exact .v _ _ (.zsl 2)
    |6,hu,hv=>cases hu;cases hv;exact .refl _
    |7,hu,hv=>cases hu;cases hv;exact .refl _
    |8,hu,hv=>cases hu;cases hv;exact .v _ _ (.zsl 3)
 simp (disch:=first|decide|omega) only[a_noneW,hA,cellsOf,go_sem]
 refine QA.nxt (cS _ _) ?_
 simp (disch:=first|decide|omega) only[hA,go_sem]
 exact ZA (xs:=[.v (.bool true)])
def a_few54:AFunc:=({c:=_}:CF Tryz.prog 10).c
theorem c8:qA Tryz.prog 10=some a_few54:=by kernel_rfl
def E2:List (Nat×Nat):=[(2,3),(5,5),(10,43)]
def a_few541:AFunc:=({c:=_}:CF Tryz.prog 45).c
theorem I0:qA Tryz.prog 45=some a_few541:=by kernel_rfl
def a_few542:AFunc:=({c:=_}:CF Tryz.prog 47).c
theorem G0:qA Tryz.prog 47=some a_few542:=by kernel_rfl
def a_svc54:AFunc:=({c:=_}:CF Tryz.prog 28).c
theorem F7:qA Tryz.prog 28=some a_svc54:=by kernel_rfl
def a_svc541:AFunc:=({c:=_}:CF Tryz.prog 78).c
theorem BZ:qA Tryz.prog 78=some a_svc541:=by kernel_rfl
def a_net54:AFunc:=({c:=_}:CF Tryz.prog 29).c
theorem y8:qA Tryz.prog 29=some a_net54:=by kernel_rfl
def a_net541:AFunc:=({c:=_}:CF Tryz.prog 79).c
theorem U0:qA Tryz.prog 79=some a_net541:=by kernel_rfl
def a_IndE54:AFunc:=({c:=_}:CF Tryz.prog 94).c
theorem S0:qA Tryz.prog 94=some a_IndE54:=by kernel_rfl
def MV:List (Nat×Nat):=[(4,5),(8,18)]
def a_ConE54:AFunc:=({c:=_}:CF Tryz.prog 44).c
theorem M0:qA Tryz.prog 44=some a_ConE54:=by kernel_rfl

def aL (e:Ev):Bool:=decide (12<e.asg.length)
def EM (v:Vr):Bool:=decide (40<v.name.size)
def nR (s:Sv):Bool:=decide (110<s.code.length)||(decide (12<s.vars.length)||decide (40<s.name.size))
def ZQ (m:Ms):Bool:=decide (30<m.body.length)
def eL (l:List Sv):Bool:=decide (l.length≤10)&&!((List.range l.length).any fun j=>nR (l.getD j dfSv))
def qJ (n:Nw):Bool:=decide (n.l.length≤40)&&(decide (n.tm.length≤40)&&(decide (n.fates.length≤40)&&!((List.range n.l.length).any fun j=>ZQ (n.l.getD j dfMs))))
theorem mZ (e:Ev) (b l:List Row):QA Tryz.prog 45 [.agg ((eEv e).map .v)] b l (fun r b' l'=>r=.v (.bool (aL e))∧b'=b∧l'=l):=by
 refine XA I0 rfl kE ?_
 intro B g hB hR hE hA;simp only[KA]at hA
 have hd:decide ((e.asg.length:Int)>12)=aL e:=by unfold aL;rw[dr];simp;omega
 have hd':decide ((12:Int)<e.asg.length)=aL e:=hd
 simp (disch:=first|decide|omega) only[a_few541,hA,eEv,hd,hd',go_sem]
 exact ZA (xs:=[.v (.bool (aL e))])
theorem pZ (v:Vr) (b l:List Row):QA Tryz.prog 47 [.agg ((eVr v).map .v)] b l (fun r b' l'=>r=.v (.bool (EM v))∧b'=b∧l'=l):=by
 refine XA G0 rfl kE ?_
 intro B g hB hR hE hA;simp only[KA]at hA
 have hd:decide ((v.name.size:Int)>40)=EM v:=by unfold EM;rw[dr];simp;omega
 have hd':decide ((40:Int)<v.name.size)=EM v:=hd
 simp (disch:=first|decide|omega) only[a_few542,hA,eVr,hd,hd',go_sem]
 exact ZA (xs:=[.v (.bool (EM v))])
theorem UZ (s:Sv) (b l:List Row):QA Tryz.prog 78 [.agg ((eSv s).map .v)] b l (fun r b' l'=>r=.v (.bool (nR s))∧b'=b∧l'=l):=by
 refine XA BZ rfl kE ?_
 intro B g hB hR hE hA;simp only[KA]at hA
 have d0:decide ((s.name.size:Int)>40)=decide (40<s.name.size):=by rw[dr];simp;omega
 have d0':decide ((40:Int)<s.name.size)=decide (40<s.name.size):=d0
 by_cases h1:110<s.code.length
 ·have d1:decide ((s.code.length:Int)>110)=true:=ae oM
  have d1':decide ((110:Int)<(s.code.length:Int))=true:=d1
  simp (disch:=first|decide|omega) only[a_svc541,hA,eSv,d1,d1',go_sem]
  exact ZA (xs:=[.v (.bool true)]) ⟨by unfold nR;rw[ae h1];rfl,rfl,rfl⟩
 have d1:decide ((s.code.length:Int)>110)=false:=ag oM
 have d1':decide ((110:Int)<(s.code.length:Int))=false:=d1
 by_cases h2:12<s.vars.length
 ·have d2:decide ((s.vars.length:Int)>12)=true:=ae oM
  have d2':decide ((12:Int)<(s.vars.length:Int))=true:=d2
  simp (disch:=first|decide|omega) only[a_svc541,hA,eSv,d1,d1',d2,d2',go_sem]
  exact ZA (xs:=[.v (.bool true)]) ⟨by unfold nR;rw[ae h2];simp[one],rfl,rfl⟩
 have d2:decide ((s.vars.length:Int)>12)=false:=ag oM
 have d2':decide ((12:Int)<(s.vars.length:Int))=false:=d2
 simp (disch:=first|decide|omega) only[a_svc541,hA,eSv,d1,d1',d2,d2',d0,d0',go_sem]
 exact ZA (xs:=[.v (.bool (decide (40<s.name.size)))]) ⟨by unfold nR;rw[ag h1,ag h2];rfl,rfl,rfl⟩
theorem dZ (m:Ms) (b l:List Row):QA Tryz.prog 79 [.agg ((eMs m).map .v)] b l (fun r b' l'=>r=.v (.bool (ZQ m))∧b'=b∧l'=l):=by
 refine XA U0 rfl kE ?_
 intro B g hB hR hE hA;simp only[KA]at hA
 have hd:decide ((m.body.length:Int)>30)=ZQ m:=by unfold ZQ;rw[dr];simp;omega
 have hd':decide ((30:Int)<(m.body.length:Int))=ZQ m:=hd
 simp (disch:=first|decide|omega) only[a_net541,hA,eMs,hd,hd',go_sem]
 exact ZA (xs:=[.v (.bool (ZQ m))])
theorem M5 (L:List Sv) (b l:List Row):QA Tryz.prog 28 [.v (.isl 6 (L.map eSv))] b l (fun r b' l'=>r=.v (.bool (eL L))∧b'=b∧l'=l):=by
 refine XA F7 rfl kE ?_
 intro B g hB hR hE hA;simp only[KA]at hA
 by_cases h1:L.length≤10
 case neg =>
  have d1:decide ((L.length:Int)≤10)=false:=ag oM
  simp (disch:=first|decide|omega) only[a_svc54,hA,d1,go_sem]
  exact ZA (xs:=[.v (.bool false)]) ⟨by unfold eL;rw[ag h1];rfl,rfl,rfl⟩
 have d1:decide ((L.length:Int)≤10)=true:=ae oM
 have cC:=fun B0 l0=>KD EK LK (L.map eSv) 78 [] (fun j=>nR (L.getD j dfSv)) JS (by rw[aa];omega) B0 l0 (fun j row hj=>by
  have yG:j<L.length:=by have:=(am.1 hj).1;rwa [aa]at this
  rw[an,ah yG]at hj
  cases hj
  simp only[YA yG]
  exact UZ _ _ _)
 rw[aa]at cC
 simp (disch:=first|decide|omega) only[a_svc54,hA,d1,go_sem]
 refine QA.nxt (cC _ _) ?_
 simp (disch:=first|decide|omega) only[hA,go_sem]
 exact ZA (xs:=[.v (.bool (!(List.range L.length).any fun j=>nR (L.getD j dfSv)))]) ⟨by unfold eL;rw[ae h1];rfl,rfl,rfl⟩
theorem D6 (n:Nw) (b l:List Row):QA Tryz.prog 29 [.agg ((eNw n).map .v)] b l (fun r b' l'=>r=.v (.bool (qJ n))∧b'=b∧l'=l):=by
 refine XA y8 rfl kE ?_
 intro B g hB hR hE hA;simp only[KA]at hA
 have heN:(eNw n).map AV.v=(zNA n):=rfl
 rw[heN]at hA
 by_cases h1:n.l.length≤40
 case neg =>
  have d1:decide ((n.l.length:Int)≤40)=false:=ag oM
  simp (disch:=first|decide|omega) only[a_net54,hA,d1,go_sem]
  exact ZA (xs:=[.v (.bool false)]) ⟨by unfold qJ;rw[ag h1];rfl,rfl,rfl⟩
 have d1:decide ((n.l.length:Int)≤40)=true:=ae oM
 by_cases h2:n.tm.length≤40
 case neg =>
  have d2:decide ((n.tm.length:Int)≤40)=false:=ag oM
  simp (disch:=first|decide|omega) only[a_net54,hA,d1,d2,go_sem]
  exact ZA (xs:=[.v (.bool false)]) ⟨by unfold qJ;rw[ae h1,ag h2];rfl,rfl,rfl⟩
 have d2:decide ((n.tm.length:Int)≤40)=true:=ae oM
 by_cases h3:n.fates.length≤40
 case neg =>
  have d3:decide ((n.fates.length:Int)≤40)=false:=ag oM
  simp (disch:=first|decide|omega) only[a_net54,hA,d1,d2,d3,go_sem]
  exact ZA (xs:=[.v (.bool false)]) ⟨by unfold qJ;rw[ae h1,ae h2,ag h3];rfl,rfl,rfl⟩
 have d3:decide ((n.fates.length:Int)≤40)=true:=ae oM
 have cC:=fun B0 l0=>KD zT KT (n.l.map eMs) 79 [] (fun j=>ZQ (n.l.getD j dfMs)) (fun row h=>by obtain⟨m,_,rfl⟩:=co.1 h;rfl) (by rw[aa];omega) B0 l0 (fun j row hj=>by
  have yG:j<n.l.length:=by have:=(am.1 hj).1;rwa [aa]at this
  rw[an,ah yG]at hj
  cases hj
  simp only[YA yG]
  exact dZ _ _ _)
 rw[aa]at cC
 simp (disch:=first|decide|omega) only[a_net54,hA,d1,d2,d3,go_sem]
 refine QA.nxt (cC _ _) ?_
 simp (disch:=first|decide|omega) only[hA,go_sem]
 exact ZA (xs:=[.v (.bool (!(List.range n.l.length).any fun j=>ZQ (n.l.getD j dfMs)))]) ⟨by unfold qJ;rw[ae h1,ae h2,ae h3];rfl,rfl,rfl⟩
theorem ZDa {l:List Sv} (h:eL l=true):l.length≤10∧SvsS l:=by
 simp only[eL,ar,kq,fz,ay,bc]at h
 obtain⟨h1,h2⟩:=h
 refine⟨h1,by omega,fun s hs=>?_⟩
 obtain⟨j,hj,rfl⟩:=cq hs
 have:=h2 j hj
 rw[YA hj]at this
 simp only[nR,gi,bc,not_or]at this
 exact⟨by omega,by omega,by omega⟩
theorem ZEB {n:Nw} (h:qJ n=true):n.l.length≤40∧n.tm.length≤40∧n.fates.length≤40∧NwS n:=by
 simp only[qJ,ar,kq,fz,ay,bc]at h
 obtain⟨h1,h2,h3,h4⟩:=h
 refine⟨h1,h2,h3,by omega,by omega,by omega,fun m hm=>?_⟩
 obtain⟨j,hj,rfl⟩:=cq hm
 have:=h4 j hj
 rw[YA hj]at this
 simp only[ZQ,bc]at this
 omega
theorem ZBr (v:List (Ev)) (k:Nat) (caps:List AV) (p:Nat→Bool) (hn:v.length≤9223372036854775807) (b l:List Row)
  (hp:∀(i:Nat) (h:i<v.length),QA Tryz.prog k (.agg ((eEv v[i]).map .v)::caps) (b++l) [] (fun r b' l'=>r=.v (.bool (p i))∧b'=b++l∧l'=[])) :
  QA Tryz.prog 94 [.v (.isl 5 (v.map eEv)),.fn k caps] b l (fun r b' l'=>r=.v (.int .i64 (qI p v.length))∧b'=b∧l'=l):=by
 refine XA S0 rfl kE ?_
 intro B g hB hR hE hA;simp only[KA]at hA
 simp (disch:=decide) only[a_IndE54,hA,aa,go_sem]
 refine JA (ι:=Nat) MV (fun i=>[(8,.v (.int .i64 i))]) 0 (fun _=>[])
  (fun i=>i≤v.length∧∀j,j<i→p j=false) (fun i=>v.length-i) 0 ⟨aj _,fun j hj=>by omega⟩ kM kA kF ?_
 rintro g1 ZF bE iA i ⟨hi,h0⟩
 by_cases yA:i<v.length
 ·have ZMC:=hp i yA
  try simp only[eEv,bh,cd]at ZMC
  simp (disch:=first|decide|omega) only[hA,iA,eEv,aa,go_sem]
  refine eD _ _ _ _ _ _ (hB▸ZMC) ?_
  rintro r b' l' ⟨rfl,rfl,rfl⟩
  cases hpi:p i
  ·simp (disch:=first|decide|omega) only[hA,iA,hpi,go_sem]
   refine⟨i+1,⟨yA,fun j hj=>?_⟩,by simp only;omega,?_⟩
   ·rcases bp j i with fF|fF
    ·exact h0 j fF
    ·have:j=i:=by omega
     rw[this];exact hpi
   exact VA.kround (p:=MV) (k:=0) kQ kA rfl ZF kS kV hR kL
  ·simp (disch:=first|decide|omega) only[hA,iA,hpi,go_sem]
   exact ZA (xs:=[.v (.int .i64 i)]) ⟨by rw[bP yA h0 hpi];rfl,rfl,rfl⟩
 ·simp (disch:=first|decide|omega) only[hA,iA,aa,go_sem]
  obtain rfl:i=v.length:=by omega
  exact ZA (xs:=[.v (.int .i64 (-1))]) ⟨by rw[VM h0];rfl,rfl,rfl⟩
theorem qX (v:List (Ev)) (k:Nat) (caps:List AV) (p:Nat→Bool) (hn:v.length≤9223372036854775807) (b l:List Row)
  (hp:∀(i:Nat) (h:i<v.length),QA Tryz.prog k (.agg ((eEv v[i]).map .v)::caps) (b++l) [] (fun r b' l'=>r=.v (.bool (p i))∧b'=b++l∧l'=[])) :
  QA Tryz.prog 44 [.v (.isl 5 (v.map eEv)),.fn k caps] b l (fun r b' l'=>r=.v (.bool ((List.range v.length).any p))∧b'=b∧l'=l):=by
 refine XA M0 rfl kE ?_
 intro B g hB hR hE hA;simp only[KA]at hA
 simp (disch:=decide) only[a_ConE54,hA,go_sem]
 refine QA.nxt (ZBr v k caps p hn B [] (by rw[cu,hB];exact hp)) ?_
 simp (disch:=decide) only[hA,go_sem]
 exact ZA (xs:=[.v (.bool (decide (0≤qI p v.length)))]) ⟨by rw[eP];rfl,rfl,rfl⟩
def xK (t:Tr):Nat→Int
 |0=>0
 |i+1=>IntKind.i64.wrap (xK t i+((sA t i).length:Int))
def sL (t:Tr) (i:Nat):Bool:=decide (80<xK t (i+1))||(decide (12<(t.getD i dfPr).vars.length)||(decide (40<(t.getD i dfPr).name.size)||((List.range (t.getD i dfPr).evs.length).any (fun j=>aL ((t.getD i dfPr).evs.getD j SI))||(List.range (t.getD i dfPr).vars.length).any (fun j=>EM ((t.getD i dfPr).vars.getD j CO)))))
def qR (w:Wd):Bool:=!(List.range w.tr.length).any (sL w.tr)&&(decide (w.tr.length≤10)&&(eL w.sv&&qJ w.net))
theorem K7 (w:Wd) (hT:w.tr.length≤9223372036854775807) (hM:∀x∈w.tr,x.evs.length≤9223372036854775807) (b l:List Row):QA Tryz.prog 10 [.agg ((eWd w).map .v)] b l (fun r b' l'=>r=.v (.bool (qR w))∧b'=b∧l'=l):=by
 refine XA c8 rfl kE ?_
 intro B g hB hR hE hA;simp only[KA]at hA
 have MJ:(eWd w).map AV.v=[.v (.isl 6 (w.sv.map eSv)),.v (.int .i64 w.net.now),.v (.bool w.net.fifo),.v (.isl 4 (w.net.l.map eMs)),.v (.isl 1 (w.net.tm.map eI)),.v (.isl 2 (w.net.fates.map eFt)),.v (.int .i64 w.now),.v (.int .i64 w.sent),.v (.isl 3 (w.tr.map ePr))]:=rfl
 rw[MJ]at hA
 obtain⟨t,ht⟩:∃t,w.tr=t:=⟨_,rfl⟩
 rw[ht]at hM hT
 have hfw:qR w=(!(List.range t.length).any (sL t)&&(decide (t.length≤10)&&(eL w.sv&&qJ w.net))):=by unfold qR;rw[ht]
 rw[hfw]
 have hw0:xK t 0=0:=rfl
 rw[ht]at hA
 simp (disch:=first|decide|omega) only[a_few54,hA,aa,go_sem]
 refine JA (ι:=Nat) E2 (fun i=>[(10,.v (.int .i64 i)),(3,.v (.int .i64 (xK t i)))]) 1 (fun i=>[.live 0 9 [(eWd w).map .v]])
  (fun i=>i≤t.length∧xK t i≤80∧∀j,j<i→sL t j=false) (fun i=>t.length-i) 0 ⟨aj _,by rw[xK];omega,fun j h=>by omega⟩ kM (by ((try simp (disch:=decide) only[hA,hw0,go_sem])<;>exact kH)) (fun e=>by rw[MJ,ht];exact VA.refl _ _ _) ?_
 rintro g1 ZF bE iA i ⟨hi,h40,ZMD⟩
 rw[MJ,ht]
 by_cases M9:i<t.length
 ·have m1:=hM _ (ak M9)
  have ZGT:IntKind.i64.wrap (xK t i+(t[i].evs.length:Int))=xK t (i+1):=by
   show _=IntKind.i64.wrap (xK t i+((sA t i).length:Int));rw[ME M9]
  have UJ:t.getD i dfPr=t[i]:=YA M9
  have bad:sL t i=true→(!(List.range t.length).any (sL t)&&(decide (t.length≤10)&&(eL w.sv&&qJ w.net)))=false:=fun h=>by
   rw[fe.2 ⟨i,ay.2 M9,h⟩];rfl
  by_cases c1:80<xK t (i+1)
  ·have d1:decide (xK t (i+1)>80)=true:=ae oM
   have d1':decide ((80:Int)<xK t (i+1))=true:=d1
   have hb:=bad (by unfold sL;rw[ae c1];rfl)
   simp (disch:=first|decide|omega) only[hA,iA,ePr,ZGT,d1,d1',aa,go_sem]
   exact ZA (xs:=[.v (.bool false)]) ⟨by rw[hb];rfl,rfl,rfl⟩
  have d1:decide (xK t (i+1)>80)=false:=ag oM
  have d1':decide ((80:Int)<xK t (i+1))=false:=d1
  by_cases c2:12<t[i].vars.length
  ·have d2:decide ((t[i].vars.length:Int)>12)=true:=ae oM
   have d2':decide ((12:Int)<(t[i].vars.length:Int))=true:=d2
   have hb:=bad (by unfold sL;rw[UJ,ae c2];simp)
   simp (disch:=first|decide|omega) only[hA,iA,ePr,ZGT,d1,d1',d2,d2',aa,go_sem]
   exact ZA (xs:=[.v (.bool false)]) ⟨by rw[hb];rfl,rfl,rfl⟩
  have d2:decide ((t[i].vars.length:Int)>12)=false:=ag oM
  have d2':decide ((12:Int)<(t[i].vars.length:Int))=false:=d2
  by_cases c3:40<t[i].name.size
  ·have d3:decide ((t[i].name.size:Int)>40)=true:=ae oM
   have d3':decide ((40:Int)<(t[i].name.size:Int))=true:=d3
   have hb:=bad (by unfold sL;rw[UJ,ae c3];simp)
   simp (disch:=first|decide|omega) only[hA,iA,ePr,ZGT,d1,d1',d2,d2',d3,d3',aa,go_sem]
   exact ZA (xs:=[.v (.bool false)]) ⟨by rw[hb];rfl,rfl,rfl⟩
  have d3:decide ((t[i].name.size:Int)>40)=false:=ag oM
  have d3':decide ((40:Int)<(t[i].name.size:Int))=false:=d3
  have ce:=fun b l=>qX t[i].evs 45 [] (fun j=>aL (t[i].evs.getD j SI)) m1 b l (fun j hj=>by simp only[YA hj];exact mZ _ _ _)
  have cv:=fun b l=>KD (f:=46) (g:=95) (sz:=2) (by kernel_rfl) (by kernel_rfl) (t[i].vars.map eVr) 47 [] (fun j=>EM (t[i].vars.getD j CO)) (by simp[eVr]) (by simp;omega) b l (fun j row hj=>by
   rw[an]at hj
   obtain⟨x,hx,rfl⟩:=kz.1 hj
   obtain⟨q1,q2⟩:=am.1 hx
   simp only[YA q1,q2]
   exact pZ x _ _)
  rw[aa]at cv
  simp (disch:=first|decide|omega) only[hA,iA,ePr,ZGT,d1,d1',d2,d2',d3,d3',aa,go_sem]
  refine QA.nxt (ce _ _) ?_
  cases c4:(List.range t[i].evs.length).any fun j=>aL (t[i].evs.getD j SI) with
  |true =>
    have hb:=bad (by unfold sL;rw[UJ,c4];simp)
    simp (disch:=first|decide|omega) only[hA,iA,go_sem]
    exact ZA (xs:=[.v (.bool false)]) ⟨by rw[hb];rfl,rfl,rfl⟩
  |false =>
    simp (disch:=first|decide|omega) only[hA,iA,go_sem]
    refine QA.nxt (cv _ _) ?_
    cases c5:(List.range t[i].vars.length).any fun j=>EM (t[i].vars.getD j CO) with
    |true =>
      have hb:=bad (by unfold sL;rw[UJ,c5];simp)
      simp (disch:=first|decide|omega) only[hA,iA,go_sem]
      exact ZA (xs:=[.v (.bool false)]) ⟨by rw[hb];rfl,rfl,rfl⟩
    |false =>
      simp (disch:=first|decide|omega) only[hA,iA,go_sem]
      refine⟨i+1,⟨M9,by omega,fun j hj=>?_⟩,by simp only;omega,?_⟩
      ·by_cases fF:j=i
       ·subst fF
        unfold sL
        rw[UJ,c4,c5,ag c1,ag c2,ag c3];rfl
       ·exact ZMD j oM
      ·simp only[MJ,ht];exact VA.kround (p:=E2) (k:=1) kQ (by ((try simp (disch:=decide) only[hA,iA,ZGT,go_sem])<;>exact kH)) rfl ZF kS kV hR kL
 ·obtain rfl:i=t.length:=by omega
  have UP:(List.range t.length).any (sL t)=false:=by
   rw[fz];intro j hj;rw[ZMD j (ay.1 hj)];simp
  rw[UP]
  by_cases h1:t.length≤10
  case neg =>
   have d1:decide ((t.length:Int)≤10)=false:=ag oM
   simp (disch:=first|decide|omega) only[hA,iA,d1,go_sem]
   exact ZA (xs:=[.v (.bool false)]) ⟨by first|rfl|(rw[ag h1];rfl),rfl,rfl⟩
  have d1:decide ((t.length:Int)≤10)=true:=ae oM
  have cN:=fun b l=>D6 w.net b l
  simp only[eNw,bh,cd]at cN
  simp (disch:=first|decide|omega) only[hA,iA,d1,go_sem]
  refine QA.nxt (M5 w.sv _ _) ?_
  cases h2:eL w.sv
  ·simp (disch:=first|decide|omega) only[hA,iA,cellsOf,go_sem]
   exact ZA (xs:=[.v (.bool false)]) ⟨by first|rfl|(rw[ae h1];rfl),rfl,rfl⟩
  simp (disch:=first|decide|omega) only[hA,iA,cellsOf,go_sem]
  refine QA.nxt (cN _ _) ?_
  simp (disch:=first|decide|omega) only[hA,iA,cellsOf,go_sem]
  exact ZA (xs:=[.v (.bool (qJ w.net))]) ⟨by first|rfl|(rw[ae h1];rfl),rfl,rfl⟩
theorem ZEV {w:Wd} (hM:∀x∈w.tr,x.evs.length≤9223372036854775807) (h:qR w=true):Sm w.tr∧SvsS w.sv∧NwS w.net:=by
 simp only[qR,ar,kq,fz,ay,bc]at h
 obtain⟨h1,h2,h3,h4⟩:=h
 have key:∀x∈w.tr,x.vars.length≤12∧∀e∈x.evs,e.asg.length≤12:=by
  intro x hx
  obtain⟨i,hi,rfl⟩:=cq hx
  have:=h1 i hi
  simp only[sL,YA hi,gi,bc,fe,ay,not_or,not_exists,not_and]at this
  refine⟨by omega,fun e he=>?_⟩
  obtain⟨j,hj,rfl⟩:=cq he
  have h3:=this.2.2.2.1 j hj
  rw[YA hj]at h3
  simp only[aL,bc]at h3
  omega
 exact⟨⟨by omega,fun x hx=>by have:=(key x hx).1;omega,hM,fun x hx e he=>by have:=(key x hx).2 e he;omega⟩,(ZDa h3).2,(ZEB h4).2.2.2⟩
def a_ConInt:AFunc:=({c:=_}:CF Tryz.prog 26).c
theorem P0:qA Tryz.prog 26=some a_ConInt:=by kernel_rfl
def a_IdxInt:AFunc:=({c:=_}:CF Tryz.prog 72).c
theorem N0:qA Tryz.prog 72=some a_IdxInt:=by kernel_rfl
def LV:List (Nat×Nat):=[(4,5),(8,18)]
def a_lwStp:AFunc:=({c:=_}:CF Tryz.prog 5).c
theorem s8:qA Tryz.prog 5=some a_lwStp:=by kernel_rfl
def pT:List (Nat×Nat):=[(9,10),(63,73)]

theorem nZ (v:List Int) (hn:v.length≤1000000) (x:Int) (b l:List Row):QA Tryz.prog 72 [.v (.isl 1 (v.map eI)),.v (.int .i64 x)] b l (fun r b' l'=>r=.v (.int .i64 (qI (fun i=>x==v.getD i 0) v.length))∧b'=b∧l'=l):=by
 refine XA N0 rfl kE ?_
 intro B g hB hR hE hA;simp only[KA]at hA
 simp (disch:=first|decide|omega) only[a_IdxInt,hA,aa,go_sem]
 refine JA (ι:=Nat) LV (fun i=>[(8,.v (.int .i64 i))]) 0 (fun _=>[])
  (fun i=>i≤v.length∧∀j,j<i→(x==v.getD j 0)=false) (fun i=>v.length-i) 0 ⟨aj _,fun j hj=>by omega⟩ kM kA kF ?_
 rintro g1 ZF bE iA i ⟨hi,h0⟩
 by_cases yA:i<v.length
 ·have EH:=aC yA
  cases hp:(x==v.getD i 0)
  ·simp (disch:=first|decide|omega) only[hA,iA,EH,hp,go_sem]
   refine⟨i+1,⟨yA,fun j hj=>?_⟩,by simp only;omega,?_⟩
   ·rcases bp j i with fF|fF
    ·exact h0 j fF
    ·obtain rfl:j=i:=by omega
     exact hp
   ·exact VA.kround (p:=LV) (k:=0) kQ kA rfl ZF kS kV hR kL
  ·simp (disch:=first|decide|omega) only[hA,iA,EH,hp,go_sem]
   exact ZA (xs:=[.v (.int .i64 i)]) ⟨by rw[bP yA h0 hp];rfl,rfl,rfl⟩
 ·obtain rfl:i=v.length:=by omega
  simp (disch:=first|decide|omega) only[hA,iA,aa,go_sem]
  exact ZA (xs:=[.v (.int .i64 (-1))]) ⟨by rw[VM h0];rfl,rfl,rfl⟩
theorem ZHd {v:List Int} {x:Int}:((List.range v.length).any fun i=>x==v.getD i 0)=decide (x∈v):=by
 rw[dr,fe,bc]
 constructor
 ·rintro⟨i,hi,h⟩
  have hi:=ay.1 hi
  rw[YA hi]at h
  rw[beq_iff_eq.1 h];exact ak hi
 ·intro h
  obtain⟨i,hi,rfl⟩:=cq h
  exact⟨i,ay.2 hi,by rw[YA hi];simp⟩
theorem lZ (v:List Int) (hn:v.length≤1000000) (x:Int) (b l:List Row):QA Tryz.prog 26 [.v (.isl 1 (v.map eI)),.v (.int .i64 x)] b l (fun r b' l'=>r=.v (.bool (decide (x∈v)))∧b'=b∧l'=l):=by
 refine XA P0 rfl kE ?_
 intro B g hB hR hE hA;simp only[KA]at hA
 simp (disch:=first|decide|omega) only[a_ConInt,hA,go_sem]
 refine QA.nxt (nZ v hn x _ _) ?_
 simp (disch:=decide) only[hA,go_sem]
 exact JM (xs:=[.v (.bool (decide (0≤qI (fun i=>x==v.getD i 0) v.length)))]) kO hR hB ⟨by rw[eP,ZHd];rfl,rfl,rfl⟩
structure SmW (w:Wd):Prop where
 tr:Small w.tr
 sv:SvsS w.sv
 net:NwS w.net
theorem WdV.smW {w:Wd} (h:WdV w):SmW w:=⟨h.small,h.svS,h.net.s⟩
theorem ZGV:SmW wd0:=⟨⟨by simp[wd0],by simp[wd0],by simp[wd0],by simp[wd0]⟩,⟨by simp[wd0],by simp[wd0]⟩,⟨by simp[wd0,nw0],by simp[wd0,nw0],by simp[wd0,nw0],by simp[wd0,nw0]⟩⟩
theorem ZGr {w:Wd} (hw:WdV w) (x:Int):SmW (SL w x).1:=by
 by_cases h:(SL w x).2=0
 ·exact (QW hw h).smW
 ·rw[ZA9 h];exact ZGV
theorem ZJS {w:Wd} (hw:WdV w) {p:Nat} (hp:p<w.sv.length) (he:GE w p=true):SmW (stW w p).1:=by
 have:=ZGr hw (x:=p)
 rwa [sY hw hp he]at this
theorem SmW.same {w:Wd} (h:SmW w) (b l:List Row):QA Tryz.prog 16 [.agg ((eWd w).map .v),.agg ((eWd w).map .v)] b l (fun r b' l'=>r=.v (.bool true)∧b'=b∧l'=l):=S1 w h.tr h.sv h.net b l
theorem ZH4 {w:Wd} {k n:Nat}:(k:Int)∈(jH w n).map (fun i:Nat=>(i:Int))↔k<n∧GE w k=true:=by
 unfold jH
 rw[co]
 constructor
 ·rintro⟨i,hi,he⟩
  obtain rfl:i=k:=by omega
  obtain⟨h1,h2⟩:=jm.1 hi
  exact⟨ay.1 h1,h2⟩
 ·rintro⟨h1,h2⟩
  exact⟨k,jm.2 ⟨ay.2 h1,h2⟩,rfl⟩
theorem ZH5 (w:Wd) (k:Nat):bJ w k=((jH w k).map fun i:Nat=>(i:Int)).map eI:=by
 unfold bJ;rw[km];rfl
theorem GR (w:Wd) (hN:Nm w.tr) (hT:w.tr.length≤9223372036854775807) (hM:∀x∈w.tr,x.evs.length≤9223372036854775807) (p:Int) (b l:List Row) :
  QA Tryz.prog 5 [.agg ((eWd w).map .v),.v (.int .i64 p)] b l (fun r b' l'=>r=.v (.bool true)∧b'=b∧l'=l):=by
 refine XA s8 rfl kE ?_
 intro B g hB hR hE hA;simp only[KA]at hA
 have cF:=fun b l=>K7 w hT hM b l
 have b11:((1:Int)==1)=true:=rfl
 have b00:((0:Int)==0)=true:=rfl
 have z00:(((0:Nat):Int)==0)=true:=rfl
 have b22:((2:Int)==2)=true:=rfl
 have b66:((6:Int)==6)=true:=rfl
 have n00:((0:Int) != 0)=false:=rfl
 rw[SB]at hA cF
 simp (disch:=first|decide|omega) only[a_lwStp,hA,cellsOf,go_sem]
 refine QA.nxt (jO _ _) ?_
 simp (disch:=first|decide|omega) only[hA,cellsOf,go_sem]
 refine QA.nxt (cF _ _) ?_
 cases g1:qR w
 ·simp (disch:=first|decide|omega) only[hA,cellsOf,go_sem]
  refine QA.nxt (jO _ _) ?_
  simp (disch:=first|decide|omega) only[hA,go_sem]
  exact ZA (xs:=[.v (.bool true)])
 obtain⟨hS,mJ,sV⟩:=ZEV hM g1
 have cS:=fun b l=>uS w hS hN mJ sV p b l
 have cRV:=fun b l=>iU w hS hN mJ sV b l
 have cV:=fun b l=>sF w hS hN mJ sV b l
 have cD:=fun b l=>UQ w hS hN mJ sV b l
 have cZ:=fun b l=>ZBg b l
 cases t1:wdB w
 ·have cE:=fun b l=>AW w hS hN mJ sV t1 b l
  have DE:EJ w p=(wd0,1):=by unfold EJ;rw[if_neg (by rw[t1];simp)]
  have hd:O4 w=false:=by unfold O4;rw[t1];rfl
  rw[DE]at cS
  rw[t1]at cRV cV
  rw[hd]at cD
  simp only[SB]at cS cRV cV cD cE cZ
  simp (disch:=first|decide|omega) only[hA,cellsOf,go_sem]
  refine QA.nxt (cE _ _) ?_
  simp (disch:=first|decide|omega) only[hA,cellsOf,go_sem]
  refine QA.nxt (cS _ _) ?_
  simp (disch:=first|decide|omega) only[hA,cellsOf,go_sem]
  refine QA.nxt (cRV _ _) ?_
  simp (disch:=first|decide|omega) only[hA,cellsOf,go_sem]
  refine QA.nxt (cV _ _) ?_
  simp (disch:=first|decide|omega) only[hA,b11,b00,z00,cellsOf,go_sem]
  refine QA.nxt (cZ _ _) ?_
  simp (disch:=first|decide|omega) only[hA,b11,cellsOf,go_sem]
  refine QA.nxt (cD _ _) ?_
  simp (disch:=first|decide|omega) only[hA,b11,cellsOf,go_sem]
  exact ZA (xs:=[.v (.bool true)])
 have hw:=WdV.of t1
 have hs8:=(AP hw.sv).2
 have cE:=fun b l=>KQ w hw.small hN mJ sV t1 b l
 have cRD:=fun b l=>tU w mJ hw.sv b l
 have hd:O4 w=w.sv.all endB:=by unfold O4;rw[t1];rfl
 rw[hd]at cD
 rw[t1]at cRV cV
 obtain⟨nL,hnL⟩:∃nL,(jH w w.sv.length).map (fun i:Nat=>(i:Int))=nL:=⟨_,rfl⟩
 have hqL:bJ w w.sv.length=nL.map eI:=by rw[ZH5,hnL]
 rw[hqL]at cE
 have CY:nL.length≤8:=by rw[←hnL,aa];have:=YY w w.sv.length;omega
 have hll:(jH w w.sv.length).length=nL.length:=by rw[←hnL,aa]
 obtain⟨st,DE⟩:∃st,EJ w p=st:=⟨_,rfl⟩
 rw[DE]at cS
 simp only[SB]at cS cRV cV cD cE cZ cRD
 have hm0:(jH w 0).length=0:=rfl
 have hq0:bJ w 0=[]:=rfl
 simp (disch:=first|decide|omega) only[hA,cellsOf,go_sem]
 refine QA.nxt (cE _ _) ?_
 simp (disch:=first|decide|omega) only[hA,cellsOf,go_sem]
 refine QA.nxt (cS _ _) ?_
 simp (disch:=first|decide|omega) only[hA,cellsOf,go_sem]
 refine QA.nxt (cRV _ _) ?_
 simp (disch:=first|decide|omega) only[hA,aa,go_sem]
 refine iE (ι:=Nat) 9 1 pT (fun k=>[(63,.v (.int .i64 k)),(9,.sl (B.length+2) (jH w k).length 0 (jH w k).length)]) 3 (fun k=>[.live 0 9 [(eWd w).map .v],.live 0 9 [(eWd st.1).map .v],.live (jH w k).length 1 (vs (bJ w k))])
  (fun k=>k≤w.sv.length) (fun k=>w.sv.length-k) 0 (aj _) (by simp (disch:=decide) only[hA,go_sem]) kE kE kM (by ((try simp (disch:=decide) only[hA,hm0,hq0,go_sem])<;>exact kH)) kF ?_
 intro g1 ZF bE iA k hk
 simp only[SB]
 have hml:=YY w k
 have KS:=z4 w k
 by_cases FJ:k<w.sv.length
 ·have cR:=fun b l=>VX w mJ hw.small hw.sv hw.len (by have:=hw.net.l;omega) (YG.2 hw.net) k FJ (by unfold ptB;simp;omega) b l
  rw[SB]at cR
  simp (disch:=first|decide|omega) only[hA,iA,aa,go_sem]
  refine QA.nxt (cR _ _) ?_
  cases t2:GE w k
  ·have L8:=ZAs t2
   have hq1:bJ w (k+1)=bJ w k:=by unfold bJ;rw[L8]
   simp (disch:=first|decide|omega) only[hA,iA,cellsOf,go_sem]
   refine⟨k+1,FJ,by simp only;omega,?_⟩
   simp only[L8,hq1,SB]
   exact VA.kround (p:=pT) (k:=3) kQ kA rfl ZF kS kV hR kL
  ·have L8:=PT t2
   have hq1:=U4 t2
   have iV:(jH w (k+1)).length=(jH w k).length+1:=by rw[L8,ap];rfl
   have htk:List.take (jH w k).length (bJ w k)=bJ w k:=bn (by rw[KS];omega)
   simp (disch:=first|decide|omega) only[hA,iA,KS,htk,uB,go_sem]
   refine⟨k+1,FJ,by simp only;omega,?_⟩
   simp only[iV,hq1,SB]
   exact VA.kround (p:=pT) (k:=3) kQ kA rfl ZF kS kV hR kL
 obtain rfl:k=w.sv.length:=by omega
 rw[hqL,hll]
 have hvn:(nL.map eI).length=nL.length:=aa _
 have cQ:∀b l,(b++l)[B.length+2]? = some (.live nL.length 1 (vs (nL.map eI)))→QA Tryz.prog 24 [.v (.isl 1 (nL.map eI)),.sl (B.length+2) nL.length 0 nL.length] b l (fun r b' l'=>r=.v (.bool true)∧b'=b∧l'=l):=fun b l RC =>
  QA.peek (args':=[.v (.isl 1 (nL.map eI)),.v (.isl 1 (nL.map eI))]) rfl (fun i z y hz hy=>by
   match i,hz,hy with
   |0,hz,hy=>cases hz;cases hy;exact .v _
   |1,hz,hy=>cases hz;cases hy;exact Dv.sl0 RC hvn.symm) .bool (by
   have:=lO nL nL oM ((b++l).map iF) []
   rwa [ae rfl]at this)
 have cK:∀b l,(b++l)[B.length+2]? = some (.live nL.length 1 (vs (nL.map eI)))→QA Tryz.prog 26 [.sl (B.length+2) nL.length 0 nL.length,.v (.int .i64 p)] b l (fun r b' l'=>r=.v (.bool (decide (p∈nL)))∧b'=b∧l'=l):=fun b l RC =>
  QA.peek (args':=[.v (.isl 1 (nL.map eI)),.v (.int .i64 p)]) rfl (fun i z y hz hy=>by
   match i,hz,hy with
   |0,hz,hy=>cases hz;cases hy;exact Dv.sl0 RC hvn.symm
   |1,hz,hy=>cases hz;cases hy;exact .v _) .bool (lZ nL oM p _ _)
 have RC:∀r0 r1 r2:Row,∀T,(B++r0::r1::r2::T)[B.length+2]? = some r2:=fun r0 r1 r2 T=>by rw[aq oM,cj];rfl
 have nbb:∀x:Bool,(x != x)=false:=fun x=>by cases x<;>rfl
 simp (disch:=first|decide|omega) only[hA,iA,aa,go_sem]
 refine QA.nxt (cV _ _) ?_
 simp (disch:=first|decide|omega) only[hA,iA,aa,go_sem]
 refine QA.nxt (cQ _ _ (RC _ _ _ _)) ?_
 simp (disch:=first|decide|omega) only[hA,iA,n00,aa,go_sem]
 refine QA.nxt (cD _ _) ?_
 simp (disch:=first|decide|omega) only[hA,iA,n00,aa,go_sem]
 refine QA.nxt (cRD _ _) ?_
 by_cases h1:p<0
 ·have d1:decide (p<0)=true:=ae h1
  have hr:st=(wd0,2):=by rw[←DE];unfold EJ;rw[if_pos t1,if_pos (.inl h1)]
  subst hr
  simp only
  simp (disch:=first|decide|omega) only[hA,iA,nbb,d1,aa,go_sem]
  refine QA.nxt (cZ _ _) ?_
  simp (disch:=first|decide|omega) only[hA,iA,b22,go_sem]
  exact ZA (xs:=[.v (.bool true)])
 have d1:decide (p<0)=false:=ag h1
 obtain⟨k,rfl⟩:∃k:Nat,p=k:=⟨p.toNat,by omega⟩
 by_cases h2:w.sv.length≤k
 ·have d2:decide ((k:Int)≥(w.sv.length:Int))=true:=ae oM
  have d2':decide ((w.sv.length:Int)≤(k:Int))=true:=d2
  have hr:st=(wd0,2):=by rw[←DE];unfold EJ;rw[if_pos t1,if_pos (.inr oM)]
  subst hr
  simp only
  simp (disch:=first|decide|omega) only[hA,iA,nbb,d1,d2,d2',aa,go_sem]
  refine QA.nxt (cZ _ _) ?_
  simp (disch:=first|decide|omega) only[hA,iA,b22,go_sem]
  exact ZA (xs:=[.v (.bool true)])
 have d2:decide ((k:Int)≥(w.sv.length:Int))=false:=ag oM
 have d2':decide ((w.sv.length:Int)≤(k:Int))=false:=d2
 have FJ:k<w.sv.length:=by omega
 have DW:decide ((k:Int)∈nL)=GE w k:=by
  rw[dr,bc,←hnL,ZH4]
  exact⟨fun h=>h.2,fun h=>⟨FJ,h⟩⟩
 rw[DW]at cK
 simp (disch:=first|decide|omega) only[hA,iA,nbb,d1,d2,d2',aa,go_sem]
 refine QA.nxt (cK _ _ (RC _ _ _ _)) ?_
 cases t2:GE w k
 ·have hr:st=(wd0,6):=by rw[←DE];unfold EJ;rw[if_pos t1,if_neg oM,ca,if_neg (by rw[t2];simp)]
  subst hr
  simp only
  simp (disch:=first|decide|omega) only[hA,iA,aa,go_sem]
  refine QA.nxt (cZ _ _) ?_
  simp (disch:=first|decide|omega) only[hA,iA,b66,go_sem]
  exact ZA (xs:=[.v (.bool true)])
 have hr:stW w k=st:=by rw[←DE];unfold EJ;rw[if_pos t1,if_neg oM,ca,if_pos t2]
 have cX:=fun b l=>dU w hw k FJ t2 b l
 have cY:=fun b l=>(ZJS hw FJ t2).same b l
 rw[hr]at cX cY
 simp only[SB]at cX cY
 have bst:(st.2==st.2)=true:=by simp
 simp (disch:=first|decide|omega) only[hA,iA,aa,go_sem]
 refine QA.nxt (cX _ _) ?_
 simp (disch:=first|decide|omega) only[hA,iA,aa,go_sem]
 refine QA.nxt (cY _ _) ?_
 simp (disch:=first|decide|omega) only[hA,iA,bst,go_sem]
 exact ZA (xs:=[.v (.bool true)])
end Go.Proofs.YtmaokjojbjdpoaaGreatDoor
