/- Texts of one proof, laid together: X7, RW, NT, TR, TX, R2, X5, X9, XB, XC. No condition. -/
import Derived.Test.YtmaokjojbjdpoaaGreatDoorWR7
import Derived.KernelRfl
set_option linter.unusedSimpArgs false
set_option maxHeartbeats 16000000
set_option maxRecDepth 20000
namespace Go.Proofs.YtmaokjojbjdpoaaGreatDoor
set_option maxHeartbeats 16000000
set_option maxRecDepth 100000
set_option linter.unusedVariables false
set_option linter.unusedSimpArgs false
attribute [local go_sem ↓] xC UB iC rC wD fB uC gD dC mD LA lB wC MA mB kC QB GB lC KB FA sC eB bB vB aB yB JC nB xD tC uD iD eE pD bE aE TB ZC
attribute [local go_sem] zB EA YE wB ZB fE tD sD rD KL zL nD nC pC mC YD lA UC AA VC CA qB aop AE QE TD LC MD GC LD AJ XG GF amm zF aC MB sF SD IF comma ZD QG EJ ZG AF wJ dF uF vE yJ eqC eqF aG cellsOf rB bC RB iF NI rd rdI IE mk fD AV.cell List.all_cons List.all_nil Bool.and_true Bool.true_and Bool.and_self List.length_cons List.length_nil List.length_append Nat.reduceAdd Nat.reduceSub Nat.reduceMul Nat.zero_add Nat.add_zero List.cons_append List.nil_append List.append_assoc List.append_nil List.getElem?_cons_zero List.getElem?_cons_succ List.getElem?_nil List.set_cons_zero List.set_cons_succ List.drop_zero List.drop_succ_cons List.take_zero List.take_succ_cons List.take_nil List.drop_nil List.map_cons List.map_nil Option.map_some if_true if_false Bool.false_eq_true and_self true_and and_true Nat.reduceLeDiff Nat.reduceLT Nat.le_refl Nat.reduceEqDiff ite_true ite_false beq_self_eq_true beq_true beq_false Bool.not_true Bool.not_false Bool.true_beq Bool.false_beq lE SB iB jD kD yC vC jC qC yD vD mE pA YL sK JL XL rG iG sG dG geI gtI tG decide_true decide_false room List.getElem?_map List.length_map List.length_take Int.toNat_natCast Nat.min_def Nat.min_self dD XD ED pB GD lF zA List.getElem_cons_zero List.getElem_cons_succ
abbrev oH:List AV:=[(.v (.int .i64 0)),(.v (.int .i64 0)),(.v (.int .i64 0))]
abbrev oI:List AV:=[(.v (.str ⟨#[]⟩)),(.v .zsl),(.v (.int .i64 0)),(.v .zsl),(.v (.int .i64 0)),(.v (.int .i64 0))]
abbrev oJ:List AV:=[(.v .zsl),(.v (.int .i64 0)),(.v (.bool false)),(.v .zsl),(.v .zsl),(.v .zsl),(.v (.int .i64 0)),(.v (.int .i64 0)),(.v .zsl)]
def a_awk54:AFunc:=⟨0,76,[.tmp 0],(.seq (.region [⟨some 0,.mv (.c (.v (.bool false))),none⟩]) (.seq (.region [⟨some 8,.build oH [(0,1,(.c (.v (.int .i64 3)))),(1,1,(.c (.v (.int .i64 0)))),(2,1,(.c (.v (.int .i64 1))))],none⟩,⟨some 9,.build oH [(0,1,(.c (.v (.int .i64 8))))],none⟩,⟨some 10,.bslice 3 oH 2 [(0,(.t 8)),(1,(.t 9))],none⟩,⟨some 11,.bslice 1 [(.v (.int .i64 0))] 1 [(0,(.c (.v (.int .i64 5))))],none⟩,⟨some 12,.build oI [(0,1,(.c (.v (.str ⟨#[97]⟩)))),(1,1,(.t 10)),(3,1,(.t 11)),(5,1,(.c (.v (.int .i64 1000))))],none⟩,⟨some 13,.build oH [(0,1,(.c (.v (.int .i64 4))))],none⟩,⟨some 14,.build oH [(0,1,(.c (.v (.int .i64 2)))),(1,1,(.c (.v (.int .i64 0)))),(2,1,(.c (.v (.int .i64 1))))],none⟩,⟨some 15,.bslice 3 oH 2 [(0,(.t 13)),(1,(.t 14))],none⟩,⟨some 16,.bslice 1 [(.v (.int .i64 0))] 1 [(0,(.c (.v (.int .i64 0))))],none⟩,⟨some 17,.build oI [(0,1,(.c (.v (.str ⟨#[98]⟩)))),(1,1,(.t 15)),(3,1,(.t 16)),(5,1,(.c (.v (.int .i64 1000))))],none⟩,⟨some 18,.bslice 6 oI 2 [(0,(.t 12)),(1,(.t 17))],none⟩,oA 1 18]) (.seq (.region [oA 20 1,⟨some 21,.build [(.v (.int .i64 0)),(.v (.bool false)),(.v .zsl),(.v .zsl),(.v .zsl)] [],none⟩,⟨some 22,.call (.c (.fn 33 [])) [(.t 20),(.t 21)],none⟩,oA 19 22,⟨some 23,.extract 0 (.t 19),none⟩,⟨some 24,.extract 1 (.t 19),none⟩,⟨some 2,.alloc oJ,none⟩,⟨none,.store 9 (.t 2) (.t 23),none⟩,oA 3 24]) (.seq (.region [⟨some 26,.load (some 9) (.t 2),none⟩,⟨some 27,.call (.c (.fn 20 [])) [(.t 26)],none⟩,oA 25 27,⟨some 28,.extract 0 (.t 25),none⟩,⟨some 29,.extract 1 (.t 25),none⟩,oA 4 28,oA 5 29]) (.seq (.region [⟨some 31,.load (some 9) (.t 2),none⟩,⟨some 32,.bslice 1 [(.v (.int .i64 0))] 3 [(0,(.c (.v (.int .i64 0)))),(1,(.c (.v (.int .i64 1)))),(2,(.c (.v (.int .i64 1))))],none⟩,⟨some 33,.call (.c (.fn 12 [])) [(.t 31),(.t 32)],none⟩,oA 30 33,⟨some 34,.extract 0 (.t 30),none⟩,⟨some 35,.extract 1 (.t 30),none⟩,⟨some 6,.alloc oJ,none⟩,⟨none,.store 9 (.t 6) (.t 34),none⟩,oA 7 35]) (.seq (.region [oA 36 3,⟨some 37,.bin .eql (.t 36) (.c (.v (.int .i64 0))),none⟩,oA 38 37,oA 39 5 (some (38,true)),⟨some 40,.bin .eql (.t 39) (.c (.v (.int .i64 0))),some (38,true)⟩,⟨some 41,.pick (.t 38) (.t 40) (.c (.v (.bool false))),none⟩,oA 42 41,oA 43 4 (some (42,true)),⟨some 44,.bslice 1 [(.v (.int .i64 0))] 1 [(0,(.c (.v (.int .i64 0))))],some (42,true)⟩,⟨some 45,.call (.c (.fn 24 [])) [(.t 43),(.t 44)],some (42,true)⟩,⟨some 46,.pick (.t 42) (.t 45) (.c (.v (.bool false))),none⟩,oA 47 46,oA 48 7 (some (47,true)),⟨some 49,.bin .eql (.t 48) (.c (.v (.int .i64 0))),some (47,true)⟩,⟨some 50,.pick (.t 47) (.t 49) (.c (.v (.bool false))),none⟩,oA 51 50,⟨some 52,.load (some 9) (.t 6),some (51,true)⟩,⟨some 53,.call (.c (.fn 23 [])) [(.t 52)],some (51,true)⟩,⟨some 54,.pick (.t 51) (.t 53) (.c (.v (.bool false))),none⟩,oA 55 54,oB 56 0 6 (some (55,true)),oC 57 56 (some (55,true)),oF 58 57 (some (55,true)),⟨some 59,.bin .eql (.t 58) (.c (.v (.int .i64 2))),some (55,true)⟩,⟨some 60,.pick (.t 55) (.t 59) (.c (.v (.bool false))),none⟩,oA 61 60,oB 62 0 6 (some (61,true)),oC 63 62 (some (61,true)),⟨some 64,.iaddr 6 (.t 63) (.c (.v (.int .i64 1))),some (61,true)⟩,oB 65 3 64 (some (61,true)),oC 66 65 (some (61,true)),⟨some 67,.bslice 1 [(.v (.int .i64 0))] 1 [(0,(.c (.v (.int .i64 6))))],some (61,true)⟩,⟨some 68,.call (.c (.fn 24 [])) [(.t 66),(.t 67)],some (61,true)⟩,⟨some 69,.pick (.t 61) (.t 68) (.c (.v (.bool false))),none⟩,oA 70 69,oB 71 8 6 (some (70,true)),⟨some 72,.load (some 1) (.t 71),some (70,true)⟩,⟨some 73,.call (.c (.fn 39 [])) [(.t 72)],some (70,true)⟩,⟨some 74,.bin .eql (.t 73) (.c (.v (.int .i64 3))),some (70,true)⟩,⟨some 75,.pick (.t 70) (.t 74) (.c (.v (.bool false))),none⟩,oA 0 75]) .ret))))))⟩
theorem n8:qA Tryz.prog 9=some a_awk54:=by kernel_rfl

theorem ZAb {l:List Sv} (p:Nat):nA (l.map npr) p=[]:=by
 unfold nA
 rw[au,an]
 cases l[p]? <;> rfl
theorem CR {l:List Sv} (x:Nat×Nat):x∉ids (l.map npr):=fun hx=>by
 obtain⟨p,i⟩:=x
 obtain⟨i,rfl⟩:∃k,i=k+1:=⟨i-1,by have:=lG hx;simp only at this;omega⟩
 have:=(yE.1 hx).2
 rw[ZAb]at this
 exact absurd this kS
theorem ZD0:∀i:Fin 8,eD (qH i)=true:=by decide
theorem ZD1:∀i j:Fin 8,j<i→(qH j==qH i)=false:=by decide
theorem ZJF {v:Int} (h:vlB v=true):QL v=true:=by
 unfold vlB at h;unfold QL
 simpa using h
theorem ZDz {l:List Sv} (h:FF l=true) {p:Nat} (hp:p<l.length):CC (l.map npr) p=0:=by
 obtain⟨hv,hd⟩:=IH h hp
 have hg:l.getD p dfSv=l[p]:=YA hp
 rw[hg]at hv
 unfold CC
 rw[ZAa hp]
 have c1:((l.map npr).take p).any (fun y=>y.name.toList==(npr l[p]).name.toList)=false:=by
  rw[ga]
  intro y hy hc
  obtain⟨q,hq⟩:=ek.1 hy
  rw[de]at hq
  split at hq
  ·rename_i hqp
   rw[an,ah oM]at hq
   cases hq
   rw[←beq_toListBytes]at hc
   have:=hd q hqp
   rw[hg,YA oM]at this
   exact this (MT hc)
  ·cases hq
 have c3:sB (jN (npr l[p]).vars) (npr l[p]).vars.length=0:=by
  rw[EG]
  intro i hi
  have hi:i<l[p].vars.length:=by rw[←tI (l:=l[p].vars)];exact hi
  have h8:=hv.vl
  have QI:∀j,j<l[p].vars.length→(npr l[p]).vars.getD j EO=wVr l[p].vars j:=fun j hj=>ZAn hj
  unfold jN
  rw[QI i hi]
  have a1:eD (wVr l[p].vars i).name=true:=ZD0 ⟨i,by omega⟩
  have a2:((npr l[p]).vars.take i).any (fun y=>y.name.toList==(wVr l[p].vars i).name.toList)=false:=by
   rw[ga]
   intro y hy hc
   obtain⟨q,hq⟩:=ek.1 hy
   rw[de]at hq
   split at hq
   ·rename_i hqi
    have e:=QI q oM
    rw[au,hq,fu]at e
    rw[e,←beq_toListBytes]at hc
    have:=ZD1 ⟨i,by omega⟩ ⟨q,by omega⟩ hqi
    have YS:(qH q==qH i)=true:=hc
    rw[YS]at this;cases this
   ·cases hq
  have a3:QL (wVr l[p].vars i).init=true:=ZJF (by show vlB (l[p].vars.getD i 0)=true;rw[YA hi];exact hv.vs _ (ak hi))
  rw[a1,a2,a3];rfl
 have c0:eD (npr l[p]).name=true:=hv.name
 have c2:¬8<(npr l[p]).vars.length:=by
  have:=hv.vl
  show ¬8<(nN l[p].vars).length
  rw[tI];omega
 rw[c0,c1,c3]
 simp only[iw,Bool.or_false,dt,if_false,ne_eq,not_true_eq_false]
 rw[if_neg c2]
 rfl
theorem ZHJ {l:List Sv} (h:FF l=true):Vok (l.map npr):=by
 have hn:=LP h
 exact⟨by rw[aa];omega,by rw[aa];omega,fun p hp=>ZDz h (by rwa [aa]at hp),fun x hx=>absurd hx (CR x),fun x hx=>absurd hx (CR x),fun x hx=>absurd hx (CR x)⟩
theorem p5 (v:List Int):(nN v).map (·.init)=v:=by
 apply ea
 intro i
 rw[an]
 by_cases hi:i<v.length
 ·unfold nN
  rw[CB hi,ah hi]
  show some (v.getD i 0)=_
  rw[YA hi]
 ·rw[cg (by rw[tI];omega),cg oM];rfl
theorem ZHK (s:Sv) (now:Int):dI (npr s) s now=true:=by
 unfold dI
 have h1:((npr s).name==s.name)=true:=TK _
 have h2:(npr s).vars.length=s.vars.length:=tI
 have h3:fY (npr s) s.vars.length=true:=by
  unfold fY
  rw[bn]
  intro i hi
  have e:(npr s).vars.getD i EO=wVr s.vars i:=ZAn (ba.1 hi)
  rw[e];exact TK _
 have h4:rM (npr s)=s.vars:=p5 s.vars
 have h5:CU (npr s) (CH s now)=true:=by unfold CU;exact ae (.inl rfl)
 rw[h1,ae h2,h3,ae h4,h5];rfl
theorem ZAc {l:List Sv}:∀k,cSd (l.map npr) k=0
 |0=>rfl
 |k+1=>by
   simp only[cSd]
   rw[ZAc k,ZAb];rfl
theorem ZBg {l:List Sv} {n:Nw} (h:FF l=true) (hn:NwV n) (h0:n.now=0) (hl:n.l=[]):WdV (R9 l n):=by
 refine⟨h,⟨im _,by show (0:Int)≤1000000000;decide⟩,hn,h0,ZHJ h,by show (l.map npr).length=l.length;rw[aa],fun p hp=>?_,fun x hx=>absurd hx (CR x),?_,fun m hm=>?_⟩
 ·have hp:p<l.length:=by rw[←aa (f:=npr)];exact hp
  show dI ((l.map npr).getD p dfPr) (l.getD p dfSv) 0=true
  rw[ZAa hp,YA hp]
  exact ZHK _ _
 ·show ((cSd (l.map npr) _:Nat):Int)=0
  rw[ZAc];rfl
 ·have hm:m∈n.l:=hm
  rw[hl]at hm;cases hm
def awL:List Sv:=[⟨⟨#[97]⟩,[⟨3,0,1⟩,⟨8,0,0⟩],0,[5],0,1000⟩,⟨⟨#[98]⟩,[⟨4,0,0⟩,⟨2,0,1⟩],0,[0],0,1000⟩]
theorem e9:FF awL=true:=by kernel_rfl
theorem K9:nwB nw0=true:=by kernel_rfl
noncomputable def aw0:Wd:=R9 awL nw0
noncomputable def aw1:Wd:=(stW aw0 0).1
noncomputable def aw2:Wd:=(stW aw1 1).1
noncomputable def aw3:Wd:=(stW aw2 1).1
theorem wM:WdV aw0:=ZBg e9 (VG.1 K9) rfl rfl
theorem ZI4:rF aw0 0=true:=by kernel_rfl
theorem ZI3:(stW aw0 0).2=0:=by kernel_rfl
theorem aw0_l:LL aw0 2=[0]:=by kernel_rfl
theorem ZIZ:WdV aw1:=xO wM (by show 0<2;omega) ZI4 ZI3
theorem ZI1:aw1.sv.length=2:=by kernel_rfl
theorem ZI2:rF aw1 1=true:=by kernel_rfl
theorem ZI0:(stW aw1 1).2=0:=by kernel_rfl
theorem ZIV:WdV aw2:=xO ZIZ (by rw[ZI1];omega) ZI2 ZI0
theorem ZIX:aw2.sv.length=2:=by kernel_rfl
theorem ZIY:rF aw2 1=true:=by kernel_rfl
theorem ZIW:(stW aw2 1).2=0:=by kernel_rfl
theorem sR:WdV aw3:=xO ZIV (by rw[ZIX];omega) ZIY ZIW
theorem aw3_n:aw3.sv.length=2:=by kernel_rfl
theorem aw3_x:aw3.sv.all zI=true:=by kernel_rfl
theorem ZIU:(ids aw3.tr).length=3:=by kernel_rfl
theorem aw3_r:(aw3.sv.map eSv)[1]? = some [.str ⟨#[98]⟩,.isl 3 [[.int .i64 4,.int .i64 0,.int .i64 0],[.int .i64 2,.int .i64 0,.int .i64 1]],.int .i64 2,.isl 1 [[.int .i64 6]],.int .i64 0,.int .i64 1000]:=by kernel_rfl
theorem J9 {w:Wd} (hw:WdV w) {p:Nat} (hp:p<w.sv.length) (he:rF w p=true):kJ w p=stW w p:=by
 unfold kJ
 rw[if_pos oM]
 unfold PL
 rw[if_pos hw.to,if_neg oM,ca,if_pos he]
theorem ZJp:iM aw0 [0,1,1]=(aw3,0):=by
 have h0:kJ aw0 0=stW aw0 0:=J9 (p:=0) wM (by show 0<2;omega) ZI4
 have h1:kJ aw1 1=stW aw1 1:=J9 (p:=1) ZIZ (by rw[ZI1];omega) ZI2
 have h2:kJ aw2 1=stW aw2 1:=J9 (p:=1) ZIV (by rw[ZIX];omega) ZIY
 unfold iM
 rw[if_pos wM.to,if_neg kE]
 have e1:(stW aw0 0).1=aw1:=rfl
 have e2:(stW aw1 1).1=aw2:=rfl
 have e3:(stW aw2 1).1=aw3:=rfl
 simp only[vN]
 rw[h0,if_pos ZI3,e1,h1,if_pos ZI0,e2,h2,if_pos ZIW,e3]
theorem VI (b l:List Row):QA Tryz.prog 9 [] b l (fun r b' l'=>r=.v (.bool true)∧b'=b∧l'=l):=by
 refine XA n8 rfl kE ?_
 intro B g hB hR hE hA;simp only[zA]at hA
 have cN:∀b l,QA Tryz.prog 33 [.v (.isl 6 (awL.map eSv)),.agg [.v (.int .i64 0),.v (.bool false),.v .zsl,.v .zsl,.v .zsl]] b l (fun r b' l'=>r=.tup [.agg ((eWd aw0).map .v),.v (.int .i64 0)]∧b'=b∧l'=l):=fun b l=>by
  have hb:AO awL nw0=(aw0,0):=by
   unfold AO
   rw[if_pos ⟨e9,K9⟩,if_neg (by rintro (h|h|h);exact h rfl;exact absurd h kE;exact absurd h kE)];rfl
  have:=G5 awL (ZIK e9) nw0 (VG.1 K9).s b l
  rw[hb]at this
  refine this.le rfl (fun i x y hx hy=>?_)
  match i,hx,hy with
  |0,hx,hy=>cases hx;cases hy;exact .refl _
  |1,hx,hy =>
    cases hx;cases hy
    refine .agg _ _ rfl (fun j u v hu hv=>?_)
    match j,hu,hv with
    |0,hu,hv=>cases hu;cases hv;exact .refl _
    |1,hu,hv=>cases hu;cases hv;exact .refl _
    |2,hu,hv=>cases hu;cases hv;exact .v _ _ (.zsl 4)
    |3,hu,hv=>cases hu;cases hv;exact .v _ _ (.zsl 1)
    |4,hu,hv=>cases hu;cases hv;exact .v _ _ (.zsl 2)
 have cE:=fun b l=>CY aw0 wM.small wM.nm wM.svS wM.net.s wM.to b l
 have hq:NQ aw0 aw0.sv.length=[[.int .i64 0]]:=by
  show (LL aw0 2).map _=_
  rw[aw0_l];rfl
 rw[hq]at cE
 have cR:=fun b l=>uV aw0 wM.small.sm wM.nm wM.svS wM.net.s [0,1,1] kS kS b l
 rw[ZJp]at cR
 have cD:=fun b l=>EY aw3 sR.small.sm sR.nm sR.svS sR.net.s b l
 have hd:ZGD aw3=true:=by unfold ZGD;rw[sR.to,aw3_x];rfl
 rw[hd]at cD
 have cC:=fun b l=>K7 aw3.tr sR.small sR.nm b l (by rw[ZIU];omega)
 have hc:ZN aw3.tr=3:=by unfold ZN;rw[if_pos (EI sR.tr),ZIU]
 rw[hc]at cC
 simp only[eT]at cC
 have q0:∀b l,QA Tryz.prog 24 [.v (.isl 1 [[.int .i64 0]]),.v (.isl 1 [[.int .i64 0]])] b l (fun r b' l'=>r=.v (.bool true)∧b'=b∧l'=l):=fun b l=>IT [0] [0] kS b l
 have q6:∀b l,QA Tryz.prog 24 [.v (.isl 1 [[.int .i64 6]]),.v (.isl 1 [[.int .i64 6]])] b l (fun r b' l'=>r=.v (.bool true)∧b'=b∧l'=l):=fun b l=>IT [6] [6] kS b l
 have g1:=aw3_r
 have n3:=aw3_n
 obtain⟨W,hW⟩:∃W,aw0=W:=⟨_,rfl⟩
 obtain⟨V,hV⟩:∃V,aw3=V:=⟨_,rfl⟩
 rw[hW]at cN cE cR
 rw[hV]at cR cD cC g1 n3
 simp only[TA]at cN cE cR cD
 have b1:((0:Int)==0)=true:=rfl
 have b2:((3:Int)==3)=true:=rfl
 have b3:(((3:Nat):Int)==3)=true:=rfl
 have b4:(((2:Nat):Int)==2)=true:=rfl
 have b5:((2:Int)==2)=true:=rfl
 have t1:Int.toNat 1=1:=rfl
 simp (disch:=first|decide|omega) only[a_awk54,hA,dB,bq,bs,ez,fo,go_sem]
 refine QA.deepMid (l1:=[]) (l2:=[]) (N:=[.live 0 3 [[.v (.int .i64 3),.v (.int .i64 0),.v (.int .i64 1)],[.v (.int .i64 8),.v (.int .i64 0),.v (.int .i64 0)]],.live 0 1 [[.v (.int .i64 5)]],.live 0 3 [[.v (.int .i64 4),.v (.int .i64 0),.v (.int .i64 0)],[.v (.int .i64 2),.v (.int .i64 0),.v (.int .i64 1)]],.live 0 1 [[.v (.int .i64 0)]],.live 0 6 [[.v (.str ⟨#[97]⟩),.sl B.length 0 0 2,.v (.int .i64 0),.sl (B.length+1) 0 0 1,.v (.int .i64 0),.v (.int .i64 1000)],[.v (.str ⟨#[98]⟩),.sl (B.length+2) 0 0 2,.v (.int .i64 0),.sl (B.length+3) 0 0 1,.v (.int .i64 0),.v (.int .i64 1000)]]]) (args':=[.v (.isl 6 (awL.map eSv)),.agg [.v (.int .i64 0),.v (.bool false),.v .zsl,.v .zsl,.v .zsl]]) rfl (fun i x y hx hy=>?_) ?_
 ·match i,hx,hy with
  |0,hx,hy =>
    cases hx;cases hy
    refine Dv.slR (i:=4) rfl kS rfl (fun k r row h1 h2=>?_)
    match k,h1,h2 with
    |0,h1,h2=>cases h1;cases h2;exact DvR.cons (.v _) (DvR.cons (Dv.slV (i:=0) (rows:=[[.int .i64 3,.int .i64 0,.int .i64 1],[.int .i64 8,.int .i64 0,.int .i64 0]]) rfl rfl) (DvR.cons (.v _) (DvR.cons (Dv.slV (i:=1) (rows:=[[.int .i64 5]]) rfl rfl) (DvR.cons (.v _) (DvR.cons (.v _) DvR.nil)))))
    |1,h1,h2=>cases h1;cases h2;exact DvR.cons (.v _) (DvR.cons (Dv.slV (i:=2) (rows:=[[.int .i64 4,.int .i64 0,.int .i64 0],[.int .i64 2,.int .i64 0,.int .i64 1]]) rfl rfl) (DvR.cons (.v _) (DvR.cons (Dv.slV (i:=3) (rows:=[[.int .i64 0]]) rfl rfl) (DvR.cons (.v _) (DvR.cons (.v _) DvR.nil)))))
  |1,hx,hy=>cases hx;cases hy;exact Dv.aggL (.cons (.v _) (.cons (.v _) (.cons (.v _) (.cons (.v _) (.cons (.v _) .nil)))))
 refine QA.nxt (cN _ _) ?_
 simp (disch:=first|decide|omega) only[hA,WF,dB,go_sem]
 refine QA.nxt (cE _ _) ?_
 simp (disch:=first|decide|omega) only[hA,WF,dB,bq,bs,ez,fo,go_sem]
 refine QA.frzB (i:=6) (ver:=0) (sz:=1) (rows:=[[.int .i64 0],[.int .i64 1],[.int .i64 1]]) (args':=[.agg (zWA W),.v (.isl 1 ([0,1,1].map eI))]) rfl (by simp[frz,ZE,eI]) ?_
 refine QA.nxt (cR _ _) ?_
 simp (disch:=first|decide|omega) only[hA,b1,WF,dB,bq,bs,ez,fo,go_sem]
 refine QA.frzB (i:=8) (ver:=0) (sz:=1) (rows:=[[.int .i64 0]]) (args':=[.v (.isl 1 [[.int .i64 0]]),.v (.isl 1 [[.int .i64 0]])]) rfl (by simp[frz,ZE]) ?_
 refine QA.nxt (q0 _ _) ?_
 simp (disch:=first|decide|omega) only[hA,b1,dB,go_sem]
 refine QA.nxt (cD _ _) ?_
 simp (disch:=first|decide|omega) only[hA,b1,b4,b5,n3,t1,g1,dB,bq,bs,ez,fo,go_sem]
 refine QA.frzB (i:=9) (ver:=0) (sz:=1) (rows:=[[.int .i64 6]]) (args':=[.v (.isl 1 [[.int .i64 6]]),.v (.isl 1 [[.int .i64 6]])]) rfl (by simp[frz,ZE]) ?_
 refine QA.nxt (q6 _ _) ?_
 simp (disch:=first|decide|omega) only[hA,b1,b4,b5,n3,t1,g1,dB,go_sem]
 refine QA.nxt (cC _ _) ?_
 simp (disch:=first|decide|omega) only[hA,b1,b2,b3,go_sem]
 exact ZA (xs:=[.v (.bool true)])
open Go.RowKit Go.ChangeShapes Go.WideShapes Go.Deep

def RIs (w:World) (F:Nat→Prop) (row:List IV) (cs:List Value):Prop:=row.length=cs.length∧∀(j:Nat) (a:IV) (v:Value),row[j]? = some a→cs[j]? = some v→RepI w F a v
theorem RIs.nil {w:World} {F:Nat→Prop}:RIs w F [] []:=⟨rfl,fun j a v h=>by simp at h⟩
theorem RIs.one {w:World} {F:Nat→Prop} {a:IV} {v:Value} (h:RepI w F a v):RIs w F [a] [v]:=by
 refine⟨rfl,fun j x u hx hu=>?_⟩
 cases j with
 |zero=>simp at hx hu;subst hx;subst hu;exact h
 |succ j=>simp at hx
theorem RIs.append {w:World} {F:Nat→Prop} {r s:List IV} {cs ds:List Value} (h:RIs w F r cs) (k:RIs w F s ds):RIs w F (r++s) (cs++ds):=by
 refine⟨by simp[h.1,k.1],fun j a v ha hv=>?_⟩
 by_cases hj:j<r.length
 ·rw[aw hj]at ha
  rw[aw (by rw[←h.1];exact hj)]at hv
  exact h.2 j a v ha hv
 ·rw[aq oM]at ha
  rw[aq (by rw[←h.1];omega),←h.1]at hv
  exact k.2 _ a v ha hv
theorem RIs.repL {w:World} {F:Nat→Prop} {L:LMap} {r:List IV} {cs:List Value} (h:RIs w F r cs):GA w F L (r.map .v) cs:=by
 refine⟨by simpa using h.1,fun j x v hx hv=>?_⟩
 rw[an]at hx
 cases hq:r[j]? with
 |none=>simp[hq]at hx
 |some y=>simp[hq]at hx;subst hx;exact .v _ _ (h.2 j y v hq hv)

def Low (w:World):Nat→Prop:=fun b=>b<w.heap.size

def TR {α:Type} (P:Program) (t:TypeId) (n:Nat) (enc:α→List IV) (good:α→Prop):Prop:=
 ∀(H:Type) (en:TypeId×Value→H) (w:World) (base:Nat) (spare:Nat→Bool) (held:Bool) (fuel:Nat) (cs:List Value) (x:DataW H×List MemPlace),cs.length=n→DataW.trod en P w base spare held fuel t cs=some x →
  ∃y,good y∧RIs w (Low w) (enc y) cs

section
variable {P:Program} {α β:Type}
theorem TR.map {t:TypeId} {n:Nat} {enc:α→List IV} {good:α→Prop} (h:TR P t n enc good) {enc':β→List IV} {good':β→Prop} (f:α→β) (he:∀y,enc' (f y)=enc y) (hg:∀y,good y→good' (f y)):TR P t n enc' good':=by
 intro H en w base spare held fuel cs x hl hx
 obtain⟨y,g,r⟩:=h H en w base spare held fuel cs x hl hx
 exact⟨f y,hg y g,by rw[he];exact r⟩
theorem ZEv {t:TypeId} {k:IntKind} (ht:P.underlying t=some (.int k)):TR P t 1 (fun n:Int=>[.int k n]) (fun n=>(Lit.int k n).wf=true):=by
 intro H en w base spare held fuel cs x hl hx
 obtain⟨n,rfl,_,hw⟩:=DataW.trod_int ht hx
 exact⟨n,hw,RIs.one (.int _ _)⟩
theorem ZG3 {t:TypeId} (ht:P.underlying t=some .bool):TR P t 1 (fun b:Bool=>[.bool b]) (fun _=>True):=by
 intro H en w base spare held fuel cs x hl hx
 obtain⟨n,rfl,_⟩:=DataW.trod_bool ht hx
 exact⟨n,trivial,RIs.one (.bool _)⟩
theorem iV {t:TypeId} (ht:P.underlying t=some .string):TR P t 1 (fun s:ByteArray=>[.str s]) (fun s=>s.size≤maxLen):=by
 intro H en w base spare held fuel cs x hl hx
 obtain⟨n,rfl,_,hm⟩:=DataW.trod_string ht hx
 exact⟨n,hm,RIs.one (.str _)⟩
theorem vG {t e:TypeId} {n:Nat} {enc:α→List IV} {good:α→Prop} (h:TR P e n enc good) (ht:P.underlying t=some (.slice e)) (hC:P.cellsOf e=n) (h0:0<n) :
  TR P t 1 (fun ys:List α=>[.isl n (ys.map enc)]) (fun ys=>ys.length≤maxLen∧∀y∈ys,good y):=by
 intro H en w base spare held fuel cs x hl hx
 rcases open_slice ht hx with ⟨hv,_⟩|⟨a,len,cap,m,f,D,Pl,hv,hb,hll,hm,hmm,_,XJ⟩
 ·subst hv
  exact⟨[],⟨by simp[maxLen],fun y hy=>by simp at hy⟩,RIs.one (.isl0 _ _ _ (by simp[maxLen]))⟩
 ·subst hv
  have LJ:len≤m:=by rw[hmm];split<;>omega
  have key:∀i,i<len→∃y,(good y∧∃b off,a=⟨b,off,none⟩∧(enc y).length=n∧∀(j:Nat) (c:IV),(enc y)[j]? = some c→∃v,w.cell? ⟨b,off+i*n+j,none⟩=some v∧RepI w (Low w) c v):=by
   intro i hi
   obtain⟨cs',hc,ht'⟩:=XJ i oM
   rw[hC]at hc
   obtain⟨_,WM,hat⟩:=World.cells?_some hc
   obtain⟨cs0,hc0,_⟩:=XJ 0 oM
   rw[hC]at hc0
   obtain⟨_,hcl0,ZNX⟩:=World.cells?_some hc0
   have P9:=ZNX 0 h0
   have e00:(a.add (0*n)).add 0=a:=by simp[Addr.add]
   rw[e00,ah (show 0<cs0.length by omega)]at P9
   have hsp:=ZBM P9
   obtain⟨b,off,sp⟩:=a
   simp only at hsp
   subst hsp
   obtain⟨y,hg,hy⟩:=h H en w base spare held f cs' (D i,Pl i) WM ht'
   refine⟨y,hg,b,off,rfl,by rw[hy.1,WM],fun j c hj=>?_⟩
   have wG:j<cs'.length:=by rw[←hy.1];exact (am.1 hj).1
   have:=hat j oM
   have e1:((⟨b,off,none⟩:Addr).add (i*n)).add j=⟨b,off+i*n+j,none⟩:=by
    unfold Addr.add
    by_cases h1:i*n=0<;>by_cases h2:j=0<;>simp[h1,h2]
   rw[e1,ah wG]at this
   exact⟨_,this,hy.2 j c _ hj (ah wG)⟩
  obtain⟨xs,hxl,R8⟩:=ZAf len key
  subst hxl
  refine⟨xs,⟨by omega,fun y hy=>?_⟩,RIs.one ?_⟩
  ·obtain⟨i,hi⟩:=ek.1 hy
   exact (R8 i y hi).1
  ·by_cases qT:0<xs.length
   ·obtain⟨_,b,off,ha,_⟩:=R8 0 xs[0] (ah qT)
    subst ha
    have XN:∀(k:Nat) (row:List IV),(xs.map enc)[k]? = some row→row.length=n∧∀(j:Nat) (c:IV),row[j]? = some c→∃v,w.cell? ⟨b,off+k*n+j,none⟩=some v∧RepI w (Low w) c v:=by
     intro k row hk
     rw[an]at hk
     cases hq:xs[k]? with
     |none=>rw[hq]at hk;cases hk
     |some y =>
       rw[hq]at hk;cases hk
       obtain⟨_,b',off',hh,h1,h2⟩:=R8 k y hq
       injection hh with g1 g2
       subst g1;subst g2
       exact⟨h1,h2⟩
    have ZNY:Low w b:=by
     obtain⟨r1,r2⟩:=XN 0 (enc xs[0]) (by rw[an,ah qT];rfl)
     obtain⟨v,hv,_⟩:=r2 0 (enc xs[0])[0] (ah oM)
     exact jB hv
    have:=RepI.isl (w:=w) (F:=Low w) (xs.map enc) b off n cap (fun k j=>(w.cell? ⟨b,off+k*n+j,none⟩).getD undef) ZNY (by simpa using hll) hm (fun k row hk=>(XN k row hk).1)
     (fun k row j c hk hj=>by
      obtain⟨v,hv,_⟩:=(XN k row hk).2 j c hj
      rw[hv];rfl)
     (fun k row j c hk hj=>by
      obtain⟨v,hv,hr⟩:=(XN k row hk).2 j c hj
      rw[hv];exact hr)
    rw[aa]at this
    exact this
   ·have:xs=[]:=cq oM
    subst this
    exact .isl0 _ _ _ hm

def TRF (P:Program) (fs:List Field) (o n:Nat) (enc:α→List IV) (good:α→Prop):Prop:=
 ∀(H:Type) (en:TypeId×Value→H) (w:World) (base:Nat) (spare:Nat→Bool) (held:Bool) (fuel:Nat) (cs:List Value),cs.length=o+n→(∀f∈fs,∃x,DataW.trod en P w base spare held fuel f.type ((cs.drop f.offset).take (P.cellsOf f.type))=some x) →
  ∃y,good y∧RIs w (Low w) (enc y) (cs.drop o)
theorem VH {o:Nat}:TRF P [] o 0 (fun _:Unit=>[]) (fun _=>True):=by
 intro H en w base spare held fuel cs hl _
 refine⟨(),trivial,?_⟩
 rw[kh oM]
 exact RIs.nil
theorem bA {f:Field} {fs:List Field} {o n m:Nat} {enc:α→List IV} {good:α→Prop} {enc':β→List IV} {good':β→Prop} (h:TR P f.type n enc good) (hC:P.cellsOf f.type=n) (ho:f.offset=o) (k:TRF P fs (o+n) m enc' good') :
  TRF P (f::fs) o (n+m) (fun y:α×β=>enc y.1++enc' y.2) (fun y=>good y.1∧good' y.2):=by
 intro H en w base spare held fuel cs hl hfs
 obtain⟨x,hx⟩:=hfs f kS
 rw[ho,hC]at hx
 obtain⟨y,hg,hy⟩:=h H en w base spare held fuel _ x (by simp;omega) hx
 obtain⟨z,hg',hz⟩:=k H en w base spare held fuel cs oM (fun f hf=>hfs f (by simp[hf]))
 refine⟨(y,z),⟨hg,hg'⟩,?_⟩
 have:cs.drop o=(cs.drop o).take n++cs.drop (o+n):=by rw[←List.drop_drop,iz]
 rw[this]
 exact hy.append hz
theorem SE {t:TypeId} {fs:Array Field} {n:Nat} {enc:α→List IV} {good:α→Prop} (ht:P.underlying t=some (.struct fs)) (h:TRF P fs.toList 0 n enc good):TR P t n enc good:=by
 intro H en w base spare held fuel cs x hl hx
 obtain⟨xs,m,_,_,_,IB,hf⟩:=DataW.trod_struct ht hx
 obtain⟨y,hg,hy⟩:=h H en w base spare held m cs oM (fun f hm=>by
  obtain⟨i,hi⟩:=ek.1 hm
  have hi':fs[i]? = some f:=by simpa using hi
  have yA:i<xs.length:=by rw[IB];exact (bw.1 hi').1
  exact⟨_,(hf i f hi').trans (ah yA)⟩)
 exact⟨y,hg,by simpa using hy⟩
theorem TR.one {t:TypeId} {enc:α→IV} {good:α→Prop} (h:TR P t 1 (fun y=>[enc y]) good) {H:Type} {en:TypeId×Value→H} {w:World} {v:Value} {d:DataW H} {p:List MemPlace} {base:Nat} {spare:Nat→Bool} {held:Bool}
  (hv:v.cells=#[v]) (hT:DataW.Trod en P w base spare held t v d p):∃y,good y∧RepI w (Low w) (enc y) v:=by
 obtain⟨fuel,hf⟩:=hT
 rw[hv]at hf
 obtain⟨y,hg,hy⟩:=h H en w base spare held fuel [v] (d,p) rfl hf
 exact⟨y,hg,hy.2 0 _ _ rfl rfl⟩
theorem TR.agg {t:TypeId} {n:Nat} {enc:α→List IV} {good:α→Prop} (h:TR P t n enc good) {fs:Array Field} (hs:P.underlying t=some (.struct fs)) (hC:P.cellsOf t=n) {H:Type} {en:TypeId×Value→H} {w:World} {v:Value} {d:DataW H} {p:List MemPlace} {base b0:Nat} {r:Reach} {spare:Nat→Bool} {held:Bool}
  (hv:Value.okWide P w r b0 t v) (hT:DataW.Trod en P w base spare held t v d p):∃y,good y∧RepA w (Low w) (fun _ _=>none) (.agg ((enc y).map .v)) v:=by
 obtain⟨cs,rfl,NN⟩:=okWide_struct hs hv
 obtain⟨fuel,hf⟩:=hT
 obtain⟨y,hg,hy⟩:=h H en w base spare held fuel _ (d,p) (by simpa [Value.cells] using NN.trans hC) hf
 exact⟨y,hg,GA.agg hy.repL⟩
end
end Go.Proofs.YtmaokjojbjdpoaaGreatDoor
namespace Go.Proofs.YtmaokjojbjdpoaaGreatDoor
open Go.RowKit
set_option linter.unusedVariables false
theorem gI:TR Tryz.prog 3 1 (fun n:Int=>[.int .i64 n]) (fun n=>(Lit.int .i64 n).wf=true):=ZEv Tryz.underlying3
theorem trn_b:TR Tryz.prog 4 1 (fun n:Bool=>[.bool n]) (fun _=>True):=ZG3 Tryz.underlying4
theorem vT:TR Tryz.prog 24 1 (fun c:List Int=>[.isl 1 (c.map eI)]) (fun c=>c.length≤maxLen):=(vG gI Tryz.underlying24 (by kernel_rfl) kE).map id (fun _=>rfl) (fun _ h=>h.1)
theorem ZG2:TR Tryz.prog 92 2 eFt (fun _=>True):=
 (SE Tryz.underlying92 (bA gI (by kernel_rfl) rfl (bA gI (by kernel_rfl) rfl VH))).map (fun y=>(y.1,y.2.1)) (fun _=>rfl) (fun _ _=>trivial)
theorem ZD4:TR Tryz.prog 25 1 (fun l:List (Int×Int)=>[.isl 2 (l.map eFt)]) (fun l=>l.length≤maxLen):=
 (vG ZG2 Tryz.underlying25 (by kernel_rfl) kE).map id (fun _=>rfl) (fun _ h=>h.1)
theorem ZJK:TR Tryz.prog 106 4 eMs (fun m=>m.body.length≤maxLen):=
 (SE Tryz.underlying106 (bA gI (by kernel_rfl) rfl (bA gI (by kernel_rfl) rfl (bA gI (by kernel_rfl) rfl (bA vT (by kernel_rfl) rfl VH))))).map
  (fun y=>⟨y.1,y.2.1,y.2.2.1,y.2.2.2.1⟩) (fun _=>rfl) (fun _ h=>h.2.2.2.1)
theorem ZG0:TR Tryz.prog 23 1 (fun l:List Ms=>[.isl 4 (l.map eMs)]) (fun l=>l.length≤maxLen∧∀m∈l,m.body.length≤maxLen):=
 vG ZJK Tryz.underlying23 (by kernel_rfl) kE
theorem ZJJ:TR Tryz.prog 27 5 eNw (fun n=>(Lit.int .i64 n.now).wf=true∧n.l.length≤maxLen∧n.tm.length≤maxLen∧n.fates.length≤maxLen):=
 (SE Tryz.underlying27 (bA gI (by kernel_rfl) rfl (bA trn_b (by kernel_rfl) rfl (bA ZG0 (by kernel_rfl) rfl (bA vT (by kernel_rfl) rfl (bA ZD4 (by kernel_rfl) rfl VH)))))).map
  (fun y=>⟨y.1,y.2.1,y.2.2.1,y.2.2.2.1,y.2.2.2.2.1⟩) (fun _=>rfl) (fun _ h=>⟨h.1,h.2.2.1.1,h.2.2.2.1,h.2.2.2.2.1⟩)
theorem ZCj:TR Tryz.prog 3 1 (fun n:Int=>[.int .i64 n]) (fun n=>(Lit.int .i64 n).wf=true):=ZEv Tryz.underlying3
theorem tr_s:TR Tryz.prog 9 1 (fun s:ByteArray=>[.str s]) (fun s=>s.size≤maxLen):=iV Tryz.underlying9
theorem ZJN:TR Tryz.prog 75 2 eAsg (fun _=>True):=
 (SE Tryz.underlying75 (bA ZCj (by kernel_rfl) rfl (bA ZCj (by kernel_rfl) rfl VH))).map (fun y=>⟨y.1,y.2.1⟩) (fun _=>rfl) (fun _ _=>trivial)
theorem ZG4:TR Tryz.prog 66 1 (fun l:List Asg=>[.isl 2 (l.map eAsg)]) (fun l=>l.length≤maxLen):=
 (vG ZJN Tryz.underlying66 (by kernel_rfl) kE).map id (fun _=>rfl) (fun _ h=>h.1)
theorem tr_ev:TR Tryz.prog 68 5 eEv (fun _=>True):=
 (SE Tryz.underlying68 (bA ZCj (by kernel_rfl) rfl (bA ZCj (by kernel_rfl) rfl (bA ZCj (by kernel_rfl) rfl (bA ZCj (by kernel_rfl) rfl (bA ZG4 (by kernel_rfl) rfl VH)))))).map
  (fun y=>⟨y.1,y.2.1,y.2.2.1,y.2.2.2.1,y.2.2.2.2.1⟩) (fun _=>rfl) (fun _ _=>trivial)
theorem ZJM:TR Tryz.prog 63 1 (fun l:List Ev=>[.isl 5 (l.map eEv)]) (fun l=>l.length≤maxLen):=
 (vG tr_ev Tryz.underlying63 (by kernel_rfl) kE).map id (fun _=>rfl) (fun _ h=>h.1)
theorem ZJH:TR Tryz.prog 99 2 eVr (fun v=>v.name.size≤maxLen):=
 (SE Tryz.underlying99 (bA tr_s (by kernel_rfl) rfl (bA ZCj (by kernel_rfl) rfl VH))).map (fun y=>⟨y.1,y.2.1⟩) (fun _=>rfl) (fun _ h=>h.1)
theorem ZGY:TR Tryz.prog 62 1 (fun l:List Vr=>[.isl 2 (l.map eVr)]) (fun l=>l.length≤maxLen∧∀v∈l,v.name.size≤maxLen):=
 vG ZJH Tryz.underlying62 (by kernel_rfl) kE
def OkPr (p:Pr):Prop:=(p.name.size≤maxLen∧∀v∈p.vars,v.name.size≤maxLen)∧p.vars.length≤maxLen∧p.evs.length≤maxLen
theorem ZGZ:TR Tryz.prog 65 3 ePr OkPr:=
 (SE Tryz.underlying65 (bA tr_s (by kernel_rfl) rfl (bA ZGY (by kernel_rfl) rfl (bA ZJM (by kernel_rfl) rfl VH)))).map
  (fun y=>⟨y.1,y.2.1,y.2.2.1⟩) (fun _=>rfl) (fun _ h=>⟨⟨h.1,h.2.1.2⟩,h.2.1.1,h.2.2.1⟩)
def OkTr (t:Tr):Prop:=t.length≤maxLen∧∀p∈t,OkPr p
theorem ZD3:TR Tryz.prog 30 1 (fun t:Tr=>[eT t]) OkTr:=
 (SE Tryz.underlying30 (bA (vG ZGZ Tryz.underlying28 (by kernel_rfl) kE) (by kernel_rfl) rfl VH)).map (fun y=>y.1) (fun _=>rfl) (fun _ h=>h.1)
theorem OkTr.nm {t:Tr} (h:OkTr t):Nm t:=fun p hp=>(h.2 p hp).1
theorem QW:maxLen=9223372036854775807:=by decide
theorem trx_s:TR Tryz.prog 9 1 (fun s:ByteArray=>[.str s]) (fun s=>s.size≤maxLen):=iV Tryz.underlying9
theorem ZJL:TR Tryz.prog 50 3 eIn (fun _=>True):=
 (SE Tryz.underlying50 (bA gI (by kernel_rfl) rfl (bA gI (by kernel_rfl) rfl (bA gI (by kernel_rfl) rfl VH)))).map (fun y=>⟨y.1,y.2.1,y.2.2.1⟩) (fun _=>rfl) (fun _ _=>trivial)
theorem ZG1:TR Tryz.prog 46 1 (fun l:List In=>[.isl 3 (l.map eIn)]) (fun l=>l.length≤maxLen):=
 (vG ZJL Tryz.underlying46 (by kernel_rfl) kE).map id (fun _=>rfl) (fun _ h=>h.1)
def OkSv (s:Sv):Prop:=s.name.size≤maxLen∧s.code.length≤maxLen∧s.vars.length≤maxLen
theorem tr_sv:TR Tryz.prog 48 6 eSv OkSv:=
 (SE Tryz.underlying48 (bA trx_s (by kernel_rfl) rfl (bA ZG1 (by kernel_rfl) rfl (bA gI (by kernel_rfl) rfl (bA vT (by kernel_rfl) rfl (bA gI (by kernel_rfl) rfl (bA gI (by kernel_rfl) rfl VH))))))).map
  (fun y=>⟨y.1,y.2.1,y.2.2.1,y.2.2.2.1,y.2.2.2.2.1,y.2.2.2.2.2.1⟩) (fun _=>rfl) (fun _ h=>⟨h.1,h.2.1,h.2.2.2.1⟩)
theorem ZJI:TR Tryz.prog 22 1 (fun l:List Sv=>[.isl 6 (l.map eSv)]) (fun l=>l.length≤maxLen∧∀s∈l,OkSv s):=
 vG tr_sv Tryz.underlying22 (by kernel_rfl) kE
theorem ZD2:TR Tryz.prog 24 1 (fun c:List Int=>[.isl 1 (c.map eI)]) (fun c=>c.length≤maxLen∧∀x∈c,(Lit.int .i64 x).wf=true):=vG gI Tryz.underlying24 (by kernel_rfl) kE
theorem ZJD {n:Int} (h:(Lit.int .i64 n).wf=true):-9223372036854775808≤n∧n≤9223372036854775807:=by
 have h1:(decide (IntKind.min .i64≤n)&&decide (n≤IntKind.max .i64))=true:=h
 rw[show IntKind.min .i64=-9223372036854775808 from by decide,show IntKind.max .i64=9223372036854775807 from by decide]at h1
 simpa using h1
def OkWd (w:Wd):Prop:=((w.sv.length≤maxLen∧∀s∈w.sv,OkSv s)∧(w.net.l.length≤maxLen∧w.net.tm.length≤maxLen∧w.net.fates.length≤maxLen))∧OkTr w.tr
theorem tr_wd:TR Tryz.prog 32 9 eWd OkWd:=
 (SE Tryz.underlying32 (bA ZJI (by kernel_rfl) rfl (bA ZJJ (by kernel_rfl) rfl (bA gI (by kernel_rfl) rfl (bA gI (by kernel_rfl) rfl (bA ZD3 (by kernel_rfl) rfl VH)))))).map
  (fun y=>⟨y.1,y.2.1,y.2.2.1,y.2.2.2.1,y.2.2.2.2.1⟩) (fun _=>rfl) (fun _ h=>⟨⟨h.1,h.2.1.2⟩,h.2.2.2.2.1⟩)
theorem OkWd.nm {w:Wd} (h:OkWd w):Nm w.tr:=h.2.nm
theorem OkWd.tl {w:Wd} (h:OkWd w):w.tr.length≤9223372036854775807:=by have:=h.2.1;rwa [QW]at this
theorem OkWd.ev {w:Wd} (h:OkWd w):∀x∈w.tr,x.evs.length≤9223372036854775807:=fun x hx=>by have:=(h.2.2 x hx).2.2;rwa [QW]at this
end Go.Proofs.YtmaokjojbjdpoaaGreatDoor
namespace Go.Proofs.YtmaokjojbjdpoaaGreatDoor
set_option linter.unusedVariables false
set_option linter.unusedSimpArgs false
attribute [local go_sem ↓] xC UB iC rC wD fB uC gD dC mD LA lB wC MA mB kC QB GB lC KB FA sC eB bB vB aB yB JC nB xD tC uD iD eE pD bE aE TB ZC
attribute [local go_sem] zB EA YE wB ZB fE tD sD rD KL zL nD nC pC mC YD lA UC AA VC CA qB aop AE QE TD LC MD GC LD AJ XG GF amm zF aC MB sF SD IF comma ZD QG EJ ZG AF wJ dF uF vE yJ eqC eqF aG cellsOf rB bC RB iF NI rd rdI IE mk fD AV.cell List.all_cons List.all_nil Bool.and_true Bool.true_and Bool.and_self List.length_cons List.length_nil List.length_append Nat.reduceAdd Nat.reduceSub Nat.reduceMul Nat.zero_add Nat.add_zero List.cons_append List.nil_append List.append_assoc List.append_nil List.getElem?_cons_zero List.getElem?_cons_succ List.getElem?_nil List.set_cons_zero List.set_cons_succ List.drop_zero List.drop_succ_cons List.take_zero List.take_succ_cons List.take_nil List.drop_nil List.map_cons List.map_nil Option.map_some if_true if_false Bool.false_eq_true and_self true_and and_true Nat.reduceLeDiff Nat.reduceLT Nat.le_refl Nat.reduceEqDiff ite_true ite_false beq_self_eq_true beq_true beq_false Bool.not_true Bool.not_false Bool.true_beq Bool.false_beq lE SB iB jD kD yC vC jC qC yD vD mE pA YL sK JL XL rG iG sG dG geI gtI tG decide_true decide_false room List.getElem?_map List.length_map List.length_take Int.toNat_natCast Nat.min_def Nat.min_self dD XD ED pB GD lF zA List.getElem_cons_zero List.getElem_cons_succ
abbrev oK:List AOper:=[oB 24 0 2,oC 25 24,oA 26 5,oE 27 3 25 26,⟨some 28,.load (some 3) (.t 27),none⟩,oB 29 0 3,oC 30 29,oA 31 5,oE 32 3 30 31,⟨some 33,.load (some 3) (.t 32),none⟩]
abbrev oL:List AOper:=[⟨some 4,.mv (.c (.v (.bool false))),none⟩]
def a_sTr:AFunc:=⟨2,94,[.tmp 4],(.seq (.region [⟨some 2,.box (.t 0),none⟩,⟨some 3,.box (.t 1),none⟩,⟨some 4,.mv (.c (.v (.bool false))),none⟩]) (.seq (.seq (.region [oB 10 0 2,oC 11 10,oF 12 11,oB 13 0 3,oC 14 13,oF 15 14,oD 16 12 15]) (.cond (.t 16) (.seq (.region oL) .ret) .skip)) (.seq (.seq (.region [⟨some 5,.mv (.c (.v (.int .i64 0))),none⟩]) (.block 0 (.loop (.seq (.seq (.region [oA 17 5,oB 18 0 2,oC 19 18,oF 20 19,⟨some 21,.bin .lss (.t 17) (.t 20),none⟩]) (.cond (.t 21) .skip (.exit 0))) (.seq (.block 1 (.seq (.draw [⟨0,oB 24 0 2,[]⟩,⟨1,oC 25 24,[]⟩,⟨2,oA 26 5,[]⟩,⟨3,oE 27 3 25 26,[]⟩,⟨4,⟨some 28,.load (some 3) (.t 27),none⟩,[]⟩,⟨5,oB 29 0 3,[]⟩,⟨6,oC 30 29,[]⟩,⟨7,oA 31 5,[]⟩,⟨8,oE 32 3 30 31,[]⟩,⟨9,⟨some 33,.load (some 3) (.t 32),none⟩,[]⟩,⟨10,⟨some 6,.alloc [(.v (.str ⟨#[]⟩)),(.v .zsl),(.v .zsl)],none⟩,oK⟩,⟨11,⟨some 7,.alloc [(.v (.str ⟨#[]⟩)),(.v .zsl),(.v .zsl)],none⟩,oK⟩,⟨12,⟨none,.store 3 (.t 6) (.t 28),none⟩,[oB 29 0 3,oC 30 29,oA 31 5,oE 32 3 30 31,⟨some 33,.load (some 3) (.t 32),none⟩]⟩,⟨13,⟨none,.store 3 (.t 7) (.t 33),none⟩,[]⟩]) (.seq (.seq (.region [oB 34 0 6,oC 35 34,oB 36 0 7,oC 37 36,⟨some 38,.binS .neq (.t 35) (.t 37),none⟩,oA 39 38,oB 40 1 6 (some (39,false)),oC 41 40 (some (39,false)),oF 42 41 (some (39,false)),oB 43 1 7 (some (39,false)),oC 44 43 (some (39,false)),oF 45 44 (some (39,false)),oD 46 42 45 (some (39,false)),⟨some 47,.pick (.t 39) (.c (.v (.bool true))) (.t 46),none⟩,oA 48 47,oB 49 2 6 (some (48,false)),oC 50 49 (some (48,false)),oF 51 50 (some (48,false)),oB 52 2 7 (some (48,false)),oC 53 52 (some (48,false)),oF 54 53 (some (48,false)),oD 55 51 54 (some (48,false)),⟨some 56,.pick (.t 48) (.c (.v (.bool true))) (.t 55),none⟩]) (.cond (.t 56) (.seq (.region oL) .ret) .skip)) (.seq (.seq (.region [⟨some 8,.mv (.c (.v (.int .i64 0))),none⟩]) (.block 2 (.loop (.seq (.seq (.region [oA 57 8,oB 58 1 6,oC 59 58,oF 60 59,⟨some 61,.bin .lss (.t 57) (.t 60),none⟩]) (.cond (.t 61) .skip (.exit 2))) (.seq (.block 3 (.seq (.draw [⟨0,oB 64 1 6,[]⟩,⟨1,oC 65 64,[]⟩,⟨2,oA 66 8,[]⟩,⟨3,oE 67 2 65 66,[]⟩,⟨4,⟨some 68,.load (some 2) (.t 67),none⟩,[]⟩,⟨5,oB 69 1 7,[]⟩,⟨6,oC 70 69,[]⟩,⟨7,oA 71 8,[]⟩,⟨8,oE 72 2 70 71,[]⟩,⟨9,⟨some 73,.load (some 2) (.t 72),none⟩,[]⟩,⟨10,⟨some 74,.eqs true [.s,.i] (.t 68) (.t 73),none⟩,[]⟩]) (.cond (.t 74) (.seq (.region oL) .ret) .skip))) (.region [oA 62 8,⟨some 63,.bin .add (.t 62) (.c (.v (.int .i64 1))),none⟩,oA 8 63])))))) (.seq (.region [⟨some 9,.mv (.c (.v (.int .i64 0))),none⟩]) (.block 4 (.loop (.seq (.seq (.region [oA 75 9,oB 76 2 6,oC 77 76,oF 78 77,⟨some 79,.bin .lss (.t 75) (.t 78),none⟩]) (.cond (.t 79) .skip (.exit 4))) (.seq (.block 5 (.seq (.draw [⟨0,oB 82 2 6,[]⟩,⟨1,oC 83 82,[]⟩,⟨2,oA 84 9,[]⟩,⟨3,oE 85 5 83 84,[]⟩,⟨4,⟨some 86,.load (some 5) (.t 85),none⟩,[]⟩,⟨5,oB 87 2 7,[]⟩,⟨6,oC 88 87,[]⟩,⟨7,oA 89 9,[]⟩,⟨8,oE 90 5 88 89,[]⟩,⟨9,⟨some 91,.load (some 5) (.t 90),none⟩,[]⟩,⟨10,⟨some 92,.call (.c (.fn 84 [])) [(.t 86),(.t 91)],none⟩,[]⟩,⟨11,⟨some 93,.not (.t 92),none⟩,[]⟩]) (.cond (.t 93) (.seq (.region oL) .ret) .skip))) (.region [oA 80 9,⟨some 81,.bin .add (.t 80) (.c (.v (.int .i64 1))),none⟩,oA 9 81])))))))))) (.region [oA 22 5,⟨some 23,.bin .add (.t 22) (.c (.v (.int .i64 1))),none⟩,oA 5 23])))))) (.seq (.region [⟨some 4,.mv (.c (.v (.bool true))),none⟩]) .ret))))⟩
theorem ZEb:qA Tryz.prog 34=some a_sTr:=by kernel_rfl
def ZFE:List (Nat×Nat):=[(4,9),(17,93)]
def ZFD:List (Nat×Nat):=[(4,4),(8,8),(57,74)]
def ZFC:List (Nat×Nat):=[(4,4),(9,9),(75,93)]
abbrev oN:List AOper:=[⟨some 4,.mv (.c (.v (.bool false))),none⟩]
def a_sEv:AFunc:=⟨2,59,[.tmp 4],(.seq (.region [⟨some 2,.box (.t 0),none⟩,⟨some 3,.box (.t 1),none⟩,⟨some 4,.mv (.c (.v (.bool false))),none⟩]) (.seq (.seq (.region [oB 6 0 2,oC 7 6,oB 8 0 3,oC 9 8,oD 10 7 9,oA 11 10,oB 12 1 2 (some (11,false)),oC 13 12 (some (11,false)),oB 14 1 3 (some (11,false)),oC 15 14 (some (11,false)),oD 16 13 15 (some (11,false)),⟨some 17,.pick (.t 11) (.c (.v (.bool true))) (.t 16),none⟩,oA 18 17,oB 19 2 2 (some (18,false)),oC 20 19 (some (18,false)),oB 21 2 3 (some (18,false)),oC 22 21 (some (18,false)),oD 23 20 22 (some (18,false)),⟨some 24,.pick (.t 18) (.c (.v (.bool true))) (.t 23),none⟩,oA 25 24,oB 26 3 2 (some (25,false)),oC 27 26 (some (25,false)),oB 28 3 3 (some (25,false)),oC 29 28 (some (25,false)),oD 30 27 29 (some (25,false)),⟨some 31,.pick (.t 25) (.c (.v (.bool true))) (.t 30),none⟩,oA 32 31,oB 33 4 2 (some (32,false)),oC 34 33 (some (32,false)),oF 35 34 (some (32,false)),oB 36 4 3 (some (32,false)),oC 37 36 (some (32,false)),oF 38 37 (some (32,false)),oD 39 35 38 (some (32,false)),⟨some 40,.pick (.t 32) (.c (.v (.bool true))) (.t 39),none⟩]) (.cond (.t 40) (.seq (.region oN) .ret) .skip)) (.seq (.seq (.region [⟨some 5,.mv (.c (.v (.int .i64 0))),none⟩]) (.block 0 (.loop (.seq (.seq (.region [oA 41 5,oB 42 4 2,oC 43 42,oF 44 43,⟨some 45,.bin .lss (.t 41) (.t 44),none⟩]) (.cond (.t 45) .skip (.exit 0))) (.seq (.block 1 (.seq (.draw [⟨0,oB 48 4 2,[]⟩,⟨1,oC 49 48,[]⟩,⟨2,oA 50 5,[]⟩,⟨3,oE 51 2 49 50,[]⟩,⟨4,⟨some 52,.load (some 2) (.t 51),none⟩,[]⟩,⟨5,oB 53 4 3,[]⟩,⟨6,oC 54 53,[]⟩,⟨7,oA 55 5,[]⟩,⟨8,oE 56 2 54 55,[]⟩,⟨9,⟨some 57,.load (some 2) (.t 56),none⟩,[]⟩,⟨10,⟨some 58,.eqs true [.i,.i] (.t 52) (.t 57),none⟩,[]⟩]) (.cond (.t 58) (.seq (.region oN) .ret) .skip))) (.region [oA 46 5,⟨some 47,.bin .add (.t 46) (.c (.v (.int .i64 1))),none⟩,oA 5 47])))))) (.seq (.region [⟨some 4,.mv (.c (.v (.bool true))),none⟩]) .ret))))⟩
theorem ZEe:qA Tryz.prog 84=some a_sEv:=by kernel_rfl
def ZFJ:List (Nat×Nat):=[(4,5),(41,58)]

theorem tY (s:ByteArray):(s==s)=true:=by
 cases s with
 |mk d=>show (d==d)=true;exact jk d
theorem ZDd (x:Ev) (hx:x.asg.length≤1000000) (b l:List Row):QA Tryz.prog 84 [.agg ((eEv x).map .v),.agg ((eEv x).map .v)] b l (fun r b' l'=>r=.v (.bool true)∧b'=b∧l'=l):=by
 refine XA ZEe rfl kE ?_
 intro B g hB hR hE hA;simp only[zA]at hA
 have ne:∀n:Int,(n != n)=false:=by simp
 simp only[eEv,bj,cd]at hA
 simp (disch:=first|decide|omega) only[a_sEv,hA,ne,aa,go_sem]
 refine JA (ι:=Nat) ZFJ (fun i=>[(5,.v (.int .i64 i))]) 2 (fun _=>[.live 0 5 [(zEA x)],.live 0 5 [(zEA x)]])
  (fun i=>i≤x.asg.length) (fun i=>x.asg.length-i) 0 (aj _) kM kA kF ?_
 intro g1 qF TE sA i hi
 by_cases yA:i<x.asg.length
 ·simp (disch:=first|decide|omega) only[hA,sA,ne,eAsg,aa,go_sem]
  refine⟨i+1,yA,by simp only;omega,?_⟩
  exact VA.kround (p:=ZFJ) (k:=2) kQ kA rfl qF kS kV hR kL
 ·simp (disch:=first|decide|omega) only[hA,sA,aa,go_sem]
  exact ZA (xs:=[.v (.bool true)])
theorem ZDa (t:Tr) (hS:Small t) (b l:List Row):QA Tryz.prog 34 [.agg [.v (eT t)],.agg [.v (eT t)]] b l (fun r b' l'=>r=.v (.bool true)∧b'=b∧l'=l):=by
 refine XA ZEb rfl kE ?_
 intro B g hB hR hE hA;simp only[zA]at hA
 have H8:=hS.np
 have ne:∀n:Int,(n != n)=false:=by simp
 have eTe:eT t=.isl 3 (t.map ePr):=rfl
 simp only[eTe]at hA
 simp (disch:=first|decide|omega) only[a_sTr,hA,ne,aa,go_sem]
 refine JA (ι:=Nat) ZFE (fun i=>[(5,.v (.int .i64 i))]) 2 (fun _=>[(zTA t),(zTA t)])
  (fun i=>i≤t.length) (fun i=>t.length-i) 0 (aj _) kM kA kF ?_
 intro g1 qF TE sA i hi
 by_cases yA:i<t.length
 ·have hnv:=hS.nv _ (ak yA)
  have qG:=hS.ne _ (ak yA)
  have hna:=hS.na _ (ak yA)
  simp (disch:=first|decide|omega) only[hA,sA,ePr,ne,tY,aa,go_sem]
  refine JA (ι:=Nat) ZFD (fun i=>[(8,.v (.int .i64 i))]) 4 (fun _=>[(zTA t),(zTA t),.live 0 3 [[.v (.str t[i].name),.v (.isl 2 (t[i].vars.map eVr)),.v (.isl 5 (t[i].evs.map eEv))]],.live 0 3 [[.v (.str t[i].name),.v (.isl 2 (t[i].vars.map eVr)),.v (.isl 5 (t[i].evs.map eEv))]]])
   (fun j=>j≤t[i].vars.length) (fun j=>t[i].vars.length-j) 0 (aj _) kM kA kF ?_
  intro g2 RJ QO DD j hj
  by_cases hjv:j<t[i].vars.length
  ·simp (disch:=first|decide|omega) only[hA,sA,DD,eVr,ne,tY,aa,go_sem]
   refine⟨j+1,hjv,by simp only;omega,?_⟩
   exact VA.kround (p:=ZFD) (k:=4) kQ kA rfl RJ kS kV hR kL
  simp (disch:=first|decide|omega) only[hA,sA,DD,aa,go_sem]
  refine JA (ι:=Nat) ZFC (fun i=>[(9,.v (.int .i64 i))]) 4 (fun _=>[(zTA t),(zTA t),.live 0 3 [[.v (.str t[i].name),.v (.isl 2 (t[i].vars.map eVr)),.v (.isl 5 (t[i].evs.map eEv))]],.live 0 3 [[.v (.str t[i].name),.v (.isl 2 (t[i].vars.map eVr)),.v (.isl 5 (t[i].evs.map eEv))]]])
   (fun j=>j≤t[i].evs.length) (fun j=>t[i].evs.length-j) 0 (aj _) kM kA kF ?_
  intro g3 bW xR QH j hj
  by_cases hjv:j<t[i].evs.length
  ·have cE:=fun b l=>ZDd t[i].evs[j] (hna _ (ak hjv)) b l
   simp only[eEv,bj,cd]at cE
   simp (disch:=first|decide|omega) only[hA,sA,DD,QH,eEv,aa,go_sem]
   refine QA.nxt (cE _ _) ?_
   simp (disch:=first|decide|omega) only[hA,sA,DD,QH,go_sem]
   refine⟨j+1,hjv,by simp only;omega,?_⟩
   exact VA.kround (p:=ZFC) (k:=4) kQ kA rfl bW kS kV hR kL
  ·simp (disch:=first|decide|omega) only[hA,sA,DD,QH,aa,go_sem]
   refine⟨i+1,yA,by simp only;omega,?_⟩
   exact VA.kround (p:=ZFE) (k:=2) kQ kA rfl qF kS kV hR kL
 ·simp (disch:=first|decide|omega) only[hA,sA,aa,go_sem]
  exact ZA (xs:=[.v (.bool true)])
abbrev oO:List AOper:=[⟨some 4,.mv (.c (.v (.bool false))),none⟩]
def a_sSvc:AFunc:=⟨2,87,[.tmp 4],(.seq (.region [⟨some 2,.box (.t 0),none⟩,⟨some 3,.box (.t 1),none⟩,⟨some 4,.mv (.c (.v (.bool false))),none⟩]) (.seq (.seq (.region [oB 7 0 2,oC 8 7,oB 9 0 3,oC 10 9,⟨some 11,.binS .neq (.t 8) (.t 10),none⟩,oA 12 11,oB 13 2 2 (some (12,false)),oC 14 13 (some (12,false)),oB 15 2 3 (some (12,false)),oC 16 15 (some (12,false)),oD 17 14 16 (some (12,false)),⟨some 18,.pick (.t 12) (.c (.v (.bool true))) (.t 17),none⟩,oA 19 18,oB 20 4 2 (some (19,false)),oC 21 20 (some (19,false)),oB 22 4 3 (some (19,false)),oC 23 22 (some (19,false)),oD 24 21 23 (some (19,false)),⟨some 25,.pick (.t 19) (.c (.v (.bool true))) (.t 24),none⟩,oA 26 25,oB 27 5 2 (some (26,false)),oC 28 27 (some (26,false)),oB 29 5 3 (some (26,false)),oC 30 29 (some (26,false)),oD 31 28 30 (some (26,false)),⟨some 32,.pick (.t 26) (.c (.v (.bool true))) (.t 31),none⟩,oA 33 32,oB 34 1 2 (some (33,false)),oC 35 34 (some (33,false)),oF 36 35 (some (33,false)),oB 37 1 3 (some (33,false)),oC 38 37 (some (33,false)),oF 39 38 (some (33,false)),oD 40 36 39 (some (33,false)),⟨some 41,.pick (.t 33) (.c (.v (.bool true))) (.t 40),none⟩,oA 42 41,oB 43 3 2 (some (42,false)),oC 44 43 (some (42,false)),oF 45 44 (some (42,false)),oB 46 3 3 (some (42,false)),oC 47 46 (some (42,false)),oF 48 47 (some (42,false)),oD 49 45 48 (some (42,false)),⟨some 50,.pick (.t 42) (.c (.v (.bool true))) (.t 49),none⟩]) (.cond (.t 50) (.seq (.region oO) .ret) .skip)) (.seq (.seq (.region [⟨some 5,.mv (.c (.v (.int .i64 0))),none⟩]) (.block 0 (.loop (.seq (.seq (.region [oA 51 5,oB 52 1 2,oC 53 52,oF 54 53,⟨some 55,.bin .lss (.t 51) (.t 54),none⟩]) (.cond (.t 55) .skip (.exit 0))) (.seq (.block 1 (.seq (.draw [⟨0,oB 58 1 2,[]⟩,⟨1,oC 59 58,[]⟩,⟨2,oA 60 5,[]⟩,⟨3,oE 61 3 59 60,[]⟩,⟨4,⟨some 62,.load (some 3) (.t 61),none⟩,[]⟩,⟨5,oB 63 1 3,[]⟩,⟨6,oC 64 63,[]⟩,⟨7,oA 65 5,[]⟩,⟨8,oE 66 3 64 65,[]⟩,⟨9,⟨some 67,.load (some 3) (.t 66),none⟩,[]⟩,⟨10,⟨some 68,.eqs true [.i,.i,.i] (.t 62) (.t 67),none⟩,[]⟩]) (.cond (.t 68) (.seq (.region oO) .ret) .skip))) (.region [oA 56 5,⟨some 57,.bin .add (.t 56) (.c (.v (.int .i64 1))),none⟩,oA 5 57])))))) (.seq (.seq (.region [⟨some 6,.mv (.c (.v (.int .i64 0))),none⟩]) (.block 2 (.loop (.seq (.seq (.region [oA 69 6,oB 70 3 2,oC 71 70,oF 72 71,⟨some 73,.bin .lss (.t 69) (.t 72),none⟩]) (.cond (.t 73) .skip (.exit 2))) (.seq (.block 3 (.seq (.draw [⟨0,oB 76 3 2,[]⟩,⟨1,oC 77 76,[]⟩,⟨2,oA 78 6,[]⟩,⟨3,oE 79 1 77 78,[]⟩,⟨4,oC 80 79,[]⟩,⟨5,oB 81 3 3,[]⟩,⟨6,oC 82 81,[]⟩,⟨7,oA 83 6,[]⟩,⟨8,oE 84 1 82 83,[]⟩,⟨9,oC 85 84,[]⟩,⟨10,oD 86 80 85,[]⟩]) (.cond (.t 86) (.seq (.region oO) .ret) .skip))) (.region [oA 74 6,⟨some 75,.bin .add (.t 74) (.c (.v (.int .i64 1))),none⟩,oA 6 75])))))) (.seq (.region [⟨some 4,.mv (.c (.v (.bool true))),none⟩]) .ret)))))⟩
theorem ZCO:qA Tryz.prog 59=some a_sSvc:=by kernel_rfl
def ZAP:List (Nat×Nat):=[(4,5),(51,68)]
def ZAO:List (Nat×Nat):=[(4,4),(6,6),(69,86)]
def a_sWd:AFunc:=({c:=_}:CF Tryz.prog 16).c
theorem ZEa:qA Tryz.prog 16=some a_sWd:=by kernel_rfl
def ZFB:List (Nat×Nat):=[(4,5),(43,61)]
def a_noneW:AFunc:=({c:=_}:CF Tryz.prog 14).c
theorem Q8:qA Tryz.prog 14=some a_noneW:=by kernel_rfl

theorem neS (s:ByteArray):(s != s)=false:=by
 show (!(s==s))=false
 rw[tY];rfl
theorem ZBP (s:Sv) (hS:SvS s) (b l:List Row):QA Tryz.prog 59 [.agg ((eSv s).map .v),.agg ((eSv s).map .v)] b l (fun r b' l'=>r=.v (.bool true)∧b'=b∧l'=l):=by
 refine XA ZCO rfl kE ?_
 intro B g hB hR hE hA;simp only[zA]at hA
 have heS:(eSv s).map AV.v=(zSA s):=rfl
 rw[heS]at hA
 have WM:=hS.code
 have bU:=hS.vars
 simp (disch:=first|decide|omega) only[a_sSvc,hA,neI,neS,tY,aa,go_sem]
 refine JA (ι:=Nat) ZAP (fun i=>[(5,.v (.int .i64 i))]) 2 (fun _=>[.live 0 6 [(zSA s)],.live 0 6 [(zSA s)]])
  (fun i=>i≤s.code.length) (fun i=>s.code.length-i) 0 (aj _) kM kA kF ?_
 intro g1 qF TE sA i hi
 by_cases yA:i<s.code.length
 ·have QI:=fI yA
  simp (disch:=first|decide|omega) only[hA,sA,QI,neI,aa,go_sem]
  refine⟨i+1,yA,by simp only;omega,?_⟩
  exact VA.kround (p:=ZAP) (k:=2) kQ kA rfl qF kS kV hR kL
 obtain rfl:i=s.code.length:=by omega
 simp (disch:=first|decide|omega) only[hA,sA,aa,go_sem]
 refine JA (ι:=Nat) ZAO (fun i=>[(6,.v (.int .i64 i))]) 2 (fun _=>[.live 0 6 [(zSA s)],.live 0 6 [(zSA s)]])
  (fun i=>i≤s.vars.length) (fun i=>s.vars.length-i) 0 (aj _) kM kA kF ?_
 intro g2 RJ QO DD i hi
 by_cases yA:i<s.vars.length
 ·have QI:=IC yA
  simp (disch:=first|decide|omega) only[hA,sA,DD,QI,neI,aa,go_sem]
  refine⟨i+1,yA,by simp only;omega,?_⟩
  exact VA.kround (p:=ZAO) (k:=2) kQ kA rfl RJ kS kV hR kL
 obtain rfl:i=s.vars.length:=by omega
 simp (disch:=first|decide|omega) only[hA,sA,DD,aa,go_sem]
 exact ZA (xs:=[.v (.bool true)])
theorem V1 (w:Wd) (hS:Small w.tr) (tL:SvsS w.sv) (N0:NwS w.net) (b l:List Row):QA Tryz.prog 16 [.agg ((eWd w).map .v),.agg ((eWd w).map .v)] b l (fun r b' l'=>r=.v (.bool true)∧b'=b∧l'=l):=by
 refine XA ZEa rfl kE ?_
 intro B g hB hR hE hA;simp only[zA]at hA
 have nL:(eWd w).map AV.v=(zWA w):=rfl
 rw[nL]at hA
 have aU:=tL.len
 have cN:=fun b l=>ZDb w.net N0 b l
 simp only[eNw,bj,cd]at cN
 have cT:=fun b l=>ZDa w.tr hS b l
 simp only[eT]at cT
 simp (disch:=first|decide|omega) only[a_sWd,hA,neI,aa,go_sem]
 refine QA.nxt (cN _ _) ?_
 simp (disch:=first|decide|omega) only[hA,neI,aa,go_sem]
 refine QA.nxt (cT _ _) ?_
 simp (disch:=first|decide|omega) only[hA,neI,aa,go_sem]
 refine JA (ι:=Nat) ZFB (fun i=>[(5,.v (.int .i64 i))]) 2 (fun _=>[.live 0 9 [(eWd w).map .v],.live 0 9 [(eWd w).map .v]])
  (fun i=>i≤w.sv.length) (fun i=>w.sv.length-i) 0 (aj _) kM kA kF ?_
 intro g1 qF TE sA i hi
 rw[nL]
 by_cases yA:i<w.sv.length
 ·have QI:=fG yA
  have cS:=fun b l=>ZBP w.sv[i] (tL.all _ (ak yA)) b l
  simp only[eSv,bj,cd]at cS
  simp (disch:=first|decide|omega) only[hA,sA,QI,neI,aa,go_sem]
  refine QA.nxt (cS _ _) ?_
  simp (disch:=first|decide|omega) only[hA,sA,QI,neI,aa,go_sem]
  refine⟨i+1,yA,by simp only;omega,?_⟩
  simp only[nL]
  exact VA.kround (p:=ZFB) (k:=2) kQ kA rfl qF kS kV hR kL
 obtain rfl:i=w.sv.length:=by omega
 simp (disch:=first|decide|omega) only[hA,sA,aa,go_sem]
 exact ZA (xs:=[.v (.bool true)])
theorem ZBe (b l:List Row):QA Tryz.prog 14 [.agg ((eWd wd0).map .v)] b l (fun r b' l'=>r=.v (.bool true)∧b'=b∧l'=l):=by
 refine XA Q8 rfl kE ?_
 intro B g hB hR hE hA;simp only[zA]at hA
 have nL:(eWd wd0).map AV.v=[.v (.isl 6 []),.v (.int .i64 0),.v (.bool false),.v (.isl 4 []),.v (.isl 1 []),.v (.isl 2 []),.v (.int .i64 0),.v (.int .i64 0),.v (.isl 3 [])]:=rfl
 rw[nL]at hA
 have cS:∀b l,QA Tryz.prog 16 [.agg [.v (.isl 6 []),.v (.int .i64 0),.v (.bool false),.v (.isl 4 []),.v (.isl 1 []),.v (.isl 2 []),.v (.int .i64 0),.v (.int .i64 0),.v (.isl 3 [])],.agg zZA] b l (fun r b' l'=>r=.v (.bool true)∧b'=b∧l'=l):=fun b l=>by
  refine (V1 wd0 ⟨by simp[wd0],by simp[wd0],by simp[wd0],by simp[wd0]⟩ ⟨by simp[wd0],by simp[wd0]⟩ ⟨by simp[wd0,nw0],by simp[wd0,nw0],by simp[wd0,nw0],by simp[wd0,nw0]⟩ b l).le rfl (fun i x y hx hy=>?_)
  match i,hx,hy with
  |0,hx,hy=>cases hx;cases hy;rw[nL];exact .refl _
  |1,hx,hy =>
    cases hx;cases hy
    rw[nL]
    refine .agg _ _ rfl (fun j u v hu hv=>?_)
    match j,hu,hv with
    |0,hu,hv=>cases hu;cases hv;exact .v _ _ (.zsl 6)
    |1,hu,hv=>cases hu;cases hv;exact .refl _
    |2,hu,hv=>cases hu;cases hv;exact .refl _
    |3,hu,hv=>cases hu;cases hv;exact .v _ _ (.zsl 4)
    |4,hu,hv=>cases hu;cases hv;exact .v _ _ (.zsl 1)
    |5,hu,hv=>cases hu;cases hv;exact .v _ _ (.zsl 2)
    |6,hu,hv=>cases hu;cases hv;exact .refl _
    |7,hu,hv=>cases hu;cases hv;exact .refl _
    |8,hu,hv=>cases hu;cases hv;exact .v _ _ (.zsl 3)
 simp (disch:=first|decide|omega) only[a_noneW,hA,cellsOf,go_sem]
 refine QA.nxt (cS _ _) ?_
 simp (disch:=first|decide|omega) only[hA,go_sem]
 exact ZA (xs:=[.v (.bool true)])
def a_few54:AFunc:=({c:=_}:CF Tryz.prog 10).c
theorem r8:qA Tryz.prog 10=some a_few54:=by kernel_rfl
def I2:List (Nat×Nat):=[(2,3),(5,5),(10,43)]
def a_few541:AFunc:=({c:=_}:CF Tryz.prog 45).c
theorem J0:qA Tryz.prog 45=some a_few541:=by kernel_rfl
def a_few542:AFunc:=({c:=_}:CF Tryz.prog 47).c
theorem Y0:qA Tryz.prog 47=some a_few542:=by kernel_rfl
def a_svc54:AFunc:=({c:=_}:CF Tryz.prog 28).c
theorem S7:qA Tryz.prog 28=some a_svc54:=by kernel_rfl
def a_svc541:AFunc:=({c:=_}:CF Tryz.prog 78).c
theorem PZ:qA Tryz.prog 78=some a_svc541:=by kernel_rfl
def a_net54:AFunc:=({c:=_}:CF Tryz.prog 29).c
theorem U8:qA Tryz.prog 29=some a_net54:=by kernel_rfl
def a_net541:AFunc:=({c:=_}:CF Tryz.prog 79).c
theorem Z0:qA Tryz.prog 79=some a_net541:=by kernel_rfl
def a_IndE54:AFunc:=({c:=_}:CF Tryz.prog 94).c
theorem V0:qA Tryz.prog 94=some a_IndE54:=by kernel_rfl
def GV:List (Nat×Nat):=[(4,5),(8,18)]
def a_ConE54:AFunc:=({c:=_}:CF Tryz.prog 44).c
theorem U0:qA Tryz.prog 44=some a_ConE54:=by kernel_rfl

def DL (e:Ev):Bool:=decide (12<e.asg.length)
def AM (v:Vr):Bool:=decide (40<v.name.size)
def rR (s:Sv):Bool:=decide (110<s.code.length)||(decide (12<s.vars.length)||decide (40<s.name.size))
def AP (m:Ms):Bool:=decide (30<m.body.length)
def IL (l:List Sv):Bool:=decide (l.length≤10)&&!((List.range l.length).any fun j=>rR (l.getD j dfSv))
def jJ (n:Nw):Bool:=decide (n.l.length≤40)&&(decide (n.tm.length≤40)&&(decide (n.fates.length≤40)&&!((List.range n.l.length).any fun j=>AP (n.l.getD j dfMs))))
theorem dZ (e:Ev) (b l:List Row):QA Tryz.prog 45 [.agg ((eEv e).map .v)] b l (fun r b' l'=>r=.v (.bool (DL e))∧b'=b∧l'=l):=by
 refine XA J0 rfl kE ?_
 intro B g hB hR hE hA;simp only[zA]at hA
 have hd:decide ((e.asg.length:Int)>12)=DL e:=by unfold DL;rw[eh];simp;omega
 have hd':decide ((12:Int)<e.asg.length)=DL e:=hd
 simp (disch:=first|decide|omega) only[a_few541,hA,eEv,hd,hd',go_sem]
 exact ZA (xs:=[.v (.bool (DL e))])
theorem iZ (v:Vr) (b l:List Row):QA Tryz.prog 47 [.agg ((eVr v).map .v)] b l (fun r b' l'=>r=.v (.bool (AM v))∧b'=b∧l'=l):=by
 refine XA Y0 rfl kE ?_
 intro B g hB hR hE hA;simp only[zA]at hA
 have hd:decide ((v.name.size:Int)>40)=AM v:=by unfold AM;rw[eh];simp;omega
 have hd':decide ((40:Int)<v.name.size)=AM v:=hd
 simp (disch:=first|decide|omega) only[a_few542,hA,eVr,hd,hd',go_sem]
 exact ZA (xs:=[.v (.bool (AM v))])
theorem QZ (s:Sv) (b l:List Row):QA Tryz.prog 78 [.agg ((eSv s).map .v)] b l (fun r b' l'=>r=.v (.bool (rR s))∧b'=b∧l'=l):=by
 refine XA PZ rfl kE ?_
 intro B g hB hR hE hA;simp only[zA]at hA
 have d0:decide ((s.name.size:Int)>40)=decide (40<s.name.size):=by rw[eh];simp;omega
 have d0':decide ((40:Int)<s.name.size)=decide (40<s.name.size):=d0
 by_cases h1:110<s.code.length
 ·have d1:decide ((s.code.length:Int)>110)=true:=ae oM
  have d1':decide ((110:Int)<(s.code.length:Int))=true:=d1
  simp (disch:=first|decide|omega) only[a_svc541,hA,eSv,d1,d1',go_sem]
  exact ZA (xs:=[.v (.bool true)]) ⟨by unfold rR;rw[ae h1];rfl,rfl,rfl⟩
 have d1:decide ((s.code.length:Int)>110)=false:=ag oM
 have d1':decide ((110:Int)<(s.code.length:Int))=false:=d1
 by_cases h2:12<s.vars.length
 ·have d2:decide ((s.vars.length:Int)>12)=true:=ae oM
  have d2':decide ((12:Int)<(s.vars.length:Int))=true:=d2
  simp (disch:=first|decide|omega) only[a_svc541,hA,eSv,d1,d1',d2,d2',go_sem]
  exact ZA (xs:=[.v (.bool true)]) ⟨by unfold rR;rw[ae h2];simp[one],rfl,rfl⟩
 have d2:decide ((s.vars.length:Int)>12)=false:=ag oM
 have d2':decide ((12:Int)<(s.vars.length:Int))=false:=d2
 simp (disch:=first|decide|omega) only[a_svc541,hA,eSv,d1,d1',d2,d2',d0,d0',go_sem]
 exact ZA (xs:=[.v (.bool (decide (40<s.name.size)))]) ⟨by unfold rR;rw[ag h1,ag h2];rfl,rfl,rfl⟩
theorem wZ (m:Ms) (b l:List Row):QA Tryz.prog 79 [.agg ((eMs m).map .v)] b l (fun r b' l'=>r=.v (.bool (AP m))∧b'=b∧l'=l):=by
 refine XA Z0 rfl kE ?_
 intro B g hB hR hE hA;simp only[zA]at hA
 have hd:decide ((m.body.length:Int)>30)=AP m:=by unfold AP;rw[eh];simp;omega
 have hd':decide ((30:Int)<(m.body.length:Int))=AP m:=hd
 simp (disch:=first|decide|omega) only[a_net541,hA,eMs,hd,hd',go_sem]
 exact ZA (xs:=[.v (.bool (AP m))])
theorem I5 (L:List Sv) (b l:List Row):QA Tryz.prog 28 [.v (.isl 6 (L.map eSv))] b l (fun r b' l'=>r=.v (.bool (IL L))∧b'=b∧l'=l):=by
 refine XA S7 rfl kE ?_
 intro B g hB hR hE hA;simp only[zA]at hA
 by_cases h1:L.length≤10
 case neg =>
  have d1:decide ((L.length:Int)≤10)=false:=ag oM
  simp (disch:=first|decide|omega) only[a_svc54,hA,d1,go_sem]
  exact ZA (xs:=[.v (.bool false)]) ⟨by unfold IL;rw[ag h1];rfl,rfl,rfl⟩
 have d1:decide ((L.length:Int)≤10)=true:=ae oM
 have cC:=fun B0 l0=>qD LK MK (L.map eSv) 78 [] (fun j=>rR (L.getD j dfSv)) QS (by rw[aa];omega) B0 l0 (fun j row hj=>by
  have wG:j<L.length:=by have:=(am.1 hj).1;rwa [aa]at this
  rw[an,ah wG]at hj
  cases hj
  simp only[YA wG]
  exact QZ _ _ _)
 rw[aa]at cC
 simp (disch:=first|decide|omega) only[a_svc54,hA,d1,go_sem]
 refine QA.nxt (cC _ _) ?_
 simp (disch:=first|decide|omega) only[hA,go_sem]
 exact ZA (xs:=[.v (.bool (!(List.range L.length).any fun j=>rR (L.getD j dfSv)))]) ⟨by unfold IL;rw[ae h1];rfl,rfl,rfl⟩
theorem p6 (n:Nw) (b l:List Row):QA Tryz.prog 29 [.agg ((eNw n).map .v)] b l (fun r b' l'=>r=.v (.bool (jJ n))∧b'=b∧l'=l):=by
 refine XA U8 rfl kE ?_
 intro B g hB hR hE hA;simp only[zA]at hA
 have heN:(eNw n).map AV.v=(zNA n):=rfl
 rw[heN]at hA
 by_cases h1:n.l.length≤40
 case neg =>
  have d1:decide ((n.l.length:Int)≤40)=false:=ag oM
  simp (disch:=first|decide|omega) only[a_net54,hA,d1,go_sem]
  exact ZA (xs:=[.v (.bool false)]) ⟨by unfold jJ;rw[ag h1];rfl,rfl,rfl⟩
 have d1:decide ((n.l.length:Int)≤40)=true:=ae oM
 by_cases h2:n.tm.length≤40
 case neg =>
  have d2:decide ((n.tm.length:Int)≤40)=false:=ag oM
  simp (disch:=first|decide|omega) only[a_net54,hA,d1,d2,go_sem]
  exact ZA (xs:=[.v (.bool false)]) ⟨by unfold jJ;rw[ae h1,ag h2];rfl,rfl,rfl⟩
 have d2:decide ((n.tm.length:Int)≤40)=true:=ae oM
 by_cases h3:n.fates.length≤40
 case neg =>
  have d3:decide ((n.fates.length:Int)≤40)=false:=ag oM
  simp (disch:=first|decide|omega) only[a_net54,hA,d1,d2,d3,go_sem]
  exact ZA (xs:=[.v (.bool false)]) ⟨by unfold jJ;rw[ae h1,ae h2,ag h3];rfl,rfl,rfl⟩
 have d3:decide ((n.fates.length:Int)≤40)=true:=ae oM
 have cC:=fun B0 l0=>qD VT JT (n.l.map eMs) 79 [] (fun j=>AP (n.l.getD j dfMs)) (fun row h=>by obtain⟨m,_,rfl⟩:=cr.1 h;rfl) (by rw[aa];omega) B0 l0 (fun j row hj=>by
  have wG:j<n.l.length:=by have:=(am.1 hj).1;rwa [aa]at this
  rw[an,ah wG]at hj
  cases hj
  simp only[YA wG]
  exact wZ _ _ _)
 rw[aa]at cC
 simp (disch:=first|decide|omega) only[a_net54,hA,d1,d2,d3,go_sem]
 refine QA.nxt (cC _ _) ?_
 simp (disch:=first|decide|omega) only[hA,go_sem]
 exact ZA (xs:=[.v (.bool (!(List.range n.l.length).any fun j=>AP (n.l.getD j dfMs)))]) ⟨by unfold jJ;rw[ae h1,ae h2,ae h3];rfl,rfl,rfl⟩
theorem ZD8 {l:List Sv} (h:IL l=true):l.length≤10∧SvsS l:=by
 simp only[IL,ar,ko,ga,ba,bf]at h
 obtain⟨h1,h2⟩:=h
 refine⟨h1,by omega,fun s hs=>?_⟩
 obtain⟨j,hj,rfl⟩:=cu hs
 have:=h2 j hj
 rw[YA hj]at this
 simp only[rR,gp,bf,not_or]at this
 exact⟨by omega,by omega,by omega⟩
theorem ZEA {n:Nw} (h:jJ n=true):n.l.length≤40∧n.tm.length≤40∧n.fates.length≤40∧NwS n:=by
 simp only[jJ,ar,ko,ga,ba,bf]at h
 obtain⟨h1,h2,h3,h4⟩:=h
 refine⟨h1,h2,h3,by omega,by omega,by omega,fun m hm=>?_⟩
 obtain⟨j,hj,rfl⟩:=cu hm
 have:=h4 j hj
 rw[YA hj]at this
 simp only[AP,bf]at this
 omega
theorem ZBp (v:List (Ev)) (k:Nat) (caps:List AV) (p:Nat→Bool) (hn:v.length≤9223372036854775807) (b l:List Row)
  (hp:∀(i:Nat) (h:i<v.length),QA Tryz.prog k (.agg ((eEv v[i]).map .v)::caps) (b++l) [] (fun r b' l'=>r=.v (.bool (p i))∧b'=b++l∧l'=[])) :
  QA Tryz.prog 94 [.v (.isl 5 (v.map eEv)),.fn k caps] b l (fun r b' l'=>r=.v (.int .i64 (XK p v.length))∧b'=b∧l'=l):=by
 refine XA V0 rfl kE ?_
 intro B g hB hR hE hA;simp only[zA]at hA
 simp (disch:=decide) only[a_IndE54,hA,aa,go_sem]
 refine JA (ι:=Nat) GV (fun i=>[(8,.v (.int .i64 i))]) 0 (fun _=>[])
  (fun i=>i≤v.length∧∀j,j<i→p j=false) (fun i=>v.length-i) 0 ⟨aj _,fun j hj=>by omega⟩ kM kA kF ?_
 rintro g1 qF TE sA i ⟨hi,h0⟩
 by_cases yA:i<v.length
 ·have ZMC:=hp i yA
  try simp only[eEv,bj,cd]at ZMC
  simp (disch:=first|decide|omega) only[hA,sA,eEv,aa,go_sem]
  refine aD _ _ _ _ _ _ (hB▸ZMC) ?_
  rintro r b' l' ⟨rfl,rfl,rfl⟩
  cases hpi:p i
  ·simp (disch:=first|decide|omega) only[hA,sA,hpi,go_sem]
   refine⟨i+1,⟨yA,fun j hj=>?_⟩,by simp only;omega,?_⟩
   ·rcases bp j i with YG|YG
    ·exact h0 j YG
    ·have:j=i:=by omega
     rw[this];exact hpi
   exact VA.kround (p:=GV) (k:=0) kQ kA rfl qF kS kV hR kL
  ·simp (disch:=first|decide|omega) only[hA,sA,hpi,go_sem]
   exact ZA (xs:=[.v (.int .i64 i)]) ⟨by rw[zW yA h0 hpi];rfl,rfl,rfl⟩
 ·simp (disch:=first|decide|omega) only[hA,sA,aa,go_sem]
  obtain rfl:i=v.length:=by omega
  exact ZA (xs:=[.v (.int .i64 (-1))]) ⟨by rw[nQ h0];rfl,rfl,rfl⟩
theorem VX (v:List (Ev)) (k:Nat) (caps:List AV) (p:Nat→Bool) (hn:v.length≤9223372036854775807) (b l:List Row)
  (hp:∀(i:Nat) (h:i<v.length),QA Tryz.prog k (.agg ((eEv v[i]).map .v)::caps) (b++l) [] (fun r b' l'=>r=.v (.bool (p i))∧b'=b++l∧l'=[])) :
  QA Tryz.prog 44 [.v (.isl 5 (v.map eEv)),.fn k caps] b l (fun r b' l'=>r=.v (.bool ((List.range v.length).any p))∧b'=b∧l'=l):=by
 refine XA U0 rfl kE ?_
 intro B g hB hR hE hA;simp only[zA]at hA
 simp (disch:=decide) only[a_ConE54,hA,go_sem]
 refine QA.nxt (ZBp v k caps p hn B [] (by rw[ct,hB];exact hp)) ?_
 simp (disch:=decide) only[hA,go_sem]
 exact ZA (xs:=[.v (.bool (decide (0≤XK p v.length)))]) ⟨by rw[KW];rfl,rfl,rfl⟩
def xK (t:Tr):Nat→Int
 |0=>0
 |i+1=>IntKind.i64.wrap (xK t i+((nA t i).length:Int))
def mL (t:Tr) (i:Nat):Bool:=decide (80<xK t (i+1))||(decide (12<(t.getD i dfPr).vars.length)||(decide (40<(t.getD i dfPr).name.size)||((List.range (t.getD i dfPr).evs.length).any (fun j=>DL ((t.getD i dfPr).evs.getD j PI))||(List.range (t.getD i dfPr).vars.length).any (fun j=>AM ((t.getD i dfPr).vars.getD j EO)))))
def UR (w:Wd):Bool:=!(List.range w.tr.length).any (mL w.tr)&&(decide (w.tr.length≤10)&&(IL w.sv&&jJ w.net))
theorem Q7 (w:Wd) (hT:w.tr.length≤9223372036854775807) (hM:∀x∈w.tr,x.evs.length≤9223372036854775807) (b l:List Row):QA Tryz.prog 10 [.agg ((eWd w).map .v)] b l (fun r b' l'=>r=.v (.bool (UR w))∧b'=b∧l'=l):=by
 refine XA r8 rfl kE ?_
 intro B g hB hR hE hA;simp only[zA]at hA
 have nL:(eWd w).map AV.v=[.v (.isl 6 (w.sv.map eSv)),.v (.int .i64 w.net.now),.v (.bool w.net.fifo),.v (.isl 4 (w.net.l.map eMs)),.v (.isl 1 (w.net.tm.map eI)),.v (.isl 2 (w.net.fates.map eFt)),.v (.int .i64 w.now),.v (.int .i64 w.sent),.v (.isl 3 (w.tr.map ePr))]:=rfl
 rw[nL]at hA
 obtain⟨t,ht⟩:∃t,w.tr=t:=⟨_,rfl⟩
 rw[ht]at hM hT
 have hfw:UR w=(!(List.range t.length).any (mL t)&&(decide (t.length≤10)&&(IL w.sv&&jJ w.net))):=by unfold UR;rw[ht]
 rw[hfw]
 have N8:xK t 0=0:=rfl
 rw[ht]at hA
 simp (disch:=first|decide|omega) only[a_few54,hA,aa,go_sem]
 refine JA (ι:=Nat) I2 (fun i=>[(10,.v (.int .i64 i)),(3,.v (.int .i64 (xK t i)))]) 1 (fun i=>[.live 0 9 [(eWd w).map .v]])
  (fun i=>i≤t.length∧xK t i≤80∧∀j,j<i→mL t j=false) (fun i=>t.length-i) 0 ⟨aj _,by rw[xK];omega,fun j h=>by omega⟩ kM (by ((try simp (disch:=decide) only[hA,N8,go_sem])<;>exact kH)) (fun e=>by rw[nL,ht];exact VA.refl _ _ _) ?_
 rintro g1 qF TE sA i ⟨hi,h40,ZMD⟩
 rw[nL,ht]
 by_cases M9:i<t.length
 ·have m1:=hM _ (ak M9)
  have ZGV:IntKind.i64.wrap (xK t i+(t[i].evs.length:Int))=xK t (i+1):=by
   show _=IntKind.i64.wrap (xK t i+((nA t i).length:Int));rw[ME M9]
  have fJ:t.getD i dfPr=t[i]:=YA M9
  have bad:mL t i=true→(!(List.range t.length).any (mL t)&&(decide (t.length≤10)&&(IL w.sv&&jJ w.net)))=false:=fun h=>by
   rw[fj.2 ⟨i,ba.2 M9,h⟩];rfl
  by_cases c1:80<xK t (i+1)
  ·have d1:decide (xK t (i+1)>80)=true:=ae oM
   have d1':decide ((80:Int)<xK t (i+1))=true:=d1
   have hb:=bad (by unfold mL;rw[ae c1];rfl)
   simp (disch:=first|decide|omega) only[hA,sA,ePr,ZGV,d1,d1',aa,go_sem]
   exact ZA (xs:=[.v (.bool false)]) ⟨by rw[hb];rfl,rfl,rfl⟩
  have d1:decide (xK t (i+1)>80)=false:=ag oM
  have d1':decide ((80:Int)<xK t (i+1))=false:=d1
  by_cases c2:12<t[i].vars.length
  ·have d2:decide ((t[i].vars.length:Int)>12)=true:=ae oM
   have d2':decide ((12:Int)<(t[i].vars.length:Int))=true:=d2
   have hb:=bad (by unfold mL;rw[fJ,ae c2];simp)
   simp (disch:=first|decide|omega) only[hA,sA,ePr,ZGV,d1,d1',d2,d2',aa,go_sem]
   exact ZA (xs:=[.v (.bool false)]) ⟨by rw[hb];rfl,rfl,rfl⟩
  have d2:decide ((t[i].vars.length:Int)>12)=false:=ag oM
  have d2':decide ((12:Int)<(t[i].vars.length:Int))=false:=d2
  by_cases c3:40<t[i].name.size
  ·have d3:decide ((t[i].name.size:Int)>40)=true:=ae oM
   have d3':decide ((40:Int)<(t[i].name.size:Int))=true:=d3
   have hb:=bad (by unfold mL;rw[fJ,ae c3];simp)
   simp (disch:=first|decide|omega) only[hA,sA,ePr,ZGV,d1,d1',d2,d2',d3,d3',aa,go_sem]
   exact ZA (xs:=[.v (.bool false)]) ⟨by rw[hb];rfl,rfl,rfl⟩
  have d3:decide ((t[i].name.size:Int)>40)=false:=ag oM
  have d3':decide ((40:Int)<(t[i].name.size:Int))=false:=d3
  have ce:=fun b l=>VX t[i].evs 45 [] (fun j=>DL (t[i].evs.getD j PI)) m1 b l (fun j hj=>by simp only[YA hj];exact dZ _ _ _)
  have cv:=fun b l=>qD (f:=46) (g:=95) (sz:=2) (by kernel_rfl) (by kernel_rfl) (t[i].vars.map eVr) 47 [] (fun j=>AM (t[i].vars.getD j EO)) (by simp[eVr]) (by simp;omega) b l (fun j row hj=>by
   rw[an]at hj
   obtain⟨x,hx,rfl⟩:=kx.1 hj
   obtain⟨q1,q2⟩:=am.1 hx
   simp only[YA q1,q2]
   exact iZ x _ _)
  rw[aa]at cv
  simp (disch:=first|decide|omega) only[hA,sA,ePr,ZGV,d1,d1',d2,d2',d3,d3',aa,go_sem]
  refine QA.nxt (ce _ _) ?_
  cases c4:(List.range t[i].evs.length).any fun j=>DL (t[i].evs.getD j PI) with
  |true =>
    have hb:=bad (by unfold mL;rw[fJ,c4];simp)
    simp (disch:=first|decide|omega) only[hA,sA,go_sem]
    exact ZA (xs:=[.v (.bool false)]) ⟨by rw[hb];rfl,rfl,rfl⟩
  |false =>
    simp (disch:=first|decide|omega) only[hA,sA,go_sem]
    refine QA.nxt (cv _ _) ?_
    cases c5:(List.range t[i].vars.length).any fun j=>AM (t[i].vars.getD j EO) with
    |true =>
      have hb:=bad (by unfold mL;rw[fJ,c5];simp)
      simp (disch:=first|decide|omega) only[hA,sA,go_sem]
      exact ZA (xs:=[.v (.bool false)]) ⟨by rw[hb];rfl,rfl,rfl⟩
    |false =>
      simp (disch:=first|decide|omega) only[hA,sA,go_sem]
      refine⟨i+1,⟨M9,by omega,fun j hj=>?_⟩,by simp only;omega,?_⟩
      ·by_cases YG:j=i
       ·subst YG
        unfold mL
        rw[fJ,c4,c5,ag c1,ag c2,ag c3];rfl
       ·exact ZMD j oM
      ·simp only[nL,ht];exact VA.kround (p:=I2) (k:=1) kQ (by ((try simp (disch:=decide) only[hA,sA,ZGV,go_sem])<;>exact kH)) rfl qF kS kV hR kL
 ·obtain rfl:i=t.length:=by omega
  have VP:(List.range t.length).any (mL t)=false:=by
   rw[ga];intro j hj;rw[ZMD j (ba.1 hj)];simp
  rw[VP]
  by_cases h1:t.length≤10
  case neg =>
   have d1:decide ((t.length:Int)≤10)=false:=ag oM
   simp (disch:=first|decide|omega) only[hA,sA,d1,go_sem]
   exact ZA (xs:=[.v (.bool false)]) ⟨by first|rfl|(rw[ag h1];rfl),rfl,rfl⟩
  have d1:decide ((t.length:Int)≤10)=true:=ae oM
  have cN:=fun b l=>p6 w.net b l
  simp only[eNw,bj,cd]at cN
  simp (disch:=first|decide|omega) only[hA,sA,d1,go_sem]
  refine QA.nxt (I5 w.sv _ _) ?_
  cases h2:IL w.sv
  ·simp (disch:=first|decide|omega) only[hA,sA,cellsOf,go_sem]
   exact ZA (xs:=[.v (.bool false)]) ⟨by first|rfl|(rw[ae h1];rfl),rfl,rfl⟩
  simp (disch:=first|decide|omega) only[hA,sA,cellsOf,go_sem]
  refine QA.nxt (cN _ _) ?_
  simp (disch:=first|decide|omega) only[hA,sA,cellsOf,go_sem]
  exact ZA (xs:=[.v (.bool (jJ w.net))]) ⟨by first|rfl|(rw[ae h1];rfl),rfl,rfl⟩
theorem ZEU {w:Wd} (hM:∀x∈w.tr,x.evs.length≤9223372036854775807) (h:UR w=true):Sm w.tr∧SvsS w.sv∧NwS w.net:=by
 simp only[UR,ar,ko,ga,ba,bf]at h
 obtain⟨h1,h2,h3,h4⟩:=h
 have key:∀x∈w.tr,x.vars.length≤12∧∀e∈x.evs,e.asg.length≤12:=by
  intro x hx
  obtain⟨i,hi,rfl⟩:=cu hx
  have:=h1 i hi
  simp only[mL,YA hi,gp,bf,fj,ba,not_or,not_exists,not_and]at this
  refine⟨by omega,fun e he=>?_⟩
  obtain⟨j,hj,rfl⟩:=cu he
  have h3:=this.2.2.2.1 j hj
  rw[YA hj]at h3
  simp only[DL,bf]at h3
  omega
 exact⟨⟨by omega,fun x hx=>by have:=(key x hx).1;omega,hM,fun x hx e he=>by have:=(key x hx).2 e he;omega⟩,(ZD8 h3).2,(ZEA h4).2.2.2⟩
structure SmW (w:Wd):Prop where
 tr:Small w.tr
 sv:SvsS w.sv
 net:NwS w.net
theorem WdV.smW {w:Wd} (h:WdV w):SmW w:=⟨h.small,h.svS,h.net.s⟩
theorem mX:SmW wd0:=⟨⟨by simp[wd0],by simp[wd0],by simp[wd0],by simp[wd0]⟩,⟨by simp[wd0],by simp[wd0]⟩,⟨by simp[wd0,nw0],by simp[wd0,nw0],by simp[wd0,nw0],by simp[wd0,nw0]⟩⟩
theorem U1:∀(o:List Int) {w:Wd},WdV w→SmW (vN w o).1
 |[],w,hw=>hw.smW
 |x::r,w,hw=>by
   simp only[vN]
   split
   ·rename_i h;exact U1 r (dP hw h)
   ·exact mX
theorem ZDe {w:Wd} (o:List Int):SmW (iM w o).1:=by
 unfold iM
 split
 ·rename_i h
  split
  ·exact mX
  ·exact U1 o (WdV.of h)
 ·exact mX
theorem SmW.same {w:Wd} (h:SmW w) (b l:List Row):QA Tryz.prog 16 [.agg ((eWd w).map .v),.agg ((eWd w).map .v)] b l (fun r b' l'=>r=.v (.bool true)∧b'=b∧l'=l):=V1 w h.tr h.sv h.net b l
def a_lwRun:AFunc:=({c:=_}:CF Tryz.prog 3).c
theorem y8:qA Tryz.prog 3=some a_lwRun:=by kernel_rfl

theorem KU (w:Wd) (hN:Nm w.tr) (hT:w.tr.length≤9223372036854775807) (hM:∀x∈w.tr,x.evs.length≤9223372036854775807) (k:Int) (order:List Int) (ho:∀x∈order,-9223372036854775808≤x) (b l:List Row) :
  QA Tryz.prog 3 [.agg ((eWd w).map .v),.v (.int .i64 k),.v (.isl 1 (order.map eI))] b l (fun r b' l'=>r=.v (.bool true)∧b'=b∧l'=l):=by
 refine XA y8 rfl kE ?_
 intro B g hB hR hE hA;simp only[zA]at hA
 have cF:=fun b l=>Q7 w hT hM b l
 have b11:((1:Int)==1)=true:=rfl
 have n00:((0:Int) != 0)=false:=rfl
 have n22:((2:Int) != 2)=false:=rfl
 rw[TA]at hA cF
 have K:∀rr:Bool,rr=true∨rr=false:=fun rr=>by cases rr<;>simp
 simp (disch:=first|decide|omega) only[a_lwRun,hA,cellsOf,go_sem]
 refine QA.nxt (VI _ _) ?_
 simp (disch:=first|decide|omega) only[hA,cellsOf,go_sem]
 refine QA.nxt (cF _ _) ?_
 cases g1:UR w
 ·simp (disch:=first|decide|omega) only[hA,cellsOf,go_sem]
  refine QA.nxt (VI _ _) ?_
  simp (disch:=first|decide|omega) only[hA,go_sem]
  exact ZA (xs:=[.v (.bool true)])
 obtain⟨hS,tL,N0⟩:=ZEU hM g1
 by_cases o1:order.length≤60∨(1000<order.length∧order.length≤1010)
 case neg =>
  by_cases o2:order.length≤1000
  ·have d1:decide ((order.length:Int)>60)=true:=ae oM
   have d1':decide ((60:Int)<(order.length:Int))=true:=d1
   have d2:decide ((order.length:Int)≤1000)=true:=ae oM
   simp (disch:=first|decide|omega) only[hA,d1,d1',d2,aa,go_sem]
   refine QA.nxt (VI _ _) ?_
   simp (disch:=first|decide|omega) only[hA,go_sem]
   exact ZA (xs:=[.v (.bool true)])
  ·have d1:decide ((order.length:Int)>60)=true:=ae oM
   have d1':decide ((60:Int)<(order.length:Int))=true:=d1
   have d2:decide ((order.length:Int)≤1000)=false:=ag oM
   have d3:decide ((order.length:Int)>1010)=true:=ae oM
   have d3':decide ((1010:Int)<(order.length:Int))=true:=d3
   simp (disch:=first|decide|omega) only[hA,d1,d1',d2,d3,d3',aa,go_sem]
   refine QA.nxt (VI _ _) ?_
   simp (disch:=first|decide|omega) only[hA,go_sem]
   exact ZA (xs:=[.v (.bool true)])
 have hol:order.length≤1000000:=by omega
 have cT:=fun b l=>vS w hS hN tL N0 k b l
 have cR:=fun b l=>uV w hS hN tL N0 order hol ho b l
 have cRV:=fun b l=>gU w hS hN tL N0 b l
 have cZ:=fun b l=>ZBe b l
 obtain⟨ti,hti⟩:∃ti,aJ w k=ti:=⟨_,rfl⟩
 obtain⟨ru,hru⟩:∃ru,iM w order=ru:=⟨_,rfl⟩
 rw[hti]at cT
 rw[hru]at cR
 have dA:∃a1 a2 a3:Bool,decide ((order.length:Int)>60)=a1∧decide ((60:Int)<(order.length:Int))=a1∧decide ((order.length:Int)≤1000)=a2∧decide ((order.length:Int)>1010)=a3∧decide ((1010:Int)<(order.length:Int))=a3∧a3=false∧(a1=false∨(a1=true∧a2=false)):=by
  refine⟨_,_,_,rfl,rfl,rfl,rfl,rfl,ag oM,?_⟩
  by_cases h:order.length≤60
  ·exact .inl (ag oM)
  ·exact .inr ⟨ae oM,ag oM⟩
 obtain⟨a1,a2,a3,d1,d1',d2,d3,d3',rfl,ha⟩:=dA
 cases t1:wdB w
 ·have c8:ti=(wd0,1):=by rw[←hti];unfold aJ;rw[if_neg (by rw[t1];simp)]
  have hi2:ru=(wd0,1):=by rw[←hru];unfold iM;rw[if_neg (by rw[t1];simp)]
  rw[c8]at cT
  rw[hi2]at cR
  rw[t1]at cRV
  simp only[TA]at cT cR cRV cZ
  rcases ha with rfl|⟨rfl,rfl⟩
  all_goals
   simp (disch:=first|decide|omega) only[hA,d1,d1',d2,d3,d3',aa,go_sem]
   refine QA.nxt (cT _ _) ?_
   simp (disch:=first|decide|omega) only[hA,cellsOf,go_sem]
   refine QA.nxt (cR _ _) ?_
   simp (disch:=first|decide|omega) only[hA,cellsOf,go_sem]
   refine QA.nxt (cRV _ _) ?_
   simp (disch:=first|decide|omega) only[hA,cellsOf,go_sem]
   refine QA.nxt (cZ _ _) ?_
   simp (disch:=first|decide|omega) only[hA,b11,cellsOf,go_sem]
   refine QA.nxt (cZ _ _) ?_
   simp (disch:=first|decide|omega) only[hA,b11,go_sem]
   exact ZA (xs:=[.v (.bool true)])
 have hw:=WdV.of t1
 have cX:=fun b l=>mS w hw.now k b l
 have cY:=fun b l=>ZBV w hw order hol ho b l
 rw[hru]at cY
 have cQ:=fun b l=>(ZDe (w:=w) order).same b l
 rw[hru]at cQ
 rw[t1]at cRV
 have bru:(ru.2==ru.2)=true:=by simp
 simp only[TA]at cR cRV cZ cQ cY
 cases mR:mY w k
 case' false =>
  have hn:¬((0≤k∧k≤1000000)∧w.now+k≤1000000000):=fx mR
  have c8:ti=(wd0,2):=by rw[←hti];unfold aJ;rw[if_pos t1,if_neg hn]
  rw[c8]at cT
  rw[mR,if_neg kS]at cX
  simp only[TA]at cT cX
  rcases ha with rfl|⟨rfl,rfl⟩
  all_goals
   simp (disch:=first|decide|omega) only[hA,d1,d1',d2,d3,d3',aa,go_sem]
   refine QA.nxt (cT _ _) ?_
   simp (disch:=first|decide|omega) only[hA,cellsOf,go_sem]
   refine QA.nxt (cR _ _) ?_
   simp (disch:=first|decide|omega) only[hA,cellsOf,go_sem]
   refine QA.nxt (cRV _ _) ?_
   simp (disch:=first|decide|omega) only[hA,cellsOf,go_sem]
   refine QA.nxt (cX _ _) ?_
   simp (disch:=first|decide|omega) only[hA,cellsOf,go_sem]
   refine QA.nxt (cZ _ _) ?_
   simp (disch:=first|decide|omega) only[hA,n22,cellsOf,go_sem]
   refine QA.nxt (cY _ _) ?_
   simp (disch:=first|decide|omega) only[hA,cellsOf,go_sem]
   refine QA.nxt (cQ _ _) ?_
   simp (disch:=first|decide|omega) only[hA,bru,go_sem]
   exact ZA (xs:=[.v (.bool true)])
 case' true =>
  have hn:(0≤k∧k≤1000000)∧w.now+k≤1000000000:=gg mR
  have c8:ti=(tkW w k,0):=by rw[←hti];unfold aJ;rw[if_pos t1,if_pos hn]
  have cS:=fun b l=>(Z1 hw ⟨hn.1.1,hn.2⟩).smW.same b l
  rw[c8]at cT
  rw[mR,if_pos rfl]at cX
  obtain⟨W2,ZL⟩:∃W2,tkW w k=W2:=⟨_,rfl⟩
  rw[ZL]at cT cX cS
  simp only[TA]at cT cX cS
  rcases ha with rfl|⟨rfl,rfl⟩
  all_goals
   simp (disch:=first|decide|omega) only[hA,d1,d1',d2,d3,d3',aa,go_sem]
   refine QA.nxt (cT _ _) ?_
   simp (disch:=first|decide|omega) only[hA,cellsOf,go_sem]
   refine QA.nxt (cR _ _) ?_
   simp (disch:=first|decide|omega) only[hA,cellsOf,go_sem]
   refine QA.nxt (cRV _ _) ?_
   simp (disch:=first|decide|omega) only[hA,cellsOf,go_sem]
   refine QA.nxt (cX _ _) ?_
   simp (disch:=first|decide|omega) only[hA,cellsOf,go_sem]
   refine QA.nxt (cS _ _) ?_
   simp (disch:=first|decide|omega) only[hA,n00,cellsOf,go_sem]
   refine QA.nxt (cY _ _) ?_
   simp (disch:=first|decide|omega) only[hA,cellsOf,go_sem]
   refine QA.nxt (cQ _ _) ?_
   simp (disch:=first|decide|omega) only[hA,bru,go_sem]
   exact ZA (xs:=[.v (.bool true)])
end Go.Proofs.YtmaokjojbjdpoaaGreatDoor
