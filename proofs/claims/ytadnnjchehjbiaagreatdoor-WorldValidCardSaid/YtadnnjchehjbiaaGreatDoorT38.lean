/- Texts of one proof, laid together: X7, RW, NT, TR, TX, R2, X5, X9, XB, XF, XH, XK, XJ, XI, XL, XM, XN, XG, TY. No condition. -/
import Derived.Test.YtadnnjchehjbiaaGreatDoorT37
import Derived.KernelRfl
set_option linter.unusedSimpArgs false
set_option maxHeartbeats 32000000
set_option maxRecDepth 20000
namespace Go.Proofs.YtadnnjchehjbiaaGreatDoor
set_option maxHeartbeats 16000000
set_option maxRecDepth 100000
set_option linter.unusedVariables false
set_option linter.unusedSimpArgs false
attribute [local go_sem ↓] xB tA iB rB EB SA uB CB dB UC gA RA wB yA DA yB dA FA lB nA xA sB TA MA lA LA fA vB aA AB tB OB ZC LC VC FC EC OC VD
attribute [local go_sem] pA uA QD eA iA MC YC XC QC nG pG JC nB pB mB MB UA KB jA UB qA mA aop sD pC rC SB sC DB tC YG YE LD amm tD IB QB SD dC ED comma nC XE QG QE ZE SF DD GD eC RF eqC eqF DE cellsOf JB yD KD ID dF rd rdI wD mk iC AV.cell List.all_cons List.all_nil Bool.and_true Bool.true_and Bool.and_self List.length_cons List.length_nil List.length_append Nat.reduceAdd Nat.reduceSub Nat.reduceMul Nat.zero_add Nat.add_zero List.cons_append List.nil_append List.append_assoc List.append_nil List.getElem?_cons_zero List.getElem?_cons_succ List.getElem?_nil List.set_cons_zero List.set_cons_succ List.drop_zero List.drop_succ_cons List.take_zero List.take_succ_cons List.take_nil List.drop_nil List.map_cons List.map_nil Option.map_some if_true if_false Bool.false_eq_true and_self true_and and_true Nat.reduceLeDiff Nat.reduceLT Nat.le_refl Nat.reduceEqDiff ite_true ite_false beq_self_eq_true beq_true beq_false Bool.not_true Bool.not_false Bool.true_beq Bool.false_beq mD gC TB GC RC qC zC FB KC DC IC nD zB IH nH DH HH EE ME CE LE geI gtI AE decide_true decide_false room List.getElem?_map List.length_map List.length_take Int.toNat_natCast Nat.min_def Nat.min_self qE JE uE mC vE bG EA List.getElem_cons_zero List.getElem_cons_succ
abbrev oH:List AV:=[(.v (.int .i64 0)),(.v (.int .i64 0)),(.v (.int .i64 0))]
abbrev oI:List AV:=[(.v (.str ⟨#[]⟩)),(.v .zsl),(.v (.int .i64 0)),(.v .zsl),(.v (.int .i64 0)),(.v (.int .i64 0))]
abbrev oJ:List AV:=[(.v .zsl),(.v (.int .i64 0)),(.v (.bool false)),(.v .zsl),(.v .zsl),(.v .zsl),(.v (.int .i64 0)),(.v (.int .i64 0)),(.v .zsl)]
def a_awk54:AFunc:=⟨0,76,[.tmp 0],(.seq (.region [⟨some 0,.mv (.c (.v (.bool false))),none⟩]) (.seq (.region [⟨some 8,.build oH [(0,1,(.c (.v (.int .i64 3)))),(1,1,(.c (.v (.int .i64 0)))),(2,1,(.c (.v (.int .i64 1))))],none⟩,⟨some 9,.build oH [(0,1,(.c (.v (.int .i64 8))))],none⟩,⟨some 10,.bslice 3 oH 2 [(0,(.t 8)),(1,(.t 9))],none⟩,⟨some 11,.bslice 1 [(.v (.int .i64 0))] 1 [(0,(.c (.v (.int .i64 5))))],none⟩,⟨some 12,.build oI [(0,1,(.c (.v (.str ⟨#[97]⟩)))),(1,1,(.t 10)),(3,1,(.t 11)),(5,1,(.c (.v (.int .i64 1000))))],none⟩,⟨some 13,.build oH [(0,1,(.c (.v (.int .i64 4))))],none⟩,⟨some 14,.build oH [(0,1,(.c (.v (.int .i64 2)))),(1,1,(.c (.v (.int .i64 0)))),(2,1,(.c (.v (.int .i64 1))))],none⟩,⟨some 15,.bslice 3 oH 2 [(0,(.t 13)),(1,(.t 14))],none⟩,⟨some 16,.bslice 1 [(.v (.int .i64 0))] 1 [(0,(.c (.v (.int .i64 0))))],none⟩,⟨some 17,.build oI [(0,1,(.c (.v (.str ⟨#[98]⟩)))),(1,1,(.t 15)),(3,1,(.t 16)),(5,1,(.c (.v (.int .i64 1000))))],none⟩,⟨some 18,.bslice 6 oI 2 [(0,(.t 12)),(1,(.t 17))],none⟩,oA 1 18]) (.seq (.region [oA 20 1,⟨some 21,.build [(.v (.int .i64 0)),(.v (.bool false)),(.v .zsl),(.v .zsl),(.v .zsl)] [],none⟩,⟨some 22,.call (.c (.fn 13 [])) [(.t 20),(.t 21)],none⟩,oA 19 22,⟨some 23,.extract 0 (.t 19),none⟩,⟨some 24,.extract 1 (.t 19),none⟩,⟨some 2,.alloc oJ,none⟩,⟨none,.store 9 (.t 2) (.t 23),none⟩,oA 3 24]) (.seq (.region [⟨some 26,.load (some 9) (.t 2),none⟩,⟨some 27,.call (.c (.fn 15 [])) [(.t 26)],none⟩,oA 25 27,⟨some 28,.extract 0 (.t 25),none⟩,⟨some 29,.extract 1 (.t 25),none⟩,oA 4 28,oA 5 29]) (.seq (.region [⟨some 31,.load (some 9) (.t 2),none⟩,⟨some 32,.bslice 1 [(.v (.int .i64 0))] 3 [(0,(.c (.v (.int .i64 0)))),(1,(.c (.v (.int .i64 1)))),(2,(.c (.v (.int .i64 1))))],none⟩,⟨some 33,.call (.c (.fn 29 [])) [(.t 31),(.t 32)],none⟩,oA 30 33,⟨some 34,.extract 0 (.t 30),none⟩,⟨some 35,.extract 1 (.t 30),none⟩,⟨some 6,.alloc oJ,none⟩,⟨none,.store 9 (.t 6) (.t 34),none⟩,oA 7 35]) (.seq (.region [oA 36 3,⟨some 37,.bin .eql (.t 36) (.c (.v (.int .i64 0))),none⟩,oA 38 37,oA 39 5 (some (38,true)),⟨some 40,.bin .eql (.t 39) (.c (.v (.int .i64 0))),some (38,true)⟩,⟨some 41,.pick (.t 38) (.t 40) (.c (.v (.bool false))),none⟩,oA 42 41,oA 43 4 (some (42,true)),⟨some 44,.bslice 1 [(.v (.int .i64 0))] 1 [(0,(.c (.v (.int .i64 0))))],some (42,true)⟩,⟨some 45,.call (.c (.fn 30 [])) [(.t 43),(.t 44)],some (42,true)⟩,⟨some 46,.pick (.t 42) (.t 45) (.c (.v (.bool false))),none⟩,oA 47 46,oA 48 7 (some (47,true)),⟨some 49,.bin .eql (.t 48) (.c (.v (.int .i64 0))),some (47,true)⟩,⟨some 50,.pick (.t 47) (.t 49) (.c (.v (.bool false))),none⟩,oA 51 50,⟨some 52,.load (some 9) (.t 6),some (51,true)⟩,⟨some 53,.call (.c (.fn 31 [])) [(.t 52)],some (51,true)⟩,⟨some 54,.pick (.t 51) (.t 53) (.c (.v (.bool false))),none⟩,oA 55 54,oB 56 0 6 (some (55,true)),oC 57 56 (some (55,true)),oF 58 57 (some (55,true)),⟨some 59,.bin .eql (.t 58) (.c (.v (.int .i64 2))),some (55,true)⟩,⟨some 60,.pick (.t 55) (.t 59) (.c (.v (.bool false))),none⟩,oA 61 60,oB 62 0 6 (some (61,true)),oC 63 62 (some (61,true)),⟨some 64,.iaddr 6 (.t 63) (.c (.v (.int .i64 1))),some (61,true)⟩,oB 65 3 64 (some (61,true)),oC 66 65 (some (61,true)),⟨some 67,.bslice 1 [(.v (.int .i64 0))] 1 [(0,(.c (.v (.int .i64 6))))],some (61,true)⟩,⟨some 68,.call (.c (.fn 30 [])) [(.t 66),(.t 67)],some (61,true)⟩,⟨some 69,.pick (.t 61) (.t 68) (.c (.v (.bool false))),none⟩,oA 70 69,oB 71 8 6 (some (70,true)),⟨some 72,.load (some 1) (.t 71),some (70,true)⟩,⟨some 73,.call (.c (.fn 24 [])) [(.t 72)],some (70,true)⟩,⟨some 74,.bin .eql (.t 73) (.c (.v (.int .i64 3))),some (70,true)⟩,⟨some 75,.pick (.t 70) (.t 74) (.c (.v (.bool false))),none⟩,oA 0 75]) .ret))))))⟩
theorem B4:CA Tryz.prog 6=some a_awk54:=by kernel_rfl

theorem vW {l:List Sv} (p:Nat):sA (l.map npr) p=[]:=by
 unfold sA
 rw[aq,ai]
 cases l[p]? <;> rfl
theorem FM {l:List Sv} (x:Nat×Nat):x∉ids (l.map npr):=fun hx=>by
 obtain⟨p,i⟩:=x
 obtain⟨i,rfl⟩:∃k,i=k+1:=⟨i-1,by have:=MF hx;simp only at this;omega⟩
 have:=(kD.1 hx).2
 rw[vW]at this
 exact absurd this kS
theorem ZBe:∀i:Fin 8,GE (QK i)=true:=by decide
theorem ZBf:∀i j:Fin 8,j<i→(QK j==QK i)=false:=by decide
theorem ZGz {v:Int} (h:vlB v=true):AN v=true:=by
 unfold vlB at h;unfold AN
 simpa using h
theorem ZCJ {l:List Sv} (h:ZH l=true) {p:Nat} (hp:p<l.length):gE (l.map npr) p=0:=by
 obtain⟨hv,hd⟩:=rH h hp
 have hg:l.getD p dfSv=l[p]:=YA hp
 rw[hg]at hv
 unfold gE
 rw[K7 hp]
 have c1:((l.map npr).take p).any (fun y=>y.name.toList==(npr l[p]).name.toList)=false:=by
  rw[gz]
  intro y hy hc
  obtain⟨q,hq⟩:=ey.1 hy
  rw[cw]at hq
  split at hq
  ·rename_i hqp
   rw[ai,ae oM]at hq
   cases hq
   rw[←beq_toListBytes]at hc
   have:=hd q hqp
   rw[hg,YA oM]at this
   exact this (QT hc)
  ·cases hq
 have c3:YD (dQ (npr l[p]).vars) (npr l[p]).vars.length=0:=by
  rw[yH]
  intro i hi
  have hi:i<l[p].vars.length:=by rw[←WI (l:=l[p].vars)];exact hi
  have h8:=hv.vl
  have GM:∀j,j<l[p].vars.length→(npr l[p]).vars.getD j xV=wVr l[p].vars j:=fun j hj=>D7 hj
  unfold dQ
  rw[GM i hi]
  have a1:GE (wVr l[p].vars i).name=true:=ZBe ⟨i,by omega⟩
  have a2:((npr l[p]).vars.take i).any (fun y=>y.name.toList==(wVr l[p].vars i).name.toList)=false:=by
   rw[gz]
   intro y hy hc
   obtain⟨q,hq⟩:=ey.1 hy
   rw[cw]at hq
   split at hq
   ·rename_i hqi
    have e:=GM q oM
    rw[aq,hq,gp]at e
    rw[e,←beq_toListBytes]at hc
    have:=ZBf ⟨i,by omega⟩ ⟨q,by omega⟩ hqi
    have Q5:(QK q==QK i)=true:=hc
    rw[Q5]at this;cases this
   ·cases hq
  have a3:AN (wVr l[p].vars i).init=true:=ZGz (by show vlB (l[p].vars.getD i 0)=true;rw[YA hi];exact hv.vs _ (ap hi))
  rw[a1,a2,a3];rfl
 have c0:GE (npr l[p]).name=true:=hv.name
 have c2:¬8<(npr l[p]).vars.length:=by
  have:=hv.vl
  show ¬8<(qN l[p].vars).length
  rw[WI];omega
 rw[c0,c1,c3]
 simp only[dq,Bool.or_false,bx,if_false,ne_eq,not_true_eq_false]
 rw[if_neg c2]
 rfl
theorem ZFL {l:List Sv} (h:ZH l=true):Vok (l.map npr):=by
 have hn:=jO h
 exact⟨by rw[aa];omega,by rw[aa];omega,fun p hp=>ZCJ h (by rwa [aa]at hp),fun x hx=>absurd hx (FM x),fun x hx=>absurd hx (FM x),fun x hx=>absurd hx (FM x)⟩
theorem I0 (v:List Int):(qN v).map (·.init)=v:=by
 apply ek
 intro i
 rw[ai]
 by_cases hi:i<v.length
 ·unfold qN
  rw[IF hi,ae hi]
  show some (v.getD i 0)=_
  rw[YA hi]
 ·rw[ce (by rw[WI];omega),ce oM];rfl
theorem ZFM (s:Sv) (now:Int):jM (npr s) s now=true:=by
 unfold jM
 have h1:((npr s).name==s.name)=true:=aK _
 have h2:(npr s).vars.length=s.vars.length:=WI
 have h3:ZAj (npr s) s.vars.length=true:=by
  unfold ZAj
  rw[bo]
  intro i hi
  have e:(npr s).vars.getD i xV=wVr s.vars i:=D7 (bc.1 hi)
  rw[e];exact aK _
 have h4:iS (npr s)=s.vars:=I0 s.vars
 have h5:IZ (npr s) (jJ s now)=true:=by unfold IZ;exact ag (.inl rfl)
 rw[h1,ag h2,h3,ag h4,h5];rfl
theorem z7 {l:List Sv}:∀k,cSd (l.map npr) k=0
 |0=>rfl
 |k+1=>by
   simp only[cSd]
   rw[z7 k,vW];rfl
theorem GU {l:List Sv} {n:Nw} (h:ZH l=true) (hn:NwV n) (h0:n.now=0) (hl:n.l=[]):WdV (xN l n):=by
 refine⟨h,⟨ii _,by show (0:Int)≤1000000000;decide⟩,hn,h0,ZFL h,by show (l.map npr).length=l.length;rw[aa],fun p hp=>?_,fun x hx=>absurd hx (FM x),?_,fun m hm=>?_⟩
 ·have hp:p<l.length:=by rw[←aa (f:=npr)];exact hp
  show jM ((l.map npr).getD p dfPr) (l.getD p dfSv) 0=true
  rw[K7 hp,YA hp]
  exact ZFM _ _
 ·show ((cSd (l.map npr) _:Nat):Int)=0
  rw[z7];rfl
 ·have hm:m∈n.l:=hm
  rw[hl]at hm;cases hm
def awL:List Sv:=[⟨⟨#[97]⟩,[⟨3,0,1⟩,⟨8,0,0⟩],0,[5],0,1000⟩,⟨⟨#[98]⟩,[⟨4,0,0⟩,⟨2,0,1⟩],0,[0],0,1000⟩]
theorem Z6:ZH awL=true:=by kernel_rfl
theorem CW:nwB nw0=true:=by kernel_rfl
noncomputable def aw0:Wd:=xN awL nw0
noncomputable def aw1:Wd:=(stW aw0 0).1
noncomputable def aw2:Wd:=(stW aw1 1).1
noncomputable def aw3:Wd:=(stW aw2 1).1
theorem UM:WdV aw0:=GU Z6 (TF.1 CW) rfl rfl
theorem ZG5:IG aw0 0=true:=by kernel_rfl
theorem ZG4:(stW aw0 0).2=0:=by kernel_rfl
theorem aw0_l:eG aw0 2=[0]:=by kernel_rfl
theorem ZG0:WdV aw1:=ZJ UM (by show 0<2;omega) ZG5 ZG4
theorem ZG2:aw1.sv.length=2:=by kernel_rfl
theorem ZG3:IG aw1 1=true:=by kernel_rfl
theorem ZG1:(stW aw1 1).2=0:=by kernel_rfl
theorem ZGW:WdV aw2:=ZJ ZG0 (by rw[ZG2];omega) ZG3 ZG1
theorem ZGY:aw2.sv.length=2:=by kernel_rfl
theorem ZGZ:IG aw2 1=true:=by kernel_rfl
theorem ZGX:(stW aw2 1).2=0:=by kernel_rfl
theorem AQ:WdV aw3:=ZJ ZGW (by rw[ZGY];omega) ZGZ ZGX
theorem aw3_n:aw3.sv.length=2:=by kernel_rfl
theorem aw3_x:aw3.sv.all rL=true:=by kernel_rfl
theorem ZGV:(ids aw3.tr).length=3:=by kernel_rfl
theorem aw3_r:(aw3.sv.map eSv)[1]? = some [.str ⟨#[98]⟩,.isl 3 [[.int .i64 4,.int .i64 0,.int .i64 0],[.int .i64 2,.int .i64 0,.int .i64 1]],.int .i64 2,.isl 1 [[.int .i64 6]],.int .i64 0,.int .i64 1000]:=by kernel_rfl
theorem p5 {w:Wd} (hw:WdV w) {p:Nat} (hp:p<w.sv.length) (he:IG w p=true):QN w p=stW w p:=by
 unfold QN
 rw[if_pos oM]
 unfold iL
 rw[if_pos hw.to,if_neg oM,bs,if_pos he]
theorem ZHx:UX aw0 [0,1,1]=(aw3,0):=by
 have h0:QN aw0 0=stW aw0 0:=p5 (p:=0) UM (by show 0<2;omega) ZG5
 have h1:QN aw1 1=stW aw1 1:=p5 (p:=1) ZG0 (by rw[ZG2];omega) ZG3
 have h2:QN aw2 1=stW aw2 1:=p5 (p:=1) ZGW (by rw[ZGY];omega) ZGZ
 unfold UX
 rw[if_pos UM.to,if_neg kE]
 have e1:(stW aw0 0).1=aw1:=rfl
 have e2:(stW aw1 1).1=aw2:=rfl
 have e3:(stW aw2 1).1=aw3:=rfl
 simp only[KX]
 rw[h0,if_pos ZG4,e1,h1,if_pos ZG1,e2,h2,if_pos ZGX,e3]
theorem iD (b l:List Row):ZA Tryz.prog 6 [] b l (fun r b' l'=>r=.v (.bool true)∧b'=b∧l'=l):=by
 refine XA B4 rfl kE ?_
 intro B g hB hR hE hA;simp only[EA]at hA
 have cN:∀b l,ZA Tryz.prog 13 [.v (.isl 6 (awL.map eSv)),.agg [.v (.int .i64 0),.v (.bool false),.v .zsl,.v .zsl,.v .zsl]] b l (fun r b' l'=>r=.tup [.agg ((eWd aw0).map .v),.v (.int .i64 0)]∧b'=b∧l'=l):=fun b l=>by
  have hb:tL awL nw0=(aw0,0):=by
   unfold tL
   rw[if_pos ⟨Z6,CW⟩,if_neg (by rintro (h|h|h);exact h rfl;exact absurd h kE;exact absurd h kE)];rfl
  have:=sN awL (ZGL Z6) nw0 (TF.1 CW).s b l
  rw[hb]at this
  refine this.le rfl (fun i x y hx hy=>?_)
  match i,hx,hy with
  |0,hx,hy=>cases hx;cases hy;exact .refl _
  |1,hx,hy =>
    cases hx;cases hy
    refine .agg _ _ rfl (fun j u v hu hv=>?_)
    match j,hu,hv with
    |0,hu,hv=>cases hu;cases hv;exact .refl _
    |1,hu,hv=>cases hu;cases hv;exact .refl _
    |2,hu,hv=>cases hu;cases hv;exact .v _ _ (.zsl 4)
    |3,hu,hv=>cases hu;cases hv;exact .v _ _ (.zsl 1)
    |4,hu,hv=>cases hu;cases hv;exact .v _ _ (.zsl 2)
 have cE:=fun b l=>DL aw0 UM.small UM.nm UM.svS UM.net.s UM.to b l
 have hq:sL aw0 aw0.sv.length=[[.int .i64 0]]:=by
  show (eG aw0 2).map _=_
  rw[aw0_l];rfl
 rw[hq]at cE
 have cR:=fun b l=>n8 aw0 UM.small.sm UM.nm UM.svS UM.net.s [0,1,1] kS kS b l
 rw[ZHx]at cR
 have cD:=fun b l=>dX aw3 AQ.small.sm AQ.nm AQ.svS AQ.net.s b l
 have hd:ZEE aw3=true:=by unfold ZEE;rw[AQ.to,aw3_x];rfl
 rw[hd]at cD
 have cC:=fun b l=>GN aw3.tr AQ.small AQ.nm b l (by rw[ZGV];omega)
 have hc:qG aw3.tr=3:=by unfold qG;rw[if_pos (vF AQ.tr),ZGV]
 rw[hc]at cC
 simp only[eT]at cC
 have q0:∀b l,ZA Tryz.prog 30 [.v (.isl 1 [[.int .i64 0]]),.v (.isl 1 [[.int .i64 0]])] b l (fun r b' l'=>r=.v (.bool true)∧b'=b∧l'=l):=fun b l=>AS [0] [0] kS b l
 have q6:∀b l,ZA Tryz.prog 30 [.v (.isl 1 [[.int .i64 6]]),.v (.isl 1 [[.int .i64 6]])] b l (fun r b' l'=>r=.v (.bool true)∧b'=b∧l'=l):=fun b l=>AS [6] [6] kS b l
 have g1:=aw3_r
 have n3:=aw3_n
 obtain⟨W,hW⟩:∃W,aw0=W:=⟨_,rfl⟩
 obtain⟨V,hV⟩:∃V,aw3=V:=⟨_,rfl⟩
 rw[hW]at cN cE cR
 rw[hV]at cR cD cC g1 n3
 simp only[AA]at cN cE cR cD
 have b1:((0:Int)==0)=true:=rfl
 have b2:((3:Int)==3)=true:=rfl
 have b3:(((3:Nat):Int)==3)=true:=rfl
 have b4:(((2:Nat):Int)==2)=true:=rfl
 have b5:((2:Int)==2)=true:=rfl
 have t1:Int.toNat 1=1:=rfl
 simp (disch:=first|decide|omega) only[a_awk54,hA,xD,bg,bh,cz,dj,go_sem]
 refine ZA.deepMid (l1:=[]) (l2:=[]) (N:=[.live 0 3 [[.v (.int .i64 3),.v (.int .i64 0),.v (.int .i64 1)],[.v (.int .i64 8),.v (.int .i64 0),.v (.int .i64 0)]],.live 0 1 [[.v (.int .i64 5)]],.live 0 3 [[.v (.int .i64 4),.v (.int .i64 0),.v (.int .i64 0)],[.v (.int .i64 2),.v (.int .i64 0),.v (.int .i64 1)]],.live 0 1 [[.v (.int .i64 0)]],.live 0 6 [[.v (.str ⟨#[97]⟩),.sl B.length 0 0 2,.v (.int .i64 0),.sl (B.length+1) 0 0 1,.v (.int .i64 0),.v (.int .i64 1000)],[.v (.str ⟨#[98]⟩),.sl (B.length+2) 0 0 2,.v (.int .i64 0),.sl (B.length+3) 0 0 1,.v (.int .i64 0),.v (.int .i64 1000)]]]) (args':=[.v (.isl 6 (awL.map eSv)),.agg [.v (.int .i64 0),.v (.bool false),.v .zsl,.v .zsl,.v .zsl]]) rfl (fun i x y hx hy=>?_) ?_
 ·match i,hx,hy with
  |0,hx,hy =>
    cases hx;cases hy
    refine Dv.slR (i:=4) rfl kS rfl (fun k r row h1 h2=>?_)
    match k,h1,h2 with
    |0,h1,h2=>cases h1;cases h2;exact DvR.cons (.v _) (DvR.cons (Dv.slV (i:=0) (rows:=[[.int .i64 3,.int .i64 0,.int .i64 1],[.int .i64 8,.int .i64 0,.int .i64 0]]) rfl rfl) (DvR.cons (.v _) (DvR.cons (Dv.slV (i:=1) (rows:=[[.int .i64 5]]) rfl rfl) (DvR.cons (.v _) (DvR.cons (.v _) DvR.nil)))))
    |1,h1,h2=>cases h1;cases h2;exact DvR.cons (.v _) (DvR.cons (Dv.slV (i:=2) (rows:=[[.int .i64 4,.int .i64 0,.int .i64 0],[.int .i64 2,.int .i64 0,.int .i64 1]]) rfl rfl) (DvR.cons (.v _) (DvR.cons (Dv.slV (i:=3) (rows:=[[.int .i64 0]]) rfl rfl) (DvR.cons (.v _) (DvR.cons (.v _) DvR.nil)))))
  |1,hx,hy=>cases hx;cases hy;exact Dv.aggL (.cons (.v _) (.cons (.v _) (.cons (.v _) (.cons (.v _) (.cons (.v _) .nil)))))
 refine ZA.nxt (cN _ _) ?_
 simp (disch:=first|decide|omega) only[hA,yG,xD,go_sem]
 refine ZA.nxt (cE _ _) ?_
 simp (disch:=first|decide|omega) only[hA,yG,xD,bg,bh,cz,dj,go_sem]
 refine ZA.frzB (i:=6) (ver:=0) (sz:=1) (rows:=[[.int .i64 0],[.int .i64 1],[.int .i64 1]]) (args':=[.agg (zWA W),.v (.isl 1 ([0,1,1].map eI))]) rfl (by simp[frz,QF,eI]) ?_
 refine ZA.nxt (cR _ _) ?_
 simp (disch:=first|decide|omega) only[hA,b1,yG,xD,bg,bh,cz,dj,go_sem]
 refine ZA.frzB (i:=8) (ver:=0) (sz:=1) (rows:=[[.int .i64 0]]) (args':=[.v (.isl 1 [[.int .i64 0]]),.v (.isl 1 [[.int .i64 0]])]) rfl (by simp[frz,QF]) ?_
 refine ZA.nxt (q0 _ _) ?_
 simp (disch:=first|decide|omega) only[hA,b1,xD,go_sem]
 refine ZA.nxt (cD _ _) ?_
 simp (disch:=first|decide|omega) only[hA,b1,b4,b5,n3,t1,g1,xD,bg,bh,cz,dj,go_sem]
 refine ZA.frzB (i:=9) (ver:=0) (sz:=1) (rows:=[[.int .i64 6]]) (args':=[.v (.isl 1 [[.int .i64 6]]),.v (.isl 1 [[.int .i64 6]])]) rfl (by simp[frz,QF]) ?_
 refine ZA.nxt (q6 _ _) ?_
 simp (disch:=first|decide|omega) only[hA,b1,b4,b5,n3,t1,g1,xD,go_sem]
 refine ZA.nxt (cC _ _) ?_
 simp (disch:=first|decide|omega) only[hA,b1,b2,b3,go_sem]
 exact QA (xs:=[.v (.bool true)])
open Go.RowKit Go.ChangeShapes Go.WideShapes Go.Deep

def RIs (w:World) (F:Nat→Prop) (row:List IV) (cs:List Value):Prop:=row.length=cs.length∧∀(j:Nat) (a:IV) (v:Value),row[j]? = some a→cs[j]? = some v→RepI w F a v
theorem RIs.nil {w:World} {F:Nat→Prop}:RIs w F [] []:=⟨rfl,fun j a v h=>by simp at h⟩
theorem RIs.one {w:World} {F:Nat→Prop} {a:IV} {v:Value} (h:RepI w F a v):RIs w F [a] [v]:=by
 refine⟨rfl,fun j x u hx hu=>?_⟩
 cases j with
 |zero=>simp at hx hu;subst hx;subst hu;exact h
 |succ j=>simp at hx
theorem RIs.append {w:World} {F:Nat→Prop} {r s:List IV} {cs ds:List Value} (h:RIs w F r cs) (k:RIs w F s ds):RIs w F (r++s) (cs++ds):=by
 refine⟨by simp[h.1,k.1],fun j a v ha hv=>?_⟩
 by_cases hj:j<r.length
 ·rw[aw hj]at ha
  rw[aw (by rw[←h.1];exact hj)]at hv
  exact h.2 j a v ha hv
 ·rw[au oM]at ha
  rw[au (by rw[←h.1];omega),←h.1]at hv
  exact k.2 _ a v ha hv
theorem RIs.repL {w:World} {F:Nat→Prop} {L:LMap} {r:List IV} {cs:List Value} (h:RIs w F r cs):bA w F L (r.map .v) cs:=by
 refine⟨by simpa using h.1,fun j x v hx hv=>?_⟩
 rw[ai]at hx
 cases hq:r[j]? with
 |none=>simp[hq]at hx
 |some y=>simp[hq]at hx;subst hx;exact .v _ _ (h.2 j y v hq hv)

def Low (w:World):Nat→Prop:=fun b=>b<w.heap.size

def TR {α:Type} (P:Program) (t:TypeId) (n:Nat) (enc:α→List IV) (good:α→Prop):Prop:=
 ∀(H:Type) (en:TypeId×Value→H) (w:World) (base:Nat) (spare:Nat→Bool) (held:Bool) (fuel:Nat) (cs:List Value) (x:DataW H×List MemPlace),cs.length=n→DataW.trod en P w base spare held fuel t cs=some x →
  ∃y,good y∧RIs w (Low w) (enc y) cs

section
variable {P:Program} {α β:Type}
theorem TR.map {t:TypeId} {n:Nat} {enc:α→List IV} {good:α→Prop} (h:TR P t n enc good) {enc':β→List IV} {good':β→Prop} (f:α→β) (he:∀y,enc' (f y)=enc y) (hg:∀y,good y→good' (f y)):TR P t n enc' good':=by
 intro H en w base spare held fuel cs x hl hx
 obtain⟨y,g,r⟩:=h H en w base spare held fuel cs x hl hx
 exact⟨f y,hg y g,by rw[he];exact r⟩
theorem ZDC {t:TypeId} {k:IntKind} (ht:P.underlying t=some (.int k)):TR P t 1 (fun n:Int=>[.int k n]) (fun n=>(Lit.int k n).wf=true):=by
 intro H en w base spare held fuel cs x hl hx
 obtain⟨n,rfl,_,hw⟩:=DataW.trod_int ht hx
 exact⟨n,hw,RIs.one (.int _ _)⟩
theorem ZE4 {t:TypeId} (ht:P.underlying t=some .bool):TR P t 1 (fun b:Bool=>[.bool b]) (fun _=>True):=by
 intro H en w base spare held fuel cs x hl hx
 obtain⟨n,rfl,_⟩:=DataW.trod_bool ht hx
 exact⟨n,trivial,RIs.one (.bool _)⟩
theorem c8 {t:TypeId} (ht:P.underlying t=some .string):TR P t 1 (fun s:ByteArray=>[.str s]) (fun s=>s.size≤maxLen):=by
 intro H en w base spare held fuel cs x hl hx
 obtain⟨n,rfl,_,hm⟩:=DataW.trod_string ht hx
 exact⟨n,hm,RIs.one (.str _)⟩
theorem LJ {t e:TypeId} {n:Nat} {enc:α→List IV} {good:α→Prop} (h:TR P e n enc good) (ht:P.underlying t=some (.slice e)) (hC:P.cellsOf e=n) (h0:0<n) :
  TR P t 1 (fun ys:List α=>[.isl n (ys.map enc)]) (fun ys=>ys.length≤maxLen∧∀y∈ys,good y):=by
 intro H en w base spare held fuel cs x hl hx
 rcases open_slice ht hx with ⟨hv,_⟩|⟨a,len,cap,m,f,D,Pl,hv,hb,hll,hm,hmm,_,vJ⟩
 ·subst hv
  exact⟨[],⟨by simp[maxLen],fun y hy=>by simp at hy⟩,RIs.one (.isl0 _ _ _ (by simp[maxLen]))⟩
 ·subst hv
  have nL:len≤m:=by rw[hmm];split<;>omega
  have key:∀i,i<len→∃y,(good y∧∃b off,a=⟨b,off,none⟩∧(enc y).length=n∧∀(j:Nat) (c:IV),(enc y)[j]? = some c→∃v,w.cell? ⟨b,off+i*n+j,none⟩=some v∧RepI w (Low w) c v):=by
   intro i hi
   obtain⟨cs',hc,ht'⟩:=vJ i oM
   rw[hC]at hc
   obtain⟨_,EP,hat⟩:=World.cells?_some hc
   obtain⟨cs0,hc0,_⟩:=vJ 0 oM
   rw[hC]at hc0
   obtain⟨_,hcl0,ZLV⟩:=World.cells?_some hc0
   have h00:=ZLV 0 h0
   have e00:(a.add (0*n)).add 0=a:=by simp[Addr.add]
   rw[e00,ae (show 0<cs0.length by omega)]at h00
   have hsp:=D8 h00
   obtain⟨b,off,sp⟩:=a
   simp only at hsp
   subst hsp
   obtain⟨y,hg,hy⟩:=h H en w base spare held f cs' (D i,Pl i) EP ht'
   refine⟨y,hg,b,off,rfl,by rw[hy.1,EP],fun j c hj=>?_⟩
   have fG:j<cs'.length:=by rw[←hy.1];exact (aj.1 hj).1
   have:=hat j oM
   have e1:((⟨b,off,none⟩:Addr).add (i*n)).add j=⟨b,off+i*n+j,none⟩:=by
    unfold Addr.add
    by_cases h1:i*n=0<;>by_cases h2:j=0<;>simp[h1,h2]
   rw[e1,ae fG]at this
   exact⟨_,this,hy.2 j c _ hj (ae fG)⟩
  obtain⟨xs,hxl,sY⟩:=x7 len key
  subst hxl
  refine⟨xs,⟨by omega,fun y hy=>?_⟩,RIs.one ?_⟩
  ·obtain⟨i,hi⟩:=ey.1 hy
   exact (sY i y hi).1
  ·by_cases vU:0<xs.length
   ·obtain⟨_,b,off,ha,_⟩:=sY 0 xs[0] (ae vU)
    subst ha
    have PM:∀(k:Nat) (row:List IV),(xs.map enc)[k]? = some row→row.length=n∧∀(j:Nat) (c:IV),row[j]? = some c→∃v,w.cell? ⟨b,off+k*n+j,none⟩=some v∧RepI w (Low w) c v:=by
     intro k row hk
     rw[ai]at hk
     cases hq:xs[k]? with
     |none=>rw[hq]at hk;cases hk
     |some y =>
       rw[hq]at hk;cases hk
       obtain⟨_,b',off',hh,h1,h2⟩:=sY k y hq
       injection hh with g1 g2
       subst g1;subst g2
       exact⟨h1,h2⟩
    have ZLW:Low w b:=by
     obtain⟨r1,r2⟩:=PM 0 (enc xs[0]) (by rw[ai,ae vU];rfl)
     obtain⟨v,hv,_⟩:=r2 0 (enc xs[0])[0] (ae oM)
     exact kC hv
    have:=RepI.isl (w:=w) (F:=Low w) (xs.map enc) b off n cap (fun k j=>(w.cell? ⟨b,off+k*n+j,none⟩).getD undef) ZLW (by simpa using hll) hm (fun k row hk=>(PM k row hk).1)
     (fun k row j c hk hj=>by
      obtain⟨v,hv,_⟩:=(PM k row hk).2 j c hj
      rw[hv];rfl)
     (fun k row j c hk hj=>by
      obtain⟨v,hv,hr⟩:=(PM k row hk).2 j c hj
      rw[hv];exact hr)
    rw[aa]at this
    exact this
   ·have:xs=[]:=cu oM
    subst this
    exact .isl0 _ _ _ hm

def TRF (P:Program) (fs:List Field) (o n:Nat) (enc:α→List IV) (good:α→Prop):Prop:=
 ∀(H:Type) (en:TypeId×Value→H) (w:World) (base:Nat) (spare:Nat→Bool) (held:Bool) (fuel:Nat) (cs:List Value),cs.length=o+n→(∀f∈fs,∃x,DataW.trod en P w base spare held fuel f.type ((cs.drop f.offset).take (P.cellsOf f.type))=some x) →
  ∃y,good y∧RIs w (Low w) (enc y) (cs.drop o)
theorem SO {o:Nat}:TRF P [] o 0 (fun _:Unit=>[]) (fun _=>True):=by
 intro H en w base spare held fuel cs hl _
 refine⟨(),trivial,?_⟩
 rw[mb oM]
 exact RIs.nil
theorem lD {f:Field} {fs:List Field} {o n m:Nat} {enc:α→List IV} {good:α→Prop} {enc':β→List IV} {good':β→Prop} (h:TR P f.type n enc good) (hC:P.cellsOf f.type=n) (ho:f.offset=o) (k:TRF P fs (o+n) m enc' good') :
  TRF P (f::fs) o (n+m) (fun y:α×β=>enc y.1++enc' y.2) (fun y=>good y.1∧good' y.2):=by
 intro H en w base spare held fuel cs hl hfs
 obtain⟨x,hx⟩:=hfs f kS
 rw[ho,hC]at hx
 obtain⟨y,hg,hy⟩:=h H en w base spare held fuel _ x kT hx
 obtain⟨z,hg',hz⟩:=k H en w base spare held fuel cs oM (fun f hf=>hfs f (by simp[hf]))
 refine⟨(y,z),⟨hg,hg'⟩,?_⟩
 have:cs.drop o=(cs.drop o).take n++cs.drop (o+n):=by rw[←List.drop_drop,gq]
 rw[this]
 exact hy.append hz
theorem SJ {t:TypeId} {fs:Array Field} {n:Nat} {enc:α→List IV} {good:α→Prop} (ht:P.underlying t=some (.struct fs)) (h:TRF P fs.toList 0 n enc good):TR P t n enc good:=by
 intro H en w base spare held fuel cs x hl hx
 obtain⟨xs,m,_,_,_,jD,hf⟩:=DataW.trod_struct ht hx
 obtain⟨y,hg,hy⟩:=h H en w base spare held m cs oM (fun f hm=>by
  obtain⟨i,hi⟩:=ey.1 hm
  have hi':fs[i]? = some f:=by simpa using hi
  have bB:i<xs.length:=by rw[jD];exact (bp.1 hi').1
  exact⟨_,(hf i f hi').trans (ae bB)⟩)
 exact⟨y,hg,by simpa using hy⟩
theorem TR.one {t:TypeId} {enc:α→IV} {good:α→Prop} (h:TR P t 1 (fun y=>[enc y]) good) {H:Type} {en:TypeId×Value→H} {w:World} {v:Value} {d:DataW H} {p:List MemPlace} {base:Nat} {spare:Nat→Bool} {held:Bool}
  (hv:v.cells=#[v]) (hT:DataW.Trod en P w base spare held t v d p):∃y,good y∧RepI w (Low w) (enc y) v:=by
 obtain⟨fuel,hf⟩:=hT
 rw[hv]at hf
 obtain⟨y,hg,hy⟩:=h H en w base spare held fuel [v] (d,p) rfl hf
 exact⟨y,hg,hy.2 0 _ _ rfl rfl⟩
theorem TR.agg {t:TypeId} {n:Nat} {enc:α→List IV} {good:α→Prop} (h:TR P t n enc good) {fs:Array Field} (hs:P.underlying t=some (.struct fs)) (hC:P.cellsOf t=n) {H:Type} {en:TypeId×Value→H} {w:World} {v:Value} {d:DataW H} {p:List MemPlace} {base b0:Nat} {r:Reach} {spare:Nat→Bool} {held:Bool}
  (hv:Value.okWide P w r b0 t v) (hT:DataW.Trod en P w base spare held t v d p):∃y,good y∧RepA w (Low w) (fun _ _=>none) (.agg ((enc y).map .v)) v:=by
 obtain⟨cs,rfl,NN⟩:=okWide_struct hs hv
 obtain⟨fuel,hf⟩:=hT
 obtain⟨y,hg,hy⟩:=h H en w base spare held fuel _ (d,p) (by simpa [Value.cells] using NN.trans hC) hf
 exact⟨y,hg,bA.agg hy.repL⟩
end
end Go.Proofs.YtadnnjchehjbiaaGreatDoor
namespace Go.Proofs.YtadnnjchehjbiaaGreatDoor
open Go.RowKit
set_option linter.unusedVariables false
theorem JL:TR Tryz.prog 3 1 (fun n:Int=>[.int .i64 n]) (fun n=>(Lit.int .i64 n).wf=true):=ZDC Tryz.underlying3
theorem trn_b:TR Tryz.prog 4 1 (fun n:Bool=>[.bool n]) (fun _=>True):=ZE4 Tryz.underlying4
theorem lS:TR Tryz.prog 24 1 (fun c:List Int=>[.isl 1 (c.map eI)]) (fun c=>c.length≤maxLen):=(LJ JL Tryz.underlying24 kK kE).map id (fun _=>rfl) (fun _ h=>h.1)
theorem ZE3:TR Tryz.prog 79 2 eFt (fun _=>True):=
 (SJ Tryz.underlying79 (lD JL kK rfl (lD JL kK rfl SO))).map (fun y=>(y.1,y.2.1)) (fun _=>rfl) (fun _ _=>trivial)
theorem fY:TR Tryz.prog 25 1 (fun l:List (Int×Int)=>[.isl 2 (l.map eFt)]) (fun l=>l.length≤maxLen):=
 (LJ ZE3 Tryz.underlying25 kK kE).map id (fun _=>rfl) (fun _ h=>h.1)
theorem ZHK:TR Tryz.prog 90 4 eMs (fun m=>m.body.length≤maxLen):=
 (SJ Tryz.underlying90 (lD JL kK rfl (lD JL kK rfl (lD JL kK rfl (lD lS kK rfl SO))))).map
  (fun y=>⟨y.1,y.2.1,y.2.2.1,y.2.2.2.1⟩) (fun _=>rfl) (fun _ h=>h.2.2.2.1)
theorem ZE1:TR Tryz.prog 23 1 (fun l:List Ms=>[.isl 4 (l.map eMs)]) (fun l=>l.length≤maxLen∧∀m∈l,m.body.length≤maxLen):=
 LJ ZHK Tryz.underlying23 kK kE
theorem ZDB:TR Tryz.prog 27 5 eNw (fun n=>(Lit.int .i64 n.now).wf=true∧n.l.length≤maxLen∧n.tm.length≤maxLen∧n.fates.length≤maxLen):=
 (SJ Tryz.underlying27 (lD JL kK rfl (lD trn_b kK rfl (lD ZE1 kK rfl (lD lS kK rfl (lD fY kK rfl SO)))))).map
  (fun y=>⟨y.1,y.2.1,y.2.2.1,y.2.2.2.1,y.2.2.2.2.1⟩) (fun _=>rfl) (fun _ h=>⟨h.1,h.2.2.1.1,h.2.2.2.1,h.2.2.2.2.1⟩)
def OkPr (p:Pr):Prop:=(p.name.size≤maxLen∧∀v∈p.vars,v.name.size≤maxLen)∧p.vars.length≤maxLen∧p.evs.length≤maxLen
def OkTr (t:Tr):Prop:=t.length≤maxLen∧∀p∈t,OkPr p
theorem OkTr.nm {t:Tr} (h:OkTr t):Nm t:=fun p hp=>(h.2 p hp).1
theorem SU:maxLen=9223372036854775807:=by decide
theorem trx_s:TR Tryz.prog 9 1 (fun s:ByteArray=>[.str s]) (fun s=>s.size≤maxLen):=c8 Tryz.underlying9
theorem ZHL:TR Tryz.prog 83 3 eIn (fun _=>True):=
 (SJ Tryz.underlying83 (lD JL kK rfl (lD JL kK rfl (lD JL kK rfl SO)))).map (fun y=>⟨y.1,y.2.1,y.2.2.1⟩) (fun _=>rfl) (fun _ _=>trivial)
theorem ZE2:TR Tryz.prog 71 1 (fun l:List In=>[.isl 3 (l.map eIn)]) (fun l=>l.length≤maxLen):=
 (LJ ZHL Tryz.underlying71 kK kE).map id (fun _=>rfl) (fun _ h=>h.1)
def OkSv (s:Sv):Prop:=s.name.size≤maxLen∧s.code.length≤maxLen∧s.vars.length≤maxLen
theorem tr_sv:TR Tryz.prog 73 6 eSv OkSv:=
 (SJ Tryz.underlying73 (lD trx_s kK rfl (lD ZE2 kK rfl (lD JL kK rfl (lD lS kK rfl (lD JL kK rfl (lD JL kK rfl SO))))))).map
  (fun y=>⟨y.1,y.2.1,y.2.2.1,y.2.2.2.1,y.2.2.2.2.1,y.2.2.2.2.2.1⟩) (fun _=>rfl) (fun _ h=>⟨h.1,h.2.1,h.2.2.2.1⟩)
theorem K5:TR Tryz.prog 22 1 (fun l:List Sv=>[.isl 6 (l.map eSv)]) (fun l=>l.length≤maxLen∧∀s∈l,OkSv s):=
 LJ tr_sv Tryz.underlying22 kK kE
def ZB6 (w:Wd):Prop:=((w.sv.length≤maxLen∧∀s∈w.sv,OkSv s)∧(w.net.l.length≤maxLen∧w.net.tm.length≤maxLen∧w.net.fates.length≤maxLen))∧OkTr w.tr
theorem ZB6.nm {w:Wd} (h:ZB6 w):Nm w.tr:=h.2.nm
theorem ZB6.tl {w:Wd} (h:ZB6 w):w.tr.length≤9223372036854775807:=by have:=h.2.1;rwa [SU]at this
theorem ZB6.ev {w:Wd} (h:ZB6 w):∀x∈w.tr,x.evs.length≤9223372036854775807:=fun x hx=>by have:=(h.2.2 x hx).2.2;rwa [SU]at this
end Go.Proofs.YtadnnjchehjbiaaGreatDoor
namespace Go.Proofs.YtadnnjchehjbiaaGreatDoor
set_option linter.unusedVariables false
set_option linter.unusedSimpArgs false
attribute [local go_sem ↓] xB tA iB rB EB SA uB CB dB UC gA RA wB yA DA yB dA FA lB nA xA sB TA MA lA LA fA vB aA AB tB OB ZC LC VC FC EC OC VD
attribute [local go_sem] pA uA QD eA iA MC YC XC QC nG pG JC nB pB mB MB UA KB jA UB qA mA aop sD pC rC SB sC DB tC YG YE LD amm tD IB QB SD dC ED comma nC XE QG QE ZE SF DD GD eC RF eqC eqF DE cellsOf JB yD KD ID dF rd rdI wD mk iC AV.cell List.all_cons List.all_nil Bool.and_true Bool.true_and Bool.and_self List.length_cons List.length_nil List.length_append Nat.reduceAdd Nat.reduceSub Nat.reduceMul Nat.zero_add Nat.add_zero List.cons_append List.nil_append List.append_assoc List.append_nil List.getElem?_cons_zero List.getElem?_cons_succ List.getElem?_nil List.set_cons_zero List.set_cons_succ List.drop_zero List.drop_succ_cons List.take_zero List.take_succ_cons List.take_nil List.drop_nil List.map_cons List.map_nil Option.map_some if_true if_false Bool.false_eq_true and_self true_and and_true Nat.reduceLeDiff Nat.reduceLT Nat.le_refl Nat.reduceEqDiff ite_true ite_false beq_self_eq_true beq_true beq_false Bool.not_true Bool.not_false Bool.true_beq Bool.false_beq mD gC TB GC RC qC zC FB KC DC IC nD zB IH nH DH HH EE ME CE LE geI gtI AE decide_true decide_false room List.getElem?_map List.length_map List.length_take Int.toNat_natCast Nat.min_def Nat.min_self qE JE uE mC vE bG EA List.getElem_cons_zero List.getElem_cons_succ
abbrev oK:List AOper:=[oB 24 0 2,oC 25 24,oA 26 5,oE 27 3 25 26,⟨some 28,.load (some 3) (.t 27),none⟩,oB 29 0 3,oC 30 29,oA 31 5,oE 32 3 30 31,⟨some 33,.load (some 3) (.t 32),none⟩]
abbrev oL:List AOper:=[⟨some 4,.mv (.c (.v (.bool false))),none⟩]
def a_sTr:AFunc:=⟨2,94,[.tmp 4],(.seq (.region [⟨some 2,.box (.t 0),none⟩,⟨some 3,.box (.t 1),none⟩,⟨some 4,.mv (.c (.v (.bool false))),none⟩]) (.seq (.seq (.region [oB 10 0 2,oC 11 10,oF 12 11,oB 13 0 3,oC 14 13,oF 15 14,oD 16 12 15]) (.cond (.t 16) (.seq (.region oL) .ret) .skip)) (.seq (.seq (.region [⟨some 5,.mv (.c (.v (.int .i64 0))),none⟩]) (.block 0 (.loop (.seq (.seq (.region [oA 17 5,oB 18 0 2,oC 19 18,oF 20 19,⟨some 21,.bin .lss (.t 17) (.t 20),none⟩]) (.cond (.t 21) .skip (.exit 0))) (.seq (.block 1 (.seq (.draw [⟨0,oB 24 0 2,[]⟩,⟨1,oC 25 24,[]⟩,⟨2,oA 26 5,[]⟩,⟨3,oE 27 3 25 26,[]⟩,⟨4,⟨some 28,.load (some 3) (.t 27),none⟩,[]⟩,⟨5,oB 29 0 3,[]⟩,⟨6,oC 30 29,[]⟩,⟨7,oA 31 5,[]⟩,⟨8,oE 32 3 30 31,[]⟩,⟨9,⟨some 33,.load (some 3) (.t 32),none⟩,[]⟩,⟨10,⟨some 6,.alloc [(.v (.str ⟨#[]⟩)),(.v .zsl),(.v .zsl)],none⟩,oK⟩,⟨11,⟨some 7,.alloc [(.v (.str ⟨#[]⟩)),(.v .zsl),(.v .zsl)],none⟩,oK⟩,⟨12,⟨none,.store 3 (.t 6) (.t 28),none⟩,[oB 29 0 3,oC 30 29,oA 31 5,oE 32 3 30 31,⟨some 33,.load (some 3) (.t 32),none⟩]⟩,⟨13,⟨none,.store 3 (.t 7) (.t 33),none⟩,[]⟩]) (.seq (.seq (.region [oB 34 0 6,oC 35 34,oB 36 0 7,oC 37 36,⟨some 38,.binS .neq (.t 35) (.t 37),none⟩,oA 39 38,oB 40 1 6 (some (39,false)),oC 41 40 (some (39,false)),oF 42 41 (some (39,false)),oB 43 1 7 (some (39,false)),oC 44 43 (some (39,false)),oF 45 44 (some (39,false)),oD 46 42 45 (some (39,false)),⟨some 47,.pick (.t 39) (.c (.v (.bool true))) (.t 46),none⟩,oA 48 47,oB 49 2 6 (some (48,false)),oC 50 49 (some (48,false)),oF 51 50 (some (48,false)),oB 52 2 7 (some (48,false)),oC 53 52 (some (48,false)),oF 54 53 (some (48,false)),oD 55 51 54 (some (48,false)),⟨some 56,.pick (.t 48) (.c (.v (.bool true))) (.t 55),none⟩]) (.cond (.t 56) (.seq (.region oL) .ret) .skip)) (.seq (.seq (.region [⟨some 8,.mv (.c (.v (.int .i64 0))),none⟩]) (.block 2 (.loop (.seq (.seq (.region [oA 57 8,oB 58 1 6,oC 59 58,oF 60 59,⟨some 61,.bin .lss (.t 57) (.t 60),none⟩]) (.cond (.t 61) .skip (.exit 2))) (.seq (.block 3 (.seq (.draw [⟨0,oB 64 1 6,[]⟩,⟨1,oC 65 64,[]⟩,⟨2,oA 66 8,[]⟩,⟨3,oE 67 2 65 66,[]⟩,⟨4,⟨some 68,.load (some 2) (.t 67),none⟩,[]⟩,⟨5,oB 69 1 7,[]⟩,⟨6,oC 70 69,[]⟩,⟨7,oA 71 8,[]⟩,⟨8,oE 72 2 70 71,[]⟩,⟨9,⟨some 73,.load (some 2) (.t 72),none⟩,[]⟩,⟨10,⟨some 74,.eqs true [.s,.i] (.t 68) (.t 73),none⟩,[]⟩]) (.cond (.t 74) (.seq (.region oL) .ret) .skip))) (.region [oA 62 8,⟨some 63,.bin .add (.t 62) (.c (.v (.int .i64 1))),none⟩,oA 8 63])))))) (.seq (.region [⟨some 9,.mv (.c (.v (.int .i64 0))),none⟩]) (.block 4 (.loop (.seq (.seq (.region [oA 75 9,oB 76 2 6,oC 77 76,oF 78 77,⟨some 79,.bin .lss (.t 75) (.t 78),none⟩]) (.cond (.t 79) .skip (.exit 4))) (.seq (.block 5 (.seq (.draw [⟨0,oB 82 2 6,[]⟩,⟨1,oC 83 82,[]⟩,⟨2,oA 84 9,[]⟩,⟨3,oE 85 5 83 84,[]⟩,⟨4,⟨some 86,.load (some 5) (.t 85),none⟩,[]⟩,⟨5,oB 87 2 7,[]⟩,⟨6,oC 88 87,[]⟩,⟨7,oA 89 9,[]⟩,⟨8,oE 90 5 88 89,[]⟩,⟨9,⟨some 91,.load (some 5) (.t 90),none⟩,[]⟩,⟨10,⟨some 92,.call (.c (.fn 50 [])) [(.t 86),(.t 91)],none⟩,[]⟩,⟨11,⟨some 93,.not (.t 92),none⟩,[]⟩]) (.cond (.t 93) (.seq (.region oL) .ret) .skip))) (.region [oA 80 9,⟨some 81,.bin .add (.t 80) (.c (.v (.int .i64 1))),none⟩,oA 9 81])))))))))) (.region [oA 22 5,⟨some 23,.bin .add (.t 22) (.c (.v (.int .i64 1))),none⟩,oA 5 23])))))) (.seq (.region [⟨some 4,.mv (.c (.v (.bool true))),none⟩]) .ret))))⟩
theorem ZCj:CA Tryz.prog 18=some a_sTr:=by kernel_rfl
def ZDJ:List (Nat×Nat):=[(4,9),(17,93)]
def ZDI:List (Nat×Nat):=[(4,4),(8,8),(57,74)]
def ZDH:List (Nat×Nat):=[(4,4),(9,9),(75,93)]
abbrev oN:List AOper:=[⟨some 4,.mv (.c (.v (.bool false))),none⟩]
def a_sEv:AFunc:=⟨2,59,[.tmp 4],(.seq (.region [⟨some 2,.box (.t 0),none⟩,⟨some 3,.box (.t 1),none⟩,⟨some 4,.mv (.c (.v (.bool false))),none⟩]) (.seq (.seq (.region [oB 6 0 2,oC 7 6,oB 8 0 3,oC 9 8,oD 10 7 9,oA 11 10,oB 12 1 2 (some (11,false)),oC 13 12 (some (11,false)),oB 14 1 3 (some (11,false)),oC 15 14 (some (11,false)),oD 16 13 15 (some (11,false)),⟨some 17,.pick (.t 11) (.c (.v (.bool true))) (.t 16),none⟩,oA 18 17,oB 19 2 2 (some (18,false)),oC 20 19 (some (18,false)),oB 21 2 3 (some (18,false)),oC 22 21 (some (18,false)),oD 23 20 22 (some (18,false)),⟨some 24,.pick (.t 18) (.c (.v (.bool true))) (.t 23),none⟩,oA 25 24,oB 26 3 2 (some (25,false)),oC 27 26 (some (25,false)),oB 28 3 3 (some (25,false)),oC 29 28 (some (25,false)),oD 30 27 29 (some (25,false)),⟨some 31,.pick (.t 25) (.c (.v (.bool true))) (.t 30),none⟩,oA 32 31,oB 33 4 2 (some (32,false)),oC 34 33 (some (32,false)),oF 35 34 (some (32,false)),oB 36 4 3 (some (32,false)),oC 37 36 (some (32,false)),oF 38 37 (some (32,false)),oD 39 35 38 (some (32,false)),⟨some 40,.pick (.t 32) (.c (.v (.bool true))) (.t 39),none⟩]) (.cond (.t 40) (.seq (.region oN) .ret) .skip)) (.seq (.seq (.region [⟨some 5,.mv (.c (.v (.int .i64 0))),none⟩]) (.block 0 (.loop (.seq (.seq (.region [oA 41 5,oB 42 4 2,oC 43 42,oF 44 43,⟨some 45,.bin .lss (.t 41) (.t 44),none⟩]) (.cond (.t 45) .skip (.exit 0))) (.seq (.block 1 (.seq (.draw [⟨0,oB 48 4 2,[]⟩,⟨1,oC 49 48,[]⟩,⟨2,oA 50 5,[]⟩,⟨3,oE 51 2 49 50,[]⟩,⟨4,⟨some 52,.load (some 2) (.t 51),none⟩,[]⟩,⟨5,oB 53 4 3,[]⟩,⟨6,oC 54 53,[]⟩,⟨7,oA 55 5,[]⟩,⟨8,oE 56 2 54 55,[]⟩,⟨9,⟨some 57,.load (some 2) (.t 56),none⟩,[]⟩,⟨10,⟨some 58,.eqs true [.i,.i] (.t 52) (.t 57),none⟩,[]⟩]) (.cond (.t 58) (.seq (.region oN) .ret) .skip))) (.region [oA 46 5,⟨some 47,.bin .add (.t 46) (.c (.v (.int .i64 1))),none⟩,oA 5 47])))))) (.seq (.region [⟨some 4,.mv (.c (.v (.bool true))),none⟩]) .ret))))⟩
theorem ZCm:CA Tryz.prog 50=some a_sEv:=by kernel_rfl
def ZDO:List (Nat×Nat):=[(4,5),(41,58)]

theorem QX (s:ByteArray):(s==s)=true:=by
 cases s with
 |mk d=>show (d==d)=true;exact dw d
theorem ZBp (x:Ev) (hx:x.asg.length≤1000000) (b l:List Row):ZA Tryz.prog 50 [.agg ((eEv x).map .v),.agg ((eEv x).map .v)] b l (fun r b' l'=>r=.v (.bool true)∧b'=b∧l'=l):=by
 refine XA ZCm rfl kE ?_
 intro B g hB hR hE hA;simp only[EA]at hA
 have ne:∀n:Int,(n != n)=false:=by simp
 simp only[eEv,ba,bl]at hA
 simp (disch:=first|decide|omega) only[a_sEv,hA,ne,aa,go_sem]
 refine ZB (ι:=Nat) ZDO (fun i=>[(5,.v (.int .i64 i))]) 2 (fun _=>[.live 0 5 [(zEA x)],.live 0 5 [(zEA x)]])
  (fun i=>i≤x.asg.length) (fun i=>x.asg.length-i) 0 (an _) kM kA kF ?_
 intro g1 aI bI aC i hi
 by_cases bB:i<x.asg.length
 ·simp (disch:=first|decide|omega) only[hA,aC,ne,YN,aa,go_sem]
  refine⟨i+1,bB,by simp only;omega,?_⟩
  exact KA.kround (p:=ZDO) (k:=2) kQ kA rfl aI kS kV hR kL
 ·simp (disch:=first|decide|omega) only[hA,aC,aa,go_sem]
  exact QA (xs:=[.v (.bool true)])
theorem bS (t:Tr) (hS:Small t) (b l:List Row):ZA Tryz.prog 18 [.agg [.v (eT t)],.agg [.v (eT t)]] b l (fun r b' l'=>r=.v (.bool true)∧b'=b∧l'=l):=by
 refine XA ZCj rfl kE ?_
 intro B g hB hR hE hA;simp only[EA]at hA
 have hnp:=hS.np
 have ne:∀n:Int,(n != n)=false:=by simp
 have eTe:eT t=.isl 3 (t.map ePr):=rfl
 simp only[eTe]at hA
 simp (disch:=first|decide|omega) only[a_sTr,hA,ne,aa,go_sem]
 refine ZB (ι:=Nat) ZDJ (fun i=>[(5,.v (.int .i64 i))]) 2 (fun _=>[(zTA t),(zTA t)])
  (fun i=>i≤t.length) (fun i=>t.length-i) 0 (an _) kM kA kF ?_
 intro g1 aI bI aC i hi
 by_cases bB:i<t.length
 ·have hnv:=hS.nv _ (ap bB)
  have YH:=hS.ne _ (ap bB)
  have hna:=hS.na _ (ap bB)
  simp (disch:=first|decide|omega) only[hA,aC,ePr,ne,QX,aa,go_sem]
  refine ZB (ι:=Nat) ZDI (fun i=>[(8,.v (.int .i64 i))]) 4 (fun _=>[(zTA t),(zTA t),.live 0 3 [[.v (.str t[i].name),.v (.isl 2 (t[i].vars.map eVr)),.v (.isl 5 (t[i].evs.map eEv))]],.live 0 3 [[.v (.str t[i].name),.v (.isl 2 (t[i].vars.map eVr)),.v (.isl 5 (t[i].evs.map eEv))]]])
   (fun j=>j≤t[i].vars.length) (fun j=>t[i].vars.length-j) 0 (an _) kM kA kF ?_
  intro g2 UP ZB9 NI j hj
  by_cases hjv:j<t[i].vars.length
  ·simp (disch:=first|decide|omega) only[hA,aC,NI,eVr,ne,QX,aa,go_sem]
   refine⟨j+1,hjv,by simp only;omega,?_⟩
   exact KA.kround (p:=ZDI) (k:=4) kQ kA rfl UP kS kV hR kL
  simp (disch:=first|decide|omega) only[hA,aC,NI,aa,go_sem]
  refine ZB (ι:=Nat) ZDH (fun i=>[(9,.v (.int .i64 i))]) 4 (fun _=>[(zTA t),(zTA t),.live 0 3 [[.v (.str t[i].name),.v (.isl 2 (t[i].vars.map eVr)),.v (.isl 5 (t[i].evs.map eEv))]],.live 0 3 [[.v (.str t[i].name),.v (.isl 2 (t[i].vars.map eVr)),.v (.isl 5 (t[i].evs.map eEv))]]])
   (fun j=>j≤t[i].evs.length) (fun j=>t[i].evs.length-j) 0 (an _) kM kA kF ?_
  intro g3 hE3 hEE3 IQ j hj
  by_cases hjv:j<t[i].evs.length
  ·have cE:=fun b l=>ZBp t[i].evs[j] (hna _ (ap hjv)) b l
   simp only[eEv,ba,bl]at cE
   simp (disch:=first|decide|omega) only[hA,aC,NI,IQ,eEv,aa,go_sem]
   refine ZA.nxt (cE _ _) ?_
   simp (disch:=first|decide|omega) only[hA,aC,NI,IQ,go_sem]
   refine⟨j+1,hjv,by simp only;omega,?_⟩
   exact KA.kround (p:=ZDH) (k:=4) kQ kA rfl hE3 kS kV hR kL
  ·simp (disch:=first|decide|omega) only[hA,aC,NI,IQ,aa,go_sem]
   refine⟨i+1,bB,by simp only;omega,?_⟩
   exact KA.kround (p:=ZDJ) (k:=2) kQ kA rfl aI kS kV hR kL
 ·simp (disch:=first|decide|omega) only[hA,aC,aa,go_sem]
  exact QA (xs:=[.v (.bool true)])
abbrev oO:List AOper:=[⟨some 4,.mv (.c (.v (.bool false))),none⟩]
def a_sSvc:AFunc:=⟨2,87,[.tmp 4],(.seq (.region [⟨some 2,.box (.t 0),none⟩,⟨some 3,.box (.t 1),none⟩,⟨some 4,.mv (.c (.v (.bool false))),none⟩]) (.seq (.seq (.region [oB 7 0 2,oC 8 7,oB 9 0 3,oC 10 9,⟨some 11,.binS .neq (.t 8) (.t 10),none⟩,oA 12 11,oB 13 2 2 (some (12,false)),oC 14 13 (some (12,false)),oB 15 2 3 (some (12,false)),oC 16 15 (some (12,false)),oD 17 14 16 (some (12,false)),⟨some 18,.pick (.t 12) (.c (.v (.bool true))) (.t 17),none⟩,oA 19 18,oB 20 4 2 (some (19,false)),oC 21 20 (some (19,false)),oB 22 4 3 (some (19,false)),oC 23 22 (some (19,false)),oD 24 21 23 (some (19,false)),⟨some 25,.pick (.t 19) (.c (.v (.bool true))) (.t 24),none⟩,oA 26 25,oB 27 5 2 (some (26,false)),oC 28 27 (some (26,false)),oB 29 5 3 (some (26,false)),oC 30 29 (some (26,false)),oD 31 28 30 (some (26,false)),⟨some 32,.pick (.t 26) (.c (.v (.bool true))) (.t 31),none⟩,oA 33 32,oB 34 1 2 (some (33,false)),oC 35 34 (some (33,false)),oF 36 35 (some (33,false)),oB 37 1 3 (some (33,false)),oC 38 37 (some (33,false)),oF 39 38 (some (33,false)),oD 40 36 39 (some (33,false)),⟨some 41,.pick (.t 33) (.c (.v (.bool true))) (.t 40),none⟩,oA 42 41,oB 43 3 2 (some (42,false)),oC 44 43 (some (42,false)),oF 45 44 (some (42,false)),oB 46 3 3 (some (42,false)),oC 47 46 (some (42,false)),oF 48 47 (some (42,false)),oD 49 45 48 (some (42,false)),⟨some 50,.pick (.t 42) (.c (.v (.bool true))) (.t 49),none⟩]) (.cond (.t 50) (.seq (.region oO) .ret) .skip)) (.seq (.seq (.region [⟨some 5,.mv (.c (.v (.int .i64 0))),none⟩]) (.block 0 (.loop (.seq (.seq (.region [oA 51 5,oB 52 1 2,oC 53 52,oF 54 53,⟨some 55,.bin .lss (.t 51) (.t 54),none⟩]) (.cond (.t 55) .skip (.exit 0))) (.seq (.block 1 (.seq (.draw [⟨0,oB 58 1 2,[]⟩,⟨1,oC 59 58,[]⟩,⟨2,oA 60 5,[]⟩,⟨3,oE 61 3 59 60,[]⟩,⟨4,⟨some 62,.load (some 3) (.t 61),none⟩,[]⟩,⟨5,oB 63 1 3,[]⟩,⟨6,oC 64 63,[]⟩,⟨7,oA 65 5,[]⟩,⟨8,oE 66 3 64 65,[]⟩,⟨9,⟨some 67,.load (some 3) (.t 66),none⟩,[]⟩,⟨10,⟨some 68,.eqs true [.i,.i,.i] (.t 62) (.t 67),none⟩,[]⟩]) (.cond (.t 68) (.seq (.region oO) .ret) .skip))) (.region [oA 56 5,⟨some 57,.bin .add (.t 56) (.c (.v (.int .i64 1))),none⟩,oA 5 57])))))) (.seq (.seq (.region [⟨some 6,.mv (.c (.v (.int .i64 0))),none⟩]) (.block 2 (.loop (.seq (.seq (.region [oA 69 6,oB 70 3 2,oC 71 70,oF 72 71,⟨some 73,.bin .lss (.t 69) (.t 72),none⟩]) (.cond (.t 73) .skip (.exit 2))) (.seq (.block 3 (.seq (.draw [⟨0,oB 76 3 2,[]⟩,⟨1,oC 77 76,[]⟩,⟨2,oA 78 6,[]⟩,⟨3,oE 79 1 77 78,[]⟩,⟨4,oC 80 79,[]⟩,⟨5,oB 81 3 3,[]⟩,⟨6,oC 82 81,[]⟩,⟨7,oA 83 6,[]⟩,⟨8,oE 84 1 82 83,[]⟩,⟨9,oC 85 84,[]⟩,⟨10,oD 86 80 85,[]⟩]) (.cond (.t 86) (.seq (.region oO) .ret) .skip))) (.region [oA 74 6,⟨some 75,.bin .add (.t 74) (.c (.v (.int .i64 1))),none⟩,oA 6 75])))))) (.seq (.region [⟨some 4,.mv (.c (.v (.bool true))),none⟩]) .ret)))))⟩
theorem ZAP:CA Tryz.prog 82=some a_sSvc:=by kernel_rfl
def Z7:List (Nat×Nat):=[(4,5),(51,68)]
def O6:List (Nat×Nat):=[(4,4),(6,6),(69,86)]
def a_sWd:AFunc:=({c:=_}:CF Tryz.prog 44).c
theorem ZCi:CA Tryz.prog 44=some a_sWd:=by kernel_rfl
def ZDG:List (Nat×Nat):=[(4,5),(43,61)]
def a_noneW:AFunc:=({c:=_}:CF Tryz.prog 14).c
theorem J4:CA Tryz.prog 14=some a_noneW:=by kernel_rfl

theorem neS (s:ByteArray):(s != s)=false:=by
 show (!(s==s))=false
 rw[QX];rfl
theorem M8 (s:Sv) (hS:SvS s) (b l:List Row):ZA Tryz.prog 82 [.agg ((eSv s).map .v),.agg ((eSv s).map .v)] b l (fun r b' l'=>r=.v (.bool true)∧b'=b∧l'=l):=by
 refine XA ZAP rfl kE ?_
 intro B g hB hR hE hA;simp only[EA]at hA
 have heS:(eSv s).map AV.v=(zSA s):=rfl
 rw[heS]at hA
 have EP:=hS.code
 have QW:=hS.vars
 simp (disch:=first|decide|omega) only[a_sSvc,hA,neI,neS,QX,aa,go_sem]
 refine ZB (ι:=Nat) Z7 (fun i=>[(5,.v (.int .i64 i))]) 2 (fun _=>[.live 0 6 [(zSA s)],.live 0 6 [(zSA s)]])
  (fun i=>i≤s.code.length) (fun i=>s.code.length-i) 0 (an _) kM kA kF ?_
 intro g1 aI bI aC i hi
 by_cases bB:i<s.code.length
 ·have GM:=LO bB
  simp (disch:=first|decide|omega) only[hA,aC,GM,neI,aa,go_sem]
  refine⟨i+1,bB,by simp only;omega,?_⟩
  exact KA.kround (p:=Z7) (k:=2) kQ kA rfl aI kS kV hR kL
 obtain rfl:i=s.code.length:=by omega
 simp (disch:=first|decide|omega) only[hA,aC,aa,go_sem]
 refine ZB (ι:=Nat) O6 (fun i=>[(6,.v (.int .i64 i))]) 2 (fun _=>[.live 0 6 [(zSA s)],.live 0 6 [(zSA s)]])
  (fun i=>i≤s.vars.length) (fun i=>s.vars.length-i) 0 (an _) kM kA kF ?_
 intro g2 UP ZB9 NI i hi
 by_cases bB:i<s.vars.length
 ·have GM:=NG bB
  simp (disch:=first|decide|omega) only[hA,aC,NI,GM,neI,aa,go_sem]
  refine⟨i+1,bB,by simp only;omega,?_⟩
  exact KA.kround (p:=O6) (k:=2) kQ kA rfl UP kS kV hR kL
 obtain rfl:i=s.vars.length:=by omega
 simp (disch:=first|decide|omega) only[hA,aC,NI,aa,go_sem]
 exact QA (xs:=[.v (.bool true)])
theorem GY (w:Wd) (hS:Small w.tr) (rT:SvsS w.sv) (hSn:NwS w.net) (b l:List Row):ZA Tryz.prog 44 [.agg ((eWd w).map .v),.agg ((eWd w).map .v)] b l (fun r b' l'=>r=.v (.bool true)∧b'=b∧l'=l):=by
 refine XA ZCi rfl kE ?_
 intro B g hB hR hE hA;simp only[EA]at hA
 have mY:(eWd w).map AV.v=(zWA w):=rfl
 rw[mY]at hA
 have tY:=rT.len
 have cN:=fun b l=>ZBn w.net hSn b l
 simp only[eNw,ba,bl]at cN
 have cT:=fun b l=>bS w.tr hS b l
 simp only[eT]at cT
 simp (disch:=first|decide|omega) only[a_sWd,hA,neI,aa,go_sem]
 refine ZA.nxt (cN _ _) ?_
 simp (disch:=first|decide|omega) only[hA,neI,aa,go_sem]
 refine ZA.nxt (cT _ _) ?_
 simp (disch:=first|decide|omega) only[hA,neI,aa,go_sem]
 refine ZB (ι:=Nat) ZDG (fun i=>[(5,.v (.int .i64 i))]) 2 (fun _=>[.live 0 9 [(eWd w).map .v],.live 0 9 [(eWd w).map .v]])
  (fun i=>i≤w.sv.length) (fun i=>w.sv.length-i) 0 (an _) kM kA kF ?_
 intro g1 aI bI aC i hi
 rw[mY]
 by_cases bB:i<w.sv.length
 ·have GM:=ZL bB
  have cS:=fun b l=>M8 w.sv[i] (rT.all _ (ap bB)) b l
  simp only[eSv,ba,bl]at cS
  simp (disch:=first|decide|omega) only[hA,aC,GM,neI,aa,go_sem]
  refine ZA.nxt (cS _ _) ?_
  simp (disch:=first|decide|omega) only[hA,aC,GM,neI,aa,go_sem]
  refine⟨i+1,bB,by simp only;omega,?_⟩
  simp only[mY]
  exact KA.kround (p:=ZDG) (k:=2) kQ kA rfl aI kS kV hR kL
 obtain rfl:i=w.sv.length:=by omega
 simp (disch:=first|decide|omega) only[hA,aC,aa,go_sem]
 exact QA (xs:=[.v (.bool true)])
theorem t9 (b l:List Row):ZA Tryz.prog 14 [.agg ((eWd wd0).map .v)] b l (fun r b' l'=>r=.v (.bool true)∧b'=b∧l'=l):=by
 refine XA J4 rfl kE ?_
 intro B g hB hR hE hA;simp only[EA]at hA
 have mY:(eWd wd0).map AV.v=[.v (.isl 6 []),.v (.int .i64 0),.v (.bool false),.v (.isl 4 []),.v (.isl 1 []),.v (.isl 2 []),.v (.int .i64 0),.v (.int .i64 0),.v (.isl 3 [])]:=rfl
 rw[mY]at hA
 have cS:∀b l,ZA Tryz.prog 44 [.agg [.v (.isl 6 []),.v (.int .i64 0),.v (.bool false),.v (.isl 4 []),.v (.isl 1 []),.v (.isl 2 []),.v (.int .i64 0),.v (.int .i64 0),.v (.isl 3 [])],.agg zZA] b l (fun r b' l'=>r=.v (.bool true)∧b'=b∧l'=l):=fun b l=>by
  refine (GY wd0 ⟨by simp[wd0],by simp[wd0],by simp[wd0],by simp[wd0]⟩ ⟨by simp[wd0],by simp[wd0]⟩ ⟨by simp[wd0,nw0],by simp[wd0,nw0],by simp[wd0,nw0],by simp[wd0,nw0]⟩ b l).le rfl (fun i x y hx hy=>?_)
  match i,hx,hy with
  |0,hx,hy=>cases hx;cases hy;rw[mY];exact .refl _
  |1,hx,hy =>
    cases hx;cases hy
    rw[mY]
    refine .agg _ _ rfl (fun j u v hu hv=>?_)
    match j,hu,hv with
    |0,hu,hv=>cases hu;cases hv;exact .v _ _ (.zsl 6)
    |1,hu,hv=>cases hu;cases hv;exact .refl _
    |2,hu,hv=>cases hu;cases hv;exact .refl _
    |3,hu,hv=>cases hu;cases hv;exact .v _ _ (.zsl 4)
    |4,hu,hv=>cases hu;cases hv;exact .v _ _ (.zsl 1)
    |5,hu,hv=>cases hu;cases hv;exact .v _ _ (.zsl 2)
    |6,hu,hv=>cases hu;cases hv;exact .refl _
    |7,hu,hv=>cases hu;cases hv;exact .refl _
    |8,hu,hv=>cases hu;cases hv;exact .v _ _ (.zsl 3)
 simp (disch:=first|decide|omega) only[a_noneW,hA,cellsOf,go_sem]
 refine ZA.nxt (cS _ _) ?_
 simp (disch:=first|decide|omega) only[hA,go_sem]
 exact QA (xs:=[.v (.bool true)])
def a_svc54:AFunc:=({c:=_}:CF Tryz.prog 7).c
theorem Y4:CA Tryz.prog 7=some a_svc54:=by kernel_rfl
def a_svc541:AFunc:=({c:=_}:CF Tryz.prog 33).c
theorem qY:CA Tryz.prog 33=some a_svc541:=by kernel_rfl
def a_net54:AFunc:=({c:=_}:CF Tryz.prog 8).c
theorem i4:CA Tryz.prog 8=some a_net54:=by kernel_rfl
def a_net541:AFunc:=({c:=_}:CF Tryz.prog 35).c
theorem yY:CA Tryz.prog 35=some a_net541:=by kernel_rfl

def BQ (s:Sv):Bool:=decide (110<s.code.length)||(decide (12<s.vars.length)||decide (40<s.name.size))
def SP (m:Ms):Bool:=decide (30<m.body.length)
def DM (l:List Sv):Bool:=decide (l.length≤10)&&!((List.range l.length).any fun j=>BQ (l.getD j dfSv))
def jL (n:Nw):Bool:=decide (n.l.length≤40)&&(decide (n.tm.length≤40)&&(decide (n.fates.length≤40)&&!((List.range n.l.length).any fun j=>SP (n.l.getD j dfMs))))
theorem sX (s:Sv) (b l:List Row):ZA Tryz.prog 33 [.agg ((eSv s).map .v)] b l (fun r b' l'=>r=.v (.bool (BQ s))∧b'=b∧l'=l):=by
 refine XA qY rfl kE ?_
 intro B g hB hR hE hA;simp only[EA]at hA
 have d0:decide ((s.name.size:Int)>40)=decide (40<s.name.size):=by rw[jd];simp;omega
 have d0':decide ((40:Int)<s.name.size)=decide (40<s.name.size):=d0
 by_cases h1:110<s.code.length
 ·have d1:decide ((s.code.length:Int)>110)=true:=ag oM
  have d1':decide ((110:Int)<(s.code.length:Int))=true:=d1
  simp (disch:=first|decide|omega) only[a_svc541,hA,eSv,d1,d1',go_sem]
  exact QA (xs:=[.v (.bool true)]) ⟨by unfold BQ;rw[ag h1];rfl,rfl,rfl⟩
 have d1:decide ((s.code.length:Int)>110)=false:=ak oM
 have d1':decide ((110:Int)<(s.code.length:Int))=false:=d1
 by_cases h2:12<s.vars.length
 ·have d2:decide ((s.vars.length:Int)>12)=true:=ag oM
  have d2':decide ((12:Int)<(s.vars.length:Int))=true:=d2
  simp (disch:=first|decide|omega) only[a_svc541,hA,eSv,d1,d1',d2,d2',go_sem]
  exact QA (xs:=[.v (.bool true)]) ⟨by unfold BQ;rw[ag h2];simp[one],rfl,rfl⟩
 have d2:decide ((s.vars.length:Int)>12)=false:=ak oM
 have d2':decide ((12:Int)<(s.vars.length:Int))=false:=d2
 simp (disch:=first|decide|omega) only[a_svc541,hA,eSv,d1,d1',d2,d2',d0,d0',go_sem]
 exact QA (xs:=[.v (.bool (decide (40<s.name.size)))]) ⟨by unfold BQ;rw[ak h1,ak h2];rfl,rfl,rfl⟩
theorem IX (m:Ms) (b l:List Row):ZA Tryz.prog 35 [.agg ((eMs m).map .v)] b l (fun r b' l'=>r=.v (.bool (SP m))∧b'=b∧l'=l):=by
 refine XA yY rfl kE ?_
 intro B g hB hR hE hA;simp only[EA]at hA
 have hd:decide ((m.body.length:Int)>30)=SP m:=by unfold SP;rw[jd];simp;omega
 have hd':decide ((30:Int)<(m.body.length:Int))=SP m:=hd
 simp (disch:=first|decide|omega) only[a_net541,hA,eMs,hd,hd',go_sem]
 exact QA (xs:=[.v (.bool (SP m))])
theorem pN (L:List Sv) (b l:List Row):ZA Tryz.prog 7 [.v (.isl 6 (L.map eSv))] b l (fun r b' l'=>r=.v (.bool (DM L))∧b'=b∧l'=l):=by
 refine XA Y4 rfl kE ?_
 intro B g hB hR hE hA;simp only[EA]at hA
 by_cases h1:L.length≤10
 case neg =>
  have d1:decide ((L.length:Int)≤10)=false:=ak oM
  simp (disch:=first|decide|omega) only[a_svc54,hA,d1,go_sem]
  exact QA (xs:=[.v (.bool false)]) ⟨by unfold DM;rw[ak h1];rfl,rfl,rfl⟩
 have d1:decide ((L.length:Int)≤10)=true:=ag oM
 have cC:=fun B0 l0=>zE IK GK (L.map eSv) 33 [] (fun j=>BQ (L.getD j dfSv)) rR (by rw[aa];omega) B0 l0 (fun j row hj=>by
  have fG:j<L.length:=by have:=(aj.1 hj).1;rwa [aa]at this
  rw[ai,ae fG]at hj
  cases hj
  simp only[YA fG]
  exact sX _ _ _)
 rw[aa]at cC
 simp (disch:=first|decide|omega) only[a_svc54,hA,d1,go_sem]
 refine ZA.nxt (cC _ _) ?_
 simp (disch:=first|decide|omega) only[hA,go_sem]
 exact QA (xs:=[.v (.bool (!(List.range L.length).any fun j=>BQ (L.getD j dfSv)))]) ⟨by unfold DM;rw[ag h1];rfl,rfl,rfl⟩
theorem CR (n:Nw) (b l:List Row):ZA Tryz.prog 8 [.agg ((eNw n).map .v)] b l (fun r b' l'=>r=.v (.bool (jL n))∧b'=b∧l'=l):=by
 refine XA i4 rfl kE ?_
 intro B g hB hR hE hA;simp only[EA]at hA
 have heN:(eNw n).map AV.v=(zNA n):=rfl
 rw[heN]at hA
 by_cases h1:n.l.length≤40
 case neg =>
  have d1:decide ((n.l.length:Int)≤40)=false:=ak oM
  simp (disch:=first|decide|omega) only[a_net54,hA,d1,go_sem]
  exact QA (xs:=[.v (.bool false)]) ⟨by unfold jL;rw[ak h1];rfl,rfl,rfl⟩
 have d1:decide ((n.l.length:Int)≤40)=true:=ag oM
 by_cases h2:n.tm.length≤40
 case neg =>
  have d2:decide ((n.tm.length:Int)≤40)=false:=ak oM
  simp (disch:=first|decide|omega) only[a_net54,hA,d1,d2,go_sem]
  exact QA (xs:=[.v (.bool false)]) ⟨by unfold jL;rw[ag h1,ak h2];rfl,rfl,rfl⟩
 have d2:decide ((n.tm.length:Int)≤40)=true:=ag oM
 by_cases h3:n.fates.length≤40
 case neg =>
  have d3:decide ((n.fates.length:Int)≤40)=false:=ak oM
  simp (disch:=first|decide|omega) only[a_net54,hA,d1,d2,d3,go_sem]
  exact QA (xs:=[.v (.bool false)]) ⟨by unfold jL;rw[ag h1,ag h2,ak h3];rfl,rfl,rfl⟩
 have d3:decide ((n.fates.length:Int)≤40)=true:=ag oM
 have cC:=fun B0 l0=>zE xS wS (n.l.map eMs) 35 [] (fun j=>SP (n.l.getD j dfMs)) (fun row h=>by obtain⟨m,_,rfl⟩:=de.1 h;rfl) (by rw[aa];omega) B0 l0 (fun j row hj=>by
  have fG:j<n.l.length:=by have:=(aj.1 hj).1;rwa [aa]at this
  rw[ai,ae fG]at hj
  cases hj
  simp only[YA fG]
  exact IX _ _ _)
 rw[aa]at cC
 simp (disch:=first|decide|omega) only[a_net54,hA,d1,d2,d3,go_sem]
 refine ZA.nxt (cC _ _) ?_
 simp (disch:=first|decide|omega) only[hA,go_sem]
 exact QA (xs:=[.v (.bool (!(List.range n.l.length).any fun j=>SP (n.l.getD j dfMs)))]) ⟨by unfold jL;rw[ag h1,ag h2,ag h3];rfl,rfl,rfl⟩
theorem eS {l:List Sv} (h:DM l=true):l.length≤10∧SvsS l:=by
 simp only[DM,ar,la,gz,bc,bj]at h
 obtain⟨h1,h2⟩:=h
 refine⟨h1,by omega,fun s hs=>?_⟩
 obtain⟨j,hj,rfl⟩:=dh hs
 have:=h2 j hj
 rw[YA hj]at this
 simp only[BQ,iy,bj,not_or]at this
 exact⟨by omega,by omega,by omega⟩
theorem AY {n:Nw} (h:jL n=true):n.l.length≤40∧n.tm.length≤40∧n.fates.length≤40∧NwS n:=by
 simp only[jL,ar,la,gz,bc,bj]at h
 obtain⟨h1,h2,h3,h4⟩:=h
 refine⟨h1,h2,h3,by omega,by omega,by omega,fun m hm=>?_⟩
 obtain⟨j,hj,rfl⟩:=dh hm
 have:=h4 j hj
 rw[YA hj]at this
 simp only[SP,bj]at this
 omega
def a_ConInt:AFunc:=({c:=_}:CF Tryz.prog 12).c
theorem uY:CA Tryz.prog 12=some a_ConInt:=by kernel_rfl
def a_IdxInt:AFunc:=({c:=_}:CF Tryz.prog 38).c
theorem xY:CA Tryz.prog 38=some a_IdxInt:=by kernel_rfl
def cU:List (Nat×Nat):=[(4,5),(8,18)]

theorem PX (v:List Int) (hn:v.length≤1000000) (x:Int) (b l:List Row):ZA Tryz.prog 38 [.v (.isl 1 (v.map eI)),.v (.int .i64 x)] b l (fun r b' l'=>r=.v (.int .i64 (RJ (fun i=>x==v.getD i 0) v.length))∧b'=b∧l'=l):=by
 refine XA xY rfl kE ?_
 intro B g hB hR hE hA;simp only[EA]at hA
 simp (disch:=first|decide|omega) only[a_IdxInt,hA,aa,go_sem]
 refine ZB (ι:=Nat) cU (fun i=>[(8,.v (.int .i64 i))]) 0 (fun _=>[])
  (fun i=>i≤v.length∧∀j,j<i→(x==v.getD j 0)=false) (fun i=>v.length-i) 0 ⟨an _,fun j hj=>by omega⟩ kM kA kF ?_
 rintro g1 aI bI aC i ⟨hi,h0⟩
 by_cases bB:i<v.length
 ·have GM:=NG bB
  cases hp:(x==v.getD i 0)
  ·simp (disch:=first|decide|omega) only[hA,aC,GM,hp,go_sem]
   refine⟨i+1,⟨bB,fun j hj=>?_⟩,by simp only;omega,?_⟩
   ·rcases cq j i with PI|PI
    ·exact h0 j PI
    ·obtain rfl:j=i:=by omega
     exact hp
   ·exact KA.kround (p:=cU) (k:=0) kQ kA rfl aI kS kV hR kL
  ·simp (disch:=first|decide|omega) only[hA,aC,GM,hp,go_sem]
   exact QA (xs:=[.v (.int .i64 i)]) ⟨by rw[AU bB h0 hp];rfl,rfl,rfl⟩
 ·obtain rfl:i=v.length:=by omega
  simp (disch:=first|decide|omega) only[hA,aC,aa,go_sem]
  exact QA (xs:=[.v (.int .i64 (-1))]) ⟨by rw[qQ h0];rfl,rfl,rfl⟩
theorem ZFj {v:List Int} {x:Int}:((List.range v.length).any fun i=>x==v.getD i 0)=decide (x∈v):=by
 rw[jd,ga,bj]
 constructor
 ·rintro⟨i,hi,h⟩
  have hi:=bc.1 hi
  rw[YA hi]at h
  rw[beq_iff_eq.1 h];exact ap hi
 ·intro h
  obtain⟨i,hi,rfl⟩:=dh h
  exact⟨i,bc.2 hi,by rw[YA hi];simp⟩
theorem gQ (v:List Int) (hn:v.length≤1000000) (x:Int) (b l:List Row):ZA Tryz.prog 12 [.v (.isl 1 (v.map eI)),.v (.int .i64 x)] b l (fun r b' l'=>r=.v (.bool (decide (x∈v)))∧b'=b∧l'=l):=by
 refine XA uY rfl kE ?_
 intro B g hB hR hE hA;simp only[EA]at hA
 simp (disch:=first|decide|omega) only[a_ConInt,hA,go_sem]
 refine ZA.nxt (PX v hn x _ _) ?_
 simp (disch:=decide) only[hA,go_sem]
 exact UQ (xs:=[.v (.bool (decide (0≤RJ (fun i=>x==v.getD i 0) v.length)))]) kO hR hB ⟨by rw[CU,ZFj];rfl,rfl,rfl⟩
structure SmW (w:Wd):Prop where
 tr:Small w.tr
 sv:SvsS w.sv
 net:NwS w.net
theorem SmW.same {w:Wd} (h:SmW w) (b l:List Row):ZA Tryz.prog 44 [.agg ((eWd w).map .v),.agg ((eWd w).map .v)] b l (fun r b' l'=>r=.v (.bool true)∧b'=b∧l'=l):=GY w h.tr h.sv h.net b l
theorem SS {t:Tr} {q:Nat} (h:q<t.length):cAt (GG t) q=((sA t q).length:Int):=by
 unfold cAt GG
 rw[aq,ai,ae h,yE h];rfl
theorem nP (t:Tr):(GG t).length=t.length:=aa _
theorem A8 {t:Tr} {p:Nat} {e:Ev} (hp:p<t.length):VH (VB t p e) (GG t)=t:=by
 refine ek (fun q=>?_)
 unfold VH GG
 rw[List.getElem?_zipWith]
 by_cases hq:q<t.length
 ·rw[ai,ae hq]
  by_cases hpq:p=q
  ·subst hpq
   rw[xO e hp]
   simp only[dn,cutP,bs]
   rw[List.take_left' rfl]
  ·rw[fS e hpq,ae hq]
   simp only[dn,cutP,bs,jf]
 ·rw[ai,ce (by omega:t.length≤q),ce (by rw[mG];omega)]
theorem FY {t:Tr} {p:Nat} {e:Ev} (h:NewEv t p e):CH (VB t p e) (GG t)=0:=by
 have hv:=KT h
 unfold CH
 rw[if_neg (by rw[vF hv,nP,mG];simp),if_neg,if_neg]
 ·intro hb
  obtain⟨x,hx,hb⟩:=ga.1 hb
  unfold kX at hb
  simp only[ar,beq_iff_eq,la,mf,bj]at hb
  obtain⟨hk,hc,hs⟩:=hb
  rcases (TG h.hp).1 hx with hx1|rfl
  ·rw[lG h.hp hx1]at hk hs
   obtain⟨_,y,hy⟩:=h.v.paired.recv hx1 hk
   have YH:¬(e.kind=2∧e.msg=(rA t x).msg):=fun he=>h.snd he.1 y (sF hy) (CD hy).1 (by rw[(CD hy).2];exact he.2.symm)
   have hf:TC (VB t p e) 2 (rA t x).msg=some y:=by rw[xE h (.inl rfl),if_neg YH];exact hy
   rw[(xC hf).1]at hs
   obtain⟨hy1,_,hy2⟩:=VE.1 (sF hy)
   rw[SS hy1,yE hy1]at hs
   omega
  ·rw[SS h.hp]at hc
   simp only at hc
   omega
 ·rw[Bool.not_eq_false,bo]
  intro q hq
  have hq:=bc.1 hq
  rw[nP]at hq
  unfold TM inB
  rw[SS hq]
  by_cases hpq:p=q
  ·subst hpq;rw[qJ h.hp];simp;omega
  ·rw[IM hpq];simp
theorem C8 {t:Tr} {p:Nat} {e:Ev} (h:NewEv t p e):fW (VB t p e) (GG t)=.agg [.v (eT t)]:=by
 unfold fW;rw[if_pos (FY h),A8 h.hp]
theorem n7 (t:Tr):(ids t).length=(t.map fun x=>x.evs.length).sum:=by
 have key:∀k,k≤t.length→(eF t k 0).length=((t.take k).map fun x=>x.evs.length).sum:=by
  intro k
  induction k with
  |zero=>intro _;simp[eF]
  |succ k ih =>
    intro hk
    have hk':k<t.length:=by omega
    rw[←fK t k hk',gu,ae hk',ci,List.sum_append]
    have:(eF t k t[k].evs.length).length=(eF t k 0).length+t[k].evs.length:=by simp[eF]
    rw[this,ih oM]
    simp
 have:=key t.length (ah _)
 rw[pP,jf]at this
 exact this
theorem ZEr {t:Tr} {p:Nat} {e:Ev} (hp:p<t.length):(ids (VB t p e)).length=(ids t).length+1:=by
 rw[n7,n7]
 unfold VB
 have hg:t.getD p dfPr=t[p]:=SC dfPr t hp
 rw[hg]
 have h1:t=t.take p++t[p]::t.drop (p+1):=by rw[←mj hp,gq]
 have h2:t.set p {t[p] with evs:=t[p].evs++[e]}=t.take p++{t[p] with evs:=t[p].evs++[e]}::t.drop (p+1):=List.set_eq_take_append_cons_drop.trans (if_pos hp)
 have h3:=congrArg (fun l:Tr=>(l.map fun x=>x.evs.length).sum) h1
 simp only[ci,ba,List.sum_append,List.sum_cons]at h3
 rw[h2]
 simp only[ci,ba,List.sum_append,List.sum_cons,am,ck,cr]
 omega
theorem O8 {t:Tr} {p:Nat} {e:Ev} (h:NewEv t p e):qG (VB t p e)=qG t+1:=by
 unfold qG
 rw[if_pos (vF (KT h)),if_pos (vF h.v),ZEr h.hp]
theorem ZHO {t:Tr} {p:Nat} {e f:Ev} (hp:p<t.length) (h:VB t p e=VB t p f):e=f:=by
 have h1:=UG (e:=e) hp
 rw[h,UG hp]at h1
 exact h1.symm
def LocS (w V:Wd) (ev:Ev):Prop:=ev.kind=1∧(V.net=w.net∨∃k,k<w.net.l.length∧(∃y,TC w.tr 3 (w.net.l.getD k dfMs).nu=some y)∧V.net=woN w.net k)
def SndS (w V:Wd) (p:Nat) (ev:Ev):Prop:=ev.kind=2∧ev.msg=w.sent∧ev.asg=[]∧∃v∈(w.sv.getD p dfSv).vars,V.net=uN w.net ⟨p,ev.peer,w.sent,[v]⟩ (xF w.net ⟨p,ev.peer,w.sent,[v]⟩) (iN w.net).toNat
def RcvS (w V:Wd) (p:Nat) (ev:Ev):Prop:=ev.kind=3∧∃k j,k<w.net.l.length∧fiR w.net p=(k:Nat)∧ev.msg=(w.net.l.getD k dfMs).nu∧ev.peer=(w.net.l.getD k dfMs).fr∧j<(w.sv.getD p dfSv).vars.length∧ev.asg=[⟨(j:Nat),(w.net.l.getD k dfMs).body.getD 0 0⟩]∧V.net=woN w.net k
structure StK (w V:Wd) (p:Nat) (ev:Ev):Prop where
 ne:NewEv w.tr p ev
 tr:V.tr=VB w.tr p ev
 now:V.now=w.now
 is:LocS w V ev∨SndS w V p ev∨RcvS w V p ev
theorem E9 {t:Tr} {k m:Int} (h:(lE t k m).2>0):∃y,TC t k m=some y:=by
 cases hf:TC t k m with
 |some y=>exact⟨y,rfl⟩
 |none =>
   exfalso
   have:lE t k m=(0,0):=by unfold lE VA;show (TC t k m).getD (0,0)=_;rw[hf];rfl
   rw[this]at h
   exact absurd h kE
theorem ZEb {w:Wd} (hw:WdV w) {p:Nat} (hp:p<w.sv.length) (r6:IG w p=true) (DN:(stW w p).2=0):∃ev,StK w (stW w p).1 p ev:=by
 obtain⟨s0,e0,n0,sn0,h1,hP⟩:=ZA5 hw hp r6 DN
 have YH:=hP.ev hw
 have tQ:(stW w p).1.tr=VB w.tr p (putE w p e0):=by rw[h1];exact hP.tr
 have EZ:(stW w p).1.now=w.now:=by rw[h1];rfl
 refine⟨putE w p e0,YH,tQ,EZ,?_⟩
 generalize putE w p e0=ev at YH tQ
 clear h1 hP
 have inj:∀e',(stW w p).1.tr=VB w.tr p e'→ev=e':=fun e' h=>ZHO YH.hp (tQ.symm.trans h)
 clear tQ EZ
 obtain⟨he,qD,h4,h3⟩:=eO r6
 have ST:=(rH hw.sv hp).1
 unfold stW at DN inj⊢
 unfold SndS RcvS
 obtain⟨s,hs⟩:∃s,w.sv.getD p dfSv=s:=⟨_,rfl⟩
 rw[hs]at ST he h4 h3 DN inj⊢
 unfold rL at he
 rw[kb]at he
 have yJ:0≤s.pc∧s.pc<s.code.length:=by have:=ST.pc;have:=iq he.1;omega
 obtain⟨x,hx⟩:∃x,s.code.getD s.pc.toNat zU=x:=⟨_,rfl⟩
 have hox:PQ s=x.op:=by unfold PQ;rw[hx]
 have yF:xH s.vars.length s.code.length p w.sv.length x=true:=ST.ins x (by rw[←hx,YA oM];exact ap _)
 rw[hox]at h4 h3
 rw[hx]at DN inj⊢
 unfold xH inZ at yF
 unfold stI at DN inj⊢
 have loc:∀{V:Wd} {e':Ev},ev=e'→e'.kind=1→V.net=w.net→LocS w V ev:=fun h1 h2 h3=>⟨by rw[h1];exact h2,.inl h3⟩
 by_cases o1:x.op=1
 ·rw[if_pos o1]at DN inj⊢
  exact .inl (loc (inj _ rfl) rfl rfl)
 rw[if_neg o1]at DN inj⊢
 by_cases o2:x.op=2
 ·rw[if_pos o2]at DN inj⊢
  by_cases hq:vlB (s.vars.getD x.a.toNat 0+x.b)=true
  ·rw[if_pos hq]at inj⊢
   exact .inl (loc (inj _ rfl) rfl rfl)
  ·rw[if_neg hq]at DN;cases DN
 rw[if_neg o2]at DN inj⊢
 rw[if_neg oM]at yF
 by_cases o6:x.op=6
 ·rw[if_pos o6]at DN inj⊢
  by_cases h0:0<s.vars.getD x.b.toNat 0
  ·rw[if_pos h0]at inj⊢
   exact .inl (loc (inj _ rfl) rfl rfl)
  ·rw[if_neg h0]at inj⊢
   exact .inl (loc (inj _ rfl) rfl rfl)
 rw[if_neg o6]at DN inj⊢
 by_cases o3:x.op=3
 ·rw[if_pos o3]at DN inj⊢
  rw[if_pos o3]at yF
  simp only[ar,bj]at yF
  by_cases hz:sdE w.net (EG w p s x)=0
  ·rw[if_pos hz]at inj⊢
   have yK:=inj _ rfl
   have hN:sdR w.net (EG w p s x)=uN w.net (EG w p s x) (xF w.net (EG w p s x)) (iN w.net).toNat:=by unfold sdR;rw[if_pos hz]
   have h5:ev.peer=x.b:=by rw[yK]
   refine .inr (.inl ⟨by rw[yK],by rw[yK],by rw[yK],s.vars.getD x.a.toNat 0,?_,?_⟩)
   ·rw[YA (show x.a.toNat<s.vars.length by omega)]
    exact ap _
   ·rw[h5];exact hN
  ·rw[if_neg hz]at DN;exact absurd DN hz
 rw[if_neg o3]at DN inj⊢
 rw[if_neg o3]at yF
 by_cases o45:x.op=4∨x.op=5
 ·rw[if_pos o45]at DN inj⊢
  have hxa:0≤x.a∧x.a<s.vars.length:=by
   rcases o45 with o|o<;>simp[o]at yF<;>omega
  simp only at inj⊢
  unfold DZ at inj⊢
  by_cases g1:fiR w.net p<0
  ·rw[if_pos g1]at inj⊢
   exact .inl (loc (inj _ rfl) rfl rfl)
  rw[if_neg g1]at inj⊢
  obtain⟨k,hk,YM,_,_⟩:=ZX (n:=w.net) (to:=p) oM
  rw[hk,bs]at inj⊢
  by_cases g2:(lE w.tr 3 (w.net.l.getD k dfMs).nu).2>0
  ·rw[if_pos g2]at inj⊢
   have yK:=inj _ rfl
   exact .inl ⟨by rw[yK];rfl,.inr ⟨k,YM,E9 g2,rfl⟩⟩
  ·rw[if_neg g2]at inj⊢
   have yK:=inj _ rfl
   exact .inr (.inr ⟨by rw[yK];rfl,k,x.a.toNat,YM,rfl,by rw[yK];rfl,by rw[yK];rfl,by omega,by rw[yK];rfl,rfl⟩)
 rw[if_neg o45]at inj⊢
 exact .inl (loc (inj _ rfl) rfl rfl)
noncomputable def chW (w:Wd):List Int→Wd
 |[]=>w
 |c::cs =>
   if (eG w w.sv.length).length=0∨c.toNat % 8=0 then chW (tkW w ((c.toNat / 8:Nat):Int)) cs
   else if (stW w ((eG w w.sv.length).getD (c.toNat / 8 % (eG w w.sv.length).length) 0)).2=0 then chW (stW w ((eG w w.sv.length).getD (c.toNat / 8 % (eG w w.sv.length).length) 0)).1 cs
   else w
theorem sZ {P:Wd→Prop} (tH:∀w p ev,WdV w→P w→p<w.sv.length→StK w (stW w p).1 p ev→WdV (stW w p).1→P (stW w p).1) (htk:∀w k,WdV w→P w→0≤k→WdV (tkW w k)→P (tkW w k)) :
  ∀(cs:List Int) (w:Wd),WdV w→P w→(∀c∈cs,0≤c∧c<65536)→w.now+(cs.length:Int)*8191≤1000000000→WdV (chW w cs)∧P (chW w cs)
 |[],w,hw,hP,_,_=>⟨hw,hP⟩
 |c::cs,w,hw,hP,hc,hn=>by
   have ih:=sZ tH htk cs
   have hc0:=hc c kS
   have PN:∀c∈cs,0≤c∧c<65536:=fun c h=>hc c (by simp[h])
   rw[ck]at hn
   have EZ:=hw.now
   unfold chW
   split
   ·have hv:WdV (tkW w ((c.toNat / 8:Nat):Int)):=uO hw ⟨by omega,by omega⟩
    exact ih _ hv (htk _ _ hw hP oM hv) PN (by show w.now+((c.toNat / 8:Nat):Int)+_≤_;omega)
   ·rename_i h1
    split
    ·rename_i h2
     obtain⟨p,hp⟩:∃p,(eG w w.sv.length).getD (c.toNat / 8 % (eG w w.sv.length).length) 0=p:=⟨_,rfl⟩
     rw[hp]at h2⊢
     have bB:c.toNat / 8 % (eG w w.sv.length).length<(eG w w.sv.length).length:=jq _ oM
     rw[YA bB]at hp
     have hm:p∈eG w w.sv.length:=by rw[←hp];exact ap _
     obtain⟨K8,r6⟩:=km.1 hm
     have Z0:=bc.1 K8
     obtain⟨ev,hk⟩:=ZEb hw Z0 r6 h2
     have hv:=ZJ hw Z0 r6 h2
     exact ih _ hv (tH _ _ _ hw hP Z0 hk hv) PN (by rw[hk.now];omega)
    ·exact⟨hw,hP⟩
theorem st_code (w:Wd) (p:Nat):(stW w p).2=0∨(stW w p).2=5∨(stW w p).2=9:=by
 unfold stW stI
 split
 ·exact .inl rfl
 split
 ·split
  ·exact .inl rfl
  ·exact .inr (.inr rfl)
 split
 ·split<;>exact .inl rfl
 split
 ·split
  ·exact .inl rfl
  ·unfold sdE
   split
   ·exact .inr (.inr rfl)
   split
   ·exact .inr (.inl rfl)
   ·exact .inl rfl
 split<;>exact .inl rfl
theorem bY {w:Wd} (hw:WdV w) {p:Nat} (hp:p<w.sv.length) (r6:IG w p=true) (DN:(stW w p).2=0) :
  ∃ev,NewEv w.tr p ev∧(stW w p).1.tr=VB w.tr p ev∧ev.time=jJ (w.sv.getD p dfSv) w.now∧(stW w p).1.now=w.now∧(stW w p).1.sv.length=w.sv.length∧∀q,((stW w p).1.sv.getD q dfSv).off=(w.sv.getD q dfSv).off∧((stW w p).1.sv.getD q dfSv).rate=(w.sv.getD q dfSv).rate:=by
 obtain⟨s,e,n,sn,h1,hP⟩:=ZA5 hw hp r6 DN
 rw[h1]
 refine⟨putE w p e,hP.ev hw,hP.tr,rfl,rfl,ec,fun q=>?_⟩
 show ((w.sv.set p s).getD q dfSv).off=_∧((w.sv.set p s).getD q dfSv).rate=_
 by_cases hq:p=q
 ·subst hq
  obtain⟨c,v,hs,_⟩:=hP.sv
  rw[aq,bf hp,hs]
  exact⟨rfl,rfl⟩
 ·rw[aq,bq hq,←aq]
  exact⟨rfl,rfl⟩
theorem bgn_ways (L:List Sv) (n:Nw):(tL L n=(xN L n,0)∧ZH L=true∧WdV (xN L n))∨∃e:Int,e≠0∧tL L n=(wd0,e):=by
 unfold tL
 split
 ·rename_i h
  split
  ·exact .inr ⟨6,by decide,rfl⟩
  ·rename_i h2
   have h3:n.now=0:=Classical.byContradiction fun h3=>h2 (.inl h3)
   have h4:n.l=[]:=cu (by
    have:¬0<n.l.length:=fun h4=>h2 (.inr (.inl h4))
    omega)
   exact .inl ⟨rfl,h.1,GU h.1 (TF.1 h.2) h3 h4⟩
 ·exact .inr ⟨1,by decide,rfl⟩
theorem p7 {w:Wd} (hw:WdV w):(ids w.tr).length≤512:=by
 have h:=c7 (t:=w.tr) (N:=64) (fun x hx=>by
  obtain⟨p,hp,rfl⟩:=dh hx
  have:=hw.evl hp
  rw[SC dfPr w.tr hp]at this
  exact this) w.tr.length (ah _)
 rw[pP]at h
 have:=hw.tr.hi
 have:w.tr.length*64≤8*64:=Nat.mul_le_mul this (ah _)
 omega
structure InvL (L:List Sv) (k:Nat) (w:Wd):Prop where
 v:WdV w
 len:w.sv.length=L.length
 now:w.now≤(k:Int)*8191
 rt:∀q,(w.sv.getD q dfSv).off=(L.getD q dfSv).off∧(w.sv.getD q dfSv).rate=(L.getD q dfSv).rate
theorem InvL.clk {L:List Sv} {k:Nat} {w:Wd} (h:InvL L k w) (q:Nat):jJ (w.sv.getD q dfSv) w.now=jJ (L.getD q dfSv) w.now∧AH (w.sv.getD q dfSv) w.now=AH (L.getD q dfSv) w.now:=by
 have hr:AH (w.sv.getD q dfSv) w.now=AH (L.getD q dfSv) w.now:=by
  unfold AH JM;rw[(h.rt q).1,(h.rt q).2]
 refine⟨?_,hr⟩
 unfold jJ;rw[hr,(h.rt q).1,(h.rt q).2]
def eU (c:Int):List IV:=[.int .u16 c]
structure MsW (w:Wd):Prop where
 way:∀m∈w.net.l,∀q i,TC w.tr 2 m.nu=some (q,i+1)→m.body.getD 0 0∈stV (w.tr.getD q dfPr) (i+1)
 got:∀x∈ids w.tr,(rA w.tr x).kind=3→∃a,(rA w.tr x).asg=[a]∧a.val∈stV (w.tr.getD x.1 dfPr) x.2∧a.val∈stV (w.tr.getD (UK w.tr x).1 dfPr) (UK w.tr x).2
theorem zW {t:Tr} {p:Nat} {e:Ev} (hp:p<t.length) {x:Nat×Nat} (hx:x∈ids t):stV ((VB t p e).getD x.1 dfPr) x.2=stV (t.getD x.1 dfPr) x.2:=by
 obtain⟨q,i⟩:=x
 obtain⟨i,rfl⟩:∃k,i=k+1:=⟨i-1,by have:=MF hx;simp only at this;omega⟩
 obtain⟨_,h2⟩:=kD.1 hx
 simp only
 by_cases hq:p=q
 ·subst hq
  rw[fJ hp]
  exact qW (p:=t.getD p dfPr) (i+1) h2
 ·rw[MM hq]
theorem I6 {t:Tr} {p:Nat} {e:Ev} (hp:p<t.length):stV ((VB t p e).getD p dfPr) ((sA t p).length+1)=apE (iS (t.getD p dfPr)) e:=by
 rw[fJ hp]
 have h:=gZ (p:=t.getD p dfPr) (e:=e)
 unfold iS at h⊢
 have hl:({t.getD p dfPr with evs:=(t.getD p dfPr).evs++[e]}:Pr).evs.length=(sA t p).length+1:=by
  show ((t.getD p dfPr).evs++[e]).length=_
  rw[am];rfl
 rw[hl]at h
 exact h
theorem wZ {w:Wd} (hw:WdV w) {p:Nat} (hp:p<w.tr.length):iS (w.tr.getD p dfPr)=(w.sv.getD p dfSv).vars:=by
 have hf:=hw.fit p hp
 unfold jM at hf
 simp only[ar,bj]at hf
 exact hf.2.2.2.1
theorem ZBm {t:Tr} {p:Nat} {e:Ev} (h:NewEv t p e) {x:Nat×Nat} (hx:x∈ids t) (hk:(rA t x).kind=3):UK (VB t p e) x=UK t x:=by
 obtain⟨_,y,hy⟩:=h.v.paired.recv hx hk
 have hf:TC (VB t p e) 2 (rA t x).msg=some y:=by
  rw[xE h (.inl rfl),if_neg (fun hc=>h.fresh (.inl rfl) hc.1 (sF hy) (CD hy).1 ((CD hy).2.trans hc.2.symm))];exact hy
 unfold UK
 rw[lG h.hp hx]
 exact (xC hf).1.trans (xC hy).1.symm
theorem R5 {w V:Wd} (hw:WdV w) (h:MsW w) {p:Nat} {e:Ev} (he:NewEv w.tr p e) (tQ:V.tr=VB w.tr p e) :
  (∀m∈w.net.l,∀q i,TC V.tr 2 m.nu=some (q,i+1)→m.body.getD 0 0∈stV (V.tr.getD q dfPr) (i+1)) ∧
  (∀x∈ids w.tr,(rA V.tr x).kind=3→∃a,(rA V.tr x).asg=[a]∧a.val∈stV (V.tr.getD x.1 dfPr) x.2∧a.val∈stV (V.tr.getD (UK V.tr x).1 dfPr) (UK V.tr x).2):=by
 rw[tQ]
 refine⟨fun m hm q i hf=>?_,fun x hx hk=>?_⟩
 ·obtain⟨_,s,a,bZ,sY,hxk,hxm,_⟩:=LK hw.tr (hw.msg m hm)
  have h1:=jF hw.tr sY (.inl rfl) hxk
  rw[hxm]at h1
  have h2:TC (VB w.tr p e) 2 m.nu=some (s,a+1):=by
   rw[xE he (.inl rfl),if_neg (fun hc=>he.fresh (.inl rfl) hc.1 sY hxk (hxm.trans hc.2.symm))];exact h1
  rw[h2]at hf
  have h3:=fx hf
  simp only[ku,Nat.add_right_cancel_iff]at h3
  obtain⟨rfl,rfl⟩:=h3
  have h4:=h.way m hm s a h1
  have h5:=zW (e:=e) he.hp sY
  simp only at h5
  rw[h5];exact h4
 ·rw[lG he.hp hx]at hk⊢
  obtain⟨a,h1,h2,h3⟩:=h.got x hx hk
  rw[ZBm he hx hk,zW he.hp hx,zW he.hp (D6 hw.tr hx hk).1]
  exact⟨a,h1,h2,h3⟩
theorem ZHd {w V:Wd} (hw:WdV w) (h:MsW w) {p:Nat} {e:Ev} (he:NewEv w.tr p e) (tQ:V.tr=VB w.tr p e) (hl:LocS w V e):MsW V:=by
 obtain⟨h1,h2⟩:=R5 hw h he tQ
 refine⟨fun m hm=>?_,fun x hx hk=>?_⟩
 ·have:m∈w.net.l:=by
   rcases hl.2 with hn|⟨k,_,_,hn⟩
   ·rw[hn]at hm;exact hm
   ·rw[hn]at hm;exact NW hm
  exact h1 m this
 ·have RT:=hx
  rw[tQ]at RT
  rcases (TG he.hp).1 RT with h3|rfl
  ·exact h2 x h3 hk
  ·rw[tQ,UG he.hp,hl.1]at hk;exact absurd hk kE
theorem ZHa {w V:Wd} (hw:WdV w) (h:MsW w) {p:Nat} {e:Ev} (he:NewEv w.tr p e) (tQ:V.tr=VB w.tr p e) (hl:SndS w V p e):MsW V:=by
 obtain⟨h1,h2⟩:=R5 hw h he tQ
 obtain⟨hk,x8,has,v,hv,hn⟩:=hl
 refine⟨fun m hm=>?_,fun x hx nY=>?_⟩
 ·rw[hn]at hm
  rcases ins_mem hm with hm|rfl
  ·exact h1 m hm
  ·intro q i hf
   rw[tQ,xE he (.inl rfl),if_pos ⟨hk,x8⟩]at hf
   have h3:=fx hf
   have e1:p=q:=congrArg Prod.fst h3
   have e2:(sA w.tr p).length=i:=by have:=congrArg Prod.snd h3;simp only at this;omega
   subst e1 e2
   rw[tQ,I6 he.hp,wZ hw he.hp]
   unfold apE
   rw[has]
   exact hv
 ·have RT:=hx
  rw[tQ]at RT
  rcases (TG he.hp).1 RT with h3|rfl
  ·exact h2 x h3 nY
  ·rw[tQ,UG he.hp,hk]at nY;exact absurd nY kE
theorem ZHb {w V:Wd} (hw:WdV w) (h:MsW w) {p:Nat} {e:Ev} (he:NewEv w.tr p e) (tQ:V.tr=VB w.tr p e) (hl:RcvS w V p e):MsW V:=by
 obtain⟨h1,h2⟩:=R5 hw h he tQ
 obtain⟨hk,k,j,YM,hfi,x8,hpe,hj,has,hn⟩:=hl
 obtain⟨m,hm⟩:∃m,w.net.l.getD k dfMs=m:=⟨_,rfl⟩
 rw[hm]at x8 hpe has
 have QP:m∈w.net.l:=by rw[←hm,YA YM];exact ap YM
 obtain⟨_,s,a,bZ,sY,hxk,hxm,hxp⟩:=LK hw.tr (hw.msg m QP)
 have hf1:=jF hw.tr sY (.inl rfl) hxk
 rw[hxm]at hf1
 have hf2:TC V.tr 2 m.nu=some (s,a+1):=by
  rw[tQ,xE he (.inl rfl),if_neg (fun hc=>by rw[hk]at hc;exact absurd hc.1 kE)];exact hf1
 refine⟨fun m' hm'=>?_,fun x hx nY=>?_⟩
 ·rw[hn]at hm';exact h1 m' (NW hm')
 ·have RT:=hx
  rw[tQ]at RT
  rcases (TG he.hp).1 RT with h3|rfl
  ·exact h2 x h3 nY
  ·have yK:rA V.tr (p,(sA w.tr p).length+1)=e:=by rw[tQ,UG he.hp]
   refine⟨_,by rw[yK];exact has,?_,?_⟩
   ·simp only
    rw[tQ,I6 he.hp,wZ hw he.hp]
    unfold apE sS
    rw[has]
    show m.body.getD 0 0∈(w.sv.getD p dfSv).vars.set ((j:Nat):Int).toNat (m.body.getD 0 0)
    rw[bs]
    exact ey.2 ⟨j,by rw[bf hj]⟩
   ·have hs:UK V.tr (p,(sA w.tr p).length+1)=(s,a+1):=by
     unfold UK
     rw[yK,x8]
     exact (xC hf2).1
    rw[hs]
    exact h1 m QP s a hf2
theorem ZFR (w:Wd) (p:Nat) (ev:Ev) (hw:WdV w) (h:MsW w) (hp:p<w.sv.length) (hk:StK w (stW w p).1 p ev) (hv:WdV (stW w p).1):MsW (stW w p).1:=by
 rcases hk.is with h1|h1|h1
 ·exact ZHd hw h hk.ne hk.tr h1
 ·exact ZHa hw h hk.ne hk.tr h1
 ·exact ZHb hw h hk.ne hk.tr h1
theorem ZFQ (w:Wd) (k:Int) (hw:WdV w) (h:MsW w) (hk:0≤k) (hv:WdV (tkW w k)):MsW (tkW w k):=⟨h.way,h.got⟩
theorem ZHc {L:List Sv} {n:Nw} (hl:n.l=[]):MsW (xN L n):=
 ⟨fun m hm=>(by change m∈n.l at hm;rw[hl]at hm;cases hm),fun x hx=>absurd hx (FM x)⟩
structure FfW (w:Wd):Prop where
 ord:w.net.l.Pairwise fun a b=>a.fr=b.fr→a.to=b.to→a.nu≤b.nu
 kept:∀x∈ids w.tr,(rA w.tr x).kind=2→(∃y,TC w.tr 3 (rA w.tr x).msg=some y)∨∃m∈w.net.l,m.nu=(rA w.tr x).msg
 cop:∀f∈w.net.fates,1≤f.1
 tim:w.net.fifo=true∨(w.net.fates=[]∧∀t∈w.net.tm,t≤w.net.now)
 asc:∀p i j,p<w.tr.length→j<i→i<(sA w.tr p).length→(evp w.tr p j).kind=2→(evp w.tr p i).kind=2→(evp w.tr p j).msg<(evp w.tr p i).msg
 ff:∀p i j,p<w.tr.length→j<i→i<(sA w.tr p).length→dD w.tr p j i=false
theorem ZHq {t:Tr} (h:∀p i j,p<t.length→j<i→i<(sA t p).length→dD t p j i=false):FQ t=true:=
 OU (fun p hp i hi j hj=>h p i j hp hj (by rw[yE hp];exact hi))
theorem Y8 {n:Nw} {m:Ms} (hf:n.fifo=true) {i:Nat}:∀k,i<k→(n.l.getD i dfMs).fr=m.fr→(n.l.getD i dfMs).to=m.to→n.tm.getD i 0≤MG n m k
 |0,h,_,_=>by omega
 |k+1,h,h1,h2=>by
   simp only[MG]
   by_cases hik:i=k
   ·subst hik
    rw[if_pos ⟨hf,h1,h2⟩];omega
   ·have:=Y8 hf k oM h1 h2
    split<;>omega
theorem ZFX {w:Wd} (hw:WdV w) (h:FfW w) {m:Ms} (hm:m.nu=w.sent) {c:Nat}:(uN w.net m (xF w.net m) c).l.Pairwise fun a b=>a.fr=b.fr→a.to=b.to→a.nu≤b.nu:=by
 have bB:∀a∈w.net.l,a.nu<w.sent:=fun a ha=>by
  obtain⟨_,q,i,_,hx,hk,hn,_⟩:=LK hw.tr (hw.msg a ha)
  have:=hw.snt _ hx hk
  omega
 obtain⟨pos,vU⟩:∃k,leN w.net.tm (xF w.net m)=k:=⟨_,rfl⟩
 have hs:=TS (l:=w.net.tm) (a:=xF w.net m)
 rw[vU]at hs
 have hch:∀i,i<w.net.l.length→(w.net.l.getD i dfMs).fr=m.fr→(w.net.l.getD i dfMs).to=m.to→w.net.tm.getD i 0≤xF w.net m:=fun i hi h1 h2=>by
  rcases h.tim with hf|⟨hf,ht⟩
  ·exact Y8 hf _ hi h1 h2
  ·have h3:w.net.tm.getD i 0≤w.net.now:=ht _ (by rw[YA (show i<w.net.tm.length by rw[←hw.net.len];exact hi)];exact ap _)
   have h4:=GP (n:=w.net) (m:=m) w.net.l.length
   have h5:MG w.net m 0=w.net.now+0:=by show _+(w.net.fates.headD (1,0)).2=_;rw[hf];rfl
   unfold xF;omega
 have hdr:∀b∈w.net.l.drop pos,b.fr=m.fr→b.to=m.to→False:=fun b hb h1 h2=>by
  obtain⟨i,hi,rfl⟩:=dh hb
  rw[fp]at hi
  rw[List.getElem_drop]at h1 h2
  have mR:pos+i<w.net.l.length:=by omega
  have h3:=hch (pos+i) mR (by rw[YA mR];exact h1) (by rw[YA mR];exact h2)
  have hl:=hw.net.len
  have h4:=hs.2 oM
  have h5:=hw.net.sorted pos (pos+i) oM oM
  omega
 show (w.net.l.take (leN w.net.tm (xF w.net m))++List.replicate c m++w.net.l.drop (leN w.net.tm (xF w.net m))).Pairwise _
 rw[vU]
 have hsp:=h.ord
 rw[←gq pos w.net.l,ja]at hsp
 obtain⟨p1,p2,p3⟩:=hsp
 rw[ja,ja]
 refine⟨⟨p1,List.pairwise_replicate.2 (.inr (fun _ _=>ii _)),fun a ha b hb _ _=>?_⟩,p2,fun a ha b hb h1 h2=>?_⟩
 ·rw[(jg.1 hb).2,hm]
  have:=bB a (dr ha)
  omega
 ·rcases bn.1 ha with ha|ha
  ·exact p3 a ha b hb h1 h2
  ·rw[(jg.1 ha).2]at h1 h2
   exact (hdr b hb h1.symm h2.symm).elim
theorem ZCy {n:Nw} {k:Nat}:(woN n k).l.Sublist n.l:=by
 show (n.l.take k++n.l.drop (k+1)).Sublist n.l
 have h:(n.l.take k++n.l.drop (k+1)).Sublist (n.l.take k++n.l.drop k):=(iz _).append (by
  rw[←List.drop_drop]
  exact List.drop_sublist _ _)
 rwa [gq]at h
theorem ZCz {n:Nw} {k:Nat} {m:Ms} (hm:m∈n.l) (YH:m≠n.l.getD k dfMs):m∈(woN n k).l:=by
 show m∈n.l.take k++n.l.drop (k+1)
 obtain⟨i,hi,rfl⟩:=dh hm
 rw[bn]
 rcases jz i k with h|h|h
 ·exact .inl (ey.2 ⟨i,by rw[cw,if_pos h,ae hi]⟩)
 ·exact absurd (by subst h;rw[YA hi]) YH
 ·exact .inr (ey.2 ⟨i-(k+1),by rw[dl,show k+1+(i-(k+1))=i by omega,ae hi]⟩)
theorem ZGJ {n:Nw} {k:Nat} {t:Int} (h:t∈(woN n k).tm):t∈n.tm:=by
 change t∈n.tm.take k++n.tm.drop (k+1) at h
 rcases bn.1 h with h|h
 ·exact dr h
 ·exact fd h
theorem ins_tm {n:Nw} {m:Ms} {a t:Int} {c:Nat} (h:t∈(uN n m a c).tm):t∈n.tm∨t=a:=by
 change t∈n.tm.take _++_++n.tm.drop _ at h
 rw[bn,bn]at h
 rcases h with (h|h)|h
 ·exact .inl (dr h)
 ·exact .inr (jg.1 h).2
 ·exact .inl (fd h)
theorem ZHU {t:Tr} (hv:Vok t) {x y:Nat×Nat} (hx:x∈ids t) (hk:(rA t x).kind=2) (hy:TC t 3 (rA t x).msg=some y):(y.1:Int)=(rA t x).peer:=by
 have hyi:=sF hy
 obtain⟨k1,k2⟩:=CD hy
 obtain⟨m,q,hm,_,hq,MN,hqp⟩:=sE (vH (hv.form y hyi)) (by rw[k1];rfl)
 have hp:=hv.pair y hyi
 unfold UF at hp
 rw[k1]at hp
 simp only[show ((3:Int)==2)=false from rfl,show ((3:Int)==3)=true from rfl,if_true,bx,if_false]at hp
 rw[if_pos (by have:=(hv.paired.recv hyi k1).1;simpa using this)]at hp
 have hs:zF t q (rA t y).msg y.1=true:=by
  cases h:zF t q (rA t y).msg y.1 with
  |true=>rfl
  |false=>rw[hq,bs,h]at hp;simp at hp
 unfold zF at hs
 obtain⟨e,he,hb⟩:=ga.1 hs
 simp only[ar,beq_iff_eq]at hb
 obtain⟨i,hi,rfl⟩:=YZ MN he
 have h1:=jF hv hi (.inl rfl) hb.1.1
 have h2:=jF hv hx (.inl rfl) hk
 rw[hb.1.2,k2,h2]at h1
 rw[←fx h1]at hb
 exact hb.2.symm
theorem cJ {t:Tr} {p q j:Nat} {e:Ev} (hp:p<t.length) (hq:q<t.length) (hj:j<(sA t q).length):evp (VB t p e) q j=evp t q j:=lG hp (kD.2 ⟨hq,hj⟩)
theorem uR {t:Tr} {p:Nat} {e:Ev} (hp:p<t.length):evp (VB t p e) p (sA t p).length=e:=UG hp
theorem rW {t:Tr} {p q:Nat} {e:Ev} (hp:p<t.length):(sA (VB t p e) q).length=(sA t q).length+if p=q then 1 else 0:=by
 by_cases h:p=q
 ·subst h;rw[qJ hp,if_pos rfl];simp
 ·rw[IM h,if_neg h];rfl
theorem bK {t:Tr} {k m:Int} (h:TC t k m=none):lE t k m=(0,0):=by
 unfold lE VA;show (TC t k m).getD (0,0)=_;rw[h];rfl
theorem eK {t:Tr} {k m:Int} {y:Nat×Nat} (h:TC t k m=some y):lE t k m=y:=(xC h).1
theorem yM {t:Tr} {p q j:Nat} {e:Ev} (h:NewEv t p e) (hq:q<t.length) (hj:j<(sA t q).length) (YH:¬(e.kind=3∧e.msg=(evp t q j).msg)):toI (VB t p e) q j=toI t q j:=by
 unfold toI
 rw[cJ h.hp hq hj]
 have h1:=xE h (k:=3) (m:=(evp t q j).msg) (.inr rfl)
 rw[if_neg YH]at h1
 cases hf:TC t 3 (evp t q j).msg with
 |none=>rw[hf]at h1;rw[bK h1,bK hf]
 |some y=>rw[hf]at h1;rw[eK h1,eK hf]
theorem xP {t:Tr} {p i j:Nat} (h:¬((evp t p j).kind=2∧(evp t p i).kind=2)):dD t p j i=false:=by
 unfold dD
 cases h1:(evp t p j).kind==2
 ·rfl
 cases h2:(evp t p i).kind==2
 ·rfl
 exact absurd ⟨by simpa using h1,by simpa using h2⟩ h
theorem U7 {t t':Tr} {p i j:Nat} (h1:evp t' p j=evp t p j) (h2:evp t' p i=evp t p i) (h3:toI t' p j=toI t p j) (h4:toI t' p i=toI t p i):dD t' p j i=dD t p j i:=by
 unfold dD;rw[h1,h2,h3,h4]
theorem mW {w:Wd} (hw:WdV w) (h:FfW w) {p:Nat} {e:Ev} (he:NewEv w.tr p e) (hs:e.kind=2→e.msg=w.sent):∀q i j,q<(VB w.tr p e).length→j<i→i<(sA (VB w.tr p e) q).length→(evp (VB w.tr p e) q j).kind=2→(evp (VB w.tr p e) q i).kind=2→(evp (VB w.tr p e) q j).msg<(evp (VB w.tr p e) q i).msg:=by
 intro q i j hq PI hi h1 h2
 rw[mG]at hq
 rw[rW he.hp]at hi
 by_cases mR:i<(sA w.tr q).length
 ·rw[cJ he.hp hq mR]at h2⊢
  rw[cJ he.hp hq oM]at h1⊢
  exact h.asc q i j hq PI mR h1 h2
 ·by_cases hpq:p=q
  ·subst hpq
   rw[if_pos rfl]at hi
   obtain rfl:i=(sA w.tr p).length:=by omega
   rw[uR he.hp]at h2⊢
   rw[cJ he.hp hq PI]at h1⊢
   rw[hs h2]
   exact hw.snt _ (kD.2 ⟨hq,PI⟩) h1
  ·rw[if_neg hpq]at hi;omega
theorem ZDX {w:Wd} (hw:WdV w) (h:FfW w) {p:Nat} {e:Ev} (he:NewEv w.tr p e) (hk:e.kind≠3) (hs:e.kind=2→e.msg=w.sent):∀q i j,q<(VB w.tr p e).length→j<i→i<(sA (VB w.tr p e) q).length→dD (VB w.tr p e) q j i=false:=by
 intro q i j hq PI hi
 rw[mG]at hq
 rw[rW he.hp]at hi
 by_cases mR:i<(sA w.tr q).length
 ·rw[U7 (cJ he.hp hq oM) (cJ he.hp hq mR) (yM he hq oM (fun h=>hk h.1)) (yM he hq mR (fun h=>hk h.1))]
  exact h.ff q i j hq PI mR
 ·by_cases hpq:p=q
  ·subst hpq
   rw[if_pos rfl]at hi
   obtain rfl:i=(sA w.tr p).length:=by omega
   by_cases h2:e.kind=2
   ·have hz:toI (VB w.tr p e) p (sA w.tr p).length=0:=by
     unfold toI
     rw[uR he.hp,bK]
     rw[xE he (.inr rfl),if_neg (fun h=>hk h.1)]
     cases hf:TC w.tr 3 e.msg with
     |none=>rfl
     |some y =>
       exfalso
       have hy:=sF hf
       obtain⟨k1,k2⟩:=CD hf
       obtain⟨_,z,hz⟩:=hw.tr.paired.recv hy k1
       obtain⟨g1,g2⟩:=CD hz
       have:=hw.snt z (sF hz) g1
       have:=hs h2
       omega
    unfold dD
    rw[hz]
    simp
   ·exact xP (fun hh=>h2 (by have:=hh.2;rwa [uR he.hp]at this))
  ·rw[if_neg hpq]at hi;omega
theorem ZHp {w V:Wd} (hw:WdV w) (h:FfW w) {p:Nat} {e:Ev} (he:NewEv w.tr p e) (tQ:V.tr=VB w.tr p e) (hl:LocS w V e):FfW V:=by
 obtain⟨hk,hn⟩:=hl
 have nY:e.kind≠3:=by omega
 have dV:e.kind≠2:=by omega
 have hA:=mW hw h he (fun h=>absurd h dV)
 have hF:=ZDX hw h he nY (fun h=>absurd h dV)
 rw[←tQ]at hA hF
 have ZGf:∀x∈ids V.tr,(rA V.tr x).kind=2→x∈ids w.tr∧rA V.tr x=rA w.tr x:=fun x hx RT=>by
  rw[tQ]at hx RT⊢
  rcases (TG he.hp).1 hx with h1|rfl
  ·exact⟨h1,lG he.hp h1⟩
  ·rw[UG he.hp]at RT;exact absurd RT dV
 have ZIf:∀m y,TC w.tr 3 m=some y→TC V.tr 3 m=some y:=fun m y hf=>by
  rw[tQ,xE he (.inr rfl),if_neg (fun h=>nY h.1)];exact hf
 rcases hn with hn|⟨k,YM,⟨y,hy⟩,hn⟩
 ·refine⟨by rw[hn];exact h.ord,fun x hx RT=>?_,by rw[hn];exact h.cop,by rw[hn];exact h.tim,hA,hF⟩
  obtain⟨h1,h2⟩:=ZGf x hx RT
  rw[h2]at RT⊢
  rw[hn]
  exact (h.kept x h1 RT).imp (fun ⟨y,hy⟩=>⟨y,ZIf _ _ hy⟩) id
 ·refine⟨by rw[hn];exact h.ord.sublist ZCy,fun x hx RT=>?_,by rw[hn];exact h.cop,?_,hA,hF⟩
  ·obtain⟨h1,h2⟩:=ZGf x hx RT
   rw[h2]at RT⊢
   rw[hn]
   rcases h.kept x h1 RT with ⟨z,hz⟩|⟨m,hm,hmn⟩
   ·exact .inl ⟨z,ZIf _ _ hz⟩
   ·by_cases hmk:m=w.net.l.getD k dfMs
    ·exact .inl ⟨y,ZIf _ _ (by rw[←hmn,hmk];exact hy)⟩
    ·exact .inr ⟨m,ZCz hm hmk,hmn⟩
  ·rw[hn]
   exact h.tim.imp id (fun ⟨h1,h2⟩=>⟨h1,fun t ht=>h2 t (ZGJ ht)⟩)
theorem ZHm {w V:Wd} (hw:WdV w) (h:FfW w) {p:Nat} {e:Ev} (he:NewEv w.tr p e) (tQ:V.tr=VB w.tr p e) (hl:SndS w V p e):FfW V:=by
 obtain⟨hk,x8,_,v,_,hn⟩:=hl
 have nY:e.kind≠3:=by omega
 have hA:=mW hw h he (fun _=>x8)
 have hF:=ZDX hw h he nY (fun _=>x8)
 rw[←tQ]at hA hF
 obtain⟨m,hm⟩:∃m:Ms,(⟨p,e.peer,w.sent,[v]⟩:Ms)=m:=⟨_,rfl⟩
 have hmn:m.nu=w.sent:=by rw[←hm]
 rw[hm]at hn
 have hcp:1≤(iN w.net).toNat:=by
  unfold iN
  cases hf:w.net.fates with
  |nil=>simp
  |cons f r=>have:=h.cop f (by rw[hf];simp);simp only[List.headD_cons];omega
 have QP:∀x∈w.net.l,x∈(uN w.net m (xF w.net m) (iN w.net).toNat).l:=fun x hx=>by
  show x∈w.net.l.take _++_++w.net.l.drop _
  rw[←gq (leN w.net.tm (xF w.net m)) w.net.l,bn]at hx
  rw[bn,bn]
  exact hx.elim (fun h=>.inl (.inl h)) .inr
 have yF:m∈(uN w.net m (xF w.net m) (iN w.net).toNat).l:=by
  show m∈w.net.l.take _++_++w.net.l.drop _
  rw[bn,bn]
  exact .inl (.inr (jg.2 ⟨by omega,rfl⟩))
 refine⟨by rw[hn];exact ZFX hw h hmn,fun x hx RT=>?_,fun f hf=>?_,?_,hA,hF⟩
 ·rw[tQ]at hx RT⊢
  rw[hn]
  rcases (TG he.hp).1 hx with h1|rfl
  ·rw[lG he.hp h1]at RT⊢
   rcases h.kept x h1 RT with ⟨y,hy⟩|⟨m',hm',hmn'⟩
   ·exact .inl ⟨y,by rw[xE he (.inr rfl),if_neg (fun h=>nY h.1)];exact hy⟩
   ·exact .inr ⟨m',QP m' hm',hmn'⟩
  ·rw[UG he.hp]
   exact .inr ⟨m,yF,by rw[hmn,x8]⟩
 ·rw[hn]at hf
  exact h.cop f (fd hf)
 ·rw[hn]
  rcases h.tim with hf|⟨hf,ht⟩
  ·exact .inl hf
  ·refine .inr ⟨by show w.net.fates.drop 1=[];rw[hf];rfl,fun t ht2=>?_⟩
   show t≤w.net.now
   rcases ins_tm ht2 with h1|h1
   ·exact ht t h1
   ·by_cases hfi:w.net.fifo=true
    ·-- the ZDg of what is on its way are at most now
     have key:∀k,k≤w.net.l.length→MG w.net m k≤w.net.now:=by
      intro k
      induction k with
      |zero=>intro _;show _+(w.net.fates.headD (1,0)).2≤_;rw[hf];simp
      |succ k ih =>
        intro hk1
        have:=ih oM
        have h3:=ht _ (show w.net.tm.getD k 0∈w.net.tm by
         rw[YA (show k<w.net.tm.length by rw[←hw.net.len];omega)];exact ap _)
        simp only[MG]
        split<;>omega
     rw[h1];exact key _ (ah _)
    ·have key:∀k,MG w.net m k=w.net.now:=by
      intro k
      induction k with
      |zero=>show _+(w.net.fates.headD (1,0)).2=_;rw[hf];simp
      |succ k ih=>simp only[MG];rw[if_neg (fun h=>hfi h.1)];exact ih
     rw[h1];unfold xF;rw[key];exact ii _
theorem ZHn {w V:Wd} (hw:WdV w) (h:FfW w) {p:Nat} {e:Ev} (he:NewEv w.tr p e) (tQ:V.tr=VB w.tr p e) (hl:RcvS w V p e):FfW V:=by
 obtain⟨hk,k,_,YM,hfi,x8,hpe,_,_,hn⟩:=hl
 have dV:e.kind≠2:=by omega
 have hA:=mW hw h he (fun h=>absurd h dV)
 rw[←tQ]at hA
 obtain⟨m,hm⟩:∃m,w.net.l.getD k dfMs=m:=⟨_,rfl⟩
 rw[hm]at x8 hpe
 have QP:m∈w.net.l:=by rw[←hm,YA YM];exact ap YM
 obtain⟨_,s,a,bZ,sY,hxk,hxm,hxp⟩:=LK hw.tr (hw.msg m QP)
 obtain⟨k',hk',_,hka,hkb⟩:=ZX (n:=w.net) (to:=p) oM
 obtain rfl:k'=k:=by omega
 unfold arB at hka
 rw[hm]at hka
 simp only[ar,bj]at hka
 obtain⟨hto,htm⟩:=hka
 have hnr:=(he.rcv hk).1
 refine⟨by rw[hn];exact h.ord.sublist ZCy,fun x hx RT=>?_,by rw[hn];exact h.cop,?_,hA,?_⟩
 ·rw[tQ]at hx RT⊢
  rw[hn]
  rcases (TG he.hp).1 hx with h1|rfl
  ·rw[lG he.hp h1]at RT⊢
   by_cases hc:e.msg=(rA w.tr x).msg
   ·exact .inl ⟨_,by rw[xE he (.inr rfl),if_pos ⟨hk,hc⟩]⟩
   ·rcases h.kept x h1 RT with ⟨z,hz⟩|⟨m',hm',hmn⟩
    ·exact .inl ⟨z,by rw[xE he (.inr rfl),if_neg (fun h=>hc h.2)];exact hz⟩
    ·refine .inr ⟨m',ZCz hm' (fun hh=>hc ?_),hmn⟩
     rw[←hmn,hh,hm];exact x8
  ·rw[UG he.hp]at RT;exact absurd RT dV
 ·rw[hn]
  exact h.tim.imp id (fun ⟨h1,h2⟩=>⟨h1,fun t ht=>h2 t (ZGJ ht)⟩)
 ·rw[tQ]
  intro q i j hq PI hi
  rw[mG]at hq
  rw[rW he.hp]at hi
  by_cases mR:i<(sA w.tr q).length
  rotate_left
  ·by_cases hpq:p=q
   ·subst hpq
    rw[if_pos rfl]at hi
    obtain rfl:i=(sA w.tr p).length:=by omega
    exact xP (fun hh=>dV (by have:=hh.2;rwa [uR he.hp]at this))
   ·rw[if_neg hpq]at hi;omega
  have fG:j<(sA w.tr q).length:=by omega
  have ei:=cJ (e:=e) he.hp hq mR
  have ej:=cJ (e:=e) he.hp hq fG
  by_cases hkd:(evp w.tr q j).kind=2∧(evp w.tr q i).kind=2
  rotate_left
  ·exact xP (by rw[ei,ej];exact hkd)
  obtain⟨hj2,V8⟩:=hkd
  have hii:(q,i+1)∈ids w.tr:=kD.2 ⟨hq,mR⟩
  have hji':(q,j+1)∈ids w.tr:=kD.2 ⟨hq,fG⟩
  have bB:=h.asc q i j hq PI mR hj2 V8
  have JG:=h.ff q i j hq PI mR
  by_cases iT:e.msg=(evp w.tr q i).msg
  ·-- the later one is received now
   have hcj:¬(e.kind=3∧e.msg=(evp w.tr q j).msg):=fun hh=>by have:=hh.2;omega
   have tj:=yM he hq fG hcj
   have hsi:(s,a+1)=(q,i+1):=by
    have h1:=jF hw.tr sY (.inl rfl) hxk
    have h2:=jF hw.tr hii (.inl rfl) V8
    rw[hxm,←x8,iT]at h1
    change TC w.tr 2 (evp w.tr q i).msg=some (q,i+1) at h2
    rw[h1]at h2
    exact fx h2
   have hqs:s=q:=congrArg Prod.fst hsi
   have hpi:(evp w.tr q i).peer=(p:Int):=by
    have:evp w.tr q i=rA w.tr (s,a+1):=by rw[hsi];rfl
    rw[this,hxp,hto]
   by_cases hpp:(evp w.tr q j).peer=(evp w.tr q i).peer
   rotate_left
   ·unfold dD
    rw[ej,ei,fc.2 hpp]
    simp
   have ti:toI (VB w.tr p e) q i=(sA w.tr p).length+1:=by
    unfold toI
    rw[ei,eK (by rw[xE he (.inr rfl),if_pos ⟨hk,iT⟩])]
   rcases h.kept _ hji' hj2 with ⟨y,hy⟩|⟨m',hm',hmn⟩
   ·have hyp:y.1=p:=by
     have h1:=ZHU hw.tr hji' hj2 hy
     have h2:(rA w.tr (q,j+1)).peer=(p:Int):=hpp.trans hpi
     omega
    have hyi:=sF hy
    have hy0:=MF hyi
    have tj2:toI w.tr q j=y.2:=by unfold toI;rw[show (evp w.tr q j).msg=(rA w.tr (q,j+1)).msg from rfl,eK hy]
    have hyl:y.2≤(sA w.tr p).length:=by
     obtain⟨y1,y2⟩:=y
     simp only at hyp hy0⊢
     subst hyp
     obtain⟨b,rfl⟩:∃b,y2=b+1:=⟨y2-1,by omega⟩
     have:=(kD.1 hyi).2
     omega
    unfold dD
    rw[tj,tj2,ti,ak (by omega:¬(sA w.tr p).length+1<y.2)]
    have:(y.2==0)=false:=fc.2 oM
    rw[this];simp
   ·-- it is still on its way,ahead of the later one
    exfalso
    obtain⟨_,s',a',hfr',hxs',hxk',hxm',hxp'⟩:=LK hw.tr (hw.msg m' hm')
    have hsj:(s',a'+1)=(q,j+1):=by
     have h1:=jF hw.tr hxs' (.inl rfl) hxk'
     have h2:=jF hw.tr hji' (.inl rfl) hj2
     rw[hxm',hmn]at h1
     rw[h1]at h2
     exact fx h2
    have hqs':s'=q:=congrArg Prod.fst hsj
    have hto':m'.to=(p:Int):=by rw[←hxp',hsj];exact hpp.trans hpi
    have DW:m'.nu<m.nu:=by
     rw[hmn,←x8,iT];exact bB
    obtain⟨b,hb,rfl⟩:=dh hm'
    rw[YA YM]at hm
    have ZLX:w.net.l[b].fr=m.fr:=by rw[bZ,hfr',hqs,hqs']
    rcases jz b k' with hbk|hbk|hbk
    ·have h1:=hkb b hbk
     unfold arB at h1
     rw[YA hb,ag hto',dt]at h1
     have h2:=iq h1
     have hl:=hw.net.len
     have h3:=hw.net.sorted b k' oM oM
     omega
    ·subst hbk
     rw[hm]at DW;omega
    ·have h1:=List.pairwise_iff_getElem.1 h.ord k' b YM hb hbk
     rw[hm]at h1
     have:=h1 ZLX.symm (by rw[hto,hto'])
     omega
  ·have ti:=yM he hq mR (fun hh=>iT hh.2)
   by_cases hcj:e.msg=(evp w.tr q j).msg
   ·-- the earlier one is received now: the later one was not
    have tj:toI w.tr q j=0:=by
     unfold toI
     rw[←hcj,bK (R7 (fun z hz hzk=>hnr z hz hzk))]
    unfold dD at JG⊢
    rw[ej,ei,ti]
    rw[tj]at JG
    rw[hj2,V8]at JG⊢
    cases hpp:(evp w.tr q j).peer==(evp w.tr q i).peer
    ·simp
    rw[hpp]at JG
    simp at JG
    rw[JG];simp
   ·rw[U7 ej ei (yM he hq fG (fun hh=>hcj hh.2)) ti]
    exact JG
theorem ZF6 (w:Wd) (p:Nat) (ev:Ev) (hw:WdV w) (h:FfW w) (hp:p<w.sv.length) (hk:StK w (stW w p).1 p ev) (hv:WdV (stW w p).1):FfW (stW w p).1:=by
 rcases hk.is with h1|h1|h1
 ·exact ZHp hw h hk.ne hk.tr h1
 ·exact ZHm hw h hk.ne hk.tr h1
 ·exact ZHn hw h hk.ne hk.tr h1
theorem ZF5 (w:Wd) (k:Int) (hw:WdV w) (h:FfW w) (hk:0≤k) (hv:WdV (tkW w k)):FfW (tkW w k):=
 ⟨h.ord,h.kept,h.cop,h.tim.imp id (fun ⟨h1,h2⟩=>⟨h1,fun t ht=>by
  have:=h2 t ht
  have hn:=hw.nnow
  show t≤w.now+k
  omega⟩),h.asc,h.ff⟩
theorem ZHo {L:List Sv} {n:Nw} (hl:n.l=[]) (ht:n.tm=[]) (hc:∀f∈n.fates,1≤f.1) (hf:n.fifo=true∨n.fates=[]):FfW (xN L n):=by
 refine⟨by show n.l.Pairwise _;rw[hl];exact List.Pairwise.nil,fun x hx=>absurd hx (FM x),hc,hf.imp id (fun h=>⟨h,fun t h2=>by change t∈n.tm at h2;rw[ht]at h2;cases h2⟩),fun p i j _ _ hi=>?_,fun p i j _ _ hi=>?_⟩ <;>
 ·change i<(sA (L.map npr) p).length at hi
  rw[vW]at hi
  exact absurd hi (gr _)
def a_cho:AFunc:=({c:=_}:CF Tryz.prog 9).c
theorem ZCp:CA Tryz.prog 9=some a_cho:=by kernel_rfl
def EW:List (Nat×Nat):=[(7,7),(11,15),(27,73)]

noncomputable def MQ (L:List Sv) (n:Nw) (cs:List Int):Wd×Bool:=if (tL L n).2=0 then (chW (xN L n) cs,true) else (wd0,false)
theorem ZCd {w:Wd} {c:Nat} {cs:List Int} (h:(eG w w.sv.length).length=0∨c % 8=0):chW w ((c:Int)::cs)=chW (tkW w ((c / 8:Nat):Int)) cs:=by
 conv=>lhs;unfold chW
 rw[bs,if_pos h]
theorem ZCe {w:Wd} {c p:Nat} {cs:List Int} (h:¬((eG w w.sv.length).length=0∨c % 8=0)) (hp:(eG w w.sv.length)[c / 8 % (eG w w.sv.length).length]? = some p):chW w ((c:Int)::cs)=if (stW w p).2=0 then chW (stW w p).1 cs else w:=by
 conv=>lhs;unfold chW
 rw[bs,if_neg h,aq,hp];rfl
theorem ZM (L:List Sv) (hL:SvsS L) (n:Nw) (hN:NwS n) (cs:List Int) (PN:∀c∈cs,0≤c∧c<65536) (ZBb:cs.length≤60) (b l:List Row) :
  ZA Tryz.prog 9 [.v (.isl 6 (L.map eSv)),.agg ((eNw n).map .v),.v (.isl 1 (cs.map eU))] b l (fun r b' l'=>r=.tup [.agg ((eWd (MQ L n cs).1).map .v),.v (.bool (MQ L n cs).2)]∧b'=b∧l'=l):=by
 refine XA ZCp rfl kE ?_
 intro B g hB hR hE hA;simp only[EA]at hA
 have heN:(eNw n).map AV.v=(zNA n):=rfl
 have n00:((0:Int) != 0)=false:=rfl
 have cN:=fun b l=>sN L hL n hN b l
 rw[heN]at hA cN
 rcases bgn_ways L n with ⟨hbq,hLv,JW⟩|⟨e,he,hbq⟩
 rotate_left
 ·have hr:MQ L n cs=(wd0,false):=by unfold MQ;rw[hbq,if_neg he]
  rw[hr]
  rw[hbq]at cN
  have ne:(e != 0)=true:=bne_iff_ne.2 he
  simp only[AA]at cN
  simp (disch:=first|decide|omega) only[a_cho,hA,cellsOf,go_sem]
  refine ZA.nxt (cN _ _) ?_
  simp (disch:=first|decide|omega) only[hA,ne,cellsOf,go_sem]
  exact yC (.inr rfl) (xs:=[.agg zZA,.v (.bool false)]) kR (ZEY false) hR hB ⟨rfl,rfl,rfl⟩
 have hr:MQ L n cs=(chW (xN L n) cs,true):=by unfold MQ;rw[hbq,if_pos rfl]
 rw[hr]
 rw[hbq]at cN
 simp only[AA]at cN
 simp (disch:=first|decide|omega) only[a_cho,hA,cellsOf,go_sem]
 refine ZA.nxt (cN _ _) ?_
 simp (disch:=first|decide|omega) only[hA,n00,aa,go_sem]
 obtain⟨R,hRr⟩:∃R,chW (xN L n) cs=R:=⟨_,rfl⟩
 rw[hRr]
 refine ZB (ι:=Nat×Wd) EW (fun i=>[(27,.v (.int .i64 i.1))]) 3 (fun i=>[.live 0 5 [(zNA n)],.live 0 9 [zZA],.live 0 9 [(eWd i.2).map .v]])
  (fun i=>i.1≤cs.length∧InvL L i.1 i.2∧chW i.2 (cs.drop i.1)=R) (fun i=>cs.length-i.1) (0,xN L n) ⟨an _,⟨JW,rfl,by show (0:Int)≤_;omega,fun q=>⟨rfl,rfl⟩⟩,by rw[dp];exact hRr⟩ kM kA kF ?_
 rintro g1 aI bI aC ⟨i,w⟩ ⟨hi,hI,hch⟩
 simp only at hi hI hch
 simp only[AA]
 have hw:=hI.v
 have hlL:((w.tr.length:Int)==(L.length:Int))=true:=by rw[hw.len,hI.len];exact dw _
 by_cases bB:i<cs.length
 rotate_left
 ·obtain rfl:i=cs.length:=by omega
  rw[List.drop_length]at hch
  have hwR:w=R:=hch
  rw[←hwR]
  simp (disch:=first|decide|omega) only[hA,aC,hlL,aa,go_sem]
  exact QA (xs:=[.agg (zWA w),.v (.bool true)])
 obtain⟨hc0,qL⟩:=PN _ (ap bB)
 obtain⟨c,hc⟩:∃c:Nat,cs[i]=c:=⟨cs[i].toNat,by omega⟩
 rw[QV bB,hc]at hch
 have hcb:c<65536:=by omega
 have hgc:(cs.map eU)[i]? = some [.int .u16 c]:=by rw[ai,ae bB,hc];rfl
 have hs8:=(jO hw.sv).2
 have hsm:=hw.small
 have cE:=fun b l=>DL w hsm hw.nm hw.svS hw.net.s hw.to b l
 obtain⟨m,hm⟩:∃m,(eG w w.sv.length).length=m:=⟨_,rfl⟩
 have j6:(sL w w.sv.length).length=m:=by rw[OS,hm]
 have dY:Int.fdiv (c:Int) (2 ^ Int.toNat 3)=((c / 8:Nat):Int):=by
  show Int.fdiv (c:Int) 8=_
  rw[me _ kE];omega
 have hwc:IntKind.i64.wrap ((c / 8:Nat):Int)=((c / 8:Nat):Int):=zB oM oM
 have hmd:Int.tmod (c:Int) 8=((c % 8:Nat):Int):=rfl
 have h80:((8:Int)=0)=False:=eq_false kE
 have EZ:=hw.now
 simp only[AA]at cE
 simp (disch:=first|decide|omega) only[hA,aC,hgc,aa,go_sem]
 refine ZA.nxt (cE _ _) ?_
 by_cases hT:m=0∨c % 8=0
 ·have hI':InvL L (i+1) (tkW w ((c / 8:Nat):Int)):=by
   refine⟨uO hw ⟨by omega,by have:=hI.now;omega⟩,hI.len,?_,hI.rt⟩
   show w.now+((c / 8:Nat):Int)≤_
   have:=hI.now;omega
  have hch':chW (tkW w ((c / 8:Nat):Int)) (cs.drop (i+1))=R:=by rw[←ZCd (by rw[hm];exact hT)];exact hch
  have htk:uL w ((c / 8:Nat):Int)=(tkW w ((c / 8:Nat):Int),0):=by
   unfold uL;rw[if_pos hw.to,if_pos ⟨by omega,by have:=hI.now;omega⟩]
  have cT:=fun b l=>dN w hsm.sm hw.nm hw.svS hw.net.s ((c / 8:Nat):Int) b l
  rw[htk]at cT
  obtain⟨V,hV⟩:∃V,tkW w ((c / 8:Nat):Int)=V:=⟨_,rfl⟩
  rw[hV]at cT hI' hch'
  simp only[AA]at cT
  have zz:((m:Int)==0)=true∨(((m:Int)==0)=false∧(((c % 8:Nat):Int)==0)=true):=by
   by_cases hm0:m=0
   ·exact .inl (by rw[hm0];rfl)
   ·have h8:c % 8=0:=by omega
    exact .inr ⟨by simp;omega,by rw[h8];rfl⟩
  rcases zz with z1|⟨z1,z2⟩
  ·simp (disch:=first|decide|omega) only[hA,aC,n00,j6,z1,dY,hwc,aa,go_sem]
   refine ZA.nxt (cT _ _) ?_
   simp (disch:=first|decide|omega) only[hA,aC,n00,dY,hwc,aa,go_sem]
   refine⟨(i+1,V),⟨bB,hI',hch'⟩,by simp only;omega,?_⟩
   simp only[AA]
   exact KA.kround (p:=EW) (k:=3) kQ kA rfl aI kS kV hR kL
  ·simp (disch:=first|decide|omega) only[hA,aC,n00,j6,z1,z2,hmd,h80,dY,hwc,aa,go_sem]
   refine ZA.nxt (cT _ _) ?_
   simp (disch:=first|decide|omega) only[hA,aC,n00,dY,hwc,aa,go_sem]
   refine⟨(i+1,V),⟨bB,hI',hch'⟩,by simp only;omega,?_⟩
   simp only[AA]
   exact KA.kround (p:=EW) (k:=3) kQ kA rfl aI kS kV hR kL
 have hm0:m≠0:=fun h=>hT (.inl h)
 have z1:((m:Int)==0)=false:=by simp;omega
 have z2:(((c % 8:Nat):Int)==0)=false:=by
  have:c % 8≠0:=fun h=>hT (.inr h)
  simp;omega
 have hrm:Int.tmod ((c / 8:Nat):Int) (m:Int)=(((c / 8) % m:Nat):Int):=rfl
 have m0:((m:Int)=0)=False:=eq_false oM
 have hix:(c / 8) % m<m:=jq _ oM
 obtain⟨p,hpx⟩:∃p,(eG w w.sv.length)[(c / 8) % m]? = some p:=⟨_,ae (by rw[hm];exact hix)⟩
 rw[ZCe (by rw[hm];exact hT) (by rw[hm];exact hpx)]at hch
 have hqp:(sL w w.sv.length)[(c / 8) % m]? = some [.int .i64 p]:=by unfold sL;rw[ai,hpx];rfl
 generalize (c / 8) % m=ix at *
 obtain⟨K8,r6⟩:=km.1 (cd hpx)
 have hp:=bc.1 K8
 have tH:iL w p=stW w p:=by unfold iL;rw[if_pos hw.to,if_neg oM,bs,if_pos r6]
 have cS:=fun b l=>rN w hsm.sm hw.nm hw.svS hw.net.s p b l
 rw[tH]at cS
 rcases Classical.em ((stW w p).2=0) with h0|h0
 rotate_left
 ·obtain⟨y,hy⟩:∃y,stW w p=y:=⟨_,rfl⟩
  rw[if_neg h0]at hch
  rw[hy]at cS h0
  have e0:(y.2 != 0)=true:=bne_iff_ne.2 h0
  simp only[AA]at cS
  rw[←hch]
  simp (disch:=first|decide|omega) only[hA,aC,n00,j6,z1,z2,hmd,h80,dY,hwc,hrm,m0,hqp,aa,go_sem]
  refine ZA.nxt (cS _ _) ?_
  simp (disch:=first|decide|omega) only[hA,aC,e0,j6,dY,hwc,hrm,m0,hqp,hlL,aa,go_sem]
  exact QA (xs:=[.agg (zWA w),.v (.bool true)])
 obtain⟨ev,ZGI,tQ,htm,J0,ZAx,hrt⟩:=bY hw hp r6 h0
 have hvV:=ZJ hw hp r6 h0
 rw[if_pos h0]at hch
 obtain⟨V,hV⟩:∃V,(stW w p).1=V:=⟨_,rfl⟩
 have e1:stW w p=(V,0):=Prod.ext hV h0
 rw[hV]at tQ J0 ZAx hrt hvV hch
 rw[e1]at cS
 have hI':InvL L (i+1) V:=⟨hvV,by rw[ZAx];exact hI.len,by rw[J0];have:=hI.now;omega,fun q=>⟨(hrt q).1.trans (hI.rt q).1,(hrt q).2.trans (hI.rt q).2⟩⟩
 simp only[AA]at cS
 simp (disch:=first|decide|omega) only[hA,aC,n00,j6,z1,z2,hmd,h80,dY,hwc,hrm,m0,hqp,aa,go_sem]
 refine ZA.nxt (cS _ _) ?_
 simp (disch:=first|decide|omega) only[hA,aC,n00,j6,dY,hwc,hrm,m0,hqp,aa,go_sem]
 refine⟨(i+1,V),⟨bB,hI',hch⟩,by simp only;omega,?_⟩
 simp only[AA]
 exact KA.kround (p:=EW) (k:=3) kQ kA rfl aI kS kV hR kL
def a_lwMsg:AFunc:=({c:=_}:CF Tryz.prog 3).c
theorem R4:CA Tryz.prog 3=some a_lwMsg:=by kernel_rfl
def LY:List (Nat×Nat):=[(6,6),(9,18),(50,135)]
def DS:List (Nat×Nat):=[(6,6),(11,18),(58,134)]

theorem chzR_ways {P:Wd→Prop} (tH:∀w p ev,WdV w→P w→p<w.sv.length→StK w (stW w p).1 p ev→WdV (stW w p).1→P (stW w p).1) (htk:∀w k,WdV w→P w→0≤k→WdV (tkW w k)→P (tkW w k))
  (L:List Sv) (n:Nw) (hP:n.l=[]→nwB n=true→P (xN L n)) (cs:List Int) (PN:∀c∈cs,0≤c∧c<65536) (ZBb:cs.length≤60):MQ L n cs=(wd0,false)∨∃W,MQ L n cs=(W,true)∧WdV W∧P W:=by
 unfold MQ
 rcases bgn_ways L n with ⟨hbq,hLv,JW⟩|⟨e,he,hbq⟩
 ·rw[hbq,if_pos rfl]
  have hn:n.l=[]:=by
   unfold tL at hbq
   split at hbq
   ·rename_i h1
    split at hbq
    ·exact absurd (show (6:Int)=0 from congrArg Prod.snd hbq) kE
    ·rename_i h2
     exact cu (by
      have:¬0<n.l.length:=fun h=>h2 (.inr (.inl h))
      omega)
   ·exact absurd (show (1:Int)=0 from congrArg Prod.snd hbq) kE
  have h:=sZ tH htk cs _ JW (hP hn (TF.2 JW.net)) PN (by show (0:Int)+_≤_;omega)
  exact .inr ⟨_,rfl,h.1,h.2⟩
 ·rw[hbq,if_neg he];exact .inl rfl
theorem SN (L:List Sv) (n:Nw) (cs:List Int) (PN:∀c∈cs,0≤c∧c<65536) (b l:List Row) :
  ZA Tryz.prog 3 [.v (.isl 6 (L.map eSv)),.agg ((eNw n).map .v),.v (.isl 1 (cs.map eU))] b l (fun r b' l'=>r=.v (.bool true)∧b'=b∧l'=l):=by
 refine XA R4 rfl kE ?_
 intro B g hB hR hE hA;simp only[EA]at hA
 have heN:(eNw n).map AV.v=(zNA n):=rfl
 have cG:=fun b l=>CR n b l
 rw[heN]at cG hA
 have n00:((0:Int) != 0)=false:=rfl
 simp (disch:=first|decide|omega) only[a_lwMsg,hA,cellsOf,go_sem]
 refine ZA.nxt (iD _ _) ?_
 simp (disch:=first|decide|omega) only[hA,cellsOf,go_sem]
 refine ZA.nxt (pN L _ _) ?_
 cases g1:DM L
 ·simp (disch:=first|decide|omega) only[hA,cellsOf,go_sem]
  refine ZA.nxt (iD _ _) ?_
  simp (disch:=first|decide|omega) only[hA,go_sem]
  exact QA (xs:=[.v (.bool true)])
 simp (disch:=first|decide|omega) only[hA,cellsOf,go_sem]
 refine ZA.nxt (cG _ _) ?_
 cases g2:jL n
 ·simp (disch:=first|decide|omega) only[hA,cellsOf,go_sem]
  refine ZA.nxt (iD _ _) ?_
  simp (disch:=first|decide|omega) only[hA,go_sem]
  exact QA (xs:=[.v (.bool true)])
 obtain⟨ZKG,hL⟩:=eS g1
 obtain⟨hn1,hn2,hn3,hN⟩:=AY g2
 by_cases ZBb:60<cs.length
 ·have d1:decide ((cs.length:Int)>60)=true:=ag oM
  have d1':decide ((60:Int)<(cs.length:Int))=true:=d1
  simp (disch:=first|decide|omega) only[hA,d1,d1',aa,go_sem]
  refine ZA.nxt (iD _ _) ?_
  simp (disch:=first|decide|omega) only[hA,go_sem]
  exact QA (xs:=[.v (.bool true)])
 have d1:decide ((cs.length:Int)>60)=false:=ak oM
 have d1':decide ((60:Int)<(cs.length:Int))=false:=d1
 have cC:=fun b l=>ZM L hL n hN cs PN oM b l
 rw[heN]at cC
 rcases chzR_ways (P:=MsW) ZFR ZFQ L n (fun h _=>ZHc h) cs PN oM with hq|⟨W,hq,hW,hM⟩
 ·rw[hq]at cC
  simp only[AA]at cC
  simp (disch:=first|decide|omega) only[hA,d1,d1',aa,go_sem]
  refine ZA.nxt (cC _ _) ?_
  simp (disch:=first|decide|omega) only[hA,aa,go_sem]
  exact QA (xs:=[.v (.bool true)])
 rw[hq]at cC
 simp only[AA]at cC
 have hsm:=hW.small
 have hnp:=hsm.np
 have nJ:=vF hW.tr
 simp (disch:=first|decide|omega) only[hA,d1,d1',aa,go_sem]
 refine ZA.nxt (cC _ _) ?_
 simp (disch:=first|decide|omega) only[hA,aa,go_sem]
 refine ZB (ι:=Nat) LY (fun p=>[(50,.v (.int .i64 p))]) 2 (fun _=>[.live 0 5 [(zNA n)],.live 0 9 [(zWA W)]])
  (fun p=>p≤W.tr.length) (fun p=>W.tr.length-p) 0 (an _) kM kA kF ?_
 rintro g1 aI bI aC p hp
 by_cases Z0:p<W.tr.length
 rotate_left
 ·obtain rfl:p=W.tr.length:=by omega
  simp (disch:=first|decide|omega) only[hA,aC,aa,go_sem]
  exact QA (xs:=[.v (.bool true)])
 have y8:=QL Z0
 have YH:=hsm.ne _ (ap Z0)
 simp (disch:=first|decide|omega) only[hA,aC,y8,aa,go_sem]
 refine ZB (ι:=Nat) DS (fun i=>[(58,.v (.int .i64 i))]) 3 (fun _=>[.live 0 5 [(zNA n)],.live 0 9 [(zWA W)],.live 0 3 [[.v (.str W.tr[p].name),.v (.isl 2 (W.tr[p].vars.map eVr)),.v (.isl 5 (W.tr[p].evs.map eEv))]]])
  (fun i=>i≤W.tr[p].evs.length) (fun i=>W.tr[p].evs.length-i) 0 (an _) kM kA kF ?_
 rintro g2 UP ZB9 NI i hi
 by_cases mR:i<W.tr[p].evs.length
 rotate_left
 ·obtain rfl:i=W.tr[p].evs.length:=by omega
  simp (disch:=first|decide|omega) only[hA,aC,NI,aa,go_sem]
  refine⟨p+1,Z0,by simp only;omega,?_⟩
  exact KA.kround (p:=LY) (k:=2) kQ kA rfl aI kS kV hR kL
 have TK:=bJ mR
 have hx:(p,i+1)∈ids W.tr:=kD.2 ⟨Z0,by rw[yE Z0];exact mR⟩
 have yK:rA W.tr (p,i+1)=W.tr[p].evs[i]:=dR Z0 mR
 obtain⟨e,he⟩:∃e,W.tr[p].evs[i]=e:=⟨_,rfl⟩
 rw[he]at TK yK
 by_cases nY:e.kind=3
 rotate_left
 ·have hkb:(e.kind != 3)=true:=bne_iff_ne.2 nY
  simp (disch:=first|decide|omega) only[hA,aC,NI,TK,hkb,aa,go_sem]
  refine⟨i+1,mR,by simp only;omega,?_⟩
  exact KA.kround (p:=DS) (k:=3) kQ kA rfl UP kS kV hR kL
 have hkb:(e.kind != 3)=false:=by rw[nY];rfl
 obtain⟨a,has,ha1,ha2⟩:=hM.got _ hx (by rw[yK];exact nY)
 obtain⟨hpe,_,_,_⟩:=R8 hW.tr hx (by rw[yK];exact nY)
 obtain⟨hsi,_⟩:=D6 hW.tr hx (by rw[yK];exact nY)
 rw[yK]at has hpe
 obtain⟨⟨q,J⟩,hs⟩:∃y,UK W.tr (p,i+1)=y:=⟨_,rfl⟩
 rw[hs]at ha2 hpe hsi
 have hJ0:=MF hsi
 simp only at ha1 ha2 hpe hJ0
 have j6:q<W.tr.length∧J≤(sA W.tr q).length:=by
  obtain⟨j,rfl⟩:∃j,J=j+1:=⟨J-1,by omega⟩
  have:=kD.1 hsi
  exact⟨this.1,by omega⟩
 obtain⟨hqt,hJl⟩:=j6
 rw[yE hqt]at hJl
 rw[YA Z0]at ha1
 rw[YA hqt]at ha2
 have bZ:vD W.tr 2 e.msg=(q,J):=by
  rw[AK nJ,←hs]
  unfold UK;rw[yK]
 have cSn:=fun b l=>YQ W.tr hsm hW.nm b l e.msg
 rw[bZ]at cSn
 have hJb:decide (0<J)=true:=ag oM
 have hqp:((q:Int) != e.peer)=false:=by rw[hpe];simp
 have ZKH:(W.tr[p].evs.map eEv)[i]? = some [.int .i64 e.kind,.int .i64 e.peer,.int .i64 e.msg,.int .i64 e.time,.isl 2 [[.int .i64 a.v,.int .i64 a.val]]]:=by
  rw[TK,has];rfl
 have c1:=fun b l=>TL W.tr nJ hsm hW.nm q J hqt hJl b l
 have c2:=fun b l=>TL W.tr nJ hsm hW.nm p (i+1) Z0 mR b l
 have ZJ0:((i+1:Nat):Int)=(i:Int)+1:=by omega
 rw[ZJ0]at c2
 have hv1:(stV W.tr[q] J).length≤1000000:=by rw[JI];exact hsm.nv _ (ap hqt)
 have hv2:(stV W.tr[p] (i+1)).length≤1000000:=by rw[JI];exact hsm.nv _ (ap Z0)
 have k1:=fun b l=>gQ (stV W.tr[q] J) hv1 a.val b l
 have k2:=fun b l=>gQ (stV W.tr[p] (i+1)) hv2 a.val b l
 rw[ag ha2]at k1
 rw[ag ha1]at k2
 have n11:((1:Int) != 1)=false:=rfl
 have n111:(((1:Nat):Int) != 1)=false:=rfl
 simp only[eT,idA]at cSn
 simp (disch:=first|decide|omega) only[hA,aC,NI,ZKH,hkb,aa,go_sem]
 refine ZA.nxt (cSn _ _) ?_
 simp (disch:=first|decide|omega) only[hA,aC,NI,ZKH,hkb,hJb,hqp,n11,n111,aa,go_sem]
 refine ZA.nxt (c1 _ _) ?_
 simp (disch:=first|decide|omega) only[hA,aC,NI,aa,go_sem]
 refine ZA.nxt (c2 _ _) ?_
 simp (disch:=first|decide|omega) only[hA,aC,NI,n00,aa,go_sem]
 refine ZA.nxt (k1 _ _) ?_
 simp (disch:=first|decide|omega) only[hA,aC,NI,n00,aa,go_sem]
 refine ZA.nxt (k2 _ _) ?_
 simp (disch:=first|decide|omega) only[hA,aC,NI,n00,aa,go_sem]
 refine⟨i+1,mR,by simp only;omega,?_⟩
 exact KA.kround (p:=DS) (k:=3) kQ kA rfl UP kS kV hR kL
def a_lwFif:AFunc:=({c:=_}:CF Tryz.prog 5).c
theorem S4:CA Tryz.prog 5=some a_lwFif:=by kernel_rfl
def a_lwFif1:AFunc:=({c:=_}:CF Tryz.prog 28).c
theorem gY:CA Tryz.prog 28=some a_lwFif1:=by kernel_rfl

theorem DX (f:Int×Int) (b l:List Row):ZA Tryz.prog 28 [.agg ((eFt f).map .v)] b l (fun r b' l'=>r=.v (.bool (f.1==0))∧b'=b∧l'=l):=by
 refine XA gY rfl kE ?_
 intro B g hB hR hE hA;simp only[EA]at hA
 simp (disch:=first|decide|omega) only[a_lwFif1,hA,eFt,cellsOf,go_sem]
 exact QA (xs:=[.v (.bool (f.1==0))])
theorem C4:CA Tryz.prog 27=some (FG 60):=by kernel_rfl
theorem L4:CA Tryz.prog 60=some (JJ 2):=by kernel_rfl
theorem ZFe {l:List (Int×Int)}:∀row∈l.map eFt,row.length=2:=fun row h=>by
 obtain⟨f,_,rfl⟩:=de.1 h;rfl
theorem nw0_S:NwS nw0:=(TF.1 CW).s
theorem ff_ways (L:List Sv) (n:Nw) (hn:n.tm=[]∧(∀f∈n.fates,1≤f.1)∧(n.fifo=true∨n.fates=[])) (cs:List Int) (PN:∀c∈cs,0≤c∧c<65536) (ZBb:cs.length≤60):MQ L n cs=(wd0,false)∨∃W,MQ L n cs=(W,true)∧WdV W∧(pD W.tr&&FQ W.tr)=true:=by
 rcases chzR_ways (P:=FfW) ZF6 ZF5 L n (fun h _=>ZHo h hn.1 hn.2.1 hn.2.2) cs PN ZBb with h|⟨W,h1,h2,h3⟩
 ·exact .inl h
 ·exact .inr ⟨W,h1,h2,by rw[vF h2.tr,ZHq h3.ff];rfl⟩
theorem nT (L:List Sv) (v:List (Int×Int)) (cs:List Int) (PN:∀c∈cs,0≤c∧c<65536) (b l:List Row) :
  ZA Tryz.prog 5 [.v (.isl 6 (L.map eSv)),.v (.isl 2 (v.map eFt)),.v (.isl 1 (cs.map eU))] b l (fun r b' l'=>r=.v (.bool true)∧b'=b∧l'=l):=by
 refine XA S4 rfl kE ?_
 intro B g hB hR hE hA;simp only[EA]at hA
 have n00:((0:Int) != 0)=false:=rfl
 simp (disch:=first|decide|omega) only[a_lwFif,hA,cellsOf,go_sem]
 refine ZA.nxt (iD _ _) ?_
 simp (disch:=first|decide|omega) only[hA,cellsOf,go_sem]
 refine ZA.nxt (pN L _ _) ?_
 cases g1:DM L
 ·simp (disch:=first|decide|omega) only[hA,cellsOf,go_sem]
  refine ZA.nxt (iD _ _) ?_
  simp (disch:=first|decide|omega) only[hA,go_sem]
  exact QA (xs:=[.v (.bool true)])
 obtain⟨ZKG,hL⟩:=eS g1
 by_cases hv40:40<v.length
 ·have d0:decide ((v.length:Int)>40)=true:=ag oM
  have d0':decide ((40:Int)<(v.length:Int))=true:=d0
  simp (disch:=first|decide|omega) only[hA,d0,d0',aa,go_sem]
  refine ZA.nxt (iD _ _) ?_
  simp (disch:=first|decide|omega) only[hA,go_sem]
  exact QA (xs:=[.v (.bool true)])
 have d0:decide ((v.length:Int)>40)=false:=ak oM
 have d0':decide ((40:Int)<(v.length:Int))=false:=d0
 by_cases ZBb:60<cs.length
 ·have d1:decide ((cs.length:Int)>60)=true:=ag oM
  have d1':decide ((60:Int)<(cs.length:Int))=true:=d1
  simp (disch:=first|decide|omega) only[hA,d0,d0',d1,d1',aa,go_sem]
  refine ZA.nxt (iD _ _) ?_
  simp (disch:=first|decide|omega) only[hA,go_sem]
  exact QA (xs:=[.v (.bool true)])
 have d1:decide ((cs.length:Int)>60)=false:=ak oM
 have d1':decide ((60:Int)<(cs.length:Int))=false:=d1
 have c0:∀b l,ZA Tryz.prog 9 [.v (.isl 6 (L.map eSv)),.agg [.v (.int .i64 0),.v (.bool false),.v .zsl,.v .zsl,.v .zsl],.v (.isl 1 (cs.map eU))] b l (fun r b' l'=>r=.tup [.agg ((eWd (MQ L nw0 cs).1).map .v),.v (.bool (MQ L nw0 cs).2)]∧b'=b∧l'=l):=fun b l=>by
  refine (ZM L hL nw0 nw0_S cs PN oM b l).le rfl (fun i x y hx hy=>?_)
  match i,hx,hy with
  |0,hx,hy=>cases hx;cases hy;exact .refl _
  |1,hx,hy =>
    cases hx;cases hy
    refine .agg _ _ rfl (fun j u v hu hv=>?_)
    match j,hu,hv with
    |0,hu,hv=>cases hu;cases hv;exact .refl _
    |1,hu,hv=>cases hu;cases hv;exact .refl _
    |2,hu,hv=>cases hu;cases hv;exact .v _ _ (.zsl 4)
    |3,hu,hv=>cases hu;cases hv;exact .v _ _ (.zsl 1)
    |4,hu,hv=>cases hu;cases hv;exact .v _ _ (.zsl 2)
  |2,hx,hy=>cases hx;cases hy;exact .refl _
 obtain⟨W0,o0,hq0,hF0⟩:∃W0 o0,MQ L nw0 cs=(W0,o0)∧(o0=true→WdV W0∧(pD W0.tr&&FQ W0.tr)=true):=by
  rcases ff_ways L nw0 ⟨rfl,fun f hf=>(by cases hf),.inr rfl⟩ cs PN oM with h|⟨W,h,h2,h3⟩
  ·exact⟨_,_,h,fun h=>by cases h⟩
  ·exact⟨_,_,h,fun _=>⟨h2,h3⟩⟩
 rw[hq0]at c0
 simp only[AA]at c0
 have cNw:=fun b l=>c9 true v b l
 have hm:v.length≤1000000:=by omega
 have cCon:=fun B0 l0=>zE C4 L4 (v.map eFt) 28 [] (fun j=>(v.getD j (0,0)).1==0) ZFe (by rw[aa];omega) B0 l0 (fun j row hj=>by
  have fG:j<v.length:=by have:=(aj.1 hj).1;rwa [aa]at this
  rw[ai,ae fG]at hj
  cases hj
  simp only[YA fG]
  exact DX _ _ _)
 rw[aa,tG (d:=(0,0)) (p:=fun f:Int×Int=>f.1==0)]at cCon
 obtain⟨N,hN⟩:∃N,ZU true v=N:=⟨_,rfl⟩
 rw[hN]at cNw
 have heN:nwA N=.agg (zNA N):=rfl
 rw[heN]at cNw
 obtain⟨er,her⟩:∃er,QU v=er:=⟨_,rfl⟩
 rw[her]at cNw
 simp (disch:=first|decide|omega) only[hA,d0,d0',d1,d1',aa,go_sem]
 refine ZA.nxt (c0 _ _) ?_
 cases o0
 case' false =>
  simp (disch:=first|decide|omega) only[hA,aa,go_sem]
  refine ZA.nxt (cNw _ _) ?_
 case' true =>
  obtain⟨pY,hf0⟩:=hF0 rfl
  have cF:=fun b l=>ZV W0.tr pY.small pY.nm b l
  rw[hf0]at cF
  simp only[eT]at cF
  simp (disch:=first|decide|omega) only[hA,aa,go_sem]
  refine ZA.nxt (cF _ _) ?_
  simp (disch:=first|decide|omega) only[hA,aa,go_sem]
  refine ZA.nxt (cNw _ _) ?_
 all_goals
  by_cases h0:er=0
  rotate_left
  ·have ne:(er != 0)=true:=bne_iff_ne.2 h0
   simp (disch:=first|decide|omega) only[hA,ne,aa,go_sem]
   exact QA (xs:=[.v (.bool true)])
  have ne:(er != 0)=false:=by rw[h0];rfl
  simp (disch:=first|decide|omega) only[hA,ne,aa,go_sem]
  refine ZA.nxt (cCon _ _) ?_
  cases t5:v.any (fun f=>f.1==0)
  case true =>
   simp (disch:=first|decide|omega) only[hA,aa,go_sem]
   exact QA (xs:=[.v (.bool true)])
  have hNe:N=⟨0,true,[],[],v⟩:=by rw[←hN];unfold ZU;rw[her,if_pos h0]
  have ZLY:K6 v=true:=by
   unfold QU at her
   rw[if_neg oM]at her
   split at her
   ·assumption
   ·omega
  have hcp:∀f∈N.fates,1≤f.1:=fun f hf=>by
   rw[hNe]at hf
   have h1:=bo.1 (show v.all ftB=true from ZLY) f hf
   have h2:=gz.1 t5 f hf
   unfold ftB at h1
   simp at h1 h2
   omega
  have hNS:NwS N:=by
   rw[hNe]
   exact⟨by simp,by simp,by simp;omega,by simp⟩
  have cC:=fun b l=>ZM L hL N hNS cs PN oM b l
  have ZLZ:(eNw N).map AV.v=(zNA N):=rfl
  rw[ZLZ]at cC
  rcases ff_ways L N ⟨by rw[hNe],hcp,.inl (by rw[hNe])⟩ cs PN oM with hq|⟨W,hq,hW,hF⟩
  ·rw[hq]at cC
   simp only[AA]at cC
   simp (disch:=first|decide|omega) only[hA,aa,go_sem]
   refine ZA.nxt (cC _ _) ?_
   simp (disch:=first|decide|omega) only[hA,aa,go_sem]
   exact QA (xs:=[.v (.bool true)])
  ·rw[hq]at cC
   simp only[AA]at cC
   have cF:=fun b l=>ZV W.tr hW.small hW.nm b l
   rw[hF]at cF
   simp only[eT]at cF
   simp (disch:=first|decide|omega) only[hA,aa,go_sem]
   refine ZA.nxt (cC _ _) ?_
   simp (disch:=first|decide|omega) only[hA,aa,go_sem]
   refine ZA.nxt (cF _ _) ?_
   simp (disch:=first|decide|omega) only[hA,aa,go_sem]
   exact QA (xs:=[.v (.bool true)])
def a_lwVld:AFunc:=({c:=_}:CF Tryz.prog 4).c
theorem D4:CA Tryz.prog 4=some a_lwVld:=by kernel_rfl
def dO:List (Nat×Nat):=[(6,6),(10,23),(54,233)]

theorem XR (L:List Sv) (n:Nw) (cs:List Int) (PN:∀c∈cs,0≤c∧c<65536) (b l:List Row) :
  ZA Tryz.prog 4 [.v (.isl 6 (L.map eSv)),.agg ((eNw n).map .v),.v (.isl 1 (cs.map eU))] b l (fun r b' l'=>r=.v (.bool true)∧b'=b∧l'=l):=by
 refine XA D4 rfl kE ?_
 intro B g hB hR hE hA;simp only[EA]at hA
 have heN:(eNw n).map AV.v=(zNA n):=rfl
 have cG:=fun b l=>CR n b l
 rw[heN]at cG hA
 have n00:((0:Int) != 0)=false:=rfl
 have cZ:=fun b l=>t9 b l
 simp (disch:=first|decide|omega) only[a_lwVld,hA,cellsOf,go_sem]
 refine ZA.nxt (iD _ _) ?_
 simp (disch:=first|decide|omega) only[hA,cellsOf,go_sem]
 refine ZA.nxt (pN L _ _) ?_
 cases g1:DM L
 ·simp (disch:=first|decide|omega) only[hA,cellsOf,go_sem]
  refine ZA.nxt (iD _ _) ?_
  simp (disch:=first|decide|omega) only[hA,go_sem]
  exact QA (xs:=[.v (.bool true)])
 simp (disch:=first|decide|omega) only[hA,cellsOf,go_sem]
 refine ZA.nxt (cG _ _) ?_
 cases g2:jL n
 ·simp (disch:=first|decide|omega) only[hA,cellsOf,go_sem]
  refine ZA.nxt (iD _ _) ?_
  simp (disch:=first|decide|omega) only[hA,go_sem]
  exact QA (xs:=[.v (.bool true)])
 obtain⟨ZKG,hL⟩:=eS g1
 obtain⟨hn1,hn2,hn3,hN⟩:=AY g2
 by_cases ZBb:60<cs.length
 ·have d1:decide ((cs.length:Int)>60)=true:=ag oM
  have d1':decide ((60:Int)<(cs.length:Int))=true:=d1
  simp (disch:=first|decide|omega) only[hA,d1,d1',aa,go_sem]
  refine ZA.nxt (iD _ _) ?_
  simp (disch:=first|decide|omega) only[hA,go_sem]
  exact QA (xs:=[.v (.bool true)])
 have d1:decide ((cs.length:Int)>60)=false:=ak oM
 have d1':decide ((60:Int)<(cs.length:Int))=false:=d1
 have cN:=fun b l=>sN L hL n hN b l
 rw[heN]at cN
 rcases bgn_ways L n with ⟨hbq,hLv,JW⟩|⟨e,he,hbq⟩
 rotate_left
 ·rw[hbq]at cN
  have ne:(e != 0)=true:=bne_iff_ne.2 he
  simp only[AA]at cN cZ
  simp (disch:=first|decide|omega) only[hA,d1,d1',aa,go_sem]
  refine ZA.nxt (cN _ _) ?_
  simp (disch:=first|decide|omega) only[hA,ne,aa,go_sem]
  refine ZA.nxt (cZ _ _) ?_
  simp (disch:=first|decide|omega) only[hA,go_sem]
  exact QA (xs:=[.v (.bool true)])
 rw[hbq]at cN
 simp only[AA]at cN
 simp (disch:=first|decide|omega) only[hA,d1,d1',aa,go_sem]
 refine ZA.nxt (cN _ _) ?_
 simp (disch:=first|decide|omega) only[hA,n00,aa,go_sem]
 refine ZB (ι:=Nat×Wd) dO (fun i=>[(54,.v (.int .i64 i.1))]) 2 (fun i=>[.live 0 5 [(zNA n)],.live 0 9 [(eWd i.2).map .v]])
  (fun i=>i.1≤cs.length∧InvL L i.1 i.2) (fun i=>cs.length-i.1) (0,xN L n) ⟨an _,JW,rfl,by show (0:Int)≤_;omega,fun q=>⟨rfl,rfl⟩⟩ kM kA kF ?_
 rintro g1 aI bI aC ⟨i,w⟩ ⟨hi,hI⟩
 simp only at hi hI
 simp only[AA]
 by_cases bB:i<cs.length
 rotate_left
 ·obtain rfl:i=cs.length:=by omega
  simp (disch:=first|decide|omega) only[hA,aC,aa,go_sem]
  exact QA (xs:=[.v (.bool true)])
 obtain⟨hc0,qL⟩:=PN _ (ap bB)
 obtain⟨c,hc⟩:∃c:Nat,cs[i]=c:=⟨cs[i].toNat,by omega⟩
 have hcb:c<65536:=by omega
 have hgc:(cs.map eU)[i]? = some [.int .u16 c]:=by rw[ai,ae bB,hc];rfl
 have hw:=hI.v
 have hs8:=(jO hw.sv).2
 have hsm:=hw.small
 have cE:=fun b l=>DL w hsm hw.nm hw.svS hw.net.s hw.to b l
 obtain⟨m,hm⟩:∃m,(eG w w.sv.length).length=m:=⟨_,rfl⟩
 have j6:(sL w w.sv.length).length=m:=by rw[OS,hm]
 have dY:Int.fdiv (c:Int) (2 ^ Int.toNat 3)=((c / 8:Nat):Int):=by
  show Int.fdiv (c:Int) 8=_
  rw[me _ kE];omega
 have hwc:IntKind.i64.wrap ((c / 8:Nat):Int)=((c / 8:Nat):Int):=zB oM oM
 have hmd:Int.tmod (c:Int) 8=((c % 8:Nat):Int):=rfl
 have h80:((8:Int)=0)=False:=eq_false kE
 have EZ:=hw.now
 simp only[AA]at cE
 simp (disch:=first|decide|omega) only[hA,aC,hgc,aa,go_sem]
 refine ZA.nxt (cE _ _) ?_
 by_cases hT:m=0∨c % 8=0
 ·have hI':InvL L (i+1) (tkW w ((c / 8:Nat):Int)):=by
   refine⟨uO hw ⟨by omega,by have:=hI.now;omega⟩,hI.len,?_,hI.rt⟩
   show w.now+((c / 8:Nat):Int)≤_
   have:=hI.now;omega
  have hv:=hI'.v
  have htk:uL w ((c / 8:Nat):Int)=(tkW w ((c / 8:Nat):Int),0):=by
   unfold uL;rw[if_pos hw.to,if_pos ⟨by omega,by have:=hI.now;omega⟩]
  have cT:=fun b l=>dN w hsm.sm hw.nm hw.svS hw.net.s ((c / 8:Nat):Int) b l
  rw[htk]at cT
  have cV:=fun b l=>FF (tkW w ((c / 8:Nat):Int)) hv.small.sm hv.nm hv.svS hv.net.s b l
  rw[hv.to]at cV
  have hnw:(tkW w ((c / 8:Nat):Int)).now=w.now+((c / 8:Nat):Int):=rfl
  have ZKI:(tkW w ((c / 8:Nat):Int)).tr=w.tr:=rfl
  have hws:IntKind.i64.wrap (w.now+((c / 8:Nat):Int))=w.now+((c / 8:Nat):Int):=zB oM (by have:=hI.now;omega)
  obtain⟨V,hV⟩:∃V,tkW w ((c / 8:Nat):Int)=V:=⟨_,rfl⟩
  rw[hV]at cT cV hnw ZKI hI'
  have YH:(V.now != w.now+((c / 8:Nat):Int))=false:=by rw[hnw];exact neI _
  have cS:∀b l,ZA Tryz.prog 18 [.agg [.v (eT V.tr)],.agg [.v (eT w.tr)]] b l (fun r b' l'=>r=.v (.bool true)∧b'=b∧l'=l):=fun b l=>by rw[ZKI];exact bS w.tr hsm b l
  simp only[AA,eT]at cT cV cS
  have zz:((m:Int)==0)=true∨(((m:Int)==0)=false∧(((c % 8:Nat):Int)==0)=true):=by
   by_cases hm0:m=0
   ·exact .inl (by rw[hm0];rfl)
   ·have h8:c % 8=0:=by omega
    exact .inr ⟨by simp;omega,by rw[h8];rfl⟩
  rcases zz with z1|⟨z1,z2⟩
  ·simp (disch:=first|decide|omega) only[hA,aC,n00,j6,z1,dY,hwc,aa,go_sem]
   refine ZA.nxt (cT _ _) ?_
   simp (disch:=first|decide|omega) only[hA,aC,n00,dY,hwc,aa,go_sem]
   refine ZA.nxt (cV _ _) ?_
   simp (disch:=first|decide|omega) only[hA,aC,YH,hws,dY,hwc,aa,go_sem]
   refine ZA.nxt (cS _ _) ?_
   simp (disch:=first|decide|omega) only[hA,aC,aa,go_sem]
   refine⟨(i+1,V),⟨bB,hI'⟩,by simp only;omega,?_⟩
   simp only[AA]
   exact KA.kround (p:=dO) (k:=2) kQ kA rfl aI kS kV hR kL
  ·simp (disch:=first|decide|omega) only[hA,aC,n00,j6,z1,z2,hmd,h80,dY,hwc,aa,go_sem]
   refine ZA.nxt (cT _ _) ?_
   simp (disch:=first|decide|omega) only[hA,aC,n00,dY,hwc,aa,go_sem]
   refine ZA.nxt (cV _ _) ?_
   simp (disch:=first|decide|omega) only[hA,aC,YH,hws,dY,hwc,aa,go_sem]
   refine ZA.nxt (cS _ _) ?_
   simp (disch:=first|decide|omega) only[hA,aC,aa,go_sem]
   refine⟨(i+1,V),⟨bB,hI'⟩,by simp only;omega,?_⟩
   simp only[AA]
   exact KA.kround (p:=dO) (k:=2) kQ kA rfl aI kS kV hR kL
 have hm0:m≠0:=fun h=>hT (.inl h)
 have z1:((m:Int)==0)=false:=by simp;omega
 have z2:(((c % 8:Nat):Int)==0)=false:=by
  have:c % 8≠0:=fun h=>hT (.inr h)
  simp;omega
 have hrm:Int.tmod ((c / 8:Nat):Int) (m:Int)=(((c / 8) % m:Nat):Int):=rfl
 have m0:((m:Int)=0)=False:=eq_false oM
 have hix:(c / 8) % m<m:=jq _ oM
 generalize (c / 8) % m=ix at *
 obtain⟨p,hpx⟩:∃p,(eG w w.sv.length)[ix]? = some p:=⟨_,ae (by rw[hm];exact hix)⟩
 have hqp:(sL w w.sv.length)[ix]? = some [.int .i64 p]:=by unfold sL;rw[ai,hpx];rfl
 obtain⟨K8,r6⟩:=km.1 (cd hpx)
 have hp:=bc.1 K8
 have qM:p<w.tr.length:=by rw[hw.len];exact hp
 have hpL:p<L.length:=by rw[←hI.len];exact hp
 have tH:iL w p=stW w p:=by unfold iL;rw[if_pos hw.to,if_neg oM,bs,if_pos r6]
 have cS:=fun b l=>rN w hsm.sm hw.nm hw.svS hw.net.s p b l
 rw[tH]at cS
 have b99:((9:Int)==9)=true:=rfl
 have b55:((5:Int)==5)=true:=rfl
 have b59:((5:Int)==9)=false:=rfl
 have b09:((0:Int)==9)=false:=rfl
 have b05:((0:Int)==5)=false:=rfl
 rcases Classical.em ((stW w p).2=0) with h0|h0
 rotate_left
 ·have he:=z5 h0
  simp only[AA]at cZ
  rcases st_code w p with h1|h1|h1
  ·exact absurd h1 h0
  ·have e1:stW w p=(wd0,5):=Prod.ext he h1
   rw[e1]at cS
   simp only[AA]at cS
   simp (disch:=first|decide|omega) only[hA,aC,n00,j6,z1,z2,hmd,h80,dY,hwc,hrm,m0,hqp,aa,go_sem]
   refine ZA.nxt (cS _ _) ?_
   simp (disch:=first|decide|omega) only[hA,aC,b59,b55,aa,go_sem]
   refine ZA.nxt (cZ _ _) ?_
   simp (disch:=first|decide|omega) only[hA,aC,go_sem]
   exact QA (xs:=[.v (.bool true)])
  ·have e1:stW w p=(wd0,9):=Prod.ext he h1
   rw[e1]at cS
   simp only[AA]at cS
   simp (disch:=first|decide|omega) only[hA,aC,n00,j6,z1,z2,hmd,h80,dY,hwc,hrm,m0,hqp,aa,go_sem]
   refine ZA.nxt (cS _ _) ?_
   simp (disch:=first|decide|omega) only[hA,aC,b99,aa,go_sem]
   refine ZA.nxt (cZ _ _) ?_
   simp (disch:=first|decide|omega) only[hA,aC,go_sem]
   exact QA (xs:=[.v (.bool true)])
 obtain⟨ev,ZGI,tQ,htm,J0,ZAx,hrt⟩:=bY hw hp r6 h0
 have hvV:=ZJ hw hp r6 h0
 obtain⟨V,hV⟩:∃V,(stW w p).1=V:=⟨_,rfl⟩
 have e1:stW w p=(V,0):=Prod.ext hV h0
 rw[hV]at tQ J0 ZAx hrt hvV
 rw[e1]at cS
 have hI':InvL L (i+1) V:=⟨hvV,by rw[ZAx];exact hI.len,by rw[J0];have:=hI.now;omega,fun q=>⟨(hrt q).1.trans (hI.rt q).1,(hrt q).2.trans (hI.rt q).2⟩⟩
 have cV:=fun b l=>FF V hvV.small.sm hvV.nm hvV.svS hvV.net.s b l
 rw[hvV.to]at cV
 have cTV:=fun b l=>SL V.tr hvV.small.sm hvV.nm b l
 rw[vF hvV.tr]at cTV
 have hVl:V.tr.length=L.length:=by rw[hvV.len,ZAx,hI.len]
 have hll:((V.tr.length:Int) != (L.length:Int))=false:=by rw[hVl];exact neI _
 have hgw:=ZEq qM
 have ZL0:=hw.evl qM
 rw[SC dfPr w.tr qM]at ZL0
 have cLn:=fun b l=>Q1 w.tr hsm b l
 have cP:=fun b l=>fX V.tr hvV.small hvV.nm (GG w.tr) (by rw[nP];have:=hsm.np;omega) b l
 have e2:fW V.tr (GG w.tr)=.agg [.v (eT w.tr)]:=by rw[tQ];exact C8 ZGI
 have e3:CH V.tr (GG w.tr)=0:=by rw[tQ];exact FY ZGI
 rw[e2,e3]at cP
 have hgL:=ZL hpL
 have hck:=hI.clk p
 rw[YA hpL]at hck
 have ZL1:AH L[p] w.now=true:=by
  rw[←hck.2]
  unfold AH inZ
  rw[(rH hw.sv hp).1.rt]
  simp only[dt,ar,bj]
  exact EZ
 have cC:=fun b l=>RL (.str L[p].name) (.isl 3 (L[p].code.map eIn)) (.int .i64 L[p].pc) (.v (.isl 1 (L[p].vars.map eI))) L[p] w.now b l (.inl ⟨_,rfl⟩)
 rw[ZL1,if_pos rfl]at cC
 have hte:(ev.time != jJ L[p] w.now)=false:=by rw[htm,hck.1];exact neI _
 have cR:=fun b l=>bS w.tr hsm b l
 have c512:=p7 hw
 have c512V:=p7 hvV
 have cC1:=fun b l=>GN V.tr hvV.small hvV.nm b l oM
 have cC2:=fun b l=>GN w.tr hsm hw.nm b l oM
 have hcR:qG w.tr≤512:=by unfold qG;split<;>omega
 have e4:qG V.tr=qG w.tr+1:=by rw[tQ];exact O8 ZGI
 rw[e4]at cC1
 have w1:IntKind.i64.wrap ((qG w.tr:Int)+1)=((qG w.tr+1:Nat):Int):=by rw[zB oM oM];omega
 have w2:IntKind.i64.wrap ((w.tr[p].evs.length:Int)+1)=((w.tr[p].evs.length+1:Nat):Int):=by rw[zB oM oM];omega
 have hgV:(V.tr.map ePr)[p]? = some [.str w.tr[p].name,.isl 2 (w.tr[p].vars.map eVr),.isl 5 ((w.tr[p].evs++[ev]).map eEv)]:=by
  rw[ai,tQ,xO ev qM];rfl
 have TK:((w.tr[p].evs++[ev]).map eEv)[w.tr[p].evs.length]? = some [.int .i64 ev.kind,.int .i64 ev.peer,.int .i64 ev.msg,.int .i64 ev.time,.isl 2 (ev.asg.map YN)]:=by
  rw[ai,au (ah _),fz];rfl
 have ZL2:=neI ((qG w.tr+1:Nat):Int)
 have ZEV:=neI ((w.tr[p].evs.length+1:Nat):Int)
 have z00:(((0:Nat):Int) != 0)=false:=rfl
 simp only[AA,eT]at cS cV cTV cLn cP cR cC1 cC2
 simp (disch:=first|decide|omega) only[hA,aC,n00,j6,z1,z2,hmd,h80,dY,hwc,hrm,m0,hqp,aa,go_sem]
 refine ZA.nxt (cS _ _) ?_
 simp (disch:=first|decide|omega) only[hA,aC,n00,b09,b05,aa,go_sem]
 refine ZA.nxt (cV _ _) ?_
 simp (disch:=first|decide|omega) only[hA,aC,aa,go_sem]
 refine ZA.nxt (cTV _ _) ?_
 simp (disch:=first|decide|omega) only[hA,aC,hll,hgw,aa,go_sem]
 refine ZA.nxt (cLn _ _) ?_
 simp (disch:=first|decide|omega) only[hA,aC,aa,go_sem]
 refine ZA.nxt (cP _ _) ?_
 simp (disch:=first|decide|omega) only[hA,aC,hgL,aa,go_sem]
 refine ZA.nxt (cC _ _) ?_
 simp (disch:=first|decide|omega) only[hA,aC,n00,z00,aa,go_sem]
 refine ZA.nxt (cR _ _) ?_
 simp (disch:=first|decide|omega) only[hA,aC,aa,go_sem]
 refine ZA.nxt (cC1 _ _) ?_
 simp (disch:=first|decide|omega) only[hA,aC,aa,go_sem]
 refine ZA.nxt (cC2 _ _) ?_
 simp (disch:=first|decide|omega) only[hA,aC,w1,w2,hgV,TK,ZL2,ZEV,hte,aa,go_sem]
 refine⟨(i+1,V),⟨bB,hI'⟩,by simp only;omega,?_⟩
 simp only[AA]
 exact KA.kround (p:=dO) (k:=2) kQ kA rfl aI kS kV hR kL
open Go.RowKit
theorem ZGw {n:Int} (h:(Lit.int .u16 n).wf=true):0≤n∧n<65536:=by
 have h1:(decide (IntKind.min .u16≤n)&&decide (n≤IntKind.max .u16))=true:=h
 rw[show IntKind.min .u16=0 from rfl,show IntKind.max .u16=65535 from by decide]at h1
 simp at h1
 omega
theorem UW:TR Tryz.prog 28 1 (fun c:List Int=>[.isl 1 (c.map eU)]) (fun c=>c.length≤maxLen∧∀n∈c,0≤n∧n<65536):=
 (LJ (ZDC Tryz.underlying60) Tryz.underlying28 kK kE).map id (fun _=>rfl) (fun _ h=>⟨h.1,fun n hn=>ZGw (h.2 n hn)⟩)
end Go.Proofs.YtadnnjchehjbiaaGreatDoor
