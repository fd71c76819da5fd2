/- Texts of one proof, laid together: BE, BF, BG, BH, BJ, BK, BM, BN, BU, BX, BY, BR, NP, BS, NL, NU, NR, BT, X1, X2, OE, BV, X3, X6, OF, OG, X4. No condition. -/
import Derived.Test.YtadnnjchehjbiaaGreatDoorT36
set_option linter.unusedSimpArgs false
set_option maxHeartbeats 16000000
set_option maxRecDepth 20000
namespace Go.Proofs.YtadnnjchehjbiaaGreatDoor
set_option maxHeartbeats 16000000
set_option maxRecDepth 100000
set_option linter.unusedVariables false
set_option linter.unusedSimpArgs false
attribute [local go_sem ↓] xB tA iB rB EB SA uB CB dB UC gA RA wB yA DA yB dA FA lB nA xA sB TA MA lA LA fA vB aA AB tB OB ZC LC VC FC EC OC VD
attribute [local go_sem] pA uA QD eA iA MC YC XC QC nG pG JC nB pB mB MB UA KB jA UB qA mA aop sD pC rC SB sC DB tC YG YE LD amm tD IB QB SD dC ED comma nC XE QG QE ZE SF DD GD eC RF eqC eqF DE cellsOf JB yD KD ID dF rd rdI wD mk iC AV.cell List.all_cons List.all_nil Bool.and_true Bool.true_and Bool.and_self List.length_cons List.length_nil List.length_append Nat.reduceAdd Nat.reduceSub Nat.reduceMul Nat.zero_add Nat.add_zero List.cons_append List.nil_append List.append_assoc List.append_nil List.getElem?_cons_zero List.getElem?_cons_succ List.getElem?_nil List.set_cons_zero List.set_cons_succ List.drop_zero List.drop_succ_cons List.take_zero List.take_succ_cons List.take_nil List.drop_nil List.map_cons List.map_nil Option.map_some if_true if_false Bool.false_eq_true and_self true_and and_true Nat.reduceLeDiff Nat.reduceLT Nat.le_refl Nat.reduceEqDiff ite_true ite_false beq_self_eq_true beq_true beq_false Bool.not_true Bool.not_false Bool.true_beq Bool.false_beq mD gC TB GC RC qC zC FB KC DC IC nD zB IH nH DH HH EE ME CE LE geI gtI AE decide_true decide_false room List.getElem?_map List.length_map List.length_take Int.toNat_natCast Nat.min_def Nat.min_self qE JE uE mC vE bG EA List.getElem_cons_zero List.getElem_cons_succ
theorem ZHR {l:List Sv} (t1:ZH l=true):∀p (h:p<l.length),l[p].vars.length≤8:=fun p hp=>by
 unfold ZH at t1
 rw[ar,bo]at t1
 have:=t1.2 p (bc.2 hp)
 unfold svB sv1 at this
 rw[YA hp]at this
 simp only[ar,bj]at this
 exact this.1.2.2.1
theorem AK {t:Tr} (h:pD t=true) (kd m:Int):vD t kd m=lE t kd m:=by unfold vD;rw[if_pos h]
def a_wended:AFunc:=({c:=_}:CF Tryz.prog 62).c
theorem ZY:CA Tryz.prog 62=some a_wended:=by kernel_rfl
def a_wenab:AFunc:=({c:=_}:CF Tryz.prog 45).c
theorem C3:CA Tryz.prog 45=some a_wenab:=by kernel_rfl
def a_wEnded1:AFunc:=({c:=_}:CF Tryz.prog 61).c
theorem CV:CA Tryz.prog 61=some a_wEnded1:=by kernel_rfl
def a_wEnded:AFunc:=({c:=_}:CF Tryz.prog 31).c
theorem VY:CA Tryz.prog 31=some a_wEnded:=by kernel_rfl

def rL (s:Sv):Bool:=decide (s.pc=s.code.length)||decide ((s.code.getD s.pc.toNat zU).op=8)
def pcOk (s:Sv):Prop:=0≤s.pc∧s.pc≤s.code.length
theorem J7 {l:List Sv} (t1:ZH l=true) {p:Nat} (hp:p<l.length):pcOk l[p]:=by
 unfold ZH at t1
 rw[ar,bo]at t1
 have:=t1.2 p (bc.2 hp)
 unfold svB sv1 at this
 rw[YA hp]at this
 simp only[ar,bj]at this
 have h:=this.1.2.2.2.1
 unfold inZ at h
 simp only[ar,bj]at h
 exact h
theorem AP (s:Sv) (hS:SvS s) (yJ:pcOk s) (b l:List Row):ZA Tryz.prog 62 [.agg ((eSv s).map .v)] b l (fun r b' l'=>r=.v (.bool (rL s))∧b'=b∧l'=l):=by
 refine XA ZY rfl kE ?_
 intro B g hB hR hE hA;simp only[EA]at hA
 obtain⟨k,hk⟩:∃k:Nat,s.pc=k:=⟨s.pc.toNat,by have:=yJ.1;omega⟩
 have YM:k≤s.code.length:=by have:=yJ.2;omega
 have EP:=hS.code
 by_cases bB:k<s.code.length
 ·have GM:=LO bB
  have d1:((k:Int)==(s.code.length:Int))=false:=by simp;omega
  have hr:rL s=(s.code[k].op==8):=by
   unfold rL
   rw[hk,bs,YA bB,ak oM]
   rw[jr];rfl
  simp (disch:=first|decide|omega) only[a_wended,hA,eSv,hk,GM,d1,aa,go_sem]
  exact QA (xs:=[.v (.bool (s.code[k].op==8))]) ⟨by rw[hr];rfl,rfl,rfl⟩
 ·obtain rfl:k=s.code.length:=by omega
  have d1:((s.code.length:Int)==(s.code.length:Int))=true:=by simp
  have hr:rL s=true:=by
   unfold rL
   rw[hk,ag rfl];rfl
  simp (disch:=first|decide|omega) only[a_wended,hA,eSv,hk,d1,aa,go_sem]
  exact QA (xs:=[.v (.bool true)]) ⟨by rw[hr];rfl,rfl,rfl⟩
def PQ (s:Sv):Int:=(s.code.getD s.pc.toNat zU).op
def IG (w:Wd) (p:Nat):Bool:=!(rL (w.sv.getD p dfSv)||decide (64≤(sA w.tr p).length))&&(if PQ (w.sv.getD p dfSv)=4 then decide (0<dJ w.net p) else if PQ (w.sv.getD p dfSv)=3 then decide (w.sent≤199) else true)
theorem bR (w:Wd) (rT:SvsS w.sv) (hS:Small w.tr) (h1:ZH w.sv=true) (jD:w.tr.length=w.sv.length) (p:Nat) (hp:p<w.sv.length) (b l:List Row):ZA Tryz.prog 45 [.agg ((eWd w).map .v),.v (.int .i64 p)] b l (fun r b' l'=>r=.v (.bool (IG w p))∧b'=b∧l'=l):=by
 refine XA C3 rfl kE ?_
 intro B g hB hR hE hA;simp only[EA]at hA
 obtain⟨s,hs⟩:∃s,w.sv[p]=s:=⟨_,rfl⟩
 have lR:w.sv.getD p dfSv=s:=by rw[YA hp,hs]
 have hSs:=rT.all s (by rw[←hs];exact ap hp)
 have yJ:pcOk s:=by rw[←hs];exact J7 h1 hp
 have GZ:=ZL hp
 rw[hs]at GZ
 have qM:p<w.tr.length:=by omega
 obtain⟨x,hx⟩:∃x,w.tr[p]=x:=⟨_,rfl⟩
 have y8:=QL qM
 rw[hx]at y8
 have hxe:sA w.tr p=x.evs:=by rw[yE qM,hx]
 have tY:=rT.len
 have xX:=hS.np
 have hxn:=hS.ne x (by rw[←hx];exact ap qM)
 have cE:=fun b l=>AP s hSs yJ b l
 have cW:=fun b l=>OR w.net p b l
 simp only[eSv,eNw,ba,bl]at cE cW
 have hr:IG w p=(!(rL s||decide (64≤x.evs.length))&&(if PQ s=4 then decide (0<dJ w.net p) else if PQ s=3 then decide (w.sent≤199) else true)):=by unfold IG;rw[lR,hxe]
 rw[hr]
 simp (disch:=first|decide|omega) only[a_wenab,hA,eWd,GZ,aa,go_sem]
 refine ZA.nxt (cE _ _) ?_
 cases t1:rL s
 case true =>
  simp (disch:=first|decide|omega) only[hA,go_sem]
  exact QA (xs:=[.v (.bool false)])
 by_cases t2:64≤x.evs.length
 case pos =>
  have d2:decide ((x.evs.length:Int)≥64)=true:=ag oM
  have d2':decide ((64:Int)≤(x.evs.length:Int))=true:=d2
  simp (disch:=first|decide|omega) only[hA,y8,d2,d2',aa,go_sem]
  exact QA (xs:=[.v (.bool false)])
 have d2:decide ((x.evs.length:Int)≥64)=false:=ak oM
 have d2':decide ((64:Int)≤(x.evs.length:Int))=false:=d2
 rw[ak t2]
 obtain⟨k,hk⟩:∃k:Nat,s.pc=k:=⟨s.pc.toNat,by have:=yJ.1;omega⟩
 have YM:k<s.code.length:=by
  have:=yJ.2
  rcases cq k s.code.length with h|h
  ·exact h
  ·have:rL s=true:=by unfold rL;rw[ag oM];rfl
   rw[t1]at this;cases this
 have EP:=hSs.code
 have GM:=LO YM
 have ho:PQ s=s.code[k].op:=by unfold PQ;rw[hk,bs,YA YM]
 rw[ho]
 by_cases t3:s.code[k].op=4
 ·have d3:(s.code[k].op==4)=true:=by simpa using t3
  simp (disch:=first|decide|omega) only[hA,y8,hk,GM,d2,d2',d3,aa,go_sem]
  refine ZA.nxt (cW _ _) ?_
  simp (disch:=first|decide|omega) only[hA,go_sem]
  exact UQ (xs:=[.v (.bool (decide ((0:Int)<((dJ w.net p:Nat):Int))))]) kO hR hB ⟨by rw[if_pos t3];simp[one],rfl,rfl⟩
 have d3:(s.code[k].op==4)=false:=by simpa using t3
 by_cases t4:s.code[k].op=3
 ·have d4:(s.code[k].op==3)=true:=by simpa using t4
  simp (disch:=first|decide|omega) only[hA,y8,hk,GM,d2,d2',d3,d4,aa,go_sem]
  exact QA (xs:=[.v (.bool (decide (w.sent≤199)))]) ⟨by rw[if_neg t3,if_pos t4];rfl,rfl,rfl⟩
 have d4:(s.code[k].op==3)=false:=by simpa using t4
 simp (disch:=first|decide|omega) only[hA,y8,hk,GM,d2,d2',d3,d4,aa,go_sem]
 exact QA (xs:=[.v (.bool true)]) ⟨by rw[if_neg t3,if_neg t4];rfl,rfl,rfl⟩
def a_wEnabl:AFunc:=({c:=_}:CF Tryz.prog 15).c
theorem UY:CA Tryz.prog 15=some a_wEnabl:=by kernel_rfl
def yP:List (Nat×Nat):=[(4,5),(12,22)]

theorem bV (s:Sv) (hS:SvS s) (yJ:pcOk s) (b l:List Row):ZA Tryz.prog 61 [.agg ((eSv s).map .v)] b l (fun r b' l'=>r=.v (.bool (!rL s))∧b'=b∧l'=l):=by
 refine XA CV rfl kE ?_
 intro B g hB hR hE hA;simp only[EA]at hA
 have cE:=fun b l=>AP s hS yJ b l
 simp only[eSv,ba,bl]at cE
 simp (disch:=first|decide|omega) only[a_wEnded1,hA,eSv,go_sem]
 refine ZA.nxt (cE _ _) ?_
 simp (disch:=first|decide|omega) only[hA,go_sem]
 exact QA (xs:=[.v (.bool (!rL s))])
noncomputable def ZEE (w:Wd):Bool:=wdB w&&w.sv.all rL
theorem dX (w:Wd) (hS:Sm w.tr) (hN:Nm w.tr) (rT:SvsS w.sv) (hSn:NwS w.net) (b l:List Row):ZA Tryz.prog 31 [.agg ((eWd w).map .v)] b l (fun r b' l'=>r=.v (.bool (ZEE w))∧b'=b∧l'=l):=by
 refine XA VY rfl kE ?_
 intro B g hB hR hE hA;simp only[EA]at hA
 have cV:=fun b l=>FF w hS hN rT hSn b l
 have mY:(eWd w).map AV.v=(zWA w):=rfl
 rw[mY]at cV hA
 simp (disch:=first|decide|omega) only[a_wEnded,hA,cellsOf,go_sem]
 refine ZA.nxt (cV _ _) ?_
 cases t1:wdB w
 ·simp (disch:=first|decide|omega) only[hA,go_sem]
  exact QA (xs:=[.v (.bool false)]) ⟨by unfold ZEE;rw[t1];rfl,rfl,rfl⟩
 have ST:ZH w.sv=true:=by unfold wdB at t1;simp only[ar]at t1;exact t1.1
 have cC:=zE IK GK (w.sv.map eSv) 61 [] (fun j=>!rL (w.sv.getD j dfSv)) rR (by rw[aa];exact rT.len) B [.live 0 9 [(eWd w).map .v]] (fun j row hj=>by
  have fG:j<w.sv.length:=by have:=(aj.1 hj).1;rwa [aa]at this
  rw[ai,ae fG]at hj
  cases hj
  simp only[YA fG]
  exact bV _ (rT.all _ (ap fG)) (J7 ST fG) _ _)
 rw[aa,tG (p:=fun s=>!rL s),AF,mY]at cC
 simp (disch:=first|decide|omega) only[hA,go_sem]
 refine ZA.nxt cC ?_
 simp (disch:=first|decide|omega) only[hA,ky,go_sem]
 exact QA (xs:=[.v (.bool (w.sv.all rL))]) ⟨by unfold ZEE;rw[t1];rfl,rfl,rfl⟩
noncomputable def eG (w:Wd) (k:Nat):List Nat:=(List.range k).filter (IG w)
noncomputable def sL (w:Wd) (k:Nat):List (List IV):=(eG w k).map fun n:Nat=>eI n
theorem ZFa (w:Wd) (k:Nat):(eG w k).length≤k:=by
 unfold eG
 have:=List.length_filter_le (IG w) (List.range k)
 rwa [jy]at this
theorem dZ {w:Wd} {k:Nat} (h:IG w k=true):eG w (k+1)=eG w k++[k]:=by
 unfold eG;rw[ig,ij,jt,if_pos h,List.filter_nil]
theorem ZF9 {w:Wd} {k:Nat} (h:IG w k=false):eG w (k+1)=eG w k:=by
 unfold eG;rw[ig,ij,jt,if_neg (by rw[h];simp),List.filter_nil,cj]
theorem OS (w:Wd) (k:Nat):(sL w k).length=(eG w k).length:=by unfold sL;rw[aa]
theorem ZC3 {w:Wd} {k:Nat} (h:IG w k=true):sL w (k+1)=sL w k++[[.int .i64 (k:Nat)]]:=by
 unfold sL;rw[dZ h,ci];rfl
theorem s8 {w:Wd} (h:wdB w=true):ZH w.sv=true∧pD w.tr=true∧w.tr.length=w.sv.length∧nwB w.net=true:=by
 unfold wdB at h
 simp only[ar,bj]at h
 exact⟨h.1,h.2.2.2.2.1,h.2.2.2.2.2.1,h.2.2.1⟩
theorem ZBj {l:List Sv} (h:ZH l=true):l.length≤8:=by
 unfold ZH at h
 rw[ar]at h
 have:=h.1
 unfold inZ at this
 simp only[ar,bj]at this
 omega
theorem DL (w:Wd) (hS:Small w.tr) (hN:Nm w.tr) (rT:SvsS w.sv) (hSn:NwS w.net) (hv:wdB w=true) (b l:List Row):ZA Tryz.prog 15 [.agg ((eWd w).map .v)] b l (fun r b' l'=>r=.tup [.v (.isl 1 (sL w w.sv.length)),.v (.int .i64 0)]∧b'=b∧l'=l):=by
 obtain⟨q1,q2,q3,q4⟩:=s8 hv
 refine XA UY rfl kE ?_
 intro B g hB hR hE hA;simp only[EA]at hA
 have cV:=fun b l=>FF w hS.sm hN rT hSn b l
 have mY:(eWd w).map AV.v=(zWA w):=rfl
 rw[mY,hv]at cV
 rw[mY]at hA
 have hs8:=ZBj q1
 have hm0:(eG w 0).length=0:=rfl
 have hq0:sL w 0=[]:=rfl
 simp (disch:=first|decide|omega) only[a_wEnabl,hA,cellsOf,go_sem]
 refine ZA.nxt (cV _ _) ?_
 simp (disch:=first|decide|omega) only[hA,aa,go_sem]
 refine GH (ι:=Nat) 4 1 yP (fun k=>[(12,.v (.int .i64 k)),(4,.sl (B.length+1) (eG w k).length 0 (eG w k).length)]) 2 (fun k=>[.live 0 9 [(eWd w).map .v],.live (eG w k).length 1 (vs (sL w k))])
  (fun k=>k≤w.sv.length) (fun k=>w.sv.length-k) 0 (an _) (by simp (disch:=decide) only[hA,go_sem]) kE kE kM (by ((try simp (disch:=decide) only[hA,hm0,hq0,go_sem])<;>exact kH)) kF ?_
 intro g1 aI bI aC k hk
 rw[mY]
 have hml:=ZFa w k
 have QW:=OS w k
 by_cases YM:k<w.sv.length
 ·have cE:=fun b l=>bR w rT hS q1 q3 k YM b l
  rw[mY]at cE
  simp (disch:=first|decide|omega) only[hA,aC,aa,go_sem]
  refine ZA.nxt (cE _ _) ?_
  cases t2:IG w k
  ·have hn1:=ZF9 t2
   have hn2:sL w (k+1)=sL w k:=by unfold sL;rw[hn1]
   simp (disch:=first|decide|omega) only[hA,aC,go_sem]
   refine⟨k+1,YM,by simp only;omega,?_⟩
   simp only[hn1,hn2,mY]
   exact KA.kround (p:=yP) (k:=2) kQ kA rfl aI kS kV hR kL
  ·have x6:=ZC3 t2
   have hn1:=dZ t2
   have tY:(eG w (k+1)).length=(eG w k).length+1:=by rw[hn1];simp
   have tk:List.take (eG w k).length (sL w k)=sL w k:=cv oM
   simp (disch:=first|decide|omega) only[hA,aC,QW,tk,←x6,bg,bh,reduceCtorEq,go_sem]
   rw[←tY]
   refine⟨k+1,YM,by simp only;omega,?_⟩
   simp only[mY]
   exact KA.kround (p:=yP) (k:=2) kQ kA rfl aI kS kV hR kL
 ·obtain rfl:k=w.sv.length:=by omega
  simp (disch:=first|decide|omega) only[hA,aC,aa,go_sem]
  exact Z2 (i:=1) (ver:=(eG w w.sv.length).length) (sz:=1) (n:=(eG w w.sv.length).length) (rows:=sL w w.sv.length) (.inr rfl) kR rfl (by rw[QW]) hR hB ⟨rfl,rfl,rfl⟩
def a_wLocal:AFunc:=({c:=_}:CF Tryz.prog 86).c
theorem JY:CA Tryz.prog 86=some a_wLocal:=by kernel_rfl

def Sv.put (s:Sv) (i:Nat) (v:Int):Sv:={s with vars:=s.vars.set i v}
theorem wF (b l:List Row):ZA Tryz.prog 86 [] b l (fun r b' l'=>r=.agg [.v (.int .i64 1),.v (.int .i64 0),.v (.int .i64 0),.v (.int .i64 0),.v .zsl]∧b'=b∧l'=l):=by
 refine XA JY rfl kE ?_
 intro B g hB hR hE hA;simp only[EA]at hA
 simp (disch:=first|decide|omega) only[a_wLocal,cellsOf,go_sem]
 exact wC (xs:=[.agg [.v (.int .i64 1),.v (.int .i64 0),.v (.int .i64 0),.v (.int .i64 0),.v .zsl]]) (.inr rfl) (by simp (disch:=first|decide|omega) only[resVs,resV,go_sem,hE]) kO hR hB ⟨rfl,rfl,rfl⟩
def a_wmsg:AFunc:=({c:=_}:CF Tryz.prog 105).c
theorem ZAM:CA Tryz.prog 105=some a_wmsg:=by kernel_rfl
def a_wnet:AFunc:=({c:=_}:CF Tryz.prog 76).c
theorem ZAL:CA Tryz.prog 76=some a_wnet:=by kernel_rfl
def C6:List (Nat×Nat):=[(5,5),(19,30)]

theorem EX (v:List In) (hn:v.length≤1000000) (b l:List Row):ZA Tryz.prog 77 [.v (.isl 3 (v.map eIn))] b l (fun r b' l'=>r=.sl (b.length+l.length) 1 0 v.length∧b'=b∧l'=l++[.live 1 3 (vs (v.map eIn))]):=by
 have:=DI (P:=Tryz.prog) (f:=77) (sz:=3) (bytes:=24) (zs:=[.v (.int .i64 0),.v (.int .i64 0),.v (.int .i64 0)]) kK kE (v.map eIn) (by simpa using hn) b l
 rwa [aa]at this
theorem FX (v:List Vr) (hn:v.length≤1000000) (b l:List Row):ZA Tryz.prog 79 [.v (.isl 2 (v.map eVr))] b l (fun r b' l'=>r=.sl (b.length+l.length) 1 0 v.length∧b'=b∧l'=l++[.live 1 2 (vs (v.map eVr))]):=by
 have:=DI (P:=Tryz.prog) (f:=79) (sz:=2) (bytes:=24) (zs:=[.v (.str ⟨#[]⟩),.v (.int .i64 0)]) kK kE (v.map eVr) (by simpa using hn) b l
 rwa [aa]at this
theorem CX (v:List Asg) (hn:v.length≤1000000) (b l:List Row):ZA Tryz.prog 80 [.v (.isl 2 (v.map YN))] b l (fun r b' l'=>r=.sl (b.length+l.length) 1 0 v.length∧b'=b∧l'=l++[.live 1 2 (vs (v.map YN))]):=by
 have:=DI (P:=Tryz.prog) (f:=80) (sz:=2) (bytes:=16) (zs:=[.v (.int .i64 0),.v (.int .i64 0)]) kK kE (v.map YN) (by simpa using hn) b l
 rwa [aa]at this
theorem r8 (m:Ms) (hn:m.body.length≤1000000) (b l:List Row):ZA Tryz.prog 105 [.agg ((eMs m).map .v)] b l (fun r b' l'=>r=.agg ((eMs m).map .v)∧b'=b∧l'=l):=by
 refine XA ZAM rfl kE ?_
 intro B g hB hR hE hA;simp only[EA]at hA
 have heM:(eMs m).map AV.v=(zMA m):=rfl
 rw[heM]at hA
 simp (disch:=first|decide|omega) only[a_wmsg,hA,cellsOf,go_sem]
 refine ZA.nxt (SI m.body hn _ _) ?_
 simp (disch:=first|decide|omega) only[hA,cellsOf,go_sem]
 refine yC (.inr rfl) (xs:=[.agg [.v (.int .i64 m.fr),.v (.int .i64 m.to),.v (.int .i64 m.nu),.sl (B.length+2) 1 0 m.body.length]]) kR ?_ hR hB ⟨rfl,rfl,rfl⟩
 exact Dv.aggL (.cons (.v _) (.cons (.v _) (.cons (.v _) (.cons (Dv.slV (i:=2) rfl (by rw[aa])) .nil))))
theorem KO (v:List Int) (hn:v.length≤1000000) (b l:List Row):ZA Tryz.prog 78 [.v (.isl 1 (v.map eI))] b l (fun r b' l'=>r=.v (.isl 1 (v.map eI))∧b'=b∧l'=l):=
 ZA.deep (x:=.sl (b.length+l.length+0) 1 0 v.length) (Dv.slV (i:=0) rfl (by rw[aa])) (SI v hn b l)
theorem MV (v:List (Int×Int)) (hn:v.length≤1000000) (b l:List Row):ZA Tryz.prog 59 [.v (.isl 2 (v.map eFt))] b l (fun r b' l'=>r=.v (.isl 2 (v.map eFt))∧b'=b∧l'=l):=
 ZA.deep (x:=.sl (b.length+l.length+0) 1 0 v.length) (Dv.slV (i:=0) rfl (by rw[aa])) (aP v hn b l)
theorem d8 (n:Nw) (hS:NwS n) (b l:List Row):ZA Tryz.prog 76 [.agg ((eNw n).map .v)] b l (fun r b' l'=>r=.agg ((eNw n).map .v)∧b'=b∧l'=l):=by
 refine XA ZAL rfl kE ?_
 intro B g hB hR hE hA;simp only[EA]at hA
 have heN:(eNw n).map AV.v=(zNA n):=rfl
 rw[heN]at hA
 have tY:=hS.l
 have cT:=fun b l=>KO n.tm hS.tm b l
 have cF:=fun b l=>MV n.fates hS.fates b l
 simp (disch:=first|decide|omega) only[a_wnet,hA,cellsOf,go_sem]
 refine ZA.nxt (cT _ _) ?_
 simp (disch:=first|decide|omega) only[hA,cellsOf,go_sem]
 refine ZA.nxt (cF _ _) ?_
 simp (disch:=first|decide|omega) only[hA,aa,go_sem]
 refine ZB (ι:=Nat) C6 (fun i=>[(19,.v (.int .i64 i))]) 3 (fun i=>[.live 0 5 [[.v (.int .i64 n.now),.v (.bool n.fifo),.sl (B.length+2) i 0 i,.v (.isl 1 (n.tm.map eI)),.v (.isl 2 (n.fates.map eFt))]],.live 0 5 [[.v (.int .i64 0),.v (.bool false),.v .zsl,.v .zsl,.v .zsl]],.live i 4 (vs ((n.l.take i).map eMs))])
  (fun i=>i≤n.l.length) (fun i=>n.l.length-i) 0 (an _) kM kA (fun e=>KA.nilcell (e:=e) (b:=B) (l:=[.live 0 5 [[.v (.int .i64 n.now),.v (.bool n.fifo),.v .zsl,.v (.isl 1 (n.tm.map eI)),.v (.isl 2 (n.fates.map eFt))]],.live 0 5 [[.v (.int .i64 0),.v (.bool false),.v .zsl,.v .zsl,.v .zsl]]]) (i:=0) (k:=0) (j:=2) (sz:=4) rfl rfl rfl) ?_
 intro g1 aI bI aC i hi
 by_cases bB:i<n.l.length
 ·have hgm:(n.l.map eMs)[i]? = some [.int .i64 n.l[i].fr,.int .i64 n.l[i].to,.int .i64 n.l[i].nu,.isl 1 (n.l[i].body.map eI)]:=by rw[ai,ae bB];rfl
  have cM:=fun b l=>r8 n.l[i] (hS.body _ (ap bB)) b l
  have heM:(eMs n.l[i]).map AV.v=[.v (.int .i64 n.l[i].fr),.v (.int .i64 n.l[i].to),.v (.int .i64 n.l[i].nu),.v (.isl 1 (n.l[i].body.map eI))]:=rfl
  rw[heM]at cM
  have QW:((n.l.take i).map eMs).length=i:=by rw[aa,bu];omega
  have tk:List.take i ((n.l.take i).map eMs)=(n.l.take i).map eMs:=cv oM
  have x6:(n.l.take (i+1)).map eMs=(n.l.take i).map eMs++[[.int .i64 n.l[i].fr,.int .i64 n.l[i].to,.int .i64 n.l[i].nu,.isl 1 (n.l[i].body.map eI)]]:=by
   rw[gu,ae bB,ci];rfl
  have ZLU:vs ((n.l.take i).map eMs)++[[.v (.int .i64 n.l[i].fr),.v (.int .i64 n.l[i].to),.v (.int .i64 n.l[i].nu),.v (.isl 1 (n.l[i].body.map eI))]]=vs ((n.l.take (i+1)).map eMs):=by rw[x6];simp[vs]
  simp (disch:=first|decide|omega) only[hA,aC,hgm,aa,go_sem]
  refine ZA.nxt (cM _ _) ?_
  simp (disch:=first|decide|omega) only[hA,aC,QW,tk,bg,bh,reduceCtorEq,go_sem]
  rw[ZLU]
  refine⟨i+1,bB,by simp only;omega,?_⟩
  exact KA.kround (p:=C6) (k:=3) kQ kA rfl aI kS kV hR kL
 ·obtain rfl:i=n.l.length:=by omega
  have xX:(n.l.take n.l.length)=n.l:=jf
  simp (disch:=first|decide|omega) only[hA,aC,aa,go_sem]
  refine yC (.inr rfl) (xs:=[.agg [.v (.int .i64 n.now),.v (.bool n.fifo),.sl (B.length+2) n.l.length 0 n.l.length,.v (.isl 1 (n.tm.map eI)),.v (.isl 2 (n.fates.map eFt))]]) kR ?_ hR hB ⟨rfl,rfl,rfl⟩
  rw[xX]
  exact Dv.aggL (.cons (.v _) (.cons (.v _) (.cons (Dv.slV (i:=2) rfl (by rw[aa])) (.cons (.v _) (.cons (.v _) .nil)))))
def dfEv54:Ev:=⟨1,0,0,0,[]⟩
def VB (t:Tr) (p:Nat) (e:Ev):Tr:=t.set p {t.getD p dfPr with evs:=(t.getD p dfPr).evs++[e]}
def zK (w:Wd) (p:Nat) (s:Sv) (e:Ev):Wd:={w with sv:=w.sv.set p s,tr:=VB w.tr p {e with time:=jJ s w.now}}
def rS (kd pe ms:Int) (i:Nat) (v:Int):Ev:=⟨kd,pe,ms,0,[⟨i,v⟩]⟩
noncomputable def DZ (w:Wd) (p:Nat) (s:Sv) (x:In):Wd:=
 if fiR w.net p<0 then zK w p {s with pc:=x.b} dfEv54
 else if (lE w.tr 3 (w.net.l.getD (fiR w.net p).toNat dfMs).nu).2>0 then {zK w p s dfEv54 with net:=woN w.net (fiR w.net p).toNat}
 else {zK w p ({s with pc:=s.pc+1}.put x.a.toNat ((w.net.l.getD (fiR w.net p).toNat dfMs).body.getD 0 0)) (rS 3 (w.net.l.getD (fiR w.net p).toNat dfMs).fr (w.net.l.getD (fiR w.net p).toNat dfMs).nu x.a.toNat ((w.net.l.getD (fiR w.net p).toNat dfMs).body.getD 0 0)) with net:=woN w.net (fiR w.net p).toNat}
def EG (w:Wd) (p:Nat) (s:Sv) (x:In):Ms:=⟨p,x.b,w.sent,[s.vars.getD x.a.toNat 0]⟩
noncomputable def stI (w:Wd) (p:Nat) (s:Sv) (x:In):Wd×Int:=
 if x.op=1 then (zK w p ({s with pc:=s.pc+1}.put x.a.toNat x.b) (rS 1 0 0 x.a.toNat x.b),0)
 else if x.op=2 then
  (if vlB (s.vars.getD x.a.toNat 0+x.b)=true then (zK w p ({s with pc:=s.pc+1}.put x.a.toNat (s.vars.getD x.a.toNat 0+x.b)) (rS 1 0 0 x.a.toNat (s.vars.getD x.a.toNat 0+x.b)),0) else (wd0,9))
 else if x.op=6 then
  (if 0<s.vars.getD x.b.toNat 0 then (zK w p ({s with pc:=x.a}.put x.b.toNat (s.vars.getD x.b.toNat 0-1)) (rS 1 0 0 x.b.toNat (s.vars.getD x.b.toNat 0-1)),0) else (zK w p {s with pc:=s.pc+1} dfEv54,0))
 else if x.op=3 then
  (if sdE w.net (EG w p s x)=0 then ({zK w p {s with pc:=s.pc+1} ⟨2,x.b,w.sent,0,[]⟩ with net:=sdR w.net (EG w p s x),sent:=w.sent+1},0) else (wd0,sdE w.net (EG w p s x)))
 else if x.op=4∨x.op=5 then (DZ w p s x,0)
 else (zK w p {s with pc:=s.pc+1} dfEv54,0)
noncomputable def stW (w:Wd) (p:Nat):Wd×Int:=stI w p (w.sv.getD p dfSv) ((w.sv.getD p dfSv).code.getD (w.sv.getD p dfSv).pc.toNat zU)
theorem fS {t:Tr} {p q:Nat} (e:Ev) (h:p≠q):(VB t p e)[q]? = t[q]?:=by
 unfold VB;rw[bq h]
theorem xO {t:Tr} {p:Nat} (e:Ev) (h:p<t.length):(VB t p e)[p]? = some {t[p] with evs:=t[p].evs++[e]}:=by
 unfold VB;rw[bf (by simpa using h)];simp[List.getD,h]
def svL (s:Sv) (id:Nat):List AV:=[.v (.str s.name),.v (.isl 3 (s.code.map eIn)),.v (.int .i64 s.pc),.sl id 1 0 s.vars.length,.v (.int .i64 s.off),.v (.int .i64 s.rate)]
def prL (x:Pr) (id:Nat):List AV:=[.v (.str x.name),.v (.isl 2 (x.vars.map eVr)),.sl id x.evs.length 0 x.evs.length]
def qH (w:Wd) (p id:Nat):List (List AV):=(vs (w.sv.map eSv)).set p (svL (w.sv.getD p dfSv) id)
def BO (w:Wd) (p id:Nat):List (List AV):=(vs (w.tr.map ePr)).set p (prL (w.tr.getD p dfPr) id)
def wV (w:Wd) (p q:Nat):Row:=.live w.sv.length 6 (qH w p (q+1))
def XU (w:Wd) (p:Nat):Row:=.live 1 1 (vs ((w.sv.getD p dfSv).vars.map eI))
def qX (w:Wd) (p q:Nat):Row:=.live w.tr.length 3 (BO w p (q+3))
def yV (w:Wd) (p:Nat):Row:=.live (w.tr.getD p dfPr).evs.length 5 (vs ((w.tr.getD p dfPr).evs.map eEv))
def mvC (w:Wd) (q:Nat):List AV:=[.sl q w.sv.length 0 w.sv.length,.v (.int .i64 w.net.now),.v (.bool w.net.fifo),.v (.isl 4 (w.net.l.map eMs)),.v (.isl 1 (w.net.tm.map eI)),.v (.isl 2 (w.net.fates.map eFt)),.v (.int .i64 w.now),.v (.int .i64 w.sent),.sl (q+2) w.tr.length 0 w.tr.length]
def zX (w:Wd) (q:Nat):Row:=.live 0 9 [mvC w q]
def ZEA (w:Wd) (p q:Nat):List Row:=[wV w p q,XU w p,qX w p q,yV w p]
def mvF (f:Nat→Row) (w:Wd) (p q:Nat):Nat→Row:=fun j =>
 if j=q then wV w p q else if j=q+1 then XU w p else if j=q+2 then qX w p q else if j=q+3 then yV w p else if j=q+4 then zX w q else f j
section
variable {f:Nat→Row} {w:Wd} {p q:Nat}
theorem VU:mvF f w p q q=wV w p q:=by unfold mvF;rw[if_pos rfl]
theorem gV:mvF f w p q (q+1)=XU w p:=by unfold mvF;rw[if_neg oM,if_pos rfl]
theorem vX:mvF f w p q (q+2)=qX w p q:=by unfold mvF;rw[if_neg oM,if_neg oM,if_pos rfl]
theorem jX:mvF f w p q (q+3)=yV w p:=by unfold mvF;rw[if_neg oM,if_neg oM,if_neg oM,if_pos rfl]
theorem JU:mvF f w p q (q+4)=zX w q:=by unfold mvF;rw[if_neg oM,if_neg oM,if_neg oM,if_neg oM,if_pos rfl]
theorem YU {j:Nat} (h:j<q∨q+5≤j):mvF f w p q j=f j:=by unfold mvF;rw[if_neg oM,if_neg oM,if_neg oM,if_neg oM,if_neg oM]
theorem OW {g:Nat→Row} {w':Wd} (h0:g q=wV w' p q) (h1:g (q+1)=XU w' p) (h2:g (q+2)=qX w' p q) (h3:g (q+3)=yV w' p) (h4:g (q+4)=zX w' q) (ho:∀j,j<q∨q+5≤j→g j=f j):g=mvF f w' p q:=by
 funext j
 by_cases c0:j=q
 ·rw[c0,h0,VU]
 by_cases c1:j=q+1
 ·rw[c1,h1,gV]
 by_cases c2:j=q+2
 ·rw[c2,h2,vX]
 by_cases c3:j=q+3
 ·rw[c3,h3,jX]
 by_cases c4:j=q+4
 ·rw[c4,h4,JU]
 rw[ho j oM,YU oM]
end
theorem iG {w:Wd} {p id:Nat}:(qH w p id).length=w.sv.length:=by unfold qH;rw[ec,gC,aa]
theorem gI {w:Wd} {p id:Nat}:(BO w p id).length=w.tr.length:=by unfold BO;rw[ec,gC,aa]
theorem CN {w:Wd} {p id:Nat} (hp:p<w.sv.length):(qH w p id)[p]? = some (svL (w.sv.getD p dfSv) id):=by
 unfold qH;rw[bf (by rw[gC,aa];exact hp)]
theorem I5 {w:Wd} {p i id:Nat} (hi:i<w.sv.length) (h:p≠i):(qH w p id)[i]? = some ((eSv (w.sv.getD i dfSv)).map .v):=by
 unfold qH;rw[bq h,TB,ai,ae hi,aq,ae hi];rfl
theorem AW {w:Wd} {p id:Nat} (hp:p<w.tr.length):(BO w p id)[p]? = some (prL (w.tr.getD p dfPr) id):=by
 unfold BO;rw[bf (by rw[gC,aa];exact hp)]
theorem D5 {w:Wd} {p i id:Nat} (hi:i<w.tr.length) (h:p≠i):(BO w p id)[i]? = some ((ePr (w.tr.getD i dfPr)).map .v):=by
 unfold BO;rw[bq h,TB,ai,ae hi,aq,ae hi];rfl
theorem mem_set_cases {α:Type} {l:List α} {i:Nat} {a x:α} (h:x∈l.set i a):x∈l∨x=a:=List.mem_or_eq_of_mem_set h
theorem yW {w:Wd} {p id m:Nat} (h:id<m):∀row∈qH w p id,∀c∈row,AVlt m c:=fun row hr=>by
 rcases mem_set_cases hr with hr|hr
 ·exact (YL.2 trivial) row hr
 ·rw[hr];unfold svL;simp only[mh,JX,nR,true_and,and_true];exact⟨h,fun _ h=>by cases h⟩
theorem y7 {w:Wd} {p id m:Nat} (h:id<m):∀row∈BO w p id,∀c∈row,AVlt m c:=fun row hr=>by
 rcases mem_set_cases hr with hr|hr
 ·exact (YL.2 trivial) row hr
 ·rw[hr];unfold prL;simp only[mh,JX,nR,true_and,and_true];exact⟨h,fun _ h=>by cases h⟩
theorem ZDh {n i p:Nat} {l:List Row} {w:Wd} (hp:p<w.sv.length) (qM:p<w.tr.length) (h0:l[i]? = some (wV w p (n+i))) (h1:l[i+1]? = some (XU w p)) (h2:l[i+2]? = some (qX w p (n+i))) (h3:l[i+3]? = some (yV w p)):Dv n l (.agg (mvC w (n+i))) (.agg ((eWd w).map .v)):=by
 have e:(eWd w).map AV.v=(zWA w):=rfl
 rw[e]
 unfold mvC
 have hA:Dv n l (.sl (n+i) w.sv.length 0 w.sv.length) (.v (.isl 6 (w.sv.map eSv))):=by
  refine Dv.slR h0 (by rw[iG];omega) (by rw[aa]) (fun k r row g1 g2=>?_)
  rw[br]at g1
  rw[ai]at g2
  have hk:k<w.sv.length:=by
   have:=(aj.1 g1).1
   rwa [iG]at this
  rw[ae hk]at g2
  cases g2
  by_cases V5:p=k
  ·subst V5
   rw[CN hp,YA hp]at g1
   cases g1
   refine DvR.cons (.v _) (DvR.cons (.v _) (DvR.cons (.v _) (DvR.cons ?_ (DvR.cons (.v _) (DvR.cons (.v _) DvR.nil)))))
   rw[da]
   unfold XU at h1
   rw[YA hp]at h1
   exact Dv.slV h1 (by rw[aa])
  ·rw[I5 hk V5,YA hk]at g1
   cases g1
   exact DvR.plain
 have hC:Dv n l (.sl (n+i+2) w.tr.length 0 w.tr.length) (.v (.isl 3 (w.tr.map ePr))):=by
  rw[da]
  refine Dv.slR h2 (by rw[gI];omega) (by rw[aa]) (fun k r row g1 g2=>?_)
  rw[br]at g1
  rw[ai]at g2
  have hk:k<w.tr.length:=by
   have:=(aj.1 g1).1
   rwa [gI]at this
  rw[ae hk]at g2
  cases g2
  by_cases V5:p=k
  ·subst V5
   rw[AW qM,YA qM]at g1
   cases g1
   refine DvR.cons (.v _) (DvR.cons (.v _) (DvR.cons ?_ DvR.nil))
   rw[da]
   unfold yV at h3
   rw[YA qM]at h3
   exact Dv.slV h3 (by rw[aa])
  ·rw[D5 hk V5,YA hk]at g1
   cases g1
   exact DvR.plain
 exact Dv.aggL (.cons hA (.cons (.v _) (.cons (.v _) (.cons (.v _) (.cons (.v _) (.cons (.v _) (.cons (.v _) (.cons (.v _) (.cons hC .nil)))))))))
attribute [local go_sem] tO MS mM lP pM mP GB wH
def a_mev:AFunc:=({c:=_}:CF Tryz.prog 87).c
theorem ZCo:CA Tryz.prog 87=some a_mev:=by kernel_rfl

theorem AZ {n q p:Nat} {f:Nat→Row} {w:Wd} {l B:List Row} (hn:q+5≤n) (hB:B=kB n (mvF f w p q)++l):∃m f',m=n+l.length∧B=kB m (mvF f' w p q)∧∀w',kB m (mvF f' w' p q)=kB n (mvF f w' p q)++l:=by
 obtain⟨m,g,hm,hBg,hg⟩:=ZGQ B
 have hml:m=n+l.length:=by rw[hm,hB,am,GB]
 have gB:∀j,j<n→g j=mvF f w p q j:=fun j hj=>hg j _ (by rw[hB,aw (by rw[GB];exact hj),eH hj])
 have e:∀w',kB m (mvF g w' p q)=kB n (mvF f w' p q)++l:=fun w'=>by
  apply ek
  intro j
  by_cases hj:j<n
  ·rw[eH oM,aw (by rw[GB];exact hj),eH hj]
   by_cases hq:j<q∨q+5≤j
   ·rw[YU hq,YU hq,gB j hj,YU hq]
   ·obtain rfl|rfl|rfl|rfl|rfl:j=q∨j=q+1∨j=q+2∨j=q+3∨j=q+4:=by omega
    ·rw[VU,VU]
    ·rw[gV,gV]
    ·rw[vX,vX]
    ·rw[jX,jX]
    ·rw[JU,JU]
  ·rw[au (by rw[GB];omega),GB]
   by_cases hj2:j<m
   ·rw[eH hj2,YU (.inr oM)]
    have hl:j-n<l.length:=by omega
    rw[ae hl]
    congr 1
    exact hg j _ (by rw[hB,au (by rw[GB];omega),GB,ae hl])
   ·rw[ce (by rw[GB];omega),ce oM]
 exact⟨m,g,hml,by rw[e w,←hB],e⟩
theorem PT {m q p:Nat} {f:Nat→Row} {w w':Wd} (hq:q+5≤m) (h:YB m (kB m (mvF f w p q))):YB m (kB m (mvF f w' p q)):=by
 intro id ver sz els hi row RE c hc
 have hl:id<m:=by
  have:=(aj.1 hi).1
  rwa [GB]at this
 rw[eH hl,kh]at hi
 by_cases ho:id<q∨q+5≤id
 ·rw[YU ho]at hi
  exact h id ver sz els (by rw[eH hl,YU ho,hi]) row RE c hc
 ·obtain rfl|rfl|rfl|rfl|rfl:id=q∨id=q+1∨id=q+2∨id=q+3∨id=q+4:=by omega
  ·rw[VU]at hi;cases hi;exact yW oM row RE c hc
  ·rw[gV]at hi;cases hi;exact (YL.2 trivial) row RE c hc
  ·rw[vX]at hi;cases hi;exact y7 oM row RE c hc
  ·rw[jX]at hi;cases hi;exact (YL.2 trivial) row RE c hc
  ·rw[JU]at hi;cases hi
   have:∀row∈[mvC w' q],∀c∈row,AVlt m c:=by
    unfold mvC
    simp (disch:=omega) only[mh,List.forall_mem_nil,JX,nR,true_and,and_true,ju,false_imp_iff,implies_true]
    omega
   exact this row RE c hc
theorem aD {rs:List ARes} {Q:AV→List Row→List Row→Prop} {B e l:_} {ex:AExit} (hex:ex=.normal∨ex=.ret) {xs:List AV} (hx:resVs e B l rs=some xs) (bB:AVlt B.length (one xs)) (hR:YB B.length B) {n p q:Nat} {f f':Nat→Row} {w0 w':Wd} {b l0:List Row} (hb:b=kB n (mvF f w0 p q)) (hB:B=kB n (mvF f' w' p q)++l0) (hq:Q (one xs) (kB n (mvF f' w' p q)) l0):KH rs Q b.length ex e B l:=by
 have hbl:b.length=(kB n (mvF f' w' p q)).length:=by rw[hb,GB,GB]
 rw[hbl]
 exact wC hex hx bB hR hB hq
def evW (w:Wd) (p:Nat) (e:Ev):Wd:={w with tr:=VB w.tr p {e with time:=jJ (w.sv.getD p dfSv) w.now}}
theorem ZCM {w:Wd} {p id:Nat} {e:Ev} (hp:p<w.tr.length):(BO w p id).set p [.v (.str (w.tr.getD p dfPr).name),.v (.isl 2 ((w.tr.getD p dfPr).vars.map eVr)),.sl id ((w.tr.getD p dfPr).evs.length+1) 0 ((w.tr.getD p dfPr).evs.length+1)]=BO (evW w p e) p id:=by
 unfold BO
 rw[jn]
 have hg:(evW w p e).tr.getD p dfPr={w.tr.getD p dfPr with evs:=(w.tr.getD p dfPr).evs++[{e with time:=jJ (w.sv.getD p dfSv) w.now}]}:=by
  show (VB w.tr p _).getD p dfPr=_
  unfold VB
  rw[aq,bf hp];rfl
 rw[hg]
 have hm:vs ((evW w p e).tr.map ePr)=(vs (w.tr.map ePr)).set p ((ePr {w.tr.getD p dfPr with evs:=(w.tr.getD p dfPr).evs++[{e with time:=jJ (w.sv.getD p dfSv) w.now}]}).map .v):=by
  show vs ((VB w.tr p _).map ePr)=_
  unfold VB vs
  rw[ie,ie]
 rw[hm,jn]
 unfold prL
 simp only[am,fa]
theorem ZF7 {w:Wd} {p:Nat} {e:Ev} (hp:p<w.tr.length):(evW w p e).tr.getD p dfPr={w.tr.getD p dfPr with evs:=(w.tr.getD p dfPr).evs++[{e with time:=jJ (w.sv.getD p dfSv) w.now}]}:=by
 show (VB w.tr p _).getD p dfPr=_
 unfold VB
 rw[aq,bf hp];rfl
theorem LF {w:Wd} {p:Nat} {e:Ev}:(evW w p e).tr.length=w.tr.length:=by
 show (VB w.tr p _).length=_
 unfold VB;simp
abbrev zEA (x:Ev):List AV:=[.v (.int .i64 x.kind),.v (.int .i64 x.peer),.v (.int .i64 x.msg),.v (.int .i64 x.time),.v (.isl 2 (x.asg.map YN))]
theorem XZ (f:Nat→Row) (w:Wd) (p q n:Nat) (hn:q+5≤n) (hp:p<w.sv.length) (qM:p<w.tr.length) (tY:w.sv.length≤1000000) (xX:w.tr.length≤1000000) (vJ:(w.tr.getD p dfPr).evs.length≤1000000) (e:Ev) (b l:List Row) (hb:b=kB n (mvF f w p q)) :
  ZA Tryz.prog 87 [.ptr (q+4) 0 0 0,.v (.int .i64 p),.agg (zEA e)] b l
   (fun r b' l'=>r=.tup []∧b'=kB n (mvF f (evW w p e) p q)∧l'=l):=by
 refine XA ZCo rfl kE ?_
 intro B g hB hR hE hA;simp only[EA]at hA
 rw[hb]at hB
 obtain⟨m,f',hm,hB1,RH⟩:=AZ hn hB
 clear hB
 subst hB1
 rw[GB]at hR
 obtain⟨s,hs⟩:∃s,w.sv.getD p dfSv=s:=⟨_,rfl⟩
 obtain⟨x,hx⟩:∃x,w.tr.getD p dfPr=x:=⟨_,rfl⟩
 obtain⟨SV,i6⟩:∃SV,qH w p (q+1)=SV:=⟨_,rfl⟩
 obtain⟨PR,hPR⟩:∃PR,BO w p (q+3)=PR:=⟨_,rfl⟩
 have TT:SV.length=w.sv.length:=by rw[←i6,iG]
 have hPl:PR.length=w.tr.length:=by rw[←hPR,gI]
 have gS:SV[p]? = some [.v (.str s.name),.v (.isl 3 (s.code.map eIn)),.v (.int .i64 s.pc),.sl (q+1) 1 0 s.vars.length,.v (.int .i64 s.off),.v (.int .i64 s.rate)]:=by rw[←i6,CN hp,hs];rfl
 have gP:PR[p]? = some [.v (.str x.name),.v (.isl 2 (x.vars.map eVr)),.sl (q+3) x.evs.length 0 x.evs.length]:=by rw[←hPR,AW qM,hx];rfl
 obtain⟨F,hF⟩:∃F,mvF f' w p q=F:=⟨_,rfl⟩
 have f0:F q=.live w.sv.length 6 SV:=by rw[←hF,VU,←i6];rfl
 have f2:F (q+2)=.live w.tr.length 3 PR:=by rw[←hF,vX,←hPR];rfl
 have f3:F (q+3)=.live x.evs.length 5 (vs (x.evs.map eEv)):=by rw[←hF,jX,←hx];rfl
 have f4:F (q+4)=.live 0 9 [[.sl q w.sv.length 0 w.sv.length,.v (.int .i64 w.net.now),.v (.bool w.net.fifo),.v (.isl 4 (w.net.l.map eMs)),.v (.isl 1 (w.net.tm.map eI)),.v (.isl 2 (w.net.fates.map eFt)),.v (.int .i64 w.now),.v (.int .i64 w.sent),.sl (q+2) w.tr.length 0 w.tr.length]]:=by rw[←hF,JU];rfl
 have gk:∀{j:Nat} {f:Nat→Row} {L:List Row},j<5→hget (kB m f) L (q+j)=some (f (q+j)):=fun hj=>VI oM
 have kn:∀{j:Nat} {f:Nat→Row} {r:Row},j<5→pE (kB m f) (q+j) r=kB m (rUp f (q+j) r):=fun hj=>AJ oM
 have kl:∀{j:Nat} {f:Nat→Row} {r:Row} {L:List Row},j<5→IE (kB m f) L (q+j) r=L:=fun hj=>CJ oM
 have gk0:∀{f:Nat→Row} {L:List Row},hget (kB m f) L q=some (f q):=VI oM
 have cC:=fun b l=>RL (.str s.name) (.isl 3 (s.code.map eIn)) (.int .i64 s.pc) (.sl (q+1) 1 0 s.vars.length) s w.now b l (.inr ⟨_,_,_,_,rfl⟩)
 rw[hx]at vJ
 have hye:(x.evs.map eEv).length=x.evs.length:=aa _
 have htk:List.take x.evs.length (vs (x.evs.map eEv))=vs (x.evs.map eEv):=cv (by rw[gC,hye];omega)
 rw[hF]at hR⊢
 simp (disch:=first|decide|omega) only[a_mev,hA,gk,gk0,f0,f4,gS,TT,aa,go_sem]
 refine ZA.nxt (cC _ _) ?_
 simp (disch:=first|decide|omega) only[hA,gk,gk0,f0,f2,f3,f4,gP,hPl,hye,htk,kn,kl,qB,xD,go_sem]
 have SH:rUp (rUp F (q+3) (.live (x.evs.length+1) 5 (vs (x.evs.map eEv++[[.int .i64 e.kind,.int .i64 e.peer,.int .i64 e.msg,.int .i64 (jJ s w.now),.isl 2 (e.asg.map YN)]])))) (q+2) (.live w.tr.length 3 (PR.set p [.v (.str x.name),.v (.isl 2 (x.vars.map eVr)),.sl (q+3) (x.evs.length+1) 0 (x.evs.length+1)]))=mvF f' (evW w p e) p q:=by
  refine OW ?_ ?_ ?_ ?_ ?_ (fun j hj=>?_)
  ·rw[qB oM,qB oM,←hF,VU];rfl
  ·rw[qB oM,qB oM,←hF,gV];rfl
  ·rw[wH]
   unfold qX
   rw[LF,←ZCM qM,hx,hPR]
  ·rw[qB oM,wH]
   unfold yV
   rw[ZF7 qM,hx,hs]
   simp only[am,fa,ci]
   rfl
  ·rw[qB oM,qB oM,←hF,JU]
   unfold zX mvC
   rw[LF];rfl
  ·rw[qB oM,qB oM,←hF,YU hj]
 rw[SH]
 exact aD (xs:=[]) (.inl rfl) kR kO (by rw[GB];rw[←hF]at hR;exact PT oM hR) hb (RH _) ⟨rfl,rfl,rfl⟩
def a_masg:AFunc:=({c:=_}:CF Tryz.prog 85).c
theorem ZAX:CA Tryz.prog 85=some a_masg:=by kernel_rfl
def a_msnd:AFunc:=({c:=_}:CF Tryz.prog 88).c
theorem ZAV:CA Tryz.prog 88=some a_msnd:=by kernel_rfl
def a_mrcv:AFunc:=({c:=_}:CF Tryz.prog 89).c
theorem ZAW:CA Tryz.prog 89=some a_mrcv:=by kernel_rfl

theorem dP (f:Nat→Row) (w:Wd) (p q n:Nat) (hn:q+5≤n) (hp:p<w.sv.length) (qM:p<w.tr.length) (tY:w.sv.length≤1000000) (xX:w.tr.length≤1000000) (vJ:(w.tr.getD p dfPr).evs.length≤1000000) (k pe ms:Int) (b l:List Row) (hb:b=kB n (mvF f w p q)) :
  ZA Tryz.prog 87 [.ptr (q+4) 0 0 0,.v (.int .i64 p),.agg [.v (.int .i64 k),.v (.int .i64 pe),.v (.int .i64 ms),.v (.int .i64 0),.v .zsl]] b l
   (fun r b' l'=>r=.tup []∧b'=kB n (mvF f (evW w p ⟨k,pe,ms,0,[]⟩) p q)∧l'=l):=by
 refine (XZ f w p q n hn hp qM tY xX vJ ⟨k,pe,ms,0,[]⟩ b l hb).le rfl (fun i x y hx hy=>?_)
 match i,hx,hy with
 |0,hx,hy=>cases hx;cases hy;exact .refl _
 |1,hx,hy=>cases hx;cases hy;exact .refl _
 |2,hx,hy =>
   cases hx;cases hy
   refine .agg _ _ rfl (fun j u v hu hv=>?_)
   match j,hu,hv with
   |0,hu,hv=>cases hu;cases hv;exact .refl _
   |1,hu,hv=>cases hu;cases hv;exact .refl _
   |2,hu,hv=>cases hu;cases hv;exact .refl _
   |3,hu,hv=>cases hu;cases hv;exact .refl _
   |4,hu,hv=>cases hu;cases hv;exact .v _ _ (.zsl 2)
def asW (w:Wd) (p:Nat) (e:Ev) (i:Nat) (v:Int):Wd:={evW w p {e with asg:=[⟨i,v⟩]} with sv:=w.sv.set p ((w.sv.getD p dfSv).put i v)}
theorem OY {w:Wd} {p id:Nat} {s:Sv} (hp:p<w.sv.length):(qH w p id).set p (svL s id)=qH {w with sv:=w.sv.set p s} p id:=by
 unfold qH
 rw[jn]
 have hg:({w with sv:=w.sv.set p s}:Wd).sv.getD p dfSv=s:=by
  show (w.sv.set p s).getD p dfSv=s
  rw[aq,bf hp];rfl
 rw[hg]
 have hm:vs (({w with sv:=w.sv.set p s}:Wd).sv.map eSv)=(vs (w.sv.map eSv)).set p ((eSv s).map .v):=by
  show vs ((w.sv.set p s).map eSv)=_
  unfold vs
  rw[ie,ie]
 rw[hm,jn]
theorem TU (f:Nat→Row) (w:Wd) (p q n:Nat) (hn:q+5≤n) (hp:p<w.sv.length) (qM:p<w.tr.length) (tY:w.sv.length≤1000000) (xX:w.tr.length≤1000000) (vJ:(w.tr.getD p dfPr).evs.length≤1000000) (k pe ms:Int) (i:Nat) (hi:i<(w.sv.getD p dfSv).vars.length) (QW:(w.sv.getD p dfSv).vars.length≤1000000) (v:Int) (b l:List Row) (hb:b=kB n (mvF f w p q)) :
  ZA Tryz.prog 85 [.ptr (q+4) 0 0 0,.v (.int .i64 p),.v (.int .i64 i),.v (.int .i64 v),.agg [.v (.int .i64 k),.v (.int .i64 pe),.v (.int .i64 ms),.v (.int .i64 0),.v .zsl]] b l
   (fun r b' l'=>r=.v (.int .i64 (if vlB v=true then 0 else 9))∧b'=kB n (mvF f (if vlB v=true then asW w p ⟨k,pe,ms,0,[]⟩ i v else w) p q)∧l'=l):=by
 refine XA ZAX rfl kE ?_
 intro B g hB hR hE hA;simp only[EA]at hA
 rw[hb]at hB
 obtain⟨m,f',hm,hB1,RH⟩:=AZ hn hB
 clear hB
 subst hB1
 rw[GB]at hR
 have cB:=fun b l=>tM v b l
 obtain⟨F,hF⟩:∃F,mvF f' w p q=F:=⟨_,rfl⟩
 cases hv:vlB v
 ·rw[hv]at cB
  rw[if_neg kS,if_neg kS]
  rw[hF]at hR⊢
  simp (disch:=first|decide|omega) only[a_masg,hA,cellsOf,go_sem]
  refine ZA.nxt (cB _ _) ?_
  simp (disch:=first|decide|omega) only[hA,go_sem]
  exact aD (xs:=[.v (.int .i64 9)]) (.inr rfl) kR kO (by rw[GB];exact hR) hb (by rw[←hF];exact RH w) ⟨rfl,rfl,rfl⟩
 rw[hv]at cB
 rw[if_pos rfl,if_pos rfl]
 obtain⟨w1,uF⟩:∃w1,evW w p ⟨k,pe,ms,0,[⟨i,v⟩]⟩=w1:=⟨_,rfl⟩
 have cE:=fun l=>XZ f' w p q m oM hp qM tY xX vJ ⟨k,pe,ms,0,[⟨i,v⟩]⟩ (kB m F) l (by rw[hF])
 rw[uF]at cE
 obtain⟨F1,mL⟩:∃F1,mvF f' w1 p q=F1:=⟨_,rfl⟩
 rw[mL]at cE
 simp only[zEA,YN,ba,bl]at cE
 have hR1:YB m (kB m F1):=by rw[←mL];exact PT oM hR
 have e1:w1.sv=w.sv:=by rw[←uF];rfl
 have e2:w1.net=w.net:=by rw[←uF];rfl
 have e3:w1.tr.length=w.tr.length:=by rw[←uF];exact LF
 have e4:w1.now=w.now:=by rw[←uF];rfl
 have e5:w1.sent=w.sent:=by rw[←uF];rfl
 obtain⟨s,hs⟩:∃s,w.sv.getD p dfSv=s:=⟨_,rfl⟩
 rw[hs]at hi QW
 obtain⟨SV,i6⟩:∃SV,qH w1 p (q+1)=SV:=⟨_,rfl⟩
 have TT:SV.length=w.sv.length:=by rw[←i6,iG,e1]
 have gS:SV[p]? = some [.v (.str s.name),.v (.isl 3 (s.code.map eIn)),.v (.int .i64 s.pc),.sl (q+1) 1 0 s.vars.length,.v (.int .i64 s.off),.v (.int .i64 s.rate)]:=by rw[←i6,CN (by rw[e1];exact hp),e1,hs];rfl
 have f0:F1 q=.live w.sv.length 6 SV:=by rw[←mL,VU,←i6,←e1];rfl
 obtain⟨rows,hr⟩:∃rows,s.vars.map eI=rows:=⟨_,rfl⟩
 have rY:rows.length=s.vars.length:=by rw[←hr,aa]
 have hri:∀h:i<rows.length,rows[i]'h=[.int .i64 s.vars[i]]:=fun h=>by
  subst hr;rw[mi];rfl
 have f1:F1 (q+1)=.live 1 1 (vs rows):=by rw[←mL,gV,←hr,←hs,←e1];rfl
 have f4:F1 (q+4)=.live 0 9 [[.sl q w.sv.length 0 w.sv.length,.v (.int .i64 w.net.now),.v (.bool w.net.fifo),.v (.isl 4 (w.net.l.map eMs)),.v (.isl 1 (w.net.tm.map eI)),.v (.isl 2 (w.net.fates.map eFt)),.v (.int .i64 w.now),.v (.int .i64 w.sent),.sl (q+2) w.tr.length 0 w.tr.length]]:=by rw[←mL,JU,←e1,←e2,←e3,←e4,←e5];rfl
 have gk:∀{j:Nat} {f:Nat→Row} {L:List Row},j<5→hget (kB m f) L (q+j)=some (f (q+j)):=fun hj=>VI oM
 have kn:∀{j:Nat} {f:Nat→Row} {r:Row},j<5→pE (kB m f) (q+j) r=kB m (rUp f (q+j) r):=fun hj=>AJ oM
 have kl:∀{j:Nat} {f:Nat→Row} {r:Row} {L:List Row},j<5→IE (kB m f) L (q+j) r=L:=fun hj=>CJ oM
 have gk0:∀{f:Nat→Row} {L:List Row},hget (kB m f) L q=some (f q):=VI oM
 rw[hF]at hR⊢
 simp (disch:=first|decide|omega) only[a_masg,hA,cellsOf,go_sem]
 refine ZA.nxt (cB _ _) ?_
 simp (disch:=first|decide|omega) only[hA,xD,go_sem]
 refine ZA.frzB (i:=1) (ver:=0) (sz:=2) (rows:=[[.int .i64 i,.int .i64 v]]) (args':=[.ptr (q+4) 0 0 0,.v (.int .i64 p),.agg [.v (.int .i64 k),.v (.int .i64 pe),.v (.int .i64 ms),.v (.int .i64 0),.v (.isl 2 [[.int .i64 i,.int .i64 v]])]]) rfl (by simp[frz,QF,GB]) ?_
 refine ZA.nxt (cE _) ?_
 simp (disch:=first|decide|omega) only[hA,gk,gk0,f0,f1,f4,gS,TT,rY,hri,kn,kl,qB,xD,cz,go_sem]
 have SH:rUp F1 (q+1) (.live 1 1 (vs (rows.set i [.int .i64 v])))=mvF f' (asW w p ⟨k,pe,ms,0,[]⟩ i v) p q:=by
  have hw2:asW w p ⟨k,pe,ms,0,[]⟩ i v={w1 with sv:=w1.sv.set p (s.put i v)}:=by rw[←uF,←hs];rfl
  have hg:({w1 with sv:=w1.sv.set p (s.put i v)}:Wd).sv.getD p dfSv=s.put i v:=by
   show (w1.sv.set p (s.put i v)).getD p dfSv=_
   rw[aq,bf (by rw[e1];exact hp)];rfl
  rw[hw2]
  refine OW ?_ ?_ ?_ ?_ ?_ (fun j hj=>?_)
  ·rw[qB oM,←mL,VU]
   unfold wV
   rw[←OY (by rw[e1];exact hp)]
   have:svL (s.put i v) (q+1)=svL s (q+1):=by unfold svL Sv.put;simp
   rw[this]
   have h2:(qH w1 p (q+1)).set p (svL s (q+1))=qH w1 p (q+1):=by
    apply ek
    intro j
    by_cases hj:p=j
    ·subst hj
     rw[bf (by rw[iG,e1];exact hp),CN (by rw[e1];exact hp),e1,hs]
    ·rw[bq hj]
   rw[h2]
   congr 1
   simp
  ·rw[wH]
   unfold XU
   rw[hg,←hr]
   unfold Sv.put
   simp only[ie]
   rfl
  ·rw[qB oM,←mL,vX];rfl
  ·rw[qB oM,←mL,jX];rfl
  ·rw[qB oM,←mL,JU]
   unfold zX mvC
   simp
  ·rw[qB oM,←mL,YU hj]
 rw[SH]
 exact aD (xs:=[.v (.int .i64 0)]) (.inr rfl) kR kO (by rw[GB];rw[←mL]at hR1;exact PT oM hR1) hb (RH _) ⟨rfl,rfl,rfl⟩
theorem JF {f' F:Nat→Row} {w:Wd} {p q:Nat} (hp:p<w.sv.length) (qM:p<w.tr.length) (hF:mvF f' w p q=F) {s:Sv} (hs:w.sv.getD p dfSv=s) {SV:List (List AV)} (i6:qH w p (q+1)=SV) :
  SV.length=w.sv.length∧SV[p]? = some [.v (.str s.name),.v (.isl 3 (s.code.map eIn)),.v (.int .i64 s.pc),.sl (q+1) 1 0 s.vars.length,.v (.int .i64 s.off),.v (.int .i64 s.rate)]∧F q=.live w.sv.length 6 SV∧F (q+1)=.live 1 1 (vs (s.vars.map eI)) ∧
  F (q+4)=.live 0 9 [[.sl q w.sv.length 0 w.sv.length,.v (.int .i64 w.net.now),.v (.bool w.net.fifo),.v (.isl 4 (w.net.l.map eMs)),.v (.isl 1 (w.net.tm.map eI)),.v (.isl 2 (w.net.fates.map eFt)),.v (.int .i64 w.now),.v (.int .i64 w.sent),.sl (q+2) w.tr.length 0 w.tr.length]]:=by
 subst hs;subst i6;subst hF
 exact⟨iG,CN hp,VU,gV,JU⟩
theorem H5 {f':Nat→Row} {w:Wd} {p q:Nat} {n:Nw} {k:Int}:rUp (mvF f' w p q) (q+4) (.live 0 9 [[.sl q w.sv.length 0 w.sv.length,.v (.int .i64 n.now),.v (.bool n.fifo),.v (.isl 4 (n.l.map eMs)),.v (.isl 1 (n.tm.map eI)),.v (.isl 2 (n.fates.map eFt)),.v (.int .i64 w.now),.v (.int .i64 k),.sl (q+2) w.tr.length 0 w.tr.length]])=mvF f' {w with net:=n,sent:=k} p q:=by
 refine OW ?_ ?_ ?_ ?_ ?_ (fun j hj=>?_)
 ·rw[qB oM,VU];rfl
 ·rw[qB oM,gV];rfl
 ·rw[qB oM,vX];rfl
 ·rw[qB oM,jX];rfl
 ·rw[wH];rfl
 ·rw[qB oM,YU hj]
def pcW (w:Wd) (p:Nat) (c:Int):Wd:={w with sv:=w.sv.set p {w.sv.getD p dfSv with pc:=c}}
theorem UL {f':Nat→Row} {w:Wd} {p q:Nat} {c:Int} (hp:p<w.sv.length) {s:Sv} (hs:w.sv.getD p dfSv=s):rUp (mvF f' w p q) q (.live w.sv.length 6 ((qH w p (q+1)).set p [.v (.str s.name),.v (.isl 3 (s.code.map eIn)),.v (.int .i64 c),.sl (q+1) 1 0 s.vars.length,.v (.int .i64 s.off),.v (.int .i64 s.rate)]))=mvF f' (pcW w p c) p q:=by
 have hg:(pcW w p c).sv.getD p dfSv={s with pc:=c}:=by
  show (w.sv.set p {w.sv.getD p dfSv with pc:=c}).getD p dfSv=_
  rw[aq,bf hp,hs];rfl
 refine OW ?_ ?_ ?_ ?_ ?_ (fun j hj=>?_)
 ·rw[wH]
  have:=OY (id:=q+1) (s:={s with pc:=c}) hp
  unfold wV
  have e:pcW w p c={w with sv:=w.sv.set p {s with pc:=c}}:=by unfold pcW;rw[hs]
  rw[e,←this]
  congr 1
  simp
 ·rw[qB oM,gV]
  unfold XU
  rw[hg,hs]
 ·rw[qB oM,vX];rfl
 ·rw[qB oM,jX];rfl
 ·rw[qB oM,JU]
  unfold zX mvC pcW
  simp
 ·rw[qB oM,YU hj]
theorem mv_tr {m p q:Nat} {f':Nat→Row} {w:Wd} {L:List Row} (hm:q+5≤m) (hp:p<w.sv.length) (qM:p<w.tr.length):Dv 0 (kB m (mvF f' w p q)++L) (.sl (q+2) w.tr.length 0 w.tr.length) (.v (.isl 3 (w.tr.map ePr))):=by
 have g:∀j r,j<m→mvF f' w p q j=r→(kB m (mvF f' w p q)++L)[j]? = some r:=fun j r hj h=>by
  rw[aw (by rw[GB];exact hj),eH hj,h]
 have:=ZDh (n:=0) (i:=q) (l:=kB m (mvF f' w p q)++L) hp qM (g _ _ oM (by rw[br];exact VU)) (g _ _ oM gV) (g _ _ oM (by rw[br];exact vX)) (g _ _ oM jX)
 rw[br]at this
 cases this with
 |agg _ _ _ h=>exact h 8 _ _ rfl rfl
theorem G9 (f:Nat→Row) (w:Wd) (p q n:Nat) (hn:q+5≤n) (hp:p<w.sv.length) (qM:p<w.tr.length) (tY:w.sv.length≤1000000) (xX:w.tr.length≤1000000) (vJ:(w.tr.getD p dfPr).evs.length≤1000000) (x:In) (i:Nat) (pR:x.a=i) (hi:i<(w.sv.getD p dfSv).vars.length) (QW:(w.sv.getD p dfSv).vars.length≤1000000) (x6:0≤w.sent∧w.sent≤1000)
  (hv:nwB w.net=true) (hm:msB (EG w p (w.sv.getD p dfSv) x)=true) (b l:List Row) (hb:b=kB n (mvF f w p q)) :
  ZA Tryz.prog 88 [.ptr (q+4) 0 0 0,.v (.int .i64 p),.agg [.v (.int .i64 x.op),.v (.int .i64 x.a),.v (.int .i64 x.b)]] b l
   (fun r b' l'=>r=.v (.int .i64 (sdE w.net (EG w p (w.sv.getD p dfSv) x)))∧b'=kB n (mvF f (if sdE w.net (EG w p (w.sv.getD p dfSv) x)=0 then evW {w with net:=sdR w.net (EG w p (w.sv.getD p dfSv) x),sent:=w.sent+1} p ⟨2,x.b,w.sent,0,[]⟩ else w) p q)∧l'=l):=by
 refine XA ZAV rfl kE ?_
 intro B g hB hR hE hA;simp only[EA]at hA
 rw[hb]at hB
 obtain⟨m,f',hm0,hB1,RH⟩:=AZ hn hB
 clear hB
 subst hB1
 rw[GB]at hR
 obtain⟨s,hs⟩:∃s,w.sv.getD p dfSv=s:=⟨_,rfl⟩
 obtain⟨SV,i6⟩:∃SV,qH w p (q+1)=SV:=⟨_,rfl⟩
 obtain⟨F,hF⟩:∃F,mvF f' w p q=F:=⟨_,rfl⟩
 obtain⟨TT,gS,f0,f1,f4⟩:=JF hp qM hF hs i6
 rw[hs]at hi QW hm⊢
 have gk:∀{j:Nat} {f:Nat→Row} {L:List Row},j<5→hget (kB m f) L (q+j)=some (f (q+j)):=fun hj=>VI oM
 have kn:∀{j:Nat} {f:Nat→Row} {r:Row},j<5→pE (kB m f) (q+j) r=kB m (rUp f (q+j) r):=fun hj=>AJ oM
 have kl:∀{j:Nat} {f:Nat→Row} {r:Row} {L:List Row},j<5→IE (kB m f) L (q+j) r=L:=fun hj=>CJ oM
 have gk0:∀{f:Nat→Row} {L:List Row},hget (kB m f) L q=some (f q):=VI oM
 have hgv:=NG hi
 obtain⟨u,huu⟩:∃u,s.vars.getD i 0=u:=⟨_,rfl⟩
 rw[huu]at hgv
 obtain⟨mg,hmg⟩:∃mg,EG w p s x=mg:=⟨_,rfl⟩
 have hmd:mg=⟨p,x.b,w.sent,[u]⟩:=by rw[←hmg];unfold EG;rw[pR,bs,huu]
 rw[hmg]at hm⊢
 have cS:∀b l,ZA Tryz.prog 110 [.agg ((eNw w.net).map .v),.agg [.v (.int .i64 p),.v (.int .i64 x.b),.v (.int .i64 w.sent),.v (.isl 1 [[.int .i64 u]])]] b l (fun r b' l'=>r=.tup [nwA (sdR w.net mg),.v (.int .i64 (sdE w.net mg))]∧b'=b∧l'=l):=fun b l=>by
  have:=M1 w.net mg b l
  have e2:NQ w.net mg=sdE w.net mg:=by unfold NQ;rw[if_pos hv,if_pos hm]
  have e1:ZDy w.net mg=sdR w.net mg:=by unfold ZDy sdR;rw[e2]
  rw[e1,e2,hmd]at this
  rw[hmd]
  exact this
 obtain⟨n2,hn2⟩:∃n2,sdR w.net mg=n2:=⟨_,rfl⟩
 obtain⟨er,her⟩:∃er,sdE w.net mg=er:=⟨_,rfl⟩
 rw[hn2,her]at cS
 rw[her,hn2]
 simp only[eNw,nwA,ba,bl]at cS
 have TK:∀h:i<s.vars.length,eI (s.vars[i]'h)=[.int .i64 u]:=fun h=>by rw[←huu,YA h];rfl
 have hws:IntKind.i64.wrap (w.sent+1)=w.sent+1:=zB oM oM
 rw[hF]at hR⊢
 simp (disch:=first|decide|omega) only[a_msnd,hA,gk,gk0,f0,f1,f4,gS,TT,pR,hgv,aa,go_sem]
 refine ZA.frzB (i:=1) (ver:=0) (sz:=1) (rows:=[[.int .i64 u]]) (args':=[.agg [.v (.int .i64 w.net.now),.v (.bool w.net.fifo),.v (.isl 4 (w.net.l.map eMs)),.v (.isl 1 (w.net.tm.map eI)),.v (.isl 2 (w.net.fates.map eFt))],.agg [.v (.int .i64 p),.v (.int .i64 x.b),.v (.int .i64 w.sent),.v (.isl 1 [[.int .i64 u]])]]) rfl (by simp[frz,QF,GB]) ?_
 refine ZA.nxt (cS _ _) ?_
 by_cases he:er=0
 ·have e0:(er != 0)=false:=by simpa using he
  rw[if_pos he]
  simp (disch:=first|decide|omega) only[hA,e0,gk,gk0,f0,f1,f4,gS,TT,pR,hgv,TK,hws,kn,kl,qB,xD,go_sem]
  obtain⟨w1,uF⟩:∃w1:Wd,({w with net:=n2,sent:=w.sent+1}:Wd)=w1:=⟨_,rfl⟩
  have aZ:rUp (mvF f' {w with net:=n2} p q) (q+4) (.live 0 9 [[.sl q w.sv.length 0 w.sv.length,.v (.int .i64 n2.now),.v (.bool n2.fifo),.v (.isl 4 (n2.l.map eMs)),.v (.isl 1 (n2.tm.map eI)),.v (.isl 2 (n2.fates.map eFt)),.v (.int .i64 w.now),.v (.int .i64 (w.sent+1)),.sl (q+2) w.tr.length 0 w.tr.length]])=mvF f' w1 p q:=by
   rw[←uF];exact H5 (w:={w with net:=n2})
  rw[←hF,H5,aZ]
  have cE:=fun l=>dP f' w1 p q m oM (by rw[←uF];exact hp) (by rw[←uF];exact qM) (by rw[←uF];exact tY) (by rw[←uF];exact xX) (by rw[←uF];exact vJ) 2 x.b w.sent (kB m (mvF f' w1 p q)) l rfl
  refine ZA.nxt (cE _) ?_
  simp (disch:=first|decide|omega) only[hA,go_sem]
  rw[he,uF]
  exact aD (xs:=[.v (.int .i64 0)]) (.inr rfl) kR kO (by rw[GB];rw[←hF]at hR;exact PT oM hR) hb (RH _) ⟨rfl,rfl,rfl⟩
 ·have e0:(er != 0)=true:=by simpa using he
  rw[if_neg he]
  simp (disch:=first|decide|omega) only[hA,e0,gk,gk0,f0,f1,f4,gS,TT,pR,hgv,TK,aa,go_sem]
  exact aD (xs:=[.v (.int .i64 er)]) (.inr rfl) kR kO (by rw[GB];exact hR) hb (by rw[←hF];exact RH w) ⟨rfl,rfl,rfl⟩
theorem H9 (f:Nat→Row) (w:Wd) (p q n:Nat) (hn:q+5≤n) (hp:p<w.sv.length) (qM:p<w.tr.length) (hS:Small w.tr) (hN:Nm w.tr) (tY:w.sv.length≤1000000) (x:In) (i:Nat) (pR:x.a=i) (hi:i<(w.sv.getD p dfSv).vars.length) (QW:(w.sv.getD p dfSv).vars.length≤1000000)
  (hv:nwB w.net=true) (hpo:ptB p=true) (k:Nat) (hk:fiR w.net p=k) (mg:Ms) (hmg:w.net.l.getD k dfMs=mg) (v:Int) (hbd:mg.body=[v]) (iU:vlB v=true) (b l:List Row) (hb:b=kB n (mvF f w p q)) :
  ZA Tryz.prog 89 [.ptr (q+4) 0 0 0,.v (.int .i64 p),.agg [.v (.int .i64 x.op),.v (.int .i64 x.a),.v (.int .i64 x.b)]] b l
   (fun r b' l'=>r=.v (.bool (!decide (0<(vD w.tr 3 mg.nu).2)))∧b'=kB n (mvF f (if 0<(vD w.tr 3 mg.nu).2 then evW {w with net:=woN w.net k} p ⟨1,0,0,0,[]⟩ else asW {w with net:=woN w.net k} p ⟨3,mg.fr,mg.nu,0,[]⟩ i v) p q)∧l'=l):=by
 refine XA ZAW rfl kE ?_
 intro B g hB hR hE hA;simp only[EA]at hA
 rw[hb]at hB
 obtain⟨m,f',hm0,hB1,RH⟩:=AZ hn hB
 clear hB
 subst hB1
 rw[GB]at hR
 obtain⟨s,hs⟩:∃s,w.sv.getD p dfSv=s:=⟨_,rfl⟩
 obtain⟨SV,i6⟩:∃SV,qH w p (q+1)=SV:=⟨_,rfl⟩
 obtain⟨F,hF⟩:∃F,mvF f' w p q=F:=⟨_,rfl⟩
 obtain⟨TT,gS,f0,f1,f4⟩:=JF hp qM hF hs i6
 have gk:∀{j:Nat} {f:Nat→Row} {L:List Row},j<5→hget (kB m f) L (q+j)=some (f (q+j)):=fun hj=>VI oM
 have kn:∀{j:Nat} {f:Nat→Row} {r:Row},j<5→pE (kB m f) (q+j) r=kB m (rUp f (q+j) r):=fun hj=>AJ oM
 have kl:∀{j:Nat} {f:Nat→Row} {r:Row} {L:List Row},j<5→IE (kB m f) L (q+j) r=L:=fun hj=>CJ oM
 have gk0:∀{f:Nat→Row} {L:List Row},hget (kB m f) L q=some (f q):=VI oM
 have he:rcE w.net p=0:=by unfold rcE;rw[if_pos hv,if_pos hpo,if_neg oM]
 have VP:(fiR w.net p).toNat=k:=by rw[hk];rfl
 have hNN:rcN w.net p=woN w.net k:=by unfold rcN;rw[if_pos he,VP]
 have hMm:rcM w.net p=mg:=by unfold rcM;rw[if_pos he,VP,hmg]
 have cR:=fun b l=>E1 w.net p b l
 rw[he,hNN,hMm]at cR
 obtain⟨n2,hn2⟩:∃n2,woN w.net k=n2:=⟨_,rfl⟩
 rw[hn2]at cR⊢
 simp only[eNw,nwA,eMs,hbd,ba,bl,eI]at cR
 have ZKE:∀F0:Nat→Row,F0=mvF f' w p q→rUp F0 (q+4) (.live 0 9 [[.sl q w.sv.length 0 w.sv.length,.v (.int .i64 n2.now),.v (.bool n2.fifo),.v (.isl 4 (n2.l.map eMs)),.v (.isl 1 (n2.tm.map eI)),.v (.isl 2 (n2.fates.map eFt)),.v (.int .i64 w.now),.v (.int .i64 w.sent),.sl (q+2) w.tr.length 0 w.tr.length]])=mvF f' {w with net:=n2} p q:=fun F0 h=>by rw[h];exact H5
 obtain⟨w1,uF⟩:∃w1:Wd,({w with net:=n2}:Wd)=w1:=⟨_,rfl⟩
 rw[uF]at ZKE⊢
 have e1:w1.sv=w.sv:=by rw[←uF]
 have e3:w1.tr=w.tr:=by rw[←uF]
 have xX:=hS.np
 have vJ:(w1.tr.getD p dfPr).evs.length≤1000000:=by rw[e3,YA qM];exact hS.ne _ (ap qM)
 have cE:=fun l=>dP f' w1 p q m oM (by rw[e1];exact hp) (by rw[e3];exact qM) (by rw[e1];exact tY) (by rw[e3];exact xX) vJ 1 0 0 (kB m (mvF f' w1 p q)) l rfl
 have cA:=fun l=>TU f' w1 p q m oM (by rw[e1];exact hp) (by rw[e3];exact qM) (by rw[e1];exact tY) (by rw[e3];exact xX) vJ 3 mg.fr mg.nu i (by rw[e1];exact hi) (by rw[e1];exact QW) v (kB m (mvF f' w1 p q)) l rfl
 rw[if_pos iU,if_pos iU]at cA
 have cF:∀l,ZA Tryz.prog 112 [.agg [.sl (q+2) w.tr.length 0 w.tr.length],.v (.int .i64 mg.nu)] (kB m (mvF f' w1 p q)) l (fun r b' l'=>r=.tup [idA (vD w.tr 3 mg.nu),.v (.bool (decide (0<(vD w.tr 3 mg.nu).2)))]∧b'=kB m (mvF f' w1 p q)∧l'=l):=fun l =>
  ZA.peek (args':=[.agg [.v (eT w.tr)],.v (.int .i64 mg.nu)]) rfl (fun i z y hz hy=>by
   match i,hz,hy with
   |0,hz,hy =>
     cases hz;cases hy
     refine Dv.aggL (.cons ?_ .nil)
     have:=mv_tr (m:=m) (f':=f') (w:=w1) (p:=p) (q:=q) (L:=l) oM (by rw[e1];exact hp) (by rw[e3];exact qM)
     rw[e3]at this
     exact this
   |1,hz,hy=>cases hz;cases hy;exact .v _) (.tup fun c hc=>by
   simp only[dx,ju,or_false]at hc
   rcases hc with rfl|rfl
   ·exact .agg fun c hc=>by
     simp only[dx,ju,or_false]at hc
     rcases hc with rfl|rfl<;>exact .int
   ·exact .bool) (mT w.tr hS hN _ _ mg.nu)
 simp only[idA]at cF
 rw[hF]at hR⊢
 have ZJZ:=ZKE F hF.symm
 have g4:mvF f' w1 p q (q+4)=.live 0 9 [[.sl q w.sv.length 0 w.sv.length,.v (.int .i64 n2.now),.v (.bool n2.fifo),.v (.isl 4 (n2.l.map eMs)),.v (.isl 1 (n2.tm.map eI)),.v (.isl 2 (n2.fates.map eFt)),.v (.int .i64 w.now),.v (.int .i64 w.sent),.sl (q+2) w.tr.length 0 w.tr.length]]:=by rw[JU,←uF];rfl
 simp (disch:=first|decide|omega) only[a_mrcv,hA,gk,gk0,f0,f4,aa,go_sem]
 refine ZA.nxt (cR _ _) ?_
 simp (disch:=first|decide|omega) only[hA,gk,gk0,f0,f4,kn,kl,qB,xD,go_sem]
 rw[ZJZ]
 refine ZA.nxt (cF _) ?_
 by_cases ha:0<(vD w.tr 3 mg.nu).2
 ·have d1:decide (0<(vD w.tr 3 mg.nu).2)=true:=ag ha
  rw[if_pos ha,d1]
  simp (disch:=first|decide|omega) only[hA,gk,gk0,g4,xD,go_sem]
  refine ZA.nxt (wF _ _) ?_
  simp (disch:=first|decide|omega) only[hA,go_sem]
  refine ZA.nxt (cE _) ?_
  simp (disch:=first|decide|omega) only[hA,go_sem]
  exact aD (xs:=[.v (.bool false)]) (.inr rfl) kR kO (by rw[GB];rw[←hF]at hR;exact PT oM hR) hb (RH _) ⟨rfl,rfl,rfl⟩
 ·have d1:decide (0<(vD w.tr 3 mg.nu).2)=false:=ak ha
  rw[if_neg ha,d1]
  have h00:Int.toNat 0=0:=rfl
  simp (disch:=first|decide|omega) only[hA,pR,gk,gk0,g4,h00,xD,go_sem]
  refine ZA.nxt (cA _) ?_
  simp (disch:=first|decide|omega) only[hA,go_sem]
  exact aD (xs:=[.v (.bool true)]) (.inr rfl) kR kO (by rw[GB];rw[←hF]at hR;exact PT oM hR) hb (RH _) ⟨rfl,rfl,rfl⟩
structure NewEv (t:Tr) (p:Nat) (e:Ev):Prop where
 v:Vok t
 hp:p<t.length
 room:(sA t p).length<64
 form:lC t.length p e=true
 tm:inB e.time 0 1099511627776=true
 last:∀i,(sA t p).length=i+1→((sA t p).getD i qK).time≤e.time
 al:e.asg.length≤8
 af:YD (vM (t.getD p dfPr).vars.length e.asg) e.asg.length=0
 snd:e.kind=2→∀x∈ids t,(rA t x).kind=2→(rA t x).msg≠e.msg
 rcv:e.kind=3→(∀x∈ids t,(rA t x).kind=3→(rA t x).msg≠e.msg)∧zF t e.peer.toNat e.msg p=true
theorem mG {t:Tr} {p:Nat} {e:Ev}:(VB t p e).length=t.length:=by unfold VB;simp
theorem fJ {t:Tr} {p:Nat} {e:Ev} (hp:p<t.length):(VB t p e).getD p dfPr={t.getD p dfPr with evs:=sA t p++[e]}:=by
 rw[aq,xO e hp,YA hp,yE hp];rfl
theorem MM {t:Tr} {p q:Nat} {e:Ev} (h:p≠q):(VB t p e).getD q dfPr=t.getD q dfPr:=by
 rw[aq,fS e h,aq]
theorem qJ {t:Tr} {p:Nat} {e:Ev} (hp:p<t.length):sA (VB t p e) p=sA t p++[e]:=by
 show ((VB t p e).getD p dfPr).evs=_
 rw[fJ hp]
theorem IM {t:Tr} {p q:Nat} {e:Ev} (h:p≠q):sA (VB t p e) q=sA t q:=by
 show ((VB t p e).getD q dfPr).evs=_
 rw[MM h];rfl
theorem TG {t:Tr} {p:Nat} {e:Ev} (hp:p<t.length) {x:Nat×Nat}:x∈ids (VB t p e)↔x∈ids t∨x=(p,(sA t p).length+1):=by
 obtain⟨q,i⟩:=x
 cases i with
 |zero =>
   constructor
   ·intro h;have:=MF h;simp only at this;omega
   ·rintro (h|h)
    ·have:=MF h;simp only at this;omega
    ·have:=congrArg Prod.snd h;simp only at this;omega
 |succ i =>
   rw[kD,kD,mG]
   by_cases hq:p=q
   ·subst hq
    rw[qJ hp,am,fa]
    constructor
    ·rintro⟨_,h⟩
     rcases cq i (sA t p).length with h2|h2
     ·exact .inl ⟨hp,h2⟩
     ·exact .inr (by rw[show i=(sA t p).length by omega])
    ·rintro (⟨_,h⟩|h)
     ·exact⟨hp,by omega⟩
     ·have:=congrArg Prod.snd h;simp only at this;exact⟨hp,by omega⟩
   ·rw[IM hq]
    constructor
    ·exact fun h=>.inl h
    ·rintro (h|h)
     ·exact h
     ·exact absurd (congrArg Prod.fst h).symm hq
theorem ZHM {t:Tr} {p:Nat}:(p,(sA t p).length+1)∉ids t:=fun h=>by
 have:=(kD.1 h).2;omega
theorem lG {t:Tr} {p:Nat} {e:Ev} (hp:p<t.length) {x:Nat×Nat} (hx:x∈ids t):rA (VB t p e) x=rA t x:=by
 obtain⟨q,i⟩:=x
 obtain⟨i,rfl⟩:∃k,i=k+1:=⟨i-1,by have:=MF hx;simp only at this;omega⟩
 obtain⟨_,h2⟩:=kD.1 hx
 unfold rA
 simp only[gb]
 by_cases hq:p=q
 ·subst hq
  rw[qJ hp,aq,aw h2,aq]
 ·rw[IM hq]
theorem UG {t:Tr} {p:Nat} {e:Ev} (hp:p<t.length):rA (VB t p e) (p,(sA t p).length+1)=e:=by
 unfold rA
 simp only[gb]
 rw[qJ hp,aq,au (ah _),fz];rfl
theorem sF {t:Tr} {k m:Int} {x:Nat×Nat} (h:TC t k m=some x):x∈ids t:=ge h
theorem R7 {t:Tr} {k m:Int} (h:∀z∈ids t,(rA t z).kind=k→(rA t z).msg≠m):TC t k m=none:=by
 cases hf:TC t k m with
 |none=>rfl
 |some z=>exact absurd (CD hf).2 (h z (sF hf) (CD hf).1)
theorem S7 {t:Tr} {k m:Int} {x:Nat×Nat} (hx:x∈ids t) (hk:(rA t x).kind=k) (hm:(rA t x).msg=m) (hu:∀z∈ids t,(rA t z).kind=k→(rA t z).msg=m→z=x):TC t k m=some x:=by
 cases hf:TC t k m with
 |none =>
   have:=dg.1 hf x hx
   rw[hk,hm]at this;simp at this
 |some z=>rw[hu z (sF hf) (CD hf).1 (CD hf).2]
theorem NewEv.fresh {t:Tr} {p:Nat} {e:Ev} (h:NewEv t p e) {k:Int} (hk:k=2∨k=3) (he:e.kind=k) {x:Nat×Nat} (hx:x∈ids t) (hxk:(rA t x).kind=k):(rA t x).msg≠e.msg:=by
 rcases hk with rfl|rfl
 ·exact h.snd he x hx hxk
 ·exact (h.rcv he).1 x hx hxk
theorem xE {t:Tr} {p:Nat} {e:Ev} (h:NewEv t p e) {k m:Int} (hk:k=2∨k=3):TC (VB t p e) k m=if e.kind=k∧e.msg=m then some (p,(sA t p).length+1) else TC t k m:=by
 have hp:=h.hp
 split
 ·rename_i hc
  obtain⟨h1,h2⟩:=hc
  refine S7 ((TG hp).2 (.inr rfl)) (by rw[UG hp];exact h1) (by rw[UG hp];exact h2) (fun z hz hzk hzm=>?_)
  rcases (TG hp).1 hz with hz|hz
  ·rw[lG hp hz]at hzk hzm
   exact absurd (hzm.trans h2.symm) (h.fresh hk h1 hz hzk)
  ·exact hz
 ·rename_i hc
  cases hf:TC t k m with
  |none =>
    refine R7 (fun z hz hzk hzm=>?_)
    rcases (TG hp).1 hz with hz|hz
    ·rw[lG hp hz]at hzk hzm
     have:=dg.1 hf z hz
     rw[hzk,hzm]at this;simp at this
    ·rw[hz,UG hp]at hzk hzm
     exact hc ⟨hzk,hzm⟩
  |some x =>
    have hx:=sF hf
    obtain⟨k1,k2⟩:=CD hf
    refine S7 ((TG hp).2 (.inl hx)) (by rw[lG hp hx];exact k1) (by rw[lG hp hx];exact k2) (fun z hz hzk hzm=>?_)
    rcases (TG hp).1 hz with hz|hz
    ·rw[lG hp hz]at hzk hzm
     have:=jF h.v hz hk hzk
     rw[hzm,hf]at this
     exact (fx this).symm
    ·rw[hz,UG hp]at hzk hzm
     exact absurd ⟨hzk,hzm⟩ hc
theorem eY {t:Tr} {p q:Nat} {e:Ev} (hp:p<t.length) {m to:Int} (h:zF t q m to=true):zF (VB t p e) q m to=true:=by
 unfold zF at h⊢
 by_cases hq:p=q
 ·subst hq
  rw[qJ hp,List.any_append,h];rfl
 ·rw[IM hq];exact h
theorem ZE7 {t:Tr} {p:Nat} {e:Ev} (h:NewEv t p e) {x:Nat×Nat} (hx:x∈ids (VB t p e)):mE (VB t p e) x=0:=by
 have hp:=h.hp
 rcases (TG hp).1 hx with hx|hx
 ·have h0:=h.v.form x hx
  obtain⟨q,i⟩:=x
  obtain⟨i,rfl⟩:∃k,i=k+1:=⟨i-1,by have:=MF hx;simp only at this;omega⟩
  obtain⟨_,h2⟩:=kD.1 hx
  have hl:vO (VB t p e) (q,i+1)=vO t (q,i+1):=by
   unfold vO
   by_cases hc:1<i+1
   ·rw[if_pos (show 1<(q,i+1).2 from hc),if_pos (show 1<(q,i+1).2 from hc)]
    simp only
    by_cases hq:p=q
    ·subst hq
     rw[qJ hp,aq,aw oM,aq]
    ·rw[IM hq]
   ·rw[if_neg (show ¬1<(q,i+1).2 from hc),if_neg (show ¬1<(q,i+1).2 from hc)]
  have hg:((VB t p e).getD q dfPr).vars=(t.getD q dfPr).vars:=by
   by_cases hq:p=q
   ·subst hq;rw[fJ hp]
   ·rw[MM hq]
  unfold mE at h0⊢
  rw[lG hp hx,mG,hl]
  simp only at h0⊢
  rw[hg]
  exact h0
 ·rw[hx,EU,UG hp,mG]
  refine⟨h.form,h.tm,?_,h.al,?_⟩
  ·unfold vO
   by_cases hc:1<(sA t p).length+1
   ·rw[if_pos (show 1<(p,(sA t p).length+1).2 from hc)]
    simp only
    obtain⟨i,hi⟩:∃i,(sA t p).length=i+1:=⟨(sA t p).length-1,by omega⟩
    rw[qJ hp,aq,aw oM,←aq,hi,show i+1+1-2=i by omega]
    have:=h.last i hi
    omega
   ·rw[if_neg (show ¬1<(p,(sA t p).length+1).2 from hc)]
    have:=h.tm
    unfold inB at this
    simp only[ar,bj]at this
    omega
  ·simp only
   rw[fJ hp]
   exact h.af
theorem ZE5 {t:Tr} {p:Nat} {e:Ev} (h:NewEv t p e) {x:Nat×Nat} (hx:x∈ids (VB t p e)):UF (VB t p e) x=0:=by
 have hp:=h.hp
 rcases (TG hp).1 hx with hx|hx
 ·have h0:=h.v.pair x hx
  have yK:=lG (e:=e) hp hx
  unfold UF at h0⊢
  rw[yK]
  by_cases k2:(rA t x).kind=2
  ·have hf:=jF h.v hx (.inl rfl) k2
   have hc:¬(e.kind=2∧e.msg=(rA t x).msg):=fun hc=>h.fresh (.inl rfl) hc.1 hx k2 hc.2.symm
   rw[xE h (.inl rfl),if_neg hc]
   rw[hf,k2];simp
  ·by_cases k3:(rA t x).kind=3
   ·have hf:=jF h.v hx (.inr rfl) k3
    have hc:¬(e.kind=3∧e.msg=(rA t x).msg):=fun hc=>h.fresh (.inr rfl) hc.1 hx k3 hc.2.symm
    rw[xE h (.inr rfl),if_neg hc]
    rw[hf,k3]at h0⊢
    simp only[show ((3:Int)==2)=false from rfl,show ((3:Int)==3)=true from rfl,dw,if_true,bx,if_false]at h0⊢
    cases hs:zF t (rA t x).peer.toNat (rA t x).msg x.1 with
    |true=>rw[eY hp hs];rfl
    |false=>rw[hs]at h0;simp at h0
   ·have e2:((rA t x).kind==2)=false:=fc.2 k2
    have e3:((rA t x).kind==3)=false:=fc.2 k3
    rw[e2,e3];rfl
 ·rw[hx]
  unfold UF
  rw[UG hp]
  by_cases k2:e.kind=2
  ·have hf:=xE h (.inl rfl) (m:=e.msg)
   rw[if_pos ⟨k2,rfl⟩]at hf
   rw[hf,k2];simp
  ·by_cases k3:e.kind=3
   ·have hf:=xE h (.inr rfl) (m:=e.msg)
    rw[if_pos ⟨k3,rfl⟩]at hf
    rw[hf,k3]
    simp only
    rw[eY hp (h.rcv k3).2];simp
   ·have e2:(e.kind==2)=false:=fc.2 k2
    have e3:(e.kind==3)=false:=fc.2 k3
    rw[e2,e3];rfl
theorem ZDD {t:Tr} {p:Nat} {e:Ev} (h:NewEv t p e) {z:Nat×Nat}:¬Dir (VB t p e) (p,(sA t p).length+1) z:=by
 have hp:=h.hp
 rintro (⟨_,h2⟩|⟨h1,h2⟩)
 ·simp only at h2
  rw[qJ hp,am,fa]at h2;omega
 ·rw[UG hp]at h1 h2
  rw[xE h (.inr rfl),if_neg oM]at h2
  have hz:=sF h2
  obtain⟨k1,k2⟩:=CD h2
  obtain⟨_,y,hy⟩:=h.v.paired.recv hz k1
  obtain⟨k3,k4⟩:=CD hy
  exact h.snd h1 y (sF hy) k3 (k4.trans k2)
theorem tp_dir {t:Tr} {p:Nat} {e:Ev} (h:NewEv t p e) {x z:Nat×Nat} (hx:x∈ids t) (hd:Dir (VB t p e) x z):Dir t x z∨z=(p,(sA t p).length+1):=by
 have hp:=h.hp
 rcases hd with ⟨h1,h2⟩|⟨h1,h2⟩
 ·by_cases hq:p=x.1
  ·obtain⟨q,i⟩:=x
   simp only at hq h1 h2
   subst hq
   rw[qJ hp,am,fa]at h2
   rcases cq i (sA t p).length with h3|h3
   ·exact .inl (.inl ⟨h1,h3⟩)
   ·exact .inr (by rw[h1,show i=(sA t p).length by omega])
  ·rw[IM hq]at h2
   exact .inl (.inl ⟨h1,h2⟩)
 ·rw[lG hp hx]at h1 h2
  rw[xE h (.inr rfl)]at h2
  split at h2
  ·exact .inr (fx h2).symm
  ·exact .inl (.inr ⟨h1,h2⟩)
theorem ZDY {t:Tr} {x z:Nat×Nat} (hx:x∈ids t) (hd:Dir t x z):z∈ids t:=by
 rcases hd with ⟨h1,h2⟩|⟨_,h2⟩
 ·obtain⟨q,i⟩:=x
  have:=(VE.1 hx).1
  rw[h1]
  exact kD.2 ⟨this,h2⟩
 ·exact sF h2
theorem tp_hb {t:Tr} {p:Nat} {e:Ev} (h:NewEv t p e) {x z:Nat×Nat} (hx:x∈ids t) (hh:Hb (VB t p e) x z):(z∈ids t∧Hb t x z)∨z=(p,(sA t p).length+1):=by
 induction hh with
 |one hd =>
   rcases tp_dir h hx hd with hd|hd
   ·exact .inl ⟨ZDY hx hd,.one hd⟩
   ·exact .inr hd
 |more _ hd ih =>
   rcases ih with ⟨h1,h2⟩|h1
   ·rcases tp_dir h h1 hd with hd|hd
    ·exact .inl ⟨ZDY h1 hd,.more h2 hd⟩
    ·exact .inr hd
   ·rw[h1]at hd
    exact absurd hd (ZDD h)
theorem tp_no {t:Tr} {p:Nat} {e:Ev} (h:NewEv t p e) {x z:Nat×Nat} (hx:x=(p,(sA t p).length+1)) (hh:Hb (VB t p e) x z):False:=by
 induction hh with
 |one hd=>rw[hx]at hd;exact ZDD h hd
 |more _ _ ih=>exact ih
theorem ZBh {t:Tr} {p:Nat} {e:Ev} (q:Nat):((VB t p e).getD q dfPr).name=(t.getD q dfPr).name∧((VB t p e).getD q dfPr).vars=(t.getD q dfPr).vars:=by
 by_cases hq:p=q
 ·subst hq
  by_cases hp:p<t.length
  ·rw[fJ hp];exact⟨rfl,rfl⟩
  ·rw[aq,ce (by rw[mG];omega),aq,ce oM];exact⟨rfl,rfl⟩
 ·rw[MM hq];exact⟨rfl,rfl⟩
theorem ZHN {t:Tr} {p:Nat} {e:Ev}:(VB t p e).map (·.name)=t.map (·.name):=by
 apply ek
 intro j
 rw[ai,ai]
 by_cases hj:p=j
 ·subst hj
  by_cases hp:p<t.length
  ·rw[xO e hp,ae hp];rfl
  ·rw[ce (by rw[mG];omega),ce oM]
 ·rw[fS e hj]
theorem ZE6 {t:Tr} {p:Nat} {e:Ev} (h:NewEv t p e) {q:Nat} (hq:q<t.length):gE (VB t p e) q=0:=by
 have h0:=h.v.head q hq
 obtain⟨e1,e2⟩:=ZBh (t:=t) (p:=p) (e:=e) q
 have ha:((VB t p e).take q).any (fun y=>y.name.toList==(t.getD q dfPr).name.toList)=(t.take q).any (fun y=>y.name.toList==(t.getD q dfPr).name.toList):=by
  have:=fun (l:Tr)=>show (l.take q).any (fun y=>y.name.toList==(t.getD q dfPr).name.toList)=((l.map (·.name)).take q).any (fun y=>y.toList==(t.getD q dfPr).name.toList) by rw[←gx,List.any_map];rfl
  rw[this,this,ZHN]
 have hl:¬64<((VB t p e).getD q dfPr).evs.length:=by
  have h64:¬64<(t.getD q dfPr).evs.length:=by
   have:=OJ hq h0
   rw[YA hq];omega
  by_cases hc:p=q
  ·subst hc
   rw[fJ h.hp,am,fa]
   have:=h.room;omega
  ·rw[MM hc];exact h64
 unfold gE at h0⊢
 rw[e1,e2,ha,if_neg hl]
 split at h0
 ·exact absurd h0 kE
 rename_i c1
 rw[if_neg c1]
 split at h0
 ·exact absurd h0 kE
 rename_i c2
 rw[if_neg c2]
 split at h0
 ·rename_i c3;exact absurd h0 c3
 rename_i c3
 rw[if_neg c3]
theorem KT {t:Tr} {p:Nat} {e:Ev} (h:NewEv t p e):Vok (VB t p e):=by
 have hp:=h.hp
 refine⟨by rw[mG];exact h.v.lo,by rw[mG];exact h.v.hi,fun q hq=>ZE6 h (by rw[←mG (p:=p) (e:=e)];exact hq),fun x hx=>ZE7 h hx,fun x hx=>ZE5 h hx,fun x hx hh=>?_⟩
 rcases (TG hp).1 hx with hx|hx
 ·rcases tp_hb h hx hh with h1|h1
  ·exact h.v.acyc x hx h1.2
  ·exact ZHM (h1▸hx)
 ·exact tp_no h hx hh
theorem sO {α:Type} {l:List α} {x d:α} {p c:Nat} (hp:p≤l.length) (i:Nat) :
  (l.take p++List.replicate c x++l.drop p).getD i d=if i<p then l.getD i d else if i<p+c then x else l.getD (i-c) d:=by
 have h1:(l.take p).length=p:=by rw[bu];omega
 have h2:(List.replicate c x).length=c:=lq
 simp only[aq]
 by_cases ha:i<p
 ·rw[if_pos ha,aw (by rw[am];omega),aw oM,cw,if_pos ha]
 ·rw[if_neg ha]
  by_cases hb:i<p+c
  ·rw[if_pos hb,aw (by rw[am];omega),au oM,h1,jl,if_pos oM];rfl
  ·rw[if_neg hb,au (by rw[am];omega),am,h1,h2,dl]
   congr 2;omega
theorem BI {α:Type} {l:List α} {x:α} {p c:Nat} (hp:p≤l.length):(l.take p++List.replicate c x++l.drop p).length=l.length+c:=by
 simp only[am,bu,lq,fp];omega
theorem TS {l:List Int} {a:Int}:(∀j,j<leN l a→l.getD j 0≤a)∧(leN l a<l.length→a<l.getD (leN l a) 0):=by
 unfold leN
 induction l with
 |nil=>simp
 |cons x l ih =>
   by_cases hx:x≤a
   ·rw[List.takeWhile_cons_of_pos (by simpa using hx)]
    refine⟨fun j hj=>?_,fun h=>?_⟩
    ·cases j with
     |zero=>exact hx
     |succ j=>simp only[List.getD_cons_succ];exact ih.1 j (by simpa using hj)
    ·simp only[ck,List.getD_cons_succ]
     exact ih.2 (by simpa using h)
   ·rw[List.takeWhile_cons_of_neg (by simpa using hx)]
    refine⟨fun j hj=>by simp at hj,fun _=>by simp;omega⟩
theorem NwV.ins {n:Nw} (h:NwV n) {m:Ms} (hm:msB m=true) {a:Int} (ha:0≤a∧a≤1099512627776) {c:Nat} (hc:n.l.length+c≤1000):NwV (uN n m a c):=by
 have hp:=vT (l:=n.tm) (a:=a)
 have hp2:leN n.tm a≤n.l.length:=by rw[h.len];exact hp
 have hs:=TS (l:=n.tm) (a:=a)
 refine⟨h.now,?_,?_,?_,?_,?_,?_,?_⟩
 ·show (n.l.take _++_++n.l.drop _).length=(n.tm.take _++_++n.tm.drop _).length
  rw[BI hp2,BI hp,h.len]
 ·show (n.l.take _++_++n.l.drop _).length≤1000
  rw[BI hp2];omega
 ·show (n.fates.drop 1).length≤1000
  have:=h.fl;rw[fp];omega
 ·intro f hf
  exact h.fates f (fd hf)
 ·intro x hx
  change x∈n.l.take _++_++n.l.drop _ at hx
  rw[bn,bn]at hx
  rcases hx with (hx|hx)|hx
  ·exact h.ms x (dr hx)
  ·rw[(jg.1 hx).2];exact hm
  ·exact h.ms x (fd hx)
 ·intro x hx
  change x∈n.tm.take _++_++n.tm.drop _ at hx
  rw[bn,bn]at hx
  rcases hx with (hx|hx)|hx
  ·exact h.tm x (dr hx)
  ·rw[(jg.1 hx).2];exact ha
  ·exact h.tm x (fd hx)
 ·intro i hi
  change i+1<(n.tm.take _++_++n.tm.drop _).length at hi
  rw[BI hp]at hi
  show (n.tm.take _++_++n.tm.drop _).getD i 0≤(n.tm.take _++_++n.tm.drop _).getD (i+1) 0
  rw[sO hp,sO hp]
  have key:=h.mono
  have so:=h.sorted
  by_cases h1:i+1<leN n.tm a
  ·rw[if_pos h1,if_pos oM];exact key i oM
  ·rw[if_neg h1]
   by_cases h2:i<leN n.tm a
   ·rw[if_pos h2]
    have e1:=hs.1 i h2
    by_cases h3:i+1<leN n.tm a+c
    ·rw[if_pos h3];exact e1
    ·rw[if_neg h3]
     have:c=0:=by omega
     subst this
     have:i+1<n.tm.length:=by omega
     exact key i this
   ·rw[if_neg h2]
    by_cases h3:i+1<leN n.tm a+c
    ·rw[if_pos h3,if_pos oM];exact ii _
    ·rw[if_neg h3]
     by_cases h4:i<leN n.tm a+c
     ·rw[if_pos h4]
      have e:i+1-c=leN n.tm a:=by omega
      rw[e]
      have:=hs.2 oM
      omega
     ·rw[if_neg h4]
      have e:i+1-c=i-c+1:=by omega
      rw[e]
      exact key (i-c) oM
theorem bO {α:Type} {l:List α} {d:α} {k:Nat} (i:Nat):(l.take k++l.drop (k+1)).getD i d=if k<l.length∧k≤i then l.getD (i+1) d else l.getD i d:=by
 simp only[aq]
 by_cases hk:k<l.length
 ·have h1:(l.take k).length=k:=by rw[bu];omega
  by_cases hi:k≤i
  ·rw[if_pos ⟨hk,hi⟩,au oM,h1,dl]
   congr 2;omega
  ·rw[if_neg (fun h=>hi h.2),aw oM,cw,if_pos oM]
 ·rw[if_neg (fun h=>hk h.1),cv oM,mb oM,cj]
theorem AI {α:Type} {l:List α} {k:Nat} (hk:k<l.length):(l.take k++l.drop (k+1)).length=l.length-1:=by
 simp only[am,bu,fp];omega
theorem NwV.out {n:Nw} (h:NwV n) {k:Nat} (hk:k<n.l.length):NwV (woN n k):=by
 have dV:k<n.tm.length:=by rw[←h.len];exact hk
 refine⟨h.now,?_,?_,h.fl,h.fates,?_,?_,?_⟩
 ·show (n.l.take k++n.l.drop (k+1)).length=(n.tm.take k++n.tm.drop (k+1)).length
  rw[AI hk,AI dV,h.len]
 ·show (n.l.take k++n.l.drop (k+1)).length≤1000
  have:=h.l;rw[AI hk];omega
 ·intro x hx
  rcases bn.1 (show x∈n.l.take k++n.l.drop (k+1) from hx) with hx|hx
  ·exact h.ms x (dr hx)
  ·exact h.ms x (fd hx)
 ·intro x hx
  rcases bn.1 (show x∈n.tm.take k++n.tm.drop (k+1) from hx) with hx|hx
  ·exact h.tm x (dr hx)
  ·exact h.tm x (fd hx)
 ·intro i hi
  change i+1<(n.tm.take k++n.tm.drop (k+1)).length at hi
  rw[AI dV]at hi
  show (n.tm.take k++n.tm.drop (k+1)).getD i 0≤(n.tm.take k++n.tm.drop (k+1)).getD (i+1) 0
  rw[bO,bO]
  by_cases h1:k≤i
  ·rw[if_pos ⟨dV,h1⟩,if_pos ⟨dV,by omega⟩];exact h.mono (i+1) oM
  ·rw[if_neg (fun h=>h1 h.2)]
   by_cases h2:k≤i+1
   ·rw[if_pos ⟨dV,h2⟩];exact h.sorted i (i+2) oM oM
   ·rw[if_neg (fun h=>h2 h.2)];exact h.mono i oM
theorem NwV.at {n:Nw} (h:NwV n) {t:Int} (ht:0≤t∧t≤1099511627776):NwV {n with now:=t}:=⟨ht,h.len,h.l,h.fl,h.fates,h.ms,h.tm,h.mono⟩
structure Sc where
 n:Nw
 sent:List Ms
 due:List Int
 copies:List Int
 got:List Int
 last:Int→Int→Int
def jK (l:List Ms) (k:Int):Nat:=(l.filter fun m=>decide (m.nu=k)).length
structure ScOk (fs:List (Int×Int)) (s:Sc):Prop where
 v:NwV s.n
 few:s.n.l.length≤3*s.sent.length
 ld:s.due.length=s.sent.length
 lc:s.copies.length=s.sent.length
 lg:s.got.length=s.sent.length
 fates:s.n.fates=fs.drop s.sent.length
 num:∀k,k<s.sent.length→(s.sent.getD k dfMs).nu=k
 own:∀i,i<s.n.l.length→∃k,k<s.sent.length∧s.n.l.getD i dfMs=s.sent.getD k dfMs∧s.due.getD k 0≤s.n.tm.getD i 0
 cnt:∀k,k<s.sent.length→(jK s.n.l k:Int)+s.got.getD k 0=s.copies.getD k 0
 ord:s.n.fifo=true→∀i j,i<j→j<s.n.l.length→(s.n.l.getD i dfMs).fr=(s.n.l.getD j dfMs).fr→(s.n.l.getD i dfMs).to=(s.n.l.getD j dfMs).to→(s.n.l.getD i dfMs).nu≤(s.n.l.getD j dfMs).nu
 lst:s.n.fifo=true→∀i,i<s.n.l.length→s.last (s.n.l.getD i dfMs).fr (s.n.l.getD i dfMs).to≤(s.n.l.getD i dfMs).nu
 lub:∀x y,s.last x y≤s.sent.length
 rng:∀k,k<s.sent.length→0≤s.got.getD k 0∧s.copies.getD k 0≤3
theorem AM (a c:List Ms) (k:Int):jK (a++c) k=jK a k+jK c k:=by unfold jK;rw[ij,am]
theorem ZFg (l:List Ms) (x:Ms) (p c:Nat) (k:Int):jK (l.take p++List.replicate c x++l.drop p) k=jK l k+(if x.nu=k then c else 0):=by
 have h:jK l k=jK (l.take p) k+jK (l.drop p) k:=by rw[←AM,gq]
 have h2:jK (List.replicate c x) k=if x.nu=k then c else 0:=by
  unfold jK
  rw[List.filter_replicate]
  by_cases hx:x.nu=k<;>simp[hx]
 rw[AM,AM,h,h2];omega
theorem ZC9 {l:List Ms} {k:Int} (h:∀i,i<l.length→(l.getD i dfMs).nu≠k):jK l k=0:=by
 unfold jK
 rw[List.length_eq_zero_iff,List.filter_eq_nil_iff]
 intro m hm
 obtain⟨i,hi,rfl⟩:=dh hm
 have:=h i hi
 rw[YA hi]at this
 simpa using this
theorem rG {α:Type} {l r:List α} {d:α} {k:Nat} (h:k<l.length):(l++r).getD k d=l.getD k d:=by
 simp only[aq];rw[aw h]
theorem FH {α:Type} {l:List α} {x d:α}:(l++[x]).getD l.length d=x:=by
 simp only[aq];rw[au (ah _)];simp
theorem qV {n:Nw} {m:Ms} (hf:n.fifo=true):∀i j,j<i→(n.l.getD j dfMs).fr=m.fr→(n.l.getD j dfMs).to=m.to→n.tm.getD j 0≤MG n m i
 |0,_,h,_,_=>by omega
 |i+1,j,h,h1,h2=>by
   simp only[MG]
   by_cases hj:j=i
   ·subst hj;rw[if_pos ⟨hf,h1,h2⟩];omega
   ·have:=qV hf i j oM h1 h2
    split<;>omega
theorem ScOk.send {fs:List (Int×Int)} {s:Sc} (h:ScOk fs s) {m:Ms} (hm:msB m=true) (hn:m.nu=s.sent.length) (h60:s.sent.length<60) :
  sdE s.n m=0∧ScOk fs ⟨sdR s.n m,s.sent++[m],s.due++[s.n.now+(s.n.fates.headD (1,0)).2],s.copies++[(s.n.fates.headD (1,0)).1],s.got++[0],s.last⟩:=by
 have hd:=wR h.v
 have ha:=EO h.v (m:=m) s.n.l.length (ah _)
 have EZ:=h.v.now
 have hfew:=h.few
 obtain⟨a,hA⟩:∃a,xF s.n m=a:=⟨_,rfl⟩
 change s.n.now≤xF s.n m∧xF s.n m≤_ at ha
 rw[hA]at ha
 obtain⟨c,hC⟩:∃c:Nat,(s.n.fates.headD (1,0)).1=(c:Int):=⟨(s.n.fates.headD (1,0)).1.toNat,by omega⟩
 have J5:c≤3:=by omega
 have he:sdE s.n m=0:=by
  unfold sdE iN
  rw[hA,hC,if_neg oM,if_neg oM]
 have hr:sdR s.n m=uN s.n m a c:=by
  unfold sdR iN
  rw[if_pos he,hA,hC,bs]
 refine⟨he,?_⟩
 rw[hr,hC]
 obtain⟨p,hp⟩:∃p,leN s.n.tm a=p:=⟨_,rfl⟩
 have hs:=TS (l:=s.n.tm) (a:=a)
 have nL:=vT (l:=s.n.tm) (a:=a)
 rw[hp]at hs nL
 have ZKF:p≤s.n.l.length:=by rw[h.v.len];exact nL
 have el:(uN s.n m a c).l=s.n.l.take p++List.replicate c m++s.n.l.drop p:=by rw[←hp];rfl
 have et:(uN s.n m a c).tm=s.n.tm.take p++List.replicate c a++s.n.tm.drop p:=by rw[←hp];rfl
 have ef:(uN s.n m a c).fifo=s.n.fifo:=rfl
 have g:=fun i=>sO (l:=s.n.l) (x:=m) (d:=dfMs) (c:=c) ZKF i
 have gt:=fun i=>sO (l:=s.n.tm) (x:=a) (d:=0) (c:=c) nL i
 have ll:(uN s.n m a c).l.length=s.n.l.length+c:=by rw[el,BI ZKF]
 have late:∀j,p≤j→j<s.n.l.length→a<s.n.tm.getD j 0:=fun j h1 h2=>by
  have hjt:j<s.n.tm.length:=by rw[←h.v.len];exact h2
  have:=hs.2 oM
  have:=h.v.sorted p j h1 hjt
  omega
 have old:∀i,i<s.n.l.length→(s.n.l.getD i dfMs).nu<s.sent.length:=fun i hi=>by
  obtain⟨k,h1,h2,_⟩:=h.own i hi
  rw[h2,h.num k h1];omega
 refine⟨h.v.ins hm oM oM,?_,?_,?_,?_,?_,?_,?_,?_,?_,?_,?_,?_⟩
 ·show (uN s.n m a c).l.length≤3*(s.sent++[m]).length
  rw[ll,am,fa];omega
 ·simp[h.ld]
 ·simp[h.lc]
 ·simp[h.lg]
 ·show s.n.fates.drop 1=fs.drop (s.sent++[m]).length
  rw[h.fates,List.drop_drop,am,fa]
 ·intro k hk
  simp only[am,fa]at hk
  by_cases h1:k<s.sent.length
  ·simp only[rG h1];exact h.num k h1
  ·obtain rfl:k=s.sent.length:=by omega
   simp only[FH];exact hn
 ·intro i hi
  simp only at hi⊢
  rw[ll]at hi
  rw[el,et,g,gt]
  by_cases h1:i<p
  ·rw[if_pos h1,if_pos h1]
   obtain⟨k,k1,k2,k3⟩:=h.own i oM
   exact⟨k,by simp;omega,by rw[rG k1];exact k2,by rw[rG (by rw[h.ld];exact k1)];exact k3⟩
  ·rw[if_neg h1,if_neg h1]
   by_cases h2:i<p+c
   ·rw[if_pos h2,if_pos h2]
    refine⟨s.sent.length,by simp,by rw[FH],?_⟩
    rw[←h.ld,FH,←hA]
    exact GP (n:=s.n) (m:=m) _
   ·rw[if_neg h2,if_neg h2]
    obtain⟨k,k1,k2,k3⟩:=h.own (i-c) oM
    exact⟨k,by simp;omega,by rw[rG k1];exact k2,by rw[rG (by rw[h.ld];exact k1)];exact k3⟩
 ·intro k hk
  simp only[am,fa]at hk⊢
  rw[el,ZFg]
  by_cases h1:k<s.sent.length
  ·rw[if_neg (by rw[hn];omega),rG (by rw[h.lg];exact h1),rG (by rw[h.lc];exact h1)]
   exact h.cnt k h1
  ·obtain rfl:k=s.sent.length:=by omega
   rw[if_pos hn,ZC9 (fun i hi=>by have:=old i hi;omega)]
   have e1:(s.got++[0]).getD s.sent.length 0=0:=by rw[←h.lg,FH]
   have e2:(s.copies++[(c:Int)]).getD s.sent.length 0=c:=by rw[←h.lc,FH]
   rw[e1,e2];omega
 ·intro hf i j hij hj
  simp only at hf hj⊢
  rw[ll]at hj
  rw[el,g,g]
  by_cases i1:i<p
  ·rw[if_pos i1]
   by_cases j1:j<p
   ·rw[if_pos j1];exact h.ord hf i j hij oM
   ·rw[if_neg j1]
    by_cases j2:j<p+c
    ·rw[if_pos j2];intro _ _;have:=old i oM;omega
    ·rw[if_neg j2];exact h.ord hf i (j-c) oM oM
  ·rw[if_neg i1,if_neg (show ¬j<p by omega)]
   by_cases i2:i<p+c
   ·rw[if_pos i2]
    by_cases j2:j<p+c
    ·rw[if_pos j2];intro _ _;exact ii _
    ·rw[if_neg j2]
     intro e1 e2
     have:=late (j-c) oM oM
     have:=qV (n:=s.n) (m:=m) hf s.n.l.length (j-c) oM e1.symm e2.symm
     change _≤xF s.n m at this
     omega
   ·rw[if_neg i2,if_neg (show ¬j<p+c by omega)]
    exact h.ord hf (i-c) (j-c) oM oM
 ·intro hf i hi
  simp only at hf hi⊢
  rw[ll]at hi
  rw[el,g]
  by_cases i1:i<p
  ·rw[if_pos i1];exact h.lst hf i oM
  ·rw[if_neg i1]
   by_cases i2:i<p+c
   ·rw[if_pos i2,hn];exact h.lub _ _
   ·rw[if_neg i2];exact h.lst hf (i-c) oM
 ·intro x y
  have:=h.lub x y
  simp only[am,fa];omega
 ·intro k hk
  simp only[am,fa]at hk⊢
  by_cases h1:k<s.sent.length
  ·rw[rG (by rw[h.lg];exact h1),rG (by rw[h.lc];exact h1)]
   exact h.rng k h1
  ·obtain rfl:k=s.sent.length:=by omega
   have e1:(s.got++[0]).getD s.sent.length 0=0:=by rw[←h.lg,FH]
   have e2:(s.copies++[(c:Int)]).getD s.sent.length 0=c:=by rw[←h.lc,FH]
   rw[e1,e2];omega
theorem Z8 {l:List Ms} {k:Nat} (hk:k<l.length) (x:Int):jK (l.take k++l.drop (k+1)) x+(if (l.getD k dfMs).nu=x then 1 else 0)=jK l x:=by
 have h:l=l.take k++([l.getD k dfMs]++l.drop (k+1)):=by
  rw[YA hk,List.singleton_append,←mj hk,gq]
 have h2:jK [l.getD k dfMs] x=if (l.getD k dfMs).nu=x then 1 else 0:=by
  obtain⟨z,hz⟩:∃z,l.getD k dfMs=z:=⟨_,rfl⟩
  rw[hz]
  unfold jK
  by_cases hx:z.nu=x<;>simp[hx]
 have h3:jK l x=jK (l.take k) x+(jK [l.getD k dfMs] x+jK (l.drop (k+1)) x):=by
  conv=>lhs;rw[h]
  rw[AM,AM]
 rw[AM,h3,h2];omega
theorem aY {α:Type} {l:List α} {q k:Nat} {x d:α} (hq:q<l.length):(l.set q x).getD k d=if k=q then x else l.getD k d:=by
 simp only[aq]
 by_cases h:k=q
 ·subst h;rw[if_pos rfl,bf hq];rfl
 ·rw[if_neg h,bq (fun e=>h e.symm)]
theorem ScOk.recv {fs:List (Int×Int)} {s:Sc} (h:ScOk fs s) {to:Int} {k:Nat} (hk:k<s.n.l.length) (ha:arB s.n to k=true) (h0:∀j,j<k→arB s.n to j=false) :
  ∃q,q<s.sent.length∧s.n.l.getD k dfMs=s.sent.getD q dfMs∧(s.n.l.getD k dfMs).nu=q∧(s.n.l.getD k dfMs).to=to∧s.due.getD q 0≤s.n.now ∧
   (s.n.fifo=true→s.last (s.n.l.getD k dfMs).fr (s.n.l.getD k dfMs).to≤q)∧s.got.getD q 0+1≤s.copies.getD q 0 ∧
   ScOk fs ⟨woN s.n k,s.sent,s.due,s.copies,s.got.set q (s.got.getD q 0+1),fun x y=>if x=(s.n.l.getD k dfMs).fr∧y=(s.n.l.getD k dfMs).to then q else s.last x y⟩:=by
 obtain⟨q,q1,q2,q3⟩:=h.own k hk
 unfold arB at ha
 simp only[ar,bj]at ha
 obtain⟨a1,a2⟩:=ha
 have hkt:k<s.n.tm.length:=by rw[←h.v.len];exact hk
 have hnu:(s.n.l.getD k dfMs).nu=q:=by rw[q2];exact h.num q q1
 have hqg:q<s.got.length:=by rw[h.lg];exact q1
 have SQ:=Z8 hk (q:Int)
 rw[if_pos hnu]at SQ
 have hcq:=h.cnt q q1
 refine⟨q,q1,q2,hnu,a1,by omega,fun hf=>by have:=h.lst hf k hk;rw[hnu]at this;exact this,by omega,?_⟩
 have g:=fun i=>bO (l:=s.n.l) (d:=dfMs) (k:=k) i
 have gt:=fun i=>bO (l:=s.n.tm) (d:=0) (k:=k) i
 have ll:(woN s.n k).l.length=s.n.l.length-1:=AI hk
 have el:(woN s.n k).l=s.n.l.take k++s.n.l.drop (k+1):=rfl
 have et:(woN s.n k).tm=s.n.tm.take k++s.n.tm.drop (k+1):=rfl
 obtain⟨σ,hσ⟩:∃σ:Nat→Nat,∀i,σ i=if k≤i then i+1 else i:=⟨_,fun _=>rfl⟩
 have gl:∀i,(woN s.n k).l.getD i dfMs=s.n.l.getD (σ i) dfMs:=fun i=>by
  rw[el,g,hσ]
  by_cases hi:k≤i
  ·rw[if_pos ⟨hk,hi⟩,if_pos hi]
  ·rw[if_neg (fun h=>hi h.2),if_neg hi]
 have gm:∀i,(woN s.n k).tm.getD i 0=s.n.tm.getD (σ i) 0:=fun i=>by
  rw[et,gt,hσ]
  by_cases hi:k≤i
  ·rw[if_pos ⟨hkt,hi⟩,if_pos hi]
  ·rw[if_neg (fun h=>hi h.2),if_neg hi]
 have sl:∀i,i<s.n.l.length-1→σ i<s.n.l.length∧σ i≠k:=fun i hi=>by
  rw[hσ];split<;>omega
 have sm:∀i j,i<j→σ i<σ j:=fun i j hij=>by
  rw[hσ,hσ];split<;>split<;>omega
 refine⟨h.v.out hk,?_,h.ld,h.lc,by simp[h.lg],h.fates,h.num,?_,?_,?_,?_,?_,?_⟩
 ·show (woN s.n k).l.length≤3*s.sent.length
  have:=h.few;rw[ll];omega
 ·intro i hi
  simp only at hi⊢
  rw[ll]at hi
  rw[gl,gm]
  exact h.own (σ i) (sl i hi).1
 ·intro x hx
  simp only at hx⊢
  rw[el,aY hqg]
  have:=Z8 hk (x:Int)
  have hcx:=h.cnt x hx
  by_cases hxq:x=q
  ·subst hxq;rw[if_pos rfl];omega
  ·rw[if_neg hxq]
   rw[if_neg (by rw[hnu];omega)]at this
   omega
 ·intro hf i j hij hj
  simp only at hf hj⊢
  rw[ll]at hj
  rw[gl,gl]
  exact h.ord hf (σ i) (σ j) (sm i j hij) (sl j hj).1
 ·intro hf i hi
  simp only at hf hi⊢
  rw[ll]at hi
  rw[gl]
  by_cases hc:(s.n.l.getD (σ i) dfMs).fr=(s.n.l.getD k dfMs).fr∧(s.n.l.getD (σ i) dfMs).to=(s.n.l.getD k dfMs).to
  ·rw[if_pos hc]
   have hgt:k<σ i:=by
    rcases cq k (σ i) with h1|h1
    ·exact h1
    ·exfalso
     have h2:σ i<k:=by have:=(sl i hi).2;omega
     have h3:=h0 (σ i) h2
     have h4:=h.v.sorted (σ i) k oM hkt
     unfold arB at h3
     rw[ag (show (s.n.l.getD (σ i) dfMs).to=to by rw[hc.2];exact a1),ag (show s.n.tm.getD (σ i) 0≤s.n.now by omega)]at h3
     cases h3
   have:=h.ord hf k (σ i) hgt (sl i hi).1 hc.1.symm hc.2.symm
   rw[hnu]at this
   exact this
  ·rw[if_neg hc]
   exact h.lst hf (σ i) (sl i hi).1
 ·intro x y
  simp only
  split
  ·omega
  ·exact h.lub x y
 ·intro x hx
  simp only at hx⊢
  rw[aY hqg]
  have:=h.rng x hx
  have:=h.rng q q1
  split<;>omega
theorem ScOk.at {fs:List (Int×Int)} {s:Sc} (h:ScOk fs s) {t:Int} (ht:0≤t∧t≤1099511627776):ScOk fs {s with n:={s.n with now:=t}}:=
 ⟨h.v.at ht,h.few,h.ld,h.lc,h.lg,h.fates,h.num,h.own,h.cnt,h.ord,h.lst,h.lub,h.rng⟩
theorem ScOk.done {fs:List (Int×Int)} {s:Sc} (h:ScOk fs s) (h0:s.n.l=[]):s.got=s.copies:=by
 apply ek
 intro k
 by_cases hk:k<s.sent.length
 ·have:=h.cnt k hk
  rw[h0]at this
  have e:jK [] (k:Int)=0:=rfl
  rw[e]at this
  rw[ae (by rw[h.lg];exact hk),ae (by rw[h.lc];exact hk)]
  rw[YA (by rw[h.lg];exact hk),YA (by rw[h.lc];exact hk)]at this
  congr 1;omega
 ·rw[ce (by rw[h.lg];omega),ce (by rw[h.lc];omega)]
theorem ScOk.start {fs:List (Int×Int)} (fifo:Bool) (h:∀f∈fs,ftB f=true) (hl:fs.length≤1000):ScOk fs ⟨⟨0,fifo,[],[],fs⟩,[],[],[],[],fun _ _=>0⟩:=
 ⟨⟨⟨(by decide:(0:Int)≤0),(by decide:(0:Int)≤1099511627776)⟩,rfl,by simp,hl,h,by simp,by simp,by simp⟩,by simp,rfl,rfl,rfl,rfl,by simp,by simp,by simp,by simp,by simp,by simp,by simp⟩
structure WdV (w:Wd):Prop where
 sv:ZH w.sv=true
 now:0≤w.now∧w.now≤1000000000
 net:NwV w.net
 nnow:w.net.now=w.now
 tr:Vok w.tr
 len:w.tr.length=w.sv.length
 fit:∀p,p<w.tr.length→jM (w.tr.getD p dfPr) (w.sv.getD p dfSv) w.now=true
 snt:∀x∈ids w.tr,(rA w.tr x).kind=2→(rA w.tr x).msg<w.sent
 cnt:(cSd w.tr w.tr.length:Int)=w.sent
 msg:∀m∈w.net.l,mgB w.tr m=true
theorem WdV.of {w:Wd} (h:wdB w=true):WdV w:=by
 unfold wdB at h
 simp only[ar,bj]at h
 obtain⟨h1,h2,h3,h4,h5,h6,h7,h8,h9⟩:=h
 unfold inZ at h2
 simp only[ar,bj]at h2
 have hp:∀p,p<w.tr.length→prB w p=true:=fun p hp=>bo.1 h7 p (bc.2 hp)
 unfold prB at hp
 refine⟨h1,h2,TF.1 h3,h4,vok h5,h6,fun p hl=>(ar _ _▸hp p hl).1,fun x hx hk=>?_,h8,fun m hm=>bo.1 h9 m hm⟩
 obtain⟨q,i⟩:=x
 obtain⟨i,rfl⟩:∃k,i=k+1:=⟨i-1,by have:=MF hx;simp only at this;omega⟩
 obtain⟨g1,g2⟩:=kD.1 hx
 have:=(ar _ _▸hp q g1).2
 have:=bo.1 this i (bc.2 g2)
 unfold sOk at this
 change (((sA w.tr q).getD i qK).kind)=2 at hk
 rw[hk]at this
 show ((sA w.tr q).getD i qK).msg<w.sent
 simpa using this
theorem WdV.to {w:Wd} (h:WdV w):wdB w=true:=by
 have h7:(List.range w.tr.length).all (prB w)=true:=by
  rw[bo]
  intro p hp
  have hp:=bc.1 hp
  unfold prB
  rw[h.fit p hp,dt,bo]
  intro i hi
  have hi:=bc.1 hi
  unfold sOk
  by_cases hk:((sA w.tr p).getD i qK).kind=2
  ·have:=h.snt (p,i+1) (kD.2 ⟨hp,hi⟩) hk
   have e:((sA w.tr p).getD i qK).msg<w.sent:=this
   rw[ag e,Bool.or_true]
  ·rw[fc.2 hk];rfl
 have h2:inZ w.now 0 1000000000=true:=by unfold inZ;simp;exact h.now
 unfold wdB
 rw[h.sv,h2,TF.2 h.net,ag h.nnow,vF h.tr,ag h.len,h7,ag h.cnt,bo.2 h.msg];rfl
structure SvV (s:Sv) (p n:Int):Prop where
 name:GE s.name=true
 cl:1≤s.code.length∧s.code.length≤100
 vl:s.vars.length≤8
 pc:0≤s.pc∧s.pc≤s.code.length
 rt:JM s=true
 vs:∀v∈s.vars,vlB v=true
 ins:∀x∈s.code,xH s.vars.length s.code.length p n x=true
theorem H6 {s:Sv} {p n:Int}:sv1 s p n=true↔SvV s p n:=by
 unfold sv1 inZ
 simp only[ar,bj,bo]
 constructor
 ·rintro⟨h1,h2,h3,h4,h5,h6,h7⟩
  exact⟨h1,by omega,h3,h4,h5,h6,h7⟩
 ·rintro⟨h1,h2,h3,h4,h5,h6,h7⟩
  exact⟨h1,by omega,h3,h4,h5,h6,h7⟩
theorem rH {l:List Sv} (h:ZH l=true) {p:Nat} (hp:p<l.length):SvV (l.getD p dfSv) p l.length∧∀q,q<p→(l.getD q dfSv).name≠(l.getD p dfSv).name:=by
 unfold ZH at h
 rw[ar]at h
 have:=bo.1 h.2 p (bc.2 hp)
 unfold svB at this
 rw[ar]at this
 refine⟨H6.1 this.1,fun q hq he=>?_⟩
 have MN:q<l.length:=by omega
 have hm:l.getD q dfSv∈l.take p:=by
  rw[YA MN]
  exact ey.2 ⟨q,by rw[cw,if_pos hq,ae MN]⟩
 have:=bo.1 this.2 _ hm
 rw[he,aK]at this
 cases this
theorem ZHQ {l:List Sv} (hl:1≤l.length∧l.length≤8) (h:∀p,p<l.length→SvV (l.getD p dfSv) p l.length∧∀q,q<p→(l.getD q dfSv).name≠(l.getD p dfSv).name):ZH l=true:=by
 unfold ZH
 rw[ar]
 refine⟨by unfold inZ;simp only[bj];omega,bo.2 fun p hp=>?_⟩
 have hp:=bc.1 hp
 obtain⟨h1,h2⟩:=h p hp
 unfold svB
 rw[ar]
 refine⟨H6.2 h1,bo.2 fun x hx=>?_⟩
 obtain⟨q,hq⟩:=ey.1 hx
 rw[cw]at hq
 split at hq
 ·rename_i hqp
  have:=h2 q hqp
  rw[aq,hq,gp]at this
  cases hb:x.name==(l.getD p dfSv).name with
  |false=>rfl
  |true=>exact absurd (QT hb) this
 ·cases hq
theorem jO {l:List Sv} (h:ZH l=true):1≤l.length∧l.length≤8:=by
 unfold ZH inZ at h
 simp only[ar,bj]at h
 omega
theorem ZE9 {l:List Sv} (h:ZH l=true) {p:Nat} (hp:p<l.length) {c:Int} {v:List Int} (hc:0≤c∧c≤(l.getD p dfSv).code.length) (hv:v.length=(l.getD p dfSv).vars.length) (QW:∀x∈v,vlB x=true) :
  ZH (l.set p {l.getD p dfSv with pc:=c,vars:=v})=true:=by
 have hn:=jO h
 have g:∀q,(l.set p {l.getD p dfSv with pc:=c,vars:=v}).getD q dfSv=if p=q then {l.getD p dfSv with pc:=c,vars:=v} else l.getD q dfSv:=fun q=>by
  split
  ·rename_i e;subst e
   rw[aq,bf hp];rfl
  ·rename_i e
   rw[aq,bq e,←aq]
 have gn:∀q,((l.set p {l.getD p dfSv with pc:=c,vars:=v}).getD q dfSv).name=(l.getD q dfSv).name:=fun q=>by
  rw[g];split
  ·rename_i e;subst e;rfl
  ·rfl
 refine ZHQ (by rw[ec];exact hn) (fun q hq=>?_)
 rw[ec]at hq⊢
 obtain⟨h1,h2⟩:=rH h hq
 refine⟨?_,fun r hr=>by rw[gn,gn];exact h2 r hr⟩
 rw[g];split
 ·rename_i e;subst e
  exact⟨h1.name,h1.cl,by show v.length≤8;rw[hv];exact h1.vl,hc,h1.rt,QW,by show ∀x∈(l.getD p dfSv).code,xH v.length _ _ _ x=true;rw[hv];exact h1.ins⟩
 ·exact h1
theorem qW {p:Pr} {e:Ev}:∀k,k≤p.evs.length→stV {p with evs:=p.evs++[e]} k=stV p k
 |0,_=>rfl
 |k+1,h=>by
   have ih:=qW (p:=p) (e:=e) k oM
   simp only[stV]
   rw[ih,aq,aw oM,←aq]
theorem gZ {p:Pr} {e:Ev}:iS {p with evs:=p.evs++[e]}=apE (iS p) e:=by
 unfold iS
 show stV {p with evs:=p.evs++[e]} (p.evs++[e]).length=_
 rw[am,fa]
 simp only[stV]
 rw[qW _ (ah _),aq,au (ah _),fz];rfl
theorem j7 {l:List Ev} {e:Ev}:∀k,k≤l.length→nSd (l++[e]) k=nSd l k
 |0,_=>rfl
 |k+1,h=>by
   have ih:=j7 (l:=l) (e:=e) k oM
   simp only[nSd]
   rw[ih,aq,aw oM,←aq]
theorem ZCK {l:List Ev} {e:Ev}:nSd (l++[e]) (l++[e]).length=nSd l l.length+if e.kind=2 then 1 else 0:=by
 rw[am,fa]
 simp only[nSd]
 rw[j7 _ (ah _),aq,au (ah _),fz]
 simp only[dy,gp]
 split<;>omega
theorem Q8 {t:Tr} {p:Nat} {e:Ev} (hp:p<t.length):∀k,k≤t.length→cSd (VB t p e) k=cSd t k+if p<k∧e.kind=2 then 1 else 0
 |0,_=>by simp[cSd]
 |k+1,h=>by
   have ih:=Q8 (e:=e) hp k oM
   simp only[cSd]
   rw[ih]
   by_cases hk:p=k
   ·subst hk
    rw[qJ hp,ZCK,if_neg oM]
    by_cases h2:e.kind=2
    ·rw[if_pos h2,if_pos ⟨by omega,h2⟩];omega
    ·rw[if_neg h2,if_neg (fun h=>h2 h.2)];omega
   ·rw[IM hk]
    by_cases h2:p<k∧e.kind=2
    ·rw[if_pos h2,if_pos ⟨by omega,h2.2⟩];omega
    ·rw[if_neg h2,if_neg (fun h=>h2 ⟨by omega,h.2⟩)];omega
structure PutOk (w:Wd) (p:Nat) (s:Sv) (e:Ev) (n:Nw) (sn:Int):Prop where
 hp:p<w.sv.length
 sv:∃c v,s={w.sv.getD p dfSv with pc:=c,vars:=v}∧(0≤c∧c≤(w.sv.getD p dfSv).code.length)∧v.length=(w.sv.getD p dfSv).vars.length∧(∀x∈v,vlB x=true)∧apE (w.sv.getD p dfSv).vars e=v
 room:(sA w.tr p).length<64
 form:lC w.tr.length p e=true
 al:e.asg.length≤8
 af:YD (vM (w.sv.getD p dfSv).vars.length e.asg) e.asg.length=0
 snd:e.kind=2→e.msg=w.sent
 rcv:e.kind=3→(∀x∈ids w.tr,(rA w.tr x).kind=3→(rA w.tr x).msg≠e.msg)∧zF w.tr e.peer.toNat e.msg p=true
 net:NwV n
 now:n.now=w.now
 sent:sn=if e.kind=2 then w.sent+1 else w.sent
 msg:∀m∈n.l,mgB w.tr m=true∨(e.kind=2∧m.body.length=1∧m.nu=w.sent∧m.fr=p∧m.to=e.peer)
def putE (w:Wd) (p:Nat) (e:Ev):Ev:={e with time:=jJ (w.sv.getD p dfSv) w.now}
theorem C5 {s:Sv} (hr:JM s=true) {now:Int} (hn:0≤now∧now≤1000000000):jJ s now=s.off+now*s.rate / 1000∧0≤jJ s now∧jJ s now≤1099511627776:=by
 have hk:AH s now=true:=by
  unfold AH inZ;rw[hr];simp;exact hn
 obtain⟨h1,h2,h3,h4,h5⟩:=ZD0 hk
 unfold jJ
 rw[if_pos hk]
 refine⟨rfl,?_,?_⟩<;>omega
theorem PutOk.ev {w:Wd} (hw:WdV w) {p:Nat} {s:Sv} {e:Ev} {n:Nw} {sn:Int} (h:PutOk w p s e n sn):NewEv w.tr p (putE w p e):=by
 have hp:p<w.tr.length:=by rw[hw.len];exact h.hp
 have hf:=hw.fit p hp
 unfold jM at hf
 simp only[ar,bj]at hf
 obtain⟨_,f2,_,_,f5⟩:=hf
 have hs:=(rH hw.sv h.hp).1
 have hc:=C5 hs.rt hw.now
 refine⟨hw.tr,hp,h.room,h.form,?_,fun i hi=>?_,h.al,?_,fun hk x hx hxk=>?_,h.rcv⟩
 ·unfold inB putE;simp;exact hc.2
 ·unfold IZ at f5
  have yK:(w.tr.getD p dfPr).evs=sA w.tr p:=rfl
  rw[yK,hi]at f5
  simp only[bj,gb]at f5
  rcases f5 with f5|f5
  ·omega
  ·exact f5
 ·rw[f2];exact h.af
 ·have:=hw.snt x hx hxk
  have h2:=h.snd hk
  show _≠e.msg
  omega
theorem ZHe {t:Tr} {p:Nat} {e:Ev} (h:NewEv t p e) {m:Ms} (hm:mgB t m=true):mgB (VB t p e) m=true:=by
 unfold mgB at hm⊢
 simp only[ar,bj]at hm
 obtain⟨h1,h2,h3,h4⟩:=hm
 obtain⟨q,i,hq,Z0,hi⟩:=LS h2
 have hv:=vF h.v
 have hv2:=vF (KT h)
 rw[AK hv]at hq
 have hf:TC t 2 m.nu=some (q,i+1):=by
  cases hc:TC t 2 m.nu with
  |none =>
    have:lE t 2 m.nu=(0,0):=by unfold lE VA;show (TC t 2 m.nu).getD (0,0)=_;rw[hc];rfl
    rw[this]at hq
    have:=congrArg Prod.snd hq;simp only at this;omega
  |some x=>have:=(xC hc).1;rw[show VA t (ids t) 2 m.nu=lE t 2 m.nu from rfl,hq]at this;rw[this]
 have hx:=sF hf
 obtain⟨k1,k2⟩:=CD hf
 have hf2:TC (VB t p e) 2 m.nu=some (q,i+1):=by
  rw[xE h (.inl rfl),if_neg (fun hc=>h.fresh (.inl rfl) hc.1 hx k1 (k2.trans hc.2.symm))];exact hf
 have e2:vD (VB t p e) 2 m.nu=(q,i+1):=by rw[AK hv2];exact (xC hf2).1
 have e1:vD t 2 m.nu=(q,i+1):=by rw[AK hv];exact hq
 rw[e1]at h3 h4
 rw[e2,lG h.hp hx,ag h1,ag h3,ag h4];rfl
theorem ZHf {t:Tr} {p:Nat} {e:Ev} (h:NewEv t p e) (hk:e.kind=2) {m:Ms} (h1:m.body.length=1) (h2:m.nu=e.msg) (h3:m.fr=p) (h4:m.to=e.peer):mgB (VB t p e) m=true:=by
 have hf2:TC (VB t p e) 2 m.nu=some (p,(sA t p).length+1):=by
  rw[xE h (.inl rfl),if_pos ⟨hk,h2.symm⟩]
 have e2:vD (VB t p e) 2 m.nu=(p,(sA t p).length+1):=by rw[AK (vF (KT h))];exact (xC hf2).1
 unfold mgB
 rw[e2,UG h.hp,ag h1,ag h3.symm,ag h4.symm];rfl
def ZB3 (w:Wd) (p:Nat) (s:Sv) (e:Ev) (n:Nw) (sn:Int):Wd:={zK w p s e with net:=n,sent:=sn}
theorem PutOk.tr {w:Wd} {p:Nat} {s:Sv} {e:Ev} {n:Nw} {sn:Int} (h:PutOk w p s e n sn):(ZB3 w p s e n sn).tr=VB w.tr p (putE w p e):=by
 obtain⟨c,v,rfl,_⟩:=h.sv
 rfl
theorem PutOk.valid {w:Wd} (hw:WdV w) {p:Nat} {s:Sv} {e:Ev} {n:Nw} {sn:Int} (h:PutOk w p s e n sn):WdV (ZB3 w p s e n sn):=by
 have he:=h.ev hw
 have ht:=h.tr
 have hp:=he.hp
 obtain⟨c,v,hs,hc,QW,iU,hap⟩:=h.sv
 have ST:(ZB3 w p s e n sn).sv=w.sv.set p s:=rfl
 refine⟨?_,hw.now,h.net,h.now,?_,?_,fun q hq=>?_,fun x hx hk=>?_,?_,fun m hm=>?_⟩
 ·rw[ST,hs];exact ZE9 hw.sv h.hp hc QW iU
 ·rw[ht];exact KT he
 ·rw[ht,mG,ST,ec];exact hw.len
 ·rw[ht,mG]at hq
  have hf:=hw.fit q hq
  rw[ht,ST]
  show jM _ _ w.now=true
  by_cases hpq:p=q
  ·subst hpq
   rw[fJ hp,aq (l:=w.sv.set p s),bf h.hp,gp]
   unfold jM at hf⊢
   simp only[ar,bj]at hf⊢
   obtain⟨f1,f2,f3,f4,f5⟩:=hf
   rw[hs]
   refine⟨f1,?_,?_,?_,?_⟩
   ·show (w.tr.getD p dfPr).vars.length=v.length
    rw[QW];exact f2
   ·show ZAj _ v.length=true
    rw[QW];exact f3
   ·have:iS {w.tr.getD p dfPr with evs:=(w.tr.getD p dfPr).evs++[putE w p e]}=v:=by
     rw[gZ,f4];exact hap
    exact this
   ·unfold IZ
    simp only[bj]
    refine .inr ?_
    show (List.getD (sA w.tr p++[putE w p e]) ((sA w.tr p++[putE w p e]).length-1) qK).time≤_
    rw[am,fa,gb,aq,au (ah _),fz]
    exact ii _
  ·rw[MM hpq,aq (l:=w.sv.set p s),bq hpq,←aq]
   exact hf
 ·have x6:=h.sent
  show (rA (ZB3 w p s e n sn).tr x).msg<sn
  rw[ht]at hx hk⊢
  rcases (TG hp).1 hx with hx|hx
  ·rw[lG hp hx]at hk⊢
   have:=hw.snt x hx hk
   split at x6<;>omega
  ·rw[hx,UG hp]at hk⊢
   have hk:e.kind=2:=hk
   have:=h.snd hk
   rw[if_pos hk]at x6
   show e.msg<sn
   omega
 ·rw[ht,mG,Q8 hp _ (ah _)]
  have x6:=h.sent
  have hc:=hw.cnt
  show _=sn
  have hk:(putE w p e).kind=e.kind:=rfl
  rw[hk,x6]
  by_cases h2:e.kind=2
  ·rw[if_pos ⟨hp,h2⟩,if_pos h2];omega
  ·rw[if_neg (fun h=>h2 h.2),if_neg h2];omega
 ·rw[ht]
  rcases h.msg m hm with h1|⟨h1,h2,h3,h4,h5⟩
  ·exact ZHe he h1
  ·exact ZHf he h1 h2 (by rw[h3];exact (h.snd h1).symm) h4 h5
def m7:Ms:=⟨0,1,7,[]⟩
def m8:Ms:=⟨0,1,8,[]⟩
theorem ZX {n:Nw} {to:Int} (h:0≤fiR n to):∃k:Nat,fiR n to=k∧k<n.l.length∧arB n to k=true∧∀j,j<k→arB n to j=false:=by
 unfold fiR VX at *
 cases hf:(List.range n.l.length).find? (arB n to) with
 |none=>rw[hf]at h;cases h
 |some k =>
   refine⟨k,rfl,bc.1 (ge hf),gg hf,fun j hj=>?_⟩
   obtain⟨as1,bs1,h1,h2⟩:=List.find?_eq_some_iff_append.1 hf |>.2
   have hjr:(List.range n.l.length)[j]? = some j:=jv (by have:=bc.1 (ge hf);omega)
   have jD:as1.length=k:=by
    have h3:(List.range n.l.length)[as1.length]? = some k:=by rw[h1];simp
    have h4:=(aj.1 h3).1
    rw[jy]at h4
    rw[jv h4]at h3
    exact fx h3
   rw[h1,aw oM]at hjr
   have:=h2 j (cd hjr)
   simpa using this
theorem VW {n:Nw} {to:Int}:∀i,(∀j,j<i→arB n to j=false)→wtN n to i=0
 |0,_=>rfl
 |i+1,h=>by
   simp only[wtN]
   rw[h i oM,VW i (fun j hj=>h j oM)];rfl
theorem M7 {n:Nw} {to:Int} (h:fiR n to<0):∀j,j<n.l.length→arB n to j=false:=by
 intro j hj
 cases hc:arB n to j with
 |false=>rfl
 |true =>
   exfalso
   unfold fiR VX at h
   cases hf:(List.range n.l.length).find? (arB n to) with
   |none =>
     have:=dg.1 hf j (bc.2 hj)
     rw[hc]at this;exact this rfl
   |some k=>rw[hf]at h;simp only at h;omega
theorem asg1 {nv i:Nat} (hi:i<nv) {v:Int} (hv:vlB v=true):YD (vM nv [⟨i,v⟩]) 1=0:=by
 have hb:AN v=true:=by
  unfold vlB at hv;unfold AN
  simpa using hv
 have yF:inB ((i:Nat):Int) 0 ((nv:Int)-1)=true:=by
  unfold inB;simp;omega
 simp only[YD,if_true]
 unfold vM
 simp only[List.getD_cons_zero,hb,yF,eq,List.any_nil]
 rfl
theorem MW {l:List Int} {i:Nat} {v:Int} (h:∀x∈l,vlB x=true) (hv:vlB v=true):∀x∈l.set i v,vlB x=true:=fun x hx=>by
 rcases List.mem_or_eq_of_mem_set hx with h1|h1
 ·exact h x h1
 ·rw[h1];exact hv
theorem l5 {w:Wd} (hw:WdV w) {p:Nat} (hp:p<w.sv.length) (qD:(sA w.tr p).length<64) {c:Int} {v:List Int} {a:List Asg} (hc:0≤c∧c≤(w.sv.getD p dfSv).code.length) (hv:v.length=(w.sv.getD p dfSv).vars.length) (iU:∀x∈v,vlB x=true)
  (al:a.length≤8) (af:YD (vM (w.sv.getD p dfSv).vars.length a) a.length=0) (hap:apE (w.sv.getD p dfSv).vars ⟨1,0,0,0,a⟩=v) {n:Nw} (hn:NwV n) (DW:n.now=w.now) (hm:∀m∈n.l,m∈w.net.l) :
  PutOk w p {w.sv.getD p dfSv with pc:=c,vars:=v} ⟨1,0,0,0,a⟩ n w.sent:=
 ⟨hp,⟨c,v,rfl,hc,hv,iU,hap⟩,qD,rfl,al,af,fun h=>absurd (show (1:Int)=2 from h) kE,fun h=>absurd (show (1:Int)=3 from h) kE,hn,DW,rfl,fun m h=>.inl (hw.msg m (hm m h))⟩
theorem C2 {t:Tr} {k m:Int} (h:¬(lE t k m).2>0):∀x∈ids t,(rA t x).kind=k→(rA t x).msg≠m:=fun x hx hk hm=>by
 cases hf:TC t k m with
 |none =>
   have:=dg.1 hf x hx
   rw[hk,hm]at this;simp at this
 |some y =>
   obtain⟨h1,h2,_⟩:=xC hf
   rw[show VA t (ids t) k m=lE t k m from rfl]at h1
   rw[h1]at h;exact h h2
theorem LK {t:Tr} (hv:Vok t) {m:Ms} (hm:mgB t m=true):m.body.length=1∧∃q i,m.fr=(q:Nat)∧(q,i+1)∈ids t∧(rA t (q,i+1)).kind=2∧(rA t (q,i+1)).msg=m.nu∧(rA t (q,i+1)).peer=m.to:=by
 unfold mgB at hm
 simp only[ar,bj]at hm
 obtain⟨h1,h2,h3,h4⟩:=hm
 obtain⟨q,i,hq,Z0,hi⟩:=LS h2
 rw[hq]at h3 h4
 rw[AK (vF hv)]at hq
 refine⟨h1,q,i,h3.symm,?_⟩
 have hf:TC t 2 m.nu=some (q,i+1):=by
  cases hc:TC t 2 m.nu with
  |none =>
    have:lE t 2 m.nu=(0,0):=by unfold lE VA;show (TC t 2 m.nu).getD (0,0)=_;rw[hc];rfl
    rw[this]at hq
    have:=congrArg Prod.snd hq;simp only at this;omega
  |some x=>have:=(xC hc).1;rw[show VA t (ids t) 2 m.nu=lE t 2 m.nu from rfl,hq]at this;rw[this]
 exact⟨sF hf,(CD hf).1,(CD hf).2,h4⟩
theorem NW {n:Nw} {k:Nat} {m:Ms} (h:m∈(woN n k).l):m∈n.l:=by
 change m∈n.l.take k++n.l.drop (k+1) at h
 rcases bn.1 h with h|h
 ·exact dr h
 ·exact fd h
theorem ins_mem {n:Nw} {m x:Ms} {a:Int} {c:Nat} (h:x∈(uN n m a c).l):x∈n.l∨x=m:=by
 change x∈n.l.take _++_++n.l.drop _ at h
 rw[bn,bn]at h
 rcases h with (h|h)|h
 ·exact .inl (dr h)
 ·exact .inr (jg.1 h).2
 ·exact .inl (fd h)
theorem eO {w:Wd} {p:Nat} (h:IG w p=true):rL (w.sv.getD p dfSv)=false∧(sA w.tr p).length<64∧(PQ (w.sv.getD p dfSv)=4→0<dJ w.net p)∧(PQ (w.sv.getD p dfSv)=3→w.sent≤199):=by
 unfold IG at h
 rw[ar]at h
 obtain⟨h1,h2⟩:=h
 rw[la,kb]at h1
 refine⟨h1.1,by have:=iq h1.2;omega,fun h4=>?_,fun h3=>?_⟩
 ·rw[if_pos h4]at h2;exact fy h2
 ·rw[if_neg oM,if_pos h3]at h2;exact fy h2
theorem p6 {n:Nw} {to:Int} (h:0<dJ n to):0≤fiR n to:=by
 rcases Int.lt_or_le (fiR n to) 0 with h1|h1
 ·exfalso
  unfold dJ at h
  split at h
  ·rw[VW _ (M7 h1)]at h;omega
  ·omega
 ·exact h1
theorem ZHV {w:Wd} (hw:WdV w) {p:Nat} (hp:p<w.sv.length) (qD:(sA w.tr p).length<64) {x:In} (hx:0≤x.a∧x.a<(w.sv.getD p dfSv).vars.length) (yJ:0≤(w.sv.getD p dfSv).pc∧(w.sv.getD p dfSv).pc<(w.sv.getD p dfSv).code.length)
  (hb:fiR w.net p<0→0≤x.b∧x.b<(w.sv.getD p dfSv).code.length):∃s e n sn,DZ w p (w.sv.getD p dfSv) x=ZB3 w p s e n sn∧PutOk w p s e n sn:=by
 obtain⟨s,hs⟩:∃s,w.sv.getD p dfSv=s:=⟨_,rfl⟩
 have ST:=(rH hw.sv hp).1
 rw[hs]at ST hx yJ hb⊢
 unfold DZ
 by_cases h1:fiR w.net p<0
 ·rw[if_pos h1]
  have:=hb h1
  have e:({s with pc:=x.b}:Sv)={s with pc:=x.b,vars:=s.vars}:=rfl
  exact⟨_,_,w.net,w.sent,rfl,by
   have:=l5 hw hp qD (c:=x.b) (v:=s.vars) (a:=[]) (by rw[hs];omega) (by rw[hs]) ST.vs kS rfl (by rw[hs];rfl) hw.net hw.nnow (fun m h=>h)
   rw[hs]at this;exact this⟩
 rw[if_neg h1]
 obtain⟨k,hk,YM,hka,_⟩:=ZX (n:=w.net) (to:=p) oM
 rw[hk,bs]
 obtain⟨m,hm⟩:∃m,w.net.l.getD k dfMs=m:=⟨_,rfl⟩
 have QP:m∈w.net.l:=by rw[←hm,YA YM];exact ap YM
 unfold arB at hka
 simp only[ar,bj]at hka
 rw[hm]at hka⊢
 have DO:=hw.net.out YM
 by_cases h2:(lE w.tr 3 m.nu).2>0
 ·rw[if_pos h2]
  exact⟨_,_,woN w.net k,w.sent,rfl,by
   have:=l5 hw hp qD (c:=s.pc) (v:=s.vars) (a:=[]) (by rw[hs];omega) (by rw[hs]) ST.vs kS rfl (by rw[hs];rfl) DO hw.nnow (fun m h=>NW h)
   rw[hs]at this;exact this⟩
 rw[if_neg h2]
 obtain⟨uI,q,i,hq,hqi,dV,hmn,hpe⟩:=LK hw.tr (hw.msg m QP)
 have x8:=hw.net.ms m QP
 unfold msB ptB at x8
 simp only[ar,bj,bo]at x8
 obtain⟨m1,m2,m3,m4,m5,m6⟩:=x8
 obtain⟨j,hj⟩:∃j:Nat,x.a=j:=⟨x.a.toNat,by omega⟩
 have j6:=(kD.1 hqi).1
 have iU:vlB (m.body.getD 0 0)=true:=by rw[YA oM];exact m6 _ (ap _)
 rw[hj,bs]
 refine⟨_,_,woN w.net k,w.sent,rfl,⟨hp,⟨s.pc+1,s.vars.set j (m.body.getD 0 0),by rw[hs];rfl,by rw[hs];omega,by rw[hs];simp,MW ST.vs iU,by rw[hs];rfl⟩,qD,?_,by simp[rS],by rw[hs];exact asg1 oM iU,fun h=>absurd (show (3:Int)=2 from h) kE,fun _=>⟨C2 h2,?_⟩,DO,hw.nnow,rfl,fun m h=>.inl (hw.msg m (NW h))⟩⟩
 ·unfold lC rS inB
  simp only[show ((3:Int)==1)=false from rfl,show ((3:Int)==2)=false from rfl,show ((3:Int)==3)=true from rfl,Bool.or_true,if_true,bx,if_false]
  have:(m.fr != (p:Int))=true:=by simp;omega
  rw[this]
  simp;omega
 ·unfold zF rS
  simp only
  rw[hq,bs,ga]
  refine⟨rA w.tr (q,i+1),ZC2 hqi,?_⟩
  rw[dV,hmn,hpe,hka.1];simp
theorem ZA5 {w:Wd} (hw:WdV w) {p:Nat} (hp:p<w.sv.length) (r6:IG w p=true) (DN:(stW w p).2=0):∃s e n sn,(stW w p).1=ZB3 w p s e n sn∧PutOk w p s e n sn:=by
 obtain⟨he,qD,h4,h3⟩:=eO r6
 have ST:=(rH hw.sv hp).1
 unfold stW at DN⊢
 obtain⟨s,hs⟩:∃s,w.sv.getD p dfSv=s:=⟨_,rfl⟩
 have hL:=fun {c v a} hc hv iU al af hap=>l5 hw hp qD (c:=c) (v:=v) (a:=a) hc hv iU al af hap hw.net hw.nnow (fun m h=>h)
 have hR:=fun {x} hx yJ hb=>ZHV hw hp qD (x:=x) hx yJ hb
 rw[hs]at ST he h4 h3 DN hL hR⊢
 unfold rL at he
 rw[kb]at he
 have yJ:0≤s.pc∧s.pc<s.code.length:=by have:=ST.pc;have:=iq he.1;omega
 obtain⟨x,hx⟩:∃x,s.code.getD s.pc.toNat zU=x:=⟨_,rfl⟩
 have hox:PQ s=x.op:=by unfold PQ;rw[hx]
 have h8:x.op≠8:=by have:=iq he.2;rw[hx]at this;exact this
 have yF:xH s.vars.length s.code.length p w.sv.length x=true:=ST.ins x (by rw[←hx,YA oM];exact ap _)
 rw[hox]at h4 h3
 rw[hx]at DN⊢
 have qL:0≤s.pc+1∧s.pc+1≤s.code.length:=by omega
 have noA:∀c:Int,0≤c∧c≤s.code.length→PutOk w p {s with pc:=c} dfEv54 w.net w.sent:=fun c hc=>hL (a:=[]) hc rfl ST.vs kS rfl rfl
 unfold xH inZ at yF
 unfold stI at DN⊢
 by_cases o1:x.op=1
 ·rw[if_pos o1]at DN⊢
  rw[if_pos (.inl o1)]at yF
  simp only[ar,bj]at yF
  obtain⟨j,hj⟩:∃j:Nat,x.a=j:=⟨x.a.toNat,by omega⟩
  rw[hj,bs]
  exact⟨_,_,w.net,w.sent,rfl,hL qL kS (MW ST.vs yF.2) kS (asg1 oM yF.2) rfl⟩
 rw[if_neg o1]at DN⊢
 by_cases o2:x.op=2
 ·rw[if_pos o2]at DN⊢
  rw[if_pos (.inr o2)]at yF
  simp only[ar,bj]at yF
  obtain⟨j,hj⟩:∃j:Nat,x.a=j:=⟨x.a.toNat,by omega⟩
  rw[hj,bs]at DN⊢
  by_cases hq:vlB (s.vars.getD j 0+x.b)=true
  ·rw[if_pos hq]
   exact⟨_,_,w.net,w.sent,rfl,hL qL kS (MW ST.vs hq) kS (asg1 oM hq) rfl⟩
  ·rw[if_neg hq]at DN;cases DN
 rw[if_neg o2]at DN⊢
 rw[if_neg oM]at yF
 by_cases o6:x.op=6
 ·rw[if_pos o6]at DN⊢
  rw[if_neg oM,if_neg oM,if_neg oM,if_pos o6]at yF
  simp only[ar,bj]at yF
  obtain⟨j,hj⟩:∃j:Nat,x.b=j:=⟨x.b.toNat,by omega⟩
  have fG:j<s.vars.length:=by omega
  rw[hj,bs]at DN⊢
  by_cases h0:0<s.vars.getD j 0
  ·rw[if_pos h0]
   have hq:vlB (s.vars.getD j 0-1)=true:=by
    have:=ST.vs (s.vars.getD j 0) (by rw[YA fG];exact ap fG)
    unfold vlB at this⊢
    simp only[bj]at this⊢
    omega
   exact⟨_,_,w.net,w.sent,rfl,hL (c:=x.a) oM kS (MW ST.vs hq) kS (asg1 fG hq) rfl⟩
  ·rw[if_neg h0]
   exact⟨_,_,w.net,w.sent,rfl,noA _ qL⟩
 rw[if_neg o6]at DN⊢
 by_cases o3:x.op=3
 ·rw[if_pos o3]at DN⊢
  rw[if_pos o3]at yF
  simp only[ar,bj]at yF
  obtain⟨j,hj⟩:∃j:Nat,x.a=j:=⟨x.a.toNat,by omega⟩
  obtain⟨m,hm⟩:∃m,EG w p s x=m:=⟨_,rfl⟩
  have hmd:m=⟨p,x.b,w.sent,[s.vars.getD j 0]⟩:=by rw[←hm];unfold EG;rw[hj,bs]
  rw[hm]at DN⊢
  have hp8:=(jO hw.sv).2
  have hs0:0≤w.sent:=by have:=hw.cnt;omega
  have LI:=h3 o3
  have x8:msB m=true:=by
   have:=ST.vs (s.vars.getD j 0) (by rw[YA oM];exact ap _)
   rw[hmd]
   unfold msB ptB
   simp only[ea,eo,this,ep,fa,ar,bj]
   refine⟨by omega,by omega,by omega,by omega,by omega⟩
  by_cases hz:sdE w.net m=0
  ·rw[if_pos hz]
   have hN:sdR w.net m=uN w.net m (xF w.net m) (iN w.net).toNat:=by unfold sdR;rw[if_pos hz]
   have hvN:NwV (sdR w.net m):=by
    rw[hN]
    unfold sdE at hz
    split at hz
    ·cases hz
    rename_i z1
    split at hz
    ·cases hz
    rename_i z2
    have h0:=(wR hw.net).1
    have ht:=EO hw.net (m:=m) w.net.l.length (ah _)
    have hn0:=hw.net.now
    refine hw.net.ins x8 ⟨?_,?_⟩ ?_
    ·unfold xF;omega
    ·omega
    ·unfold iN at z2⊢;omega
   refine⟨_,_,sdR w.net m,w.sent+1,rfl,⟨hp,⟨s.pc+1,s.vars,by rw[hs],by rw[hs];exact qL,by rw[hs],ST.vs,by rw[hs];rfl⟩,qD,?_,by simp,rfl,fun _=>rfl,fun h=>absurd (show (2:Int)=3 from h) kE,hvN,?_,rfl,fun y hy=>?_⟩⟩
   ·have hl:=hw.len
    unfold lC inB
    simp only[show ((2:Int)==1)=false from rfl,show ((2:Int)==2)=true from rfl,kp,if_true,bx,if_false]
    have:(x.b != (p:Int))=true:=by simp;omega
    rw[this]
    simp;omega
   ·rw[hN];exact hw.nnow
   ·rw[hN]at hy
    rcases ins_mem hy with hy|hy
    ·exact .inl (hw.msg y hy)
    ·rw[hy,hmd];exact .inr ⟨rfl,rfl,rfl,rfl,rfl⟩
  ·rw[if_neg hz]at DN;exact absurd DN hz
 rw[if_neg o3]at DN⊢
 rw[if_neg o3]at yF
 by_cases o45:x.op=4∨x.op=5
 ·rw[if_pos o45]at DN⊢
  have hxa:0≤x.a∧x.a<s.vars.length:=by
   rcases o45 with o|o<;>simp[o]at yF<;>omega
  refine hR hxa yJ (fun hf=>?_)
  rcases o45 with o|o
  ·have:=p6 (h4 o);omega
  ·simp[o]at yF;omega
 rw[if_neg o45]
 exact⟨_,_,w.net,w.sent,rfl,noA _ qL⟩
theorem ZJ {w:Wd} (hw:WdV w) {p:Nat} (hp:p<w.sv.length) (r6:IG w p=true) (DN:(stW w p).2=0):WdV (stW w p).1:=by
 obtain⟨s,e,n,sn,h1,h2⟩:=ZA5 hw hp r6 DN
 rw[h1];exact h2.valid hw
def tkW (w:Wd) (by_:Int):Wd:={w with now:=w.now+by_,net:={w.net with now:=w.now+by_}}
theorem ZCb {s:Sv} (hr:JM s=true) {a b:Int} (ha:0≤a) (hab:a≤b) (hb:b≤1000000000):jJ s a≤jJ s b:=by
 rw[(C5 hr ⟨ha,by omega⟩).1,(C5 hr ⟨by omega,hb⟩).1]
 have h1:a*s.rate≤b*s.rate:=Int.mul_le_mul_of_nonneg_right hab (by unfold JM inZ at hr;simp only[ar,bj]at hr;omega)
 have:=Int.ediv_le_ediv (c:=1000) oM h1
 omega
theorem uO {w:Wd} (hw:WdV w) {k:Int} (hk:0≤k∧w.now+k≤1000000000):WdV (tkW w k):=by
 have hn:=hw.now
 refine⟨hw.sv,⟨by show 0≤w.now+k;omega,hk.2⟩,hw.net.at oM,rfl,hw.tr,hw.len,fun p hp=>?_,hw.snt,hw.cnt,hw.msg⟩
 have hf:=hw.fit p hp
 change jM (w.tr.getD p dfPr) (w.sv.getD p dfSv) (w.now+k)=true
 have hs:=(rH hw.sv (p:=p) (by rw[←hw.len];exact hp)).1
 have hc:=ZCb hs.rt hn.1 (show w.now≤w.now+k by omega) hk.2
 unfold jM IZ at hf⊢
 simp only[ar,bj]at hf⊢
 obtain⟨f1,f2,f3,f4,f5⟩:=hf
 refine⟨f1,f2,f3,f4,?_⟩
 rcases f5 with f5|f5
 ·exact .inl f5
 ·exact .inr oM
theorem ZGL {l:List Sv} (h:ZH l=true):SvsS l:=by
 have hn:=jO h
 refine⟨by omega,fun s hs=>?_⟩
 obtain⟨p,hp,rfl⟩:=dh hs
 have hv:=(rH h hp).1
 rw[YA hp]at hv
 have h1:=AR hv.name
 have h2:=hv.cl
 have h3:=hv.vl
 exact⟨by omega,by omega,by omega⟩
theorem WdV.small {w:Wd} (h:WdV w):Small w.tr:=h.tr.small
theorem WdV.nm {w:Wd} (h:WdV w):Nm w.tr:=h.tr.nm
theorem WdV.svS {w:Wd} (h:WdV w):SvsS w.sv:=ZGL h.sv
theorem WdV.evl {w:Wd} (h:WdV w) {p:Nat} (hp:p<w.tr.length):(w.tr.getD p dfPr).evs.length≤64:=by
 rw[YA hp];exact OJ hp (h.tr.head p hp)
theorem WdV.sent {w:Wd} (h:WdV w):0≤w.sent∧w.sent≤512:=by
 have hc:=h.cnt
 have:=O5 (t:=w.tr) (fun x hx=>by
  obtain⟨p,hp,rfl⟩:=dh hx
  exact OJ hp (h.tr.head p hp)) w.tr.length (ah _)
 have:=h.tr.hi
 omega
theorem ZCw {n:Nw} {to:Int} {j:Nat}:∀{i:Nat},j<i→arB n to j=true→0<wtN n to i
 |0,h,_=>by omega
 |i+1,h,ha=>by
   simp only[wtN]
   by_cases hj:j<i
   ·have:=ZCw hj ha
    split<;>omega
   ·obtain rfl:j=i:=by omega
    rw[if_pos ha];omega
theorem ZFb {w:Wd} (hw:WdV w) {p:Nat} (hp:p<w.sv.length) (he:IG w p=true):∃k:Nat,(w.sv.getD p dfSv).pc=k∧k<(w.sv.getD p dfSv).code.length∧(w.sv.getD p dfSv).code.getD (w.sv.getD p dfSv).pc.toNat zU=(w.sv.getD p dfSv).code.getD k zU∧PQ (w.sv.getD p dfSv)≠8∧xH (w.sv.getD p dfSv).vars.length (w.sv.getD p dfSv).code.length p w.sv.length ((w.sv.getD p dfSv).code.getD k zU)=true:=by
 have hs:=(rH hw.sv hp).1
 obtain⟨h1,_⟩:=eO he
 unfold rL at h1
 rw[kb]at h1
 have h2:=iq h1.1
 have yJ:=hs.pc
 obtain⟨k,hk⟩:∃k:Nat,(w.sv.getD p dfSv).pc=k:=⟨(w.sv.getD p dfSv).pc.toNat,by omega⟩
 have YM:k<(w.sv.getD p dfSv).code.length:=by omega
 refine⟨k,hk,YM,by rw[hk,bs],fun h=>iq h1.2 h,?_⟩
 rw[YA YM]
 exact hs.ins _ (ap YM)
def a_mstp:AFunc:=({c:=_}:CF Tryz.prog 51).c
theorem ZAU:CA Tryz.prog 51=some a_mstp:=by kernel_rfl

noncomputable def stM (w:Wd) (p:Nat):Wd:=if (stW w p).2=0 then (stW w p).1 else pcW w p ((w.sv.getD p dfSv).pc+1)
theorem yT {w:Wd} {p:Nat} (hp:p<w.sv.length) {s:Sv} (hs:w.sv.getD p dfSv=s) {kd pe ms:Int} {i:Nat} {v c:Int}:pcW (asW w p ⟨kd,pe,ms,0,[]⟩ i v) p c=zK w p (Sv.put {s with pc:=c} i v) (rS kd pe ms i v):=by
 unfold pcW asW
 simp only
 have hg:(w.sv.set p ((w.sv.getD p dfSv).put i v)).getD p dfSv=s.put i v:=by
  rw[aq,bf hp,hs];rfl
 rw[hg,jn]
 unfold zK evW rS
 rw[hs];rfl
theorem bQ {w:Wd} {p:Nat} {s:Sv} (hs:w.sv.getD p dfSv=s) {e:Ev} {c:Int}:pcW (evW w p e) p c=zK w p {s with pc:=c} e:=by
 unfold pcW zK evW
 simp only
 rw[hs];rfl
theorem a9 (f:Nat→Row) (w:Wd) (p q n:Nat) (hn:q+5≤n) (hw:WdV w) (hp:p<w.sv.length) (r6:IG w p=true) (b l:List Row) (hb:b=kB n (mvF f w p q)) :
  ZA Tryz.prog 51 [.ptr (q+4) 0 0 0,.v (.int .i64 p)] b l (fun r b' l'=>r=.v (.int .i64 (stW w p).2)∧b'=kB n (mvF f (stM w p) p q)∧l'=l):=by
 refine XA ZAU rfl kE ?_
 intro B g hB hR hE hA;simp only[EA]at hA
 rw[hb]at hB
 obtain⟨m,f',hm0,hB1,RH⟩:=AZ hn hB
 clear hB
 subst hB1
 rw[GB]at hR
 have qM:p<w.tr.length:=by rw[hw.len];exact hp
 have hS:=hw.small
 have hN:=hw.nm
 have hsl8:=(jO hw.sv).2
 have ZLT:=hw.tr.hi
 have tY:w.sv.length≤1000000:=by omega
 have xX:w.tr.length≤1000000:=by omega
 have vJ:(w.tr.getD p dfPr).evs.length≤1000000:=by have:=hw.evl qM;omega
 have ST:=(rH hw.sv hp).1
 obtain⟨k,hk,YM,hki,h8,yF⟩:=ZFb hw hp r6
 obtain⟨_,qD,h4,h3⟩:=eO r6
 have hvn:=TF.2 hw.net
 have x6:=hw.sent
 have hpo:ptB p=true:=by unfold ptB;simp;omega
 have cAs:=fun k pe ms i hi QW v=>fun l=>TU f' w p q m oM hp qM tY xX vJ k pe ms i hi QW v (kB m (mvF f' w p q)) l rfl
 have cEv:=fun k pe ms=>fun l=>dP f' w p q m oM hp qM tY xX vJ k pe ms (kB m (mvF f' w p q)) l rfl
 have cSn:=fun x i pR hi QW hm=>fun l=>G9 f' w p q m oM hp qM tY xX vJ x i pR hi QW oM hvn hm (kB m (mvF f' w p q)) l rfl
 have cRc:=fun x i pR hi QW k hk mg hmg v hbd iU=>fun l=>H9 f' w p q m oM hp qM hS hN tY x i pR hi QW hvn hpo k hk mg hmg v hbd iU (kB m (mvF f' w p q)) l rfl
 have tH:stW w p=stI w p (w.sv.getD p dfSv) ((w.sv.getD p dfSv).code.getD (w.sv.getD p dfSv).pc.toNat zU):=rfl
 have hM:stM w p=if (stW w p).2=0 then (stW w p).1 else pcW w p ((w.sv.getD p dfSv).pc+1):=rfl
 have hop:PQ (w.sv.getD p dfSv)=((w.sv.getD p dfSv).code.getD (w.sv.getD p dfSv).pc.toNat zU).op:=rfl
 rw[hop,hki]at h8 h4 h3
 rw[hki]at tH
 obtain⟨s,hs⟩:∃s,w.sv.getD p dfSv=s:=⟨_,rfl⟩
 rw[hs]at ST hk YM h8 yF h4 h3 tH hM cAs cSn cRc
 obtain⟨x,hx⟩:∃x,s.code.getD k zU=x:=⟨_,rfl⟩
 rw[hx]at h8 yF h4 h3 tH
 have GM:=LO YM
 rw[YA YM]at hx
 rw[hx]at GM
 have hsc:=ST.cl
 have ZAx:=ST.vl
 obtain⟨SV,i6⟩:∃SV,qH w p (q+1)=SV:=⟨_,rfl⟩
 obtain⟨F,hF⟩:∃F,mvF f' w p q=F:=⟨_,rfl⟩
 obtain⟨TT,gS,f0,f1,f4⟩:=JF hp qM hF hs i6
 have gk:∀{j:Nat} {f:Nat→Row} {L:List Row},j<5→hget (kB m f) L (q+j)=some (f (q+j)):=fun hj=>VI oM
 have kn:∀{j:Nat} {f:Nat→Row} {r:Row},j<5→pE (kB m f) (q+j) r=kB m (rUp f (q+j) r):=fun hj=>AJ oM
 have kl:∀{j:Nat} {f:Nat→Row} {r:Row} {L:List Row},j<5→IE (kB m f) L (q+j) r=L:=fun hj=>CJ oM
 have gk0:∀{f:Nat→Row} {L:List Row},hget (kB m f) L q=some (f q):=VI oM
 have kn0:∀{f:Nat→Row} {r:Row},pE (kB m f) q r=kB m (rUp f q r):=AJ oM
 have kl0:∀{f:Nat→Row} {r:Row} {L:List Row},IE (kB m f) L q r=L:=CJ oM
 have UT:IntKind.i64.wrap (((k:Nat):Int)+1)=((k+1:Nat):Int):=by rw[zB oM oM];omega
 have hk1:((k+1:Nat):Int)=s.pc+1:=by omega
 rw[hF]at cAs cEv cSn cRc hR⊢
 have hRw:∀w',YB m (kB m (mvF f' w' p q)):=fun w'=>by rw[←hF]at hR;exact PT oM hR
 have nm1:IntKind.i64.wrap (-1)=-1:=rfl
 by_cases o1:x.op=1
 ·unfold xH at yF
  rw[if_pos (.inl o1)]at yF
  unfold inZ at yF
  simp only[ar,bj]at yF
  obtain⟨i,hi⟩:∃i:Nat,x.a=i:=⟨x.a.toNat,by omega⟩
  have ZW:i<s.vars.length:=by omega
  have cA:=cAs 1 0 0 i ZW oM x.b
  rw[if_pos yF.2,if_pos yF.2]at cA
  have hI:stI w p s x=(zK w p (Sv.put {s with pc:=s.pc+1} i x.b) (rS 1 0 0 i x.b),0):=by unfold stI;rw[if_pos o1,hi,bs]
  rw[hI]at tH
  have d1:(x.op==1)=true:=by rw[o1];rfl
  simp (disch:=first|decide|omega) only[a_mstp,hA,gk,gk0,f0,f1,f4,gS,TT,hk,GM,UT,kn,kl,kn0,kl0,qB,xD,hi,d1,go_sem]
  refine ZA.nxt (wF _ _) ?_
  simp (disch:=first|decide|omega) only[hA,gk,gk0,f0,f1,f4,gS,TT,hk,GM,UT,kn,kl,kn0,kl0,qB,xD,hi,d1,go_sem]
  refine ZA.nxt (cA _) ?_
  obtain⟨w1,uF⟩:∃w1,asW w p ⟨1,0,0,0,[]⟩ i x.b=w1:=⟨_,rfl⟩
  rw[uF]
  have e1:w1.sv.length=w.sv.length:=by rw[←uF];first|rfl|exact ec
  have e2:w1.tr.length=w.tr.length:=by rw[←uF];first|rfl|exact LF
  have LI:w1.sv.getD p dfSv=s.put i x.b:=by rw[←uF];first|exact hs|(show (w.sv.set p _).getD p dfSv=_;rw[aq,bf hp,hs];rfl)
  obtain⟨SV1,TH⟩:∃SV1,qH w1 p (q+1)=SV1:=⟨_,rfl⟩
  obtain⟨F1,mL⟩:∃F1,mvF f' w1 p q=F1:=⟨_,rfl⟩
  obtain⟨dU,gS1,g0,g1,g4⟩:=JF (by rw[e1];exact hp) (by rw[e2];exact qM) mL LI TH
  have yJ:=UL (f':=f') (q:=q) (c:=((k+1:Nat):Int)) (show p<w1.sv.length by rw[e1];exact hp) LI
  rw[TH,mL]at yJ
  rw[e1]at dU g0 yJ
  rw[mL]
  simp (disch:=first|decide|omega) only[hA,gk,gk0,g0,g1,g4,dU,gS1,hk,UT,kn,kl,kn0,kl0,qB,xD,hi,go_sem]
  rw[yJ]
  have SH:stM w p=pcW w1 p (((k+1:Nat):Int)):=by rw[hk1,hM,tH,if_pos rfl,←uF];exact (yT hp hs).symm
  have UP:(stW w p).2=0:=by rw[tH]
  rw[UP,SH]
  exact aD (xs:=[.v (.int .i64 0)]) (.inr rfl) kR kO (by rw[GB];exact hRw _) hb (RH _) ⟨rfl,rfl,rfl⟩
 by_cases o2:x.op=2
 ·unfold xH at yF
  rw[if_pos (.inr o2)]at yF
  unfold inZ at yF
  have hxb:-1073741824≤x.b∧x.b≤1073741824:=by
   rw[ar]at yF
   have:=yF.2;unfold vlB at this;simpa using this
  simp only[ar,bj]at yF
  obtain⟨i,hi⟩:∃i:Nat,x.a=i:=⟨x.a.toNat,by omega⟩
  have ZW:i<s.vars.length:=by omega
  have hgv:=NG ZW
  obtain⟨u,huu⟩:∃u,s.vars.getD i 0=u:=⟨_,rfl⟩
  have hub:-1073741824≤u∧u≤1073741824:=by
   have:=ST.vs u (by rw[←huu,YA ZW];exact ap ZW)
   unfold vlB at this
   simpa using this
  rw[huu]at hgv
  have hwr:IntKind.i64.wrap (u+x.b)=u+x.b:=zB oM oM
  obtain⟨v,iU⟩:∃v,u+x.b=v:=⟨_,rfl⟩
  rw[iU]at hwr
  have cA:=cAs 1 0 0 i ZW oM v
  have d1:(x.op==1)=false:=by rw[o2];rfl
  have d2:(x.op==2)=true:=by rw[o2];rfl
  cases hq:vlB v
  ·rw[hq,if_neg kS,if_neg kS]at cA
   have hI:stI w p s x=(wd0,9):=by unfold stI;rw[if_neg o1,if_pos o2,hi,bs,huu,iU,if_neg (by rw[hq];simp)]
   rw[hI]at tH
   rw[hF]at cA
   simp (disch:=first|decide|omega) only[a_mstp,hA,gk,gk0,f0,f1,f4,gS,TT,hk,GM,UT,kn,kl,kn0,kl0,qB,xD,hi,hgv,iU,hwr,d1,d2,go_sem]
   refine ZA.nxt (wF _ _) ?_
   simp (disch:=first|decide|omega) only[hA,gk,gk0,f0,f1,f4,gS,TT,hk,GM,UT,kn,kl,kn0,kl0,qB,xD,hi,hgv,iU,hwr,d1,d2,go_sem]
   refine ZA.nxt (cA _) ?_
   have yJ:=UL (f':=f') (q:=q) (c:=((k+1:Nat):Int)) hp hs
   rw[i6,hF]at yJ
   simp (disch:=first|decide|omega) only[hA,gk,gk0,f0,f1,f4,gS,TT,hk,GM,UT,kn,kl,kn0,kl0,qB,xD,hi,go_sem]
   rw[yJ]
   have SH:stM w p=pcW w p (((k+1:Nat):Int)):=by rw[hk1,hM,tH,if_neg kE]
   have UP:(stW w p).2=9:=by rw[tH]
   rw[UP,SH]
   exact aD (xs:=[.v (.int .i64 9)]) (.inr rfl) kR kO (by rw[GB];exact hRw _) hb (RH _) ⟨rfl,rfl,rfl⟩
  ·rw[hq,if_pos rfl,if_pos rfl]at cA
   have hI:stI w p s x=(zK w p (Sv.put {s with pc:=s.pc+1} i v) (rS 1 0 0 i v),0):=by unfold stI;rw[if_neg o1,if_pos o2,hi,bs,huu,iU,if_pos hq]
   rw[hI]at tH
   simp (disch:=first|decide|omega) only[a_mstp,hA,gk,gk0,f0,f1,f4,gS,TT,hk,GM,UT,kn,kl,kn0,kl0,qB,xD,hi,hgv,iU,hwr,d1,d2,go_sem]
   refine ZA.nxt (wF _ _) ?_
   simp (disch:=first|decide|omega) only[hA,gk,gk0,f0,f1,f4,gS,TT,hk,GM,UT,kn,kl,kn0,kl0,qB,xD,hi,hgv,iU,hwr,d1,d2,go_sem]
   refine ZA.nxt (cA _) ?_
   obtain⟨w1,uF⟩:∃w1,asW w p ⟨1,0,0,0,[]⟩ i v=w1:=⟨_,rfl⟩
   rw[uF]
   have e1:w1.sv.length=w.sv.length:=by rw[←uF];first|rfl|exact ec
   have e2:w1.tr.length=w.tr.length:=by rw[←uF];first|rfl|exact LF
   have LI:w1.sv.getD p dfSv=s.put i v:=by rw[←uF];first|exact hs|(show (w.sv.set p _).getD p dfSv=_;rw[aq,bf hp,hs];rfl)
   obtain⟨SV1,TH⟩:∃SV1,qH w1 p (q+1)=SV1:=⟨_,rfl⟩
   obtain⟨F1,mL⟩:∃F1,mvF f' w1 p q=F1:=⟨_,rfl⟩
   obtain⟨dU,gS1,g0,g1,g4⟩:=JF (by rw[e1];exact hp) (by rw[e2];exact qM) mL LI TH
   have yJ:=UL (f':=f') (q:=q) (c:=((k+1:Nat):Int)) (show p<w1.sv.length by rw[e1];exact hp) LI
   rw[TH,mL]at yJ
   rw[e1]at dU g0 yJ
   rw[mL]
   simp (disch:=first|decide|omega) only[hA,gk,gk0,g0,g1,g4,dU,gS1,hk,UT,kn,kl,kn0,kl0,qB,xD,hi,go_sem]
   rw[yJ]
   have SH:stM w p=pcW w1 p (((k+1:Nat):Int)):=by rw[hk1,hM,tH,if_pos rfl,←uF];exact (yT hp hs).symm
   have UP:(stW w p).2=0:=by rw[tH]
   rw[UP,SH]
   exact aD (xs:=[.v (.int .i64 0)]) (.inr rfl) kR kO (by rw[GB];exact hRw _) hb (RH _) ⟨rfl,rfl,rfl⟩
 by_cases o7:x.op=7
 ·have hI:stI w p s x=(zK w p {s with pc:=s.pc+1} dfEv54,0):=by unfold stI;rw[if_neg oM,if_neg oM,if_neg oM,if_neg oM,if_neg oM]
  rw[hI]at tH
  have cE:=cEv 1 0 0
  have d1:(x.op==1)=false:=by rw[o7];rfl
  have d2:(x.op==2)=false:=by rw[o7];rfl
  have d7:(x.op==7)=true:=by rw[o7];rfl
  simp (disch:=first|decide|omega) only[a_mstp,hA,gk,gk0,f0,f1,f4,gS,TT,hk,GM,UT,kn,kl,kn0,kl0,qB,xD,d1,d2,d7,go_sem]
  refine ZA.nxt (wF _ _) ?_
  simp (disch:=first|decide|omega) only[hA,gk,gk0,f0,f1,f4,gS,TT,hk,GM,UT,kn,kl,kn0,kl0,qB,xD,d1,d2,d7,go_sem]
  refine ZA.nxt (cE _) ?_
  obtain⟨w1,uF⟩:∃w1,evW w p ⟨1,0,0,0,[]⟩=w1:=⟨_,rfl⟩
  rw[uF]
  have e1:w1.sv.length=w.sv.length:=by rw[←uF];first|rfl|exact ec
  have e2:w1.tr.length=w.tr.length:=by rw[←uF];first|rfl|exact LF
  have LI:w1.sv.getD p dfSv=s:=by rw[←uF];first|exact hs|(show (w.sv.set p _).getD p dfSv=_;rw[aq,bf hp,hs];rfl)
  obtain⟨SV1,TH⟩:∃SV1,qH w1 p (q+1)=SV1:=⟨_,rfl⟩
  obtain⟨F1,mL⟩:∃F1,mvF f' w1 p q=F1:=⟨_,rfl⟩
  obtain⟨dU,gS1,g0,g1,g4⟩:=JF (by rw[e1];exact hp) (by rw[e2];exact qM) mL LI TH
  have yJ:=UL (f':=f') (q:=q) (c:=((k+1:Nat):Int)) (show p<w1.sv.length by rw[e1];exact hp) LI
  rw[TH,mL]at yJ
  rw[e1]at dU g0 yJ
  rw[mL]
  simp (disch:=first|decide|omega) only[hA,gk,gk0,g0,g1,g4,dU,gS1,hk,UT,kn,kl,kn0,kl0,qB,xD,go_sem]
  rw[yJ]
  have SH:stM w p=pcW w1 p (((k+1:Nat):Int)):=by rw[hk1,hM,tH,if_pos rfl,←uF];exact (bQ hs).symm
  have UP:(stW w p).2=0:=by rw[tH]
  rw[UP,SH]
  exact aD (xs:=[.v (.int .i64 0)]) (.inr rfl) kR kO (by rw[GB];exact hRw _) hb (RH _) ⟨rfl,rfl,rfl⟩
 by_cases o6:x.op=6
 ·unfold xH at yF
  rw[if_neg oM,if_neg oM,if_neg oM,if_neg oM,if_pos o6]at yF
  unfold inZ at yF
  simp only[ar,bj]at yF
  obtain⟨i,hi⟩:∃i:Nat,x.b=i:=⟨x.b.toNat,by omega⟩
  have ZW:i<s.vars.length:=by omega
  have hgv:=NG ZW
  obtain⟨v,iU⟩:∃v,s.vars.getD i 0=v:=⟨_,rfl⟩
  have hvb:-1073741824≤v∧v≤1073741824:=by
   have:=ST.vs v (by rw[←iU,YA ZW];exact ap ZW)
   unfold vlB at this
   simpa using this
  rw[iU]at hgv
  have hwv:IntKind.i64.wrap (v-1)=v-1:=zB oM oM
  have d1:(x.op==1)=false:=by rw[o6];rfl
  have d2:(x.op==2)=false:=by rw[o6];rfl
  have d7:(x.op==7)=false:=by rw[o6];rfl
  have d6:(x.op==6)=true:=by rw[o6];rfl
  by_cases h0:0<v
  ·have e0:decide (v>0)=true:=ag oM
   have e1:decide (0<v)=true:=e0
   have hq:vlB (v-1)=true:=by unfold vlB;simp;omega
   have cA:=cAs 1 0 0 i ZW oM (v-1)
   rw[if_pos hq,if_pos hq]at cA
   have hI:stI w p s x=(zK w p (Sv.put {s with pc:=x.a} i (v-1)) (rS 1 0 0 i (v-1)),0):=by unfold stI;rw[if_neg o1,if_neg o2,if_pos o6,hi,bs,iU,if_pos h0]
   rw[hI]at tH
   simp (disch:=first|decide|omega) only[a_mstp,hA,gk,gk0,f0,f1,f4,gS,TT,hk,GM,UT,kn,kl,kn0,kl0,qB,xD,hi,hgv,hwv,e0,e1,d1,d2,d7,d6,go_sem]
   refine ZA.nxt (wF _ _) ?_
   simp (disch:=first|decide|omega) only[hA,gk,gk0,f0,f1,f4,gS,TT,hk,GM,UT,kn,kl,kn0,kl0,qB,xD,hi,hgv,hwv,e0,e1,d1,d2,d7,d6,go_sem]
   clear e0 e1
   refine ZA.nxt (cA _) ?_
   obtain⟨w1,uF⟩:∃w1,asW w p ⟨1,0,0,0,[]⟩ i (v-1)=w1:=⟨_,rfl⟩
   rw[uF]
   have e1:w1.sv.length=w.sv.length:=by rw[←uF];first|rfl|exact ec
   have e2:w1.tr.length=w.tr.length:=by rw[←uF];first|rfl|exact LF
   have LI:w1.sv.getD p dfSv=s.put i (v-1):=by rw[←uF];first|exact hs|(show (w.sv.set p _).getD p dfSv=_;rw[aq,bf hp,hs];rfl)
   obtain⟨SV1,TH⟩:∃SV1,qH w1 p (q+1)=SV1:=⟨_,rfl⟩
   obtain⟨F1,mL⟩:∃F1,mvF f' w1 p q=F1:=⟨_,rfl⟩
   obtain⟨dU,gS1,g0,g1,g4⟩:=JF (by rw[e1];exact hp) (by rw[e2];exact qM) mL LI TH
   have yJ:=UL (f':=f') (q:=q) (c:=x.a) (show p<w1.sv.length by rw[e1];exact hp) LI
   rw[TH,mL]at yJ
   rw[e1]at dU g0 yJ
   rw[mL]
   simp (disch:=first|decide|omega) only[hA,gk,gk0,g0,g1,g4,dU,gS1,hk,UT,kn,kl,kn0,kl0,qB,xD,hi,go_sem]
   rw[yJ]
   have SH:stM w p=pcW w1 p (x.a):=by rw[hM,tH,if_pos rfl,←uF];exact (yT hp hs).symm
   have UP:(stW w p).2=0:=by rw[tH]
   rw[UP,SH]
   exact aD (xs:=[.v (.int .i64 0)]) (.inr rfl) kR kO (by rw[GB];exact hRw _) hb (RH _) ⟨rfl,rfl,rfl⟩
  ·have e0:decide (v>0)=false:=ak oM
   have e1:decide (0<v)=false:=e0
   have hI:stI w p s x=(zK w p {s with pc:=s.pc+1} dfEv54,0):=by unfold stI;rw[if_neg o1,if_neg o2,if_pos o6,hi,bs,iU,if_neg h0]
   rw[hI]at tH
   have cE:=cEv 1 0 0
   simp (disch:=first|decide|omega) only[a_mstp,hA,gk,gk0,f0,f1,f4,gS,TT,hk,GM,UT,kn,kl,kn0,kl0,qB,xD,hi,hgv,e0,e1,d1,d2,d7,d6,go_sem]
   clear e0 e1
   refine ZA.nxt (wF _ _) ?_
   simp (disch:=first|decide|omega) only[hA,gk,gk0,f0,f1,f4,gS,TT,hk,GM,UT,kn,kl,kn0,kl0,qB,xD,hi,d1,d2,d7,d6,go_sem]
   refine ZA.nxt (cE _) ?_
   obtain⟨w1,uF⟩:∃w1,evW w p ⟨1,0,0,0,[]⟩=w1:=⟨_,rfl⟩
   rw[uF]
   have e1:w1.sv.length=w.sv.length:=by rw[←uF];first|rfl|exact ec
   have e2:w1.tr.length=w.tr.length:=by rw[←uF];first|rfl|exact LF
   have LI:w1.sv.getD p dfSv=s:=by rw[←uF];first|exact hs|(show (w.sv.set p _).getD p dfSv=_;rw[aq,bf hp,hs];rfl)
   obtain⟨SV1,TH⟩:∃SV1,qH w1 p (q+1)=SV1:=⟨_,rfl⟩
   obtain⟨F1,mL⟩:∃F1,mvF f' w1 p q=F1:=⟨_,rfl⟩
   obtain⟨dU,gS1,g0,g1,g4⟩:=JF (by rw[e1];exact hp) (by rw[e2];exact qM) mL LI TH
   have yJ:=UL (f':=f') (q:=q) (c:=((k+1:Nat):Int)) (show p<w1.sv.length by rw[e1];exact hp) LI
   rw[TH,mL]at yJ
   rw[e1]at dU g0 yJ
   rw[mL]
   simp (disch:=first|decide|omega) only[hA,gk,gk0,g0,g1,g4,dU,gS1,hk,UT,kn,kl,kn0,kl0,qB,xD,go_sem]
   rw[yJ]
   have SH:stM w p=pcW w1 p (((k+1:Nat):Int)):=by rw[hk1,hM,tH,if_pos rfl,←uF];exact (bQ hs).symm
   have UP:(stW w p).2=0:=by rw[tH]
   rw[UP,SH]
   exact aD (xs:=[.v (.int .i64 0)]) (.inr rfl) kR kO (by rw[GB];exact hRw _) hb (RH _) ⟨rfl,rfl,rfl⟩
 by_cases o3:x.op=3
 ·unfold xH at yF
  rw[if_neg oM,if_pos o3]at yF
  unfold inZ at yF
  simp only[ar,bj]at yF
  obtain⟨i,hi⟩:∃i:Nat,x.a=i:=⟨x.a.toNat,by omega⟩
  have ZW:i<s.vars.length:=by omega
  have x8:msB (EG w p s x)=true:=by
   have:=ST.vs (s.vars.getD i 0) (by rw[YA ZW];exact ap _)
   have hs3:=h3 o3
   unfold EG msB ptB
   rw[hi,bs]
   simp only[ea,eo,this,ep,fa,ar,bj]
   exact⟨by omega,by omega,by omega,by omega,by omega⟩
  have cS:=cSn x i hi ZW oM x8
  rw[hi]at cS
  have d1:(x.op==1)=false:=by rw[o3];rfl
  have d2:(x.op==2)=false:=by rw[o3];rfl
  have d7:(x.op==7)=false:=by rw[o3];rfl
  have d6:(x.op==6)=false:=by rw[o3];rfl
  have d3:(x.op==3)=true:=by rw[o3];rfl
  by_cases hz:sdE w.net (EG w p s x)=0
  ·rw[if_pos hz,hz]at cS
   have hI:stI w p s x=({zK w p {s with pc:=s.pc+1} ⟨2,x.b,w.sent,0,[]⟩ with net:=sdR w.net (EG w p s x),sent:=w.sent+1},0):=by unfold stI;rw[if_neg o1,if_neg o2,if_neg o6,if_pos o3,if_pos hz]
   rw[hI]at tH
   simp (disch:=first|decide|omega) only[a_mstp,hA,gk,gk0,f0,f1,f4,gS,TT,hk,GM,UT,kn,kl,kn0,kl0,qB,xD,hi,d1,d2,d7,d6,d3,go_sem]
   refine ZA.nxt (cS _) ?_
   obtain⟨w1,uF⟩:∃w1,evW {w with net:=sdR w.net (EG w p s x),sent:=w.sent+1} p ⟨2,x.b,w.sent,0,[]⟩=w1:=⟨_,rfl⟩
   rw[uF]
   have e1:w1.sv.length=w.sv.length:=by rw[←uF];first|rfl|exact ec
   have e2:w1.tr.length=w.tr.length:=by rw[←uF];first|rfl|exact LF
   have LI:w1.sv.getD p dfSv=s:=by rw[←uF];first|exact hs|(show (w.sv.set p _).getD p dfSv=_;rw[aq,bf hp,hs];rfl)
   obtain⟨SV1,TH⟩:∃SV1,qH w1 p (q+1)=SV1:=⟨_,rfl⟩
   obtain⟨F1,mL⟩:∃F1,mvF f' w1 p q=F1:=⟨_,rfl⟩
   obtain⟨dU,gS1,g0,g1,g4⟩:=JF (by rw[e1];exact hp) (by rw[e2];exact qM) mL LI TH
   have yJ:=UL (f':=f') (q:=q) (c:=((k+1:Nat):Int)) (show p<w1.sv.length by rw[e1];exact hp) LI
   rw[TH,mL]at yJ
   rw[e1]at dU g0 yJ
   rw[mL]
   simp (disch:=first|decide|omega) only[hA,gk,gk0,g0,g1,g4,dU,gS1,hk,UT,kn,kl,kn0,kl0,qB,xD,go_sem]
   rw[yJ]
   have SH:stM w p=pcW w1 p (((k+1:Nat):Int)):=by rw[hk1,hM,tH,if_pos rfl,←uF];exact (bQ (w:={w with net:=sdR w.net (EG w p s x),sent:=w.sent+1}) hs).symm
   have UP:(stW w p).2=0:=by rw[tH]
   rw[UP,SH]
   exact aD (xs:=[.v (.int .i64 0)]) (.inr rfl) kR kO (by rw[GB];exact hRw _) hb (RH _) ⟨rfl,rfl,rfl⟩
  ·rw[if_neg hz]at cS
   obtain⟨er,her⟩:∃er,sdE w.net (EG w p s x)=er:=⟨_,rfl⟩
   have hI:stI w p s x=(wd0,er):=by unfold stI;rw[if_neg o1,if_neg o2,if_neg o6,if_pos o3,if_neg hz,her]
   rw[hI]at tH
   rw[her]at cS hz
   rw[hF]at cS
   simp (disch:=first|decide|omega) only[a_mstp,hA,gk,gk0,f0,f1,f4,gS,TT,hk,GM,UT,kn,kl,kn0,kl0,qB,xD,hi,d1,d2,d7,d6,d3,go_sem]
   refine ZA.nxt (cS _) ?_
   have yJ:=UL (f':=f') (q:=q) (c:=((k+1:Nat):Int)) hp hs
   rw[i6,hF]at yJ
   simp (disch:=first|decide|omega) only[hA,gk,gk0,f0,f1,f4,gS,TT,hk,GM,UT,kn,kl,kn0,kl0,qB,xD,go_sem]
   rw[yJ]
   have SH:stM w p=pcW w p (((k+1:Nat):Int)):=by rw[hk1,hM,tH,if_neg hz]
   have UP:(stW w p).2=er:=by rw[tH]
   rw[UP,SH]
   exact aD (xs:=[.v (.int .i64 er)]) (.inr rfl) kR kO (by rw[GB];exact hRw _) hb (RH _) ⟨rfl,rfl,rfl⟩
 have o45:x.op=4∨x.op=5:=by
  unfold xH at yF
  rw[if_neg oM,if_neg o3]at yF
  by_cases o4:x.op=4
  ·exact .inl o4
  ·rw[if_neg o4]at yF
   by_cases o5:x.op=5
   ·exact .inr o5
   ·rw[if_neg o5,if_neg o6]at yF
    simp at yF;omega
 have hxa:0≤x.a∧x.a<s.vars.length:=by
  unfold xH inZ at yF
  rcases o45 with o|o<;>simp[o]at yF<;>omega
 obtain⟨i,hi⟩:∃i:Nat,x.a=i:=⟨x.a.toNat,by omega⟩
 have ZW:i<s.vars.length:=by omega
 have hI:stI w p s x=(DZ w p s x,0):=by unfold stI;rw[if_neg o1,if_neg o2,if_neg o6,if_neg o3,if_pos o45]
 rw[hI]at tH
 have d1:(x.op==1)=false:=fc.2 o1
 have d2:(x.op==2)=false:=fc.2 o2
 have d7:(x.op==7)=false:=fc.2 o7
 have d6:(x.op==6)=false:=fc.2 o6
 have d3:(x.op==3)=false:=fc.2 o3
 have cW:=fun b l=>OR w.net p b l
 simp only[eNw,ba,bl]at cW
 by_cases hf:fiR w.net p<0
 ·have o5:x.op=5:=by
   rcases o45 with o|o
   ·have:=p6 (h4 o);omega
   ·exact o
  have d5:(x.op==5)=true:=by rw[o5];rfl
  have JW:dJ w.net p=0:=by unfold dJ;rw[if_pos ⟨hvn,hpo⟩,VW _ (M7 hf)]
  have n0:(((0:Nat):Int)==0)=true:=rfl
  rw[JW]at cW
  have hR2:DZ w p s x=zK w p {s with pc:=x.b} dfEv54:=by unfold DZ;rw[if_pos hf]
  rw[hR2]at tH
  have cE:=cEv 1 0 0
  simp (disch:=first|decide|omega) only[a_mstp,hA,gk,gk0,f0,f1,f4,gS,TT,hk,GM,UT,kn,kl,kn0,kl0,qB,xD,hi,d1,d2,d7,d6,d3,d5,go_sem]
  refine ZA.nxt (cW _ _) ?_
  simp (disch:=first|decide|omega) only[hA,gk,gk0,f0,f1,f4,gS,TT,hk,GM,UT,kn,kl,kn0,kl0,qB,xD,hi,n0,d5,go_sem]
  refine ZA.nxt (wF _ _) ?_
  simp (disch:=first|decide|omega) only[hA,gk,gk0,f0,f1,f4,gS,TT,hk,GM,UT,kn,kl,kn0,kl0,qB,xD,hi,go_sem]
  refine ZA.nxt (cE _) ?_
  obtain⟨w1,uF⟩:∃w1,evW w p ⟨1,0,0,0,[]⟩=w1:=⟨_,rfl⟩
  rw[uF]
  have e1:w1.sv.length=w.sv.length:=by rw[←uF];first|rfl|exact ec
  have e2:w1.tr.length=w.tr.length:=by rw[←uF];first|rfl|exact LF
  have LI:w1.sv.getD p dfSv=s:=by rw[←uF];first|exact hs|(show (w.sv.set p _).getD p dfSv=_;rw[aq,bf hp,hs];rfl)
  obtain⟨SV1,TH⟩:∃SV1,qH w1 p (q+1)=SV1:=⟨_,rfl⟩
  obtain⟨F1,mL⟩:∃F1,mvF f' w1 p q=F1:=⟨_,rfl⟩
  obtain⟨dU,gS1,g0,g1,g4⟩:=JF (by rw[e1];exact hp) (by rw[e2];exact qM) mL LI TH
  have yJ:=UL (f':=f') (q:=q) (c:=x.b) (show p<w1.sv.length by rw[e1];exact hp) LI
  rw[TH,mL]at yJ
  rw[e1]at dU g0 yJ
  rw[mL]
  simp (disch:=first|decide|omega) only[hA,gk,gk0,g0,g1,g4,dU,gS1,hk,UT,kn,kl,kn0,kl0,qB,xD,go_sem]
  rw[yJ]
  have SH:stM w p=pcW w1 p (x.b):=by rw[hM,tH,if_pos rfl,←uF];exact (bQ hs).symm
  have UP:(stW w p).2=0:=by rw[tH]
  rw[UP,SH]
  exact aD (xs:=[.v (.int .i64 0)]) (.inr rfl) kR kO (by rw[GB];exact hRw _) hb (RH _) ⟨rfl,rfl,rfl⟩
 obtain⟨j,hj,fG,hja,hjf⟩:=ZX (n:=w.net) (to:=p) oM
 obtain⟨mg,hmg⟩:∃mg,w.net.l.getD j dfMs=mg:=⟨_,rfl⟩
 have QP:mg∈w.net.l:=by rw[←hmg,YA fG];exact ap fG
 obtain⟨uI,_⟩:=LK hw.tr (hw.msg mg QP)
 obtain⟨v,hbv⟩:∃v,mg.body=[v]:=List.length_eq_one_iff.1 uI
 have iU:vlB v=true:=by
  have:=hw.net.ms mg QP
  unfold msB at this
  simp only[ar,bo]at this
  exact this.2.2.2.2.2 v (by rw[hbv];simp)
 have cR:=cRc x i hi ZW oM j hj mg hmg v hbv iU
 rw[hi]at cR
 have uF:0<dJ w.net p:=by
  unfold dJ
  rw[if_pos ⟨hvn,hpo⟩]
  exact ZCw fG hja
 have n0:((dJ w.net p:Int)==0)=false:=fc.2 oM
 have hRv:DZ w p s x=if (lE w.tr 3 mg.nu).2>0 then {zK w p s dfEv54 with net:=woN w.net j} else {zK w p (Sv.put {s with pc:=s.pc+1} i v) (rS 3 mg.fr mg.nu i v) with net:=woN w.net j}:=by
  unfold DZ
  rw[if_neg hf,hj,bs,hmg,hi,bs,hbv];rfl
 rw[←AK (vF hw.tr)]at hRv
 rw[hRv]at tH
 clear hjf
 by_cases ha:0<(vD w.tr 3 mg.nu).2
 ·rw[if_pos ha,ag ha]at cR
  rw[if_pos (show (vD w.tr 3 mg.nu).2>0 from ha)]at tH
  rcases o45 with o4|o5
  ·have d5:(x.op==5)=false:=by rw[o4];rfl
   simp (disch:=first|decide|omega) only[a_mstp,hA,gk,gk0,f0,f1,f4,gS,TT,hk,GM,UT,kn,kl,kn0,kl0,qB,xD,hi,d1,d2,d7,d6,d3,d5,go_sem]
   clear uF n0
   refine ZA.nxt (cR _) ?_
   obtain⟨w1,uF⟩:∃w1,evW {w with net:=woN w.net j} p ⟨1,0,0,0,[]⟩=w1:=⟨_,rfl⟩
   rw[uF]
   have e1:w1.sv.length=w.sv.length:=by rw[←uF];first|rfl|exact ec
   have e2:w1.tr.length=w.tr.length:=by rw[←uF];first|rfl|exact LF
   have LI:w1.sv.getD p dfSv=s:=by rw[←uF];first|exact hs|(show (w.sv.set p _).getD p dfSv=_;rw[aq,bf hp,hs];rfl)
   obtain⟨SV1,TH⟩:∃SV1,qH w1 p (q+1)=SV1:=⟨_,rfl⟩
   obtain⟨F1,mL⟩:∃F1,mvF f' w1 p q=F1:=⟨_,rfl⟩
   obtain⟨dU,gS1,g0,g1,g4⟩:=JF (by rw[e1];exact hp) (by rw[e2];exact qM) mL LI TH
   have yJ:=UL (f':=f') (q:=q) (c:=((k:Nat):Int)) (show p<w1.sv.length by rw[e1];exact hp) LI
   rw[TH,mL]at yJ
   rw[e1]at dU g0 yJ
   rw[mL]
   simp (disch:=first|decide|omega) only[hA,gk,gk0,g0,g1,g4,dU,gS1,hk,UT,kn,kl,kn0,kl0,qB,xD,go_sem]
   rw[yJ]
   have SH:stM w p=pcW w1 p (((k:Nat):Int)):=by rw[←hk,hM,tH,if_pos rfl,←uF];exact (bQ (w:={w with net:=woN w.net j}) hs).symm
   have UP:(stW w p).2=0:=by rw[tH]
   rw[UP,SH]
   exact aD (xs:=[.v (.int .i64 0)]) (.inr rfl) kR kO (by rw[GB];exact hRw _) hb (RH _) ⟨rfl,rfl,rfl⟩

  ·have d5:(x.op==5)=true:=by rw[o5];rfl
   simp (disch:=first|decide|omega) only[a_mstp,hA,gk,gk0,f0,f1,f4,gS,TT,hk,GM,UT,kn,kl,kn0,kl0,qB,xD,hi,d1,d2,d7,d6,d3,d5,go_sem]
   refine ZA.nxt (cW _ _) ?_
   simp (disch:=first|decide|omega) only[hA,gk,gk0,f0,f1,f4,gS,TT,hk,GM,UT,kn,kl,kn0,kl0,qB,xD,hi,n0,d5,go_sem]
   clear uF n0
   refine ZA.nxt (cR _) ?_
   obtain⟨w1,uF⟩:∃w1,evW {w with net:=woN w.net j} p ⟨1,0,0,0,[]⟩=w1:=⟨_,rfl⟩
   rw[uF]
   have e1:w1.sv.length=w.sv.length:=by rw[←uF];first|rfl|exact ec
   have e2:w1.tr.length=w.tr.length:=by rw[←uF];first|rfl|exact LF
   have LI:w1.sv.getD p dfSv=s:=by rw[←uF];first|exact hs|(show (w.sv.set p _).getD p dfSv=_;rw[aq,bf hp,hs];rfl)
   obtain⟨SV1,TH⟩:∃SV1,qH w1 p (q+1)=SV1:=⟨_,rfl⟩
   obtain⟨F1,mL⟩:∃F1,mvF f' w1 p q=F1:=⟨_,rfl⟩
   obtain⟨dU,gS1,g0,g1,g4⟩:=JF (by rw[e1];exact hp) (by rw[e2];exact qM) mL LI TH
   have yJ:=UL (f':=f') (q:=q) (c:=((k:Nat):Int)) (show p<w1.sv.length by rw[e1];exact hp) LI
   rw[TH,mL]at yJ
   rw[e1]at dU g0 yJ
   rw[mL]
   simp (disch:=first|decide|omega) only[hA,gk,gk0,g0,g1,g4,dU,gS1,hk,UT,kn,kl,kn0,kl0,qB,xD,go_sem]
   rw[yJ]
   have SH:stM w p=pcW w1 p (((k:Nat):Int)):=by rw[←hk,hM,tH,if_pos rfl,←uF];exact (bQ (w:={w with net:=woN w.net j}) hs).symm
   have UP:(stW w p).2=0:=by rw[tH]
   rw[UP,SH]
   exact aD (xs:=[.v (.int .i64 0)]) (.inr rfl) kR kO (by rw[GB];exact hRw _) hb (RH _) ⟨rfl,rfl,rfl⟩
 ·rw[if_neg ha,ak ha]at cR
  rw[if_neg (show ¬(vD w.tr 3 mg.nu).2>0 from ha)]at tH
  rcases o45 with o4|o5
  ·have d5:(x.op==5)=false:=by rw[o4];rfl
   simp (disch:=first|decide|omega) only[a_mstp,hA,gk,gk0,f0,f1,f4,gS,TT,hk,GM,UT,kn,kl,kn0,kl0,qB,xD,hi,d1,d2,d7,d6,d3,d5,go_sem]
   clear uF n0
   refine ZA.nxt (cR _) ?_
   obtain⟨w1,uF⟩:∃w1,asW {w with net:=woN w.net j} p ⟨3,mg.fr,mg.nu,0,[]⟩ i v=w1:=⟨_,rfl⟩
   rw[uF]
   have e1:w1.sv.length=w.sv.length:=by rw[←uF];first|rfl|exact ec
   have e2:w1.tr.length=w.tr.length:=by rw[←uF];first|rfl|exact LF
   have LI:w1.sv.getD p dfSv=s.put i v:=by rw[←uF];first|exact hs|(show (w.sv.set p _).getD p dfSv=_;rw[aq,bf hp,hs];rfl)
   obtain⟨SV1,TH⟩:∃SV1,qH w1 p (q+1)=SV1:=⟨_,rfl⟩
   obtain⟨F1,mL⟩:∃F1,mvF f' w1 p q=F1:=⟨_,rfl⟩
   obtain⟨dU,gS1,g0,g1,g4⟩:=JF (by rw[e1];exact hp) (by rw[e2];exact qM) mL LI TH
   have yJ:=UL (f':=f') (q:=q) (c:=((k+1:Nat):Int)) (show p<w1.sv.length by rw[e1];exact hp) LI
   rw[TH,mL]at yJ
   rw[e1]at dU g0 yJ
   rw[mL]
   simp (disch:=first|decide|omega) only[hA,gk,gk0,g0,g1,g4,dU,gS1,hk,UT,kn,kl,kn0,kl0,qB,xD,hi,go_sem]
   rw[yJ]
   have SH:stM w p=pcW w1 p (((k+1:Nat):Int)):=by rw[hk1,hM,tH,if_pos rfl,←uF];exact (yT (w:={w with net:=woN w.net j}) hp hs).symm
   have UP:(stW w p).2=0:=by rw[tH]
   rw[UP,SH]
   exact aD (xs:=[.v (.int .i64 0)]) (.inr rfl) kR kO (by rw[GB];exact hRw _) hb (RH _) ⟨rfl,rfl,rfl⟩

  ·have d5:(x.op==5)=true:=by rw[o5];rfl
   simp (disch:=first|decide|omega) only[a_mstp,hA,gk,gk0,f0,f1,f4,gS,TT,hk,GM,UT,kn,kl,kn0,kl0,qB,xD,hi,d1,d2,d7,d6,d3,d5,go_sem]
   refine ZA.nxt (cW _ _) ?_
   simp (disch:=first|decide|omega) only[hA,gk,gk0,f0,f1,f4,gS,TT,hk,GM,UT,kn,kl,kn0,kl0,qB,xD,hi,n0,d5,go_sem]
   clear uF n0
   refine ZA.nxt (cR _) ?_
   obtain⟨w1,uF⟩:∃w1,asW {w with net:=woN w.net j} p ⟨3,mg.fr,mg.nu,0,[]⟩ i v=w1:=⟨_,rfl⟩
   rw[uF]
   have e1:w1.sv.length=w.sv.length:=by rw[←uF];first|rfl|exact ec
   have e2:w1.tr.length=w.tr.length:=by rw[←uF];first|rfl|exact LF
   have LI:w1.sv.getD p dfSv=s.put i v:=by rw[←uF];first|exact hs|(show (w.sv.set p _).getD p dfSv=_;rw[aq,bf hp,hs];rfl)
   obtain⟨SV1,TH⟩:∃SV1,qH w1 p (q+1)=SV1:=⟨_,rfl⟩
   obtain⟨F1,mL⟩:∃F1,mvF f' w1 p q=F1:=⟨_,rfl⟩
   obtain⟨dU,gS1,g0,g1,g4⟩:=JF (by rw[e1];exact hp) (by rw[e2];exact qM) mL LI TH
   have yJ:=UL (f':=f') (q:=q) (c:=((k+1:Nat):Int)) (show p<w1.sv.length by rw[e1];exact hp) LI
   rw[TH,mL]at yJ
   rw[e1]at dU g0 yJ
   rw[mL]
   simp (disch:=first|decide|omega) only[hA,gk,gk0,g0,g1,g4,dU,gS1,hk,UT,kn,kl,kn0,kl0,qB,xD,hi,go_sem]
   rw[yJ]
   have SH:stM w p=pcW w1 p (((k+1:Nat):Int)):=by rw[hk1,hM,tH,if_pos rfl,←uF];exact (yT (w:={w with net:=woN w.net j}) hp hs).symm
   have UP:(stW w p).2=0:=by rw[tH]
   rw[UP,SH]
   exact aD (xs:=[.v (.int .i64 0)]) (.inr rfl) kR kO (by rw[GB];exact hRw _) hb (RH _) ⟨rfl,rfl,rfl⟩
theorem lO {m id ver sz:Nat} {rows:List (List IV)} {x:AV} (h:AVlt m x) (hm:m≤id):QF id ver sz rows x=x:=by
 cases h with
 |sl i v o n hi=>simp only[QF];rw[if_neg oM]
 |_=>rfl
theorem I7 {m id ver sz:Nat} {rows:List (List IV)} {x:AV} (h:AVlt m x) (hm:m≤id):frz id ver sz rows x=x:=by
 cases h with
 |agg cs hc =>
   simp only[frz]
   congr 1
   rw[jx (fun c SQ=>lO (hc c SQ) hm),lf]
 |tup cs hc =>
   simp only[frz]
   congr 1
   rw[jx (fun c SQ=>lO (hc c SQ) hm),lf]
 |sl i v o n hi=>exact lO (.sl i v o n hi) hm
 |_=>rfl
theorem bG.frzX {f:Nat→AV} {m id ver sz:Nat} {rows:List (List IV)} (hm:m≤id):∀{ov:List (Nat×AV)},bG f ov→KM m ov→bG (fun n=>frz id ver sz rows (f n)) ov
 |[],_,_=>trivial
 |(n,x)::r,h,ho=>⟨by show Go.Proofs.YtadnnjchehjbiaaGreatDoor.frz id ver sz rows (f n)=x;rw[h.1];exact I7 ho.1 hm,bG.frzX hm h.2 ho.2⟩
theorem ZFc {m id ver sz:Nat} {rows:List (List IV)} (hm:m≤id) {els:List (List AV)} (h:∀r∈els,∀c∈r,AVlt m c):els.map (·.map (QF id ver sz rows))=els:=by
 rw[jx (g:=fun r=>r) (fun r hr=>by rw[jx (fun c hc=>lO (h r hr c hc) hm),lf]),lf]
theorem ZBq {m id ver sz:Nat} {rows:List (List IV)} {h:List Row} (hh:YB m h) (hm:m≤id):h.map (qF (QF id ver sz rows))=h:=by
 refine ma kS (fun i h1 h2=>?_)
 rw[mi]
 cases hr:h[i] with
 |dead v=>rfl
 |live v s els =>
   have:=hh i v s els (by rw[ae h2,hr])
   unfold qF
   simp only
   rw[ZFc hm this]
theorem KA.kfz {N:Nat} {p:List (Nat×Nat)} {ov:List (Nat×AV)} {f g:Nat→AV} {b l l2 l':List Row} {k i ver sz:Nat} {rows:List (List IV)} (hi:l[i]? = some (.live ver sz (vs rows))) (he:xG p f=g) (h:bG f ov) (hl:(l.set i (.dead ver)).map (qF (QF (b.length+i) ver sz rows))=l2) (hE:KLt (b.length+k) g) (hki:k≤i) (ho:KM (b.length+i) ov)
  (hw:∀f',xG p f'=g→bG f' ov→KA (kOf N f') b l2 (kOf N (kOv ov g)) b l'):KA (kOf N f) b l (kOf N (kOv ov g)) b l':=by
 have h2:=KA.freezeR (e:=kOf N f) (b:=b) hi
 have h3:(kOf N f).map (frz (b.length+i) ver sz rows)=kOf N (fun n=>frz (b.length+i) ver sz rows (f n)):=by unfold kOf;rw[List.map_map];rfl
 rw[h3,hl]at h2
 refine h2.trans (hw _ ?_ (h.frzX (m:=b.length+i) (ah _) ho))
 rw[←he]
 funext n
 unfold xG
 split
 ·rfl
 ·rename_i hn
  have hf:f n=g n:=by rw[←he];unfold xG;rw[if_neg hn]
  show frz (b.length+i) ver sz rows (f n)=f n
  rw[hf]
  exact I7 (m:=b.length+k) (id:=b.length+i) (hE n) oM
theorem YB.fl {m n:Nat} {C:Nat→Row} (h:∀i,i<n→∀ver sz els,C i=.live ver sz els→∀row∈els,∀c∈row,AVlt m c):YB m (fl n C):=fun id ver sz els hr row RE c hc=>by
 by_cases hid:id<n
 ·rw[IF hid]at hr;exact h id hid ver sz els (fx hr) row RE c hc
 ·rw[CK oM]at hr;cases hr
def GG (t:Tr):List Int:=t.map fun p=>(p.evs.length:Int)
def a_wcop:AFunc:=({c:=_}:CF Tryz.prog 43).c
theorem ZAN:CA Tryz.prog 43=some a_wcop:=by kernel_rfl
def qR:List (Nat×Nat):=[(5,5),(22,40)]
def zR:List (Nat×Nat):=[(7,8),(10,10),(45,81)]
def LM:List (Nat×Nat):=[(10,10),(58,72)]

theorem PV (v:List In) (hn:v.length≤1000000) (b l:List Row):ZA Tryz.prog 77 [.v (.isl 3 (v.map eIn))] b l (fun r b' l'=>r=.v (.isl 3 (v.map eIn))∧b'=b∧l'=l):=
 ZA.deep (x:=.sl (b.length+l.length+0) 1 0 v.length) (Dv.slV (i:=0) rfl (by rw[aa])) (EX v hn b l)
theorem NV (v:List Vr) (hn:v.length≤1000000) (b l:List Row):ZA Tryz.prog 79 [.v (.isl 2 (v.map eVr))] b l (fun r b' l'=>r=.v (.isl 2 (v.map eVr))∧b'=b∧l'=l):=
 ZA.deep (x:=.sl (b.length+l.length+0) 1 0 v.length) (Dv.slV (i:=0) rfl (by rw[aa])) (FX v hn b l)
theorem uK (v:List Asg) (hn:v.length≤1000000) (b l:List Row):ZA Tryz.prog 80 [.v (.isl 2 (v.map YN))] b l (fun r b' l'=>r=.v (.isl 2 (v.map YN))∧b'=b∧l'=l):=
 ZA.deep (x:=.sl (b.length+l.length+0) 1 0 v.length) (Dv.slV (i:=0) rfl (by rw[aa])) (CX v hn b l)
theorem KA.kroundG {N:Nat} {p:List (Nat×Nat)} {ov:List (Nat×AV)} {f g:Nat→AV} {b l l1 junk:List Row} {k i ver sz:Nat} {rows:List (List IV)} (hi:l[i]? = some (.live ver sz (vs rows))) (he:xG p f=g) (h:bG f ov) (hl:(l.set i (.dead ver)).map (qF (QF (b.length+i) ver sz rows))=l1++junk) (hE:KLt (b.length+k) g) (hk:k≤l1.length) (hki:l1.length≤i) (ho:KM (b.length+l1.length) ov) (hb:YB b.length b) (h1:YB (b.length+l1.length) l1)
  (ho2:KM (b.length+i) ov):KA (kOf N f) b l (kOf N (kOv ov g)) b l1:=
 KA.kfz (k:=k) hi he h hl hE oM ho2 (fun f' he' h'=>KA.kround (p:=p) (k:=k) (junk:=junk) he' h' rfl hE hk ho hb h1)
def cvS (w:Wd) (p id i:Nat):List (List AV):=(qH w p id).take i
def cvP (w:Wd) (p id i:Nat):List (List AV):=(BO w p id).take i
theorem E7 {w:Wd} {p id i:Nat} (h:i≤w.sv.length):(cvS w p id i).length=i:=by unfold cvS;rw[bu,iG];omega
theorem C7 {w:Wd} {p id i:Nat} (h:i≤w.tr.length):(cvP w p id i).length=i:=by unfold cvP;rw[bu,gI];omega
theorem ZHv {w:Wd} {p id i:Nat} (h:i≤w.sv.length):(cvS w p id i).take i=cvS w p id i:=cv (by rw[E7 h];omega)
theorem ZHw {w:Wd} {p id i:Nat} (h:i≤w.tr.length):(cvP w p id i).take i=cvP w p id i:=cv (by rw[C7 h];omega)
theorem cvS_p {w:Wd} {p id:Nat} (h:p<w.sv.length):cvS w p id p++[svL (w.sv.getD p dfSv) id]=cvS w p id (p+1):=by
 unfold cvS;rw[gu,CN h];rfl
theorem ZGS {w:Wd} {p id i:Nat} (h:i<w.sv.length) (hn:p≠i):cvS w p id i++[(eSv (w.sv.getD i dfSv)).map .v]=cvS w p id (i+1):=by
 unfold cvS;rw[gu,I5 h hn];rfl
theorem cvP_p {w:Wd} {p id:Nat} (h:p<w.tr.length):cvP w p id p++[prL (w.tr.getD p dfPr) id]=cvP w p id (p+1):=by
 unfold cvP;rw[gu,AW h];rfl
theorem ZGT {w:Wd} {p id i:Nat} (h:i<w.tr.length) (hn:p≠i):cvP w p id i++[(ePr (w.tr.getD i dfPr)).map .v]=cvP w p id (i+1):=by
 unfold cvP;rw[gu,D5 h hn];rfl
theorem ZFf {w:Wd} {p id i m:Nat} (h:i≤p):∀row∈cvS w p id i,∀c∈row,AVlt m c:=fun row hr=>by
 unfold cvS qH at hr
 rw[List.take_set_of_le h]at hr
 exact (YL.2 trivial) row (dr hr)
theorem pW {w:Wd} {p id i m:Nat} (h:i≤p):∀row∈cvP w p id i,∀c∈row,AVlt m c:=fun row hr=>by
 unfold cvP BO at hr
 rw[List.take_set_of_le h]at hr
 exact (YL.2 trivial) row (dr hr)
theorem ZDZ {w:Wd} {p id i m:Nat} (h:id<m):∀row∈cvS w p id i,∀c∈row,AVlt m c:=fun row hr=>yW h row (dr hr)
theorem E5 {w:Wd} {p id i m:Nat} (h:id<m):∀row∈cvP w p id i,∀c∈row,AVlt m c:=fun row hr=>y7 h row (dr hr)
theorem dM {m id ver sz:Nat} {rows:List (List IV)} {els:List (List AV)} (h:∀row∈els,∀c∈row,AVlt m c) (hm:m≤id):els.map (fun r=>r.map (QF id ver sz rows))=els:=by
 have:=ZBq (m:=m) (id:=id) (ver:=ver) (sz:=sz) (rows:=rows) (h:=[.live 0 0 els]) (TE.2 ⟨h,wE⟩) hm
 simpa [qF] using this
theorem H7 {m id ver sz v z:Nat} {rows:List (List IV)} {els:List (List AV)} {r:List AV} (h:∀row∈els,∀c∈row,AVlt m c) (hm:m≤id):qF (QF id ver sz rows) (.live v z (els++[r]))=.live v z (els++[r.map (QF id ver sz rows)]):=by
 unfold qF
 simp only[ci,ba,bl]
 rw[dM h hm]

def cp1 (B:List Row) (w:Wd) (p i:Nat):List Row:=if p<i then [.live 0 6 [[.v (.str (w.sv.getD p dfSv).name),.v (.isl 3 ((w.sv.getD p dfSv).code.map eIn)),.v (.int .i64 (w.sv.getD p dfSv).pc),.sl (B.length+5) 1 0 (w.sv.getD p dfSv).vars.length,.v (.int .i64 (w.sv.getD p dfSv).off),.v (.int .i64 (w.sv.getD p dfSv).rate)]],.live 1 1 (vs ((w.sv.getD p dfSv).vars.map eI))] else []
def cp2 (B:List Row) (w:Wd) (p i:Nat):List Row:=if p<i then [.live 0 3 [[.v (.str (w.tr.getD p dfPr).name),.v (.isl 2 ((w.tr.getD p dfPr).vars.map eVr)),.sl (B.length+8) (w.tr.getD p dfPr).evs.length 0 (w.tr.getD p dfPr).evs.length]],.live (w.tr.getD p dfPr).evs.length 5 (vs ((w.tr.getD p dfPr).evs.map eEv))] else []
abbrev zSB (x:Sv) (B:List Row):List AV:=[.v (.str x.name),.v (.isl 3 (x.code.map eIn)),.v (.int .i64 x.pc),.sl (B.length+5) 1 0 x.vars.length,.v (.int .i64 x.off),.v (.int .i64 x.rate)]
abbrev zZA:List AV:=[.v .zsl,.v (.int .i64 0),.v (.bool false),.v .zsl,.v .zsl,.v .zsl,.v (.int .i64 0),.v (.int .i64 0),.v .zsl]
theorem wQ (w:Wd) (rT:SvsS w.sv) (hS:Small w.tr) (hN:NwS w.net) (p:Nat) (hp:p<w.sv.length) (qM:p<w.tr.length) (b l:List Row) :
  ZA Tryz.prog 43 [.agg ((eWd w).map .v)] b l (fun r b' l'=>r=.agg (mvC w (b.length+l.length))∧b'=b∧l'=l++ZEA w p (b.length+l.length)):=by
 refine XA ZAN rfl kE ?_
 intro B g hB hR hE hA;simp only[EA]at hA
 have mY:(eWd w).map AV.v=(zWA w):=rfl
 rw[mY]at hA
 have tY:=rT.len
 have xX:=hS.np
 have cN:=fun b l=>d8 w.net hN b l
 simp only[eNw,ba,bl]at cN
 have c10:cp1 B w p 0=[]:=if_neg oM
 have c20:cp2 B w p 0=[]:=if_neg oM
 have s0:cvS w p (B.length+5) 0=[]:=rfl
 have p0:cvP w p (B.length+8) 0=[]:=rfl
 simp (disch:=first|decide|omega) only[a_wcop,hA,cellsOf,go_sem]
 refine ZA.nxt (cN _ _) ?_
 simp (disch:=first|decide|omega) only[hA,aa,go_sem]
 refine ZB (ι:=Nat) qR (fun i=>[(22,.v (.int .i64 i))]) 3 (fun i=>[.live 0 9 [(zWA w)],.live 0 9 [zZA],.live 0 9 [[.sl (B.length+3) i 0 i,.v (.int .i64 w.net.now),.v (.bool w.net.fifo),.v (.isl 4 (w.net.l.map eMs)),.v (.isl 1 (w.net.tm.map eI)),.v (.isl 2 (w.net.fates.map eFt)),.v (.int .i64 w.now),.v (.int .i64 w.sent),.v .zsl]],.live i 6 (cvS w p (B.length+5) i)]++cp1 B w p i)
  (fun i=>i≤w.sv.length) (fun i=>w.sv.length-i) 0 (an _) kM kA (fun e=>by
   rw[c10,s0]
   exact KA.nilcell (e:=e) (b:=B) (l:=[.live 0 9 [(zWA w)],.live 0 9 [zZA],.live 0 9 [[.v .zsl,.v (.int .i64 w.net.now),.v (.bool w.net.fifo),.v (.isl 4 (w.net.l.map eMs)),.v (.isl 1 (w.net.tm.map eI)),.v (.isl 2 (w.net.fates.map eFt)),.v (.int .i64 w.now),.v (.int .i64 w.sent),.v .zsl]]]) (i:=2) (k:=0) (j:=0) (sz:=6) rfl rfl rfl) ?_
 intro g1 aI bI aC i hi
 by_cases bB:i<w.sv.length
 ·have GZ:=ZL bB
  have hSs:=rT.all w.sv[i] (ap bB)
  have hsc:=hSs.code
  have ZIc:=hSs.vars
  have lR:w.sv.getD i dfSv=w.sv[i]:=YA bB
  obtain⟨s,hs⟩:∃s,w.sv[i]=s:=⟨_,rfl⟩
  rw[hs]at GZ hsc ZIc lR
  have cC:=fun b l=>PV s.code hsc b l
  have cVv:=fun b l=>KO s.vars ZIc b l
  have cVl:=fun b l=>SI s.vars ZIc b l
  have tl:=E7 (w:=w) (p:=p) (id:=B.length+5) hi
  have tk:=ZHv (w:=w) (p:=p) (id:=B.length+5) hi
  rcases jz i p with hlp|hep|y8
  ·have c1:cp1 B w p i=[]:=if_neg oM
   have c2:cp1 B w p (i+1)=[]:=if_neg oM
   have sn:cvS w p (B.length+5) i++[(zSA s)]=cvS w p (B.length+5) (i+1):=by have:=ZGS (w:=w) (p:=p) (id:=B.length+5) bB oM;rw[lR]at this;exact this
   have lt1:∀m,(∀row∈cvS w p (B.length+5) (i+1),∀c∈row,AVlt m c):=fun m=>ZFf oM
   rw[c1]
   simp (disch:=first|decide|omega) only[hA,aC,GZ,tl,tk,bg,bh,reduceCtorEq,xD,go_sem]
   refine ZA.nxt (cC _ _) ?_
   simp (disch:=first|decide|omega) only[hA,aC,GZ,tl,tk,bg,bh,reduceCtorEq,xD,go_sem]
   refine ZA.nxt (cVv _ _) ?_
   simp (disch:=first|decide|omega) only[hA,aC,GZ,tl,tk,bg,bh,reduceCtorEq,xD,go_sem]
   rw[sn]
   refine⟨i+1,bB,by simp only;omega,?_⟩
   simp only
   rw[c2]
   have h0:=lt1 (B.length+4)
   exact KA.kround (p:=qR) (k:=3) (junk:=[_,_]) kQ kA rfl aI kS kV hR (by simp (disch:=omega) only[eq_true h0,lts.down,Nat.reduceLT,Nat.reduceAdd])
  ·have ZId:=hep.symm
   subst ZId
   have c1:cp1 B w p p=[]:=if_neg oM
   have c2:cp1 B w p (p+1)=[.live 0 6 [(zSB (w.sv.getD p dfSv) B)],.live 1 1 (vs ((w.sv.getD p dfSv).vars.map eI))]:=if_pos oM
   rw[lR]at c2
   have sn:cvS w p (B.length+5) p++[(zSB s B)]=cvS w p (B.length+5) (p+1):=by have:=cvS_p (w:=w) (p:=p) (id:=B.length+5) bB;rw[lR]at this;exact this
   have lt1:∀m,B.length+6≤m→(∀row∈cvS w p (B.length+5) (p+1),∀c∈row,AVlt m c):=fun m h=>ZDZ oM
   rw[c1]
   simp (disch:=first|decide|omega) only[hA,aC,GZ,tl,tk,bg,bh,reduceCtorEq,xD,go_sem]
   refine ZA.nxt (cC _ _) ?_
   simp (disch:=first|decide|omega) only[hA,aC,GZ,tl,tk,bg,bh,reduceCtorEq,xD,go_sem]
   refine ZA.nxt (cVl _ _) ?_
   simp (disch:=first|decide|omega) only[hA,aC,GZ,tl,tk,bg,bh,reduceCtorEq,xD,go_sem]
   rw[sn]
   refine⟨p+1,bB,by simp only;omega,?_⟩
   simp only
   rw[c2]
   have h0:=lt1 (B.length+6) oM
   exact KA.kround (p:=qR) (k:=3) (junk:=[_]) kQ kA rfl aI kS kV hR (by simp (disch:=omega) only[eq_true h0,lts.down,Nat.reduceLT,Nat.reduceAdd])
  ·have c1:cp1 B w p i=[.live 0 6 [(zSB (w.sv.getD p dfSv) B)],.live 1 1 (vs ((w.sv.getD p dfSv).vars.map eI))]:=if_pos oM
   have c2:cp1 B w p (i+1)=[.live 0 6 [(zSB (w.sv.getD p dfSv) B)],.live 1 1 (vs ((w.sv.getD p dfSv).vars.map eI))]:=if_pos oM
   have sn:cvS w p (B.length+5) i++[(zSA s)]=cvS w p (B.length+5) (i+1):=by have:=ZGS (w:=w) (p:=p) (id:=B.length+5) bB oM;rw[lR]at this;exact this
   have lt1:∀m,B.length+6≤m→(∀row∈cvS w p (B.length+5) (i+1),∀c∈row,AVlt m c):=fun m h=>ZDZ oM
   rw[c1]
   simp (disch:=first|decide|omega) only[hA,aC,GZ,tl,tk,bg,bh,reduceCtorEq,xD,go_sem]
   refine ZA.nxt (cC _ _) ?_
   simp (disch:=first|decide|omega) only[hA,aC,GZ,tl,tk,bg,bh,reduceCtorEq,xD,go_sem]
   refine ZA.nxt (cVv _ _) ?_
   simp (disch:=first|decide|omega) only[hA,aC,GZ,tl,tk,bg,bh,reduceCtorEq,xD,go_sem]
   rw[sn]
   refine⟨i+1,bB,by simp only;omega,?_⟩
   simp only
   rw[c2]
   have h0:=lt1 (B.length+6) oM
   exact KA.kround (p:=qR) (k:=3) (junk:=[_,_]) kQ kA rfl aI kS kV hR (by simp (disch:=omega) only[eq_true h0,lts.down,Nat.reduceLT,Nat.reduceAdd])
 obtain rfl:i=w.sv.length:=by omega
 have c1:cp1 B w p w.sv.length=[.live 0 6 [(zSB (w.sv.getD p dfSv) B)],.live 1 1 (vs ((w.sv.getD p dfSv).vars.map eI))]:=if_pos oM
 have tS:cvS w p (B.length+5) w.sv.length=qH w p (B.length+5):=cv (by rw[iG];omega)
 rw[c1,tS]
 obtain⟨SV,i6⟩:∃SV,qH w p (B.length+5)=SV:=⟨_,rfl⟩
 have ZBa:∀m,B.length+6≤m→(∀row∈SV,∀c∈row,AVlt m c):=fun m h=>by rw[←i6];exact yW oM
 rw[i6]
 obtain⟨s,hs⟩:∃s,w.sv.getD p dfSv=s:=⟨_,rfl⟩
 simp (disch:=first|decide|omega) only[hA,aC,aa,go_sem]
 refine ZB (ι:=Nat) zR (fun i=>[(45,.v (.int .i64 i))]) 6 (fun i=>[.live 0 9 [(zWA w)],.live 0 9 [zZA],.live 0 9 [[.sl (B.length+3) w.sv.length 0 w.sv.length,.v (.int .i64 w.net.now),.v (.bool w.net.fifo),.v (.isl 4 (w.net.l.map eMs)),.v (.isl 1 (w.net.tm.map eI)),.v (.isl 2 (w.net.fates.map eFt)),.v (.int .i64 w.now),.v (.int .i64 w.sent),.sl (B.length+6) i 0 i]],.live w.sv.length 6 SV,.live 0 6 [(zSB (w.sv.getD p dfSv) B)],.live 1 1 (vs ((w.sv.getD p dfSv).vars.map eI)),.live i 3 (cvP w p (B.length+8) i)]++cp2 B w p i)
  (fun i=>i≤w.tr.length) (fun i=>w.tr.length-i) 0 (an _) kM kA (fun e=>by
   rw[c20,p0]
   exact KA.nilcell (e:=e) (b:=B) (l:=[.live 0 9 [(zWA w)],.live 0 9 [zZA],.live 0 9 [[.sl (B.length+3) w.sv.length 0 w.sv.length,.v (.int .i64 w.net.now),.v (.bool w.net.fifo),.v (.isl 4 (w.net.l.map eMs)),.v (.isl 1 (w.net.tm.map eI)),.v (.isl 2 (w.net.fates.map eFt)),.v (.int .i64 w.now),.v (.int .i64 w.sent),.v .zsl]],.live w.sv.length 6 SV,.live 0 6 [(zSB (w.sv.getD p dfSv) B)],.live 1 1 (vs ((w.sv.getD p dfSv).vars.map eI))]) (i:=2) (k:=0) (j:=8) (sz:=3) rfl rfl rfl) ?_
 intro g2 UP ZB9 NI i hi
 by_cases bB:i<w.tr.length
 ·have hgr:=QL bB
  have YH:=hS.ne w.tr[i] (ap bB)
  have hnv:=hS.nv w.tr[i] (ap bB)
  have hna:=hS.na w.tr[i] (ap bB)
  have lR:w.tr.getD i dfPr=w.tr[i]:=YA bB
  obtain⟨x,hx⟩:∃x,w.tr[i]=x:=⟨_,rfl⟩
  rw[hx]at hgr YH hnv hna lR
  have cV:=fun b l=>NV x.vars hnv b l
  have tl:=C7 (w:=w) (p:=p) (id:=B.length+8) hi
  have tk:=ZHw (w:=w) (p:=p) (id:=B.length+8) hi
  have hxe:x.evs.take x.evs.length=x.evs:=jf
  rcases jz i p with hlp|hep|y8
  ·have c1:cp2 B w p i=[]:=if_neg oM
   have c2:cp2 B w p (i+1)=[]:=if_neg oM
   have lt1:∀m,(∀row∈cvP w p (B.length+8) (i+1),∀c∈row,AVlt m c):=fun m=>pW oM
   have lt0:∀m,(∀row∈cvP w p (B.length+8) i,∀c∈row,AVlt m c):=fun m=>pW oM
   have sn:cvP w p (B.length+8) i++[[.v (.str x.name),.v (.isl 2 (x.vars.map eVr)),.v (.isl 5 (x.evs.map eEv))]]=cvP w p (B.length+8) (i+1):=by have:=ZGT (w:=w) (p:=p) (id:=B.length+8) bB oM;rw[lR]at this;exact this
   rw[c1]
   simp (disch:=first|decide|omega) only[hA,aC,NI,hgr,tl,tk,bg,bh,reduceCtorEq,xD,go_sem]
   refine ZA.nxt (cV _ _) ?_
   simp (disch:=first|decide|omega) only[hA,aC,NI,hgr,tl,tk,bg,bh,reduceCtorEq,xD,go_sem]
   refine ZB (ι:=Nat) LM (fun j=>[(58,.v (.int .i64 j))]) 8 (fun j=>[.live 0 9 [(zWA w)],.live 0 9 [zZA],.live 0 9 [[.sl (B.length+3) w.sv.length 0 w.sv.length,.v (.int .i64 w.net.now),.v (.bool w.net.fifo),.v (.isl 4 (w.net.l.map eMs)),.v (.isl 1 (w.net.tm.map eI)),.v (.isl 2 (w.net.fates.map eFt)),.v (.int .i64 w.now),.v (.int .i64 w.sent),.sl (B.length+6) i 0 i]],.live w.sv.length 6 SV,.live 0 6 [(zSB (w.sv.getD p dfSv) B)],.live 1 1 (vs ((w.sv.getD p dfSv).vars.map eI)),.live i 3 (cvP w p (B.length+8) i),.live 0 3 [[.v (.str x.name),.v (.isl 2 (x.vars.map eVr)),.sl (B.length+8) j 0 j]],.live j 5 (vs ((x.evs.take j).map eEv))]) (fun j=>j≤x.evs.length) (fun j=>x.evs.length-j) 0 (an _) kM kA (fun e=>KA.nilcell (e:=e) (b:=B) (l:=[.live 0 9 [(zWA w)],.live 0 9 [zZA],.live 0 9 [[.sl (B.length+3) w.sv.length 0 w.sv.length,.v (.int .i64 w.net.now),.v (.bool w.net.fifo),.v (.isl 4 (w.net.l.map eMs)),.v (.isl 1 (w.net.tm.map eI)),.v (.isl 2 (w.net.fates.map eFt)),.v (.int .i64 w.now),.v (.int .i64 w.sent),.sl (B.length+6) i 0 i]],.live w.sv.length 6 SV,.live 0 6 [(zSB (w.sv.getD p dfSv) B)],.live 1 1 (vs ((w.sv.getD p dfSv).vars.map eI)),.live i 3 (cvP w p (B.length+8) i),.live 0 3 [[.v (.str x.name),.v (.isl 2 (x.vars.map eVr)),.v .zsl]]]) (i:=7) (k:=0) (j:=2) (sz:=5) rfl rfl rfl) ?_
   intro g3 hE3 hEE3 IQ j hj
   by_cases OZ:j<x.evs.length
   ·have TK:=bJ OZ
    have hja:=hna x.evs[j] (ap OZ)
    have cA:=fun b l=>uK x.evs[j].asg hja b l
    have vl:((x.evs.take j).map eEv).length=j:=by rw[aa,bu];omega
    have vt:List.take j (vs ((x.evs.take j).map eEv))=vs ((x.evs.take j).map eEv):=cv (by rw[gC,vl];omega)
    have vt2:List.take j ((x.evs.take j).map eEv)=(x.evs.take j).map eEv:=cv (by rw[vl];omega)
    have x6:(x.evs.take j).map eEv++[[.int .i64 x.evs[j].kind,.int .i64 x.evs[j].peer,.int .i64 x.evs[j].msg,.int .i64 x.evs[j].time,.isl 2 (x.evs[j].asg.map YN)]]=(x.evs.take (j+1)).map eEv:=by rw[gu,ae OZ,ci];rfl
    simp (disch:=first|decide|omega) only[hA,aC,NI,IQ,TK,vl,vt,vt2,bg,bh,reduceCtorEq,xD,go_sem]
    refine ZA.nxt (cA _ _) ?_
    simp (disch:=first|decide|omega) only[hA,aC,NI,IQ,TK,vl,vt,vt2,bg,bh,reduceCtorEq,xD,go_sem]
    rw[x6]
    refine⟨j+1,OZ,by simp only;omega,?_⟩
    have h1:=ZBa (B.length+9) oM
    have h0:=lt0 (B.length+9)
    exact KA.kround (p:=LM) (k:=8) (junk:=[_,_]) kQ kA rfl hE3 kS kV hR (by simp (disch:=omega) only[eq_true h0,eq_true h1,lts.down,Nat.reduceLT,Nat.reduceAdd])
   obtain rfl:j=x.evs.length:=by omega
   rw[hxe]
   simp (disch:=first|decide|omega) only[hA,aC,NI,IQ,tl,tk,bg,bh,reduceCtorEq,xD,go_sem]
   refine⟨i+1,bB,by simp only;omega,?_⟩
   simp only
   rw[c2,←sn]
   have h0:=lt1 (B.length+7)
   rw[←sn]at h0
   have h1:=ZBa (B.length+7) oM
   refine KA.kroundG (i:=8) (ver:=x.evs.length) (sz:=5) (rows:=x.evs.map eEv) (junk:=[.live 0 3 [[.v (.str x.name),.v (.isl 2 (x.vars.map eVr)),.v (.isl 5 (x.evs.map eEv))]],.dead x.evs.length,.live 0 3 [[.v (.str x.name),.v (.isl 2 (x.vars.map eVr)),.v (.isl 5 (x.evs.map eEv))]]]) (p:=zR) (k:=6) rfl kQ kA ?_ UP kS kS kV hR (by simp (disch:=omega) only[eq_true h0,eq_true h1,lts.down,Nat.reduceLT,Nat.reduceAdd]) kV
   have hz:∀(a c d:Nat),a≠B.length+8→QF (B.length+8) x.evs.length 5 (x.evs.map eEv) (.sl a c 0 d)=.sl a c 0 d:=fun a c d h=>by simp[QF,h]
   have hy:QF (B.length+8) x.evs.length 5 (x.evs.map eEv) (.sl (B.length+8) x.evs.length 0 x.evs.length)=.v (.isl 5 (x.evs.map eEv)):=iM (by rw[aa])
   have hv:∀y:IV,QF (B.length+8) x.evs.length 5 (x.evs.map eEv) (.v y)=.v y:=fun _=>rfl
   have hSf:=dM (ver:=x.evs.length) (sz:=5) (rows:=x.evs.map eEv) h1 (show B.length+7≤B.length+8 by omega)
   have hPf:=H7 (ver:=x.evs.length) (sz:=5) (rows:=x.evs.map eEv) (v:=i+1) (z:=3) (r:=[.v (.str x.name),.v (.isl 2 (x.vars.map eVr)),.sl (B.length+8) x.evs.length 0 x.evs.length]) (lt0 (B.length+7)) (show B.length+7≤B.length+8 by omega)
   have hV:∀r:List (List IV),(vs r).map (fun y=>y.map (QF (B.length+8) x.evs.length 5 (x.evs.map eEv)))=vs r:=fun r=>dM (m:=0) (YL.2 trivial) (an _)
   have ZEW:=hPf
   unfold qF at hPf
   simp only[ba,bl,hz,hy,hv]at ZEW
   simp only[bw,cg,dj,cz,ba,bl,ZEW]
   unfold qF
   simp (disch:=omega) only[ba,bl,hz,hy,hv,hSf,hV]
  ·have ZId:=hep.symm
   subst ZId
   have c1:cp2 B w p p=[]:=if_neg oM
   have c2:cp2 B w p (p+1)=[.live 0 3 [[.v (.str (w.tr.getD p dfPr).name),.v (.isl 2 ((w.tr.getD p dfPr).vars.map eVr)),.sl (B.length+8) (w.tr.getD p dfPr).evs.length 0 (w.tr.getD p dfPr).evs.length]],.live (w.tr.getD p dfPr).evs.length 5 (vs ((w.tr.getD p dfPr).evs.map eEv))]:=if_pos oM
   rw[lR]at c2
   have lt1:∀m,B.length+9≤m→(∀row∈cvP w p (B.length+8) (p+1),∀c∈row,AVlt m c):=fun m h=>E5 oM
   have lt0:∀m,(∀row∈cvP w p (B.length+8) p,∀c∈row,AVlt m c):=fun m=>pW oM
   have sn:cvP w p (B.length+8) p++[[.v (.str x.name),.v (.isl 2 (x.vars.map eVr)),.sl (B.length+8) x.evs.length 0 x.evs.length]]=cvP w p (B.length+8) (p+1):=by have:=cvP_p (w:=w) (p:=p) (id:=B.length+8) bB;rw[lR]at this;exact this
   rw[c1]
   simp (disch:=first|decide|omega) only[hA,aC,NI,hgr,tl,tk,bg,bh,reduceCtorEq,xD,go_sem]
   refine ZA.nxt (cV _ _) ?_
   simp (disch:=first|decide|omega) only[hA,aC,NI,hgr,tl,tk,bg,bh,reduceCtorEq,xD,go_sem]
   refine ZB (ι:=Nat) LM (fun j=>[(58,.v (.int .i64 j))]) 8 (fun j=>[.live 0 9 [(zWA w)],.live 0 9 [zZA],.live 0 9 [[.sl (B.length+3) w.sv.length 0 w.sv.length,.v (.int .i64 w.net.now),.v (.bool w.net.fifo),.v (.isl 4 (w.net.l.map eMs)),.v (.isl 1 (w.net.tm.map eI)),.v (.isl 2 (w.net.fates.map eFt)),.v (.int .i64 w.now),.v (.int .i64 w.sent),.sl (B.length+6) p 0 p]],.live w.sv.length 6 SV,.live 0 6 [(zSB (w.sv.getD p dfSv) B)],.live 1 1 (vs ((w.sv.getD p dfSv).vars.map eI)),.live p 3 (cvP w p (B.length+8) p),.live 0 3 [[.v (.str x.name),.v (.isl 2 (x.vars.map eVr)),.sl (B.length+8) j 0 j]],.live j 5 (vs ((x.evs.take j).map eEv))]) (fun j=>j≤x.evs.length) (fun j=>x.evs.length-j) 0 (an _) kM kA (fun e=>KA.nilcell (e:=e) (b:=B) (l:=[.live 0 9 [(zWA w)],.live 0 9 [zZA],.live 0 9 [[.sl (B.length+3) w.sv.length 0 w.sv.length,.v (.int .i64 w.net.now),.v (.bool w.net.fifo),.v (.isl 4 (w.net.l.map eMs)),.v (.isl 1 (w.net.tm.map eI)),.v (.isl 2 (w.net.fates.map eFt)),.v (.int .i64 w.now),.v (.int .i64 w.sent),.sl (B.length+6) p 0 p]],.live w.sv.length 6 SV,.live 0 6 [(zSB (w.sv.getD p dfSv) B)],.live 1 1 (vs ((w.sv.getD p dfSv).vars.map eI)),.live p 3 (cvP w p (B.length+8) p),.live 0 3 [[.v (.str x.name),.v (.isl 2 (x.vars.map eVr)),.v .zsl]]]) (i:=7) (k:=0) (j:=2) (sz:=5) rfl rfl rfl) ?_
   intro g3 hE3 hEE3 IQ j hj
   by_cases OZ:j<x.evs.length
   ·have TK:=bJ OZ
    have hja:=hna x.evs[j] (ap OZ)
    have cA:=fun b l=>uK x.evs[j].asg hja b l
    have vl:((x.evs.take j).map eEv).length=j:=by rw[aa,bu];omega
    have vt:List.take j (vs ((x.evs.take j).map eEv))=vs ((x.evs.take j).map eEv):=cv (by rw[gC,vl];omega)
    have vt2:List.take j ((x.evs.take j).map eEv)=(x.evs.take j).map eEv:=cv (by rw[vl];omega)
    have x6:(x.evs.take j).map eEv++[[.int .i64 x.evs[j].kind,.int .i64 x.evs[j].peer,.int .i64 x.evs[j].msg,.int .i64 x.evs[j].time,.isl 2 (x.evs[j].asg.map YN)]]=(x.evs.take (j+1)).map eEv:=by rw[gu,ae OZ,ci];rfl
    simp (disch:=first|decide|omega) only[hA,aC,NI,IQ,TK,vl,vt,vt2,bg,bh,reduceCtorEq,xD,go_sem]
    refine ZA.nxt (cA _ _) ?_
    simp (disch:=first|decide|omega) only[hA,aC,NI,IQ,TK,vl,vt,vt2,bg,bh,reduceCtorEq,xD,go_sem]
    rw[x6]
    refine⟨j+1,OZ,by simp only;omega,?_⟩
    have h1:=ZBa (B.length+9) oM
    have h0:=lt0 (B.length+9)
    exact KA.kround (p:=LM) (k:=8) (junk:=[_,_]) kQ kA rfl hE3 kS kV hR (by simp (disch:=omega) only[eq_true h0,eq_true h1,lts.down,Nat.reduceLT,Nat.reduceAdd])
   obtain rfl:j=x.evs.length:=by omega
   rw[hxe]
   simp (disch:=first|decide|omega) only[hA,aC,NI,IQ,tl,tk,bg,bh,reduceCtorEq,xD,go_sem]
   refine⟨p+1,bB,by simp only;omega,?_⟩
   simp only
   rw[c2,sn]
   have h0:=lt1 (B.length+9) oM
   have h1:=ZBa (B.length+9) oM
   exact KA.kround (p:=zR) (k:=6) (junk:=[_]) kQ kA rfl UP kS kV hR (by simp (disch:=omega) only[eq_true h0,eq_true h1,lts.down,Nat.reduceLT,Nat.reduceAdd])
  ·have c1:cp2 B w p i=[.live 0 3 [[.v (.str (w.tr.getD p dfPr).name),.v (.isl 2 ((w.tr.getD p dfPr).vars.map eVr)),.sl (B.length+8) (w.tr.getD p dfPr).evs.length 0 (w.tr.getD p dfPr).evs.length]],.live (w.tr.getD p dfPr).evs.length 5 (vs ((w.tr.getD p dfPr).evs.map eEv))]:=if_pos oM
   have c2:cp2 B w p (i+1)=[.live 0 3 [[.v (.str (w.tr.getD p dfPr).name),.v (.isl 2 ((w.tr.getD p dfPr).vars.map eVr)),.sl (B.length+8) (w.tr.getD p dfPr).evs.length 0 (w.tr.getD p dfPr).evs.length]],.live (w.tr.getD p dfPr).evs.length 5 (vs ((w.tr.getD p dfPr).evs.map eEv))]:=if_pos oM
   have lt1:∀m,B.length+9≤m→(∀row∈cvP w p (B.length+8) (i+1),∀c∈row,AVlt m c):=fun m h=>E5 oM
   have lt0:∀m,B.length+9≤m→(∀row∈cvP w p (B.length+8) i,∀c∈row,AVlt m c):=fun m h=>E5 oM
   have sn:cvP w p (B.length+8) i++[[.v (.str x.name),.v (.isl 2 (x.vars.map eVr)),.v (.isl 5 (x.evs.map eEv))]]=cvP w p (B.length+8) (i+1):=by have:=ZGT (w:=w) (p:=p) (id:=B.length+8) bB oM;rw[lR]at this;exact this
   rw[c1]
   simp (disch:=first|decide|omega) only[hA,aC,NI,hgr,tl,tk,bg,bh,reduceCtorEq,xD,go_sem]
   refine ZA.nxt (cV _ _) ?_
   simp (disch:=first|decide|omega) only[hA,aC,NI,hgr,tl,tk,bg,bh,reduceCtorEq,xD,go_sem]
   refine ZB (ι:=Nat) LM (fun j=>[(58,.v (.int .i64 j))]) 10 (fun j=>[.live 0 9 [(zWA w)],.live 0 9 [zZA],.live 0 9 [[.sl (B.length+3) w.sv.length 0 w.sv.length,.v (.int .i64 w.net.now),.v (.bool w.net.fifo),.v (.isl 4 (w.net.l.map eMs)),.v (.isl 1 (w.net.tm.map eI)),.v (.isl 2 (w.net.fates.map eFt)),.v (.int .i64 w.now),.v (.int .i64 w.sent),.sl (B.length+6) i 0 i]],.live w.sv.length 6 SV,.live 0 6 [(zSB (w.sv.getD p dfSv) B)],.live 1 1 (vs ((w.sv.getD p dfSv).vars.map eI)),.live i 3 (cvP w p (B.length+8) i),.live 0 3 [[.v (.str (w.tr.getD p dfPr).name),.v (.isl 2 ((w.tr.getD p dfPr).vars.map eVr)),.sl (B.length+8) (w.tr.getD p dfPr).evs.length 0 (w.tr.getD p dfPr).evs.length]],.live (w.tr.getD p dfPr).evs.length 5 (vs ((w.tr.getD p dfPr).evs.map eEv)),.live 0 3 [[.v (.str x.name),.v (.isl 2 (x.vars.map eVr)),.sl (B.length+10) j 0 j]],.live j 5 (vs ((x.evs.take j).map eEv))]) (fun j=>j≤x.evs.length) (fun j=>x.evs.length-j) 0 (an _) kM kA (fun e=>KA.nilcell (e:=e) (b:=B) (l:=[.live 0 9 [(zWA w)],.live 0 9 [zZA],.live 0 9 [[.sl (B.length+3) w.sv.length 0 w.sv.length,.v (.int .i64 w.net.now),.v (.bool w.net.fifo),.v (.isl 4 (w.net.l.map eMs)),.v (.isl 1 (w.net.tm.map eI)),.v (.isl 2 (w.net.fates.map eFt)),.v (.int .i64 w.now),.v (.int .i64 w.sent),.sl (B.length+6) i 0 i]],.live w.sv.length 6 SV,.live 0 6 [(zSB (w.sv.getD p dfSv) B)],.live 1 1 (vs ((w.sv.getD p dfSv).vars.map eI)),.live i 3 (cvP w p (B.length+8) i),.live 0 3 [[.v (.str (w.tr.getD p dfPr).name),.v (.isl 2 ((w.tr.getD p dfPr).vars.map eVr)),.sl (B.length+8) (w.tr.getD p dfPr).evs.length 0 (w.tr.getD p dfPr).evs.length]],.live (w.tr.getD p dfPr).evs.length 5 (vs ((w.tr.getD p dfPr).evs.map eEv)),.live 0 3 [[.v (.str x.name),.v (.isl 2 (x.vars.map eVr)),.v .zsl]]]) (i:=9) (k:=0) (j:=2) (sz:=5) rfl rfl rfl) ?_
   intro g3 hE3 hEE3 IQ j hj
   by_cases OZ:j<x.evs.length
   ·have TK:=bJ OZ
    have hja:=hna x.evs[j] (ap OZ)
    have cA:=fun b l=>uK x.evs[j].asg hja b l
    have vl:((x.evs.take j).map eEv).length=j:=by rw[aa,bu];omega
    have vt:List.take j (vs ((x.evs.take j).map eEv))=vs ((x.evs.take j).map eEv):=cv (by rw[gC,vl];omega)
    have vt2:List.take j ((x.evs.take j).map eEv)=(x.evs.take j).map eEv:=cv (by rw[vl];omega)
    have x6:(x.evs.take j).map eEv++[[.int .i64 x.evs[j].kind,.int .i64 x.evs[j].peer,.int .i64 x.evs[j].msg,.int .i64 x.evs[j].time,.isl 2 (x.evs[j].asg.map YN)]]=(x.evs.take (j+1)).map eEv:=by rw[gu,ae OZ,ci];rfl
    simp (disch:=first|decide|omega) only[hA,aC,NI,IQ,TK,vl,vt,vt2,bg,bh,reduceCtorEq,xD,go_sem]
    refine ZA.nxt (cA _ _) ?_
    simp (disch:=first|decide|omega) only[hA,aC,NI,IQ,TK,vl,vt,vt2,bg,bh,reduceCtorEq,xD,go_sem]
    rw[x6]
    refine⟨j+1,OZ,by simp only;omega,?_⟩
    have h1:=ZBa (B.length+11) oM
    have h0:=lt0 (B.length+11) oM
    exact KA.kround (p:=LM) (k:=10) (junk:=[_,_]) kQ kA rfl hE3 kS kV hR (by simp (disch:=omega) only[eq_true h0,eq_true h1,lts.down,Nat.reduceLT,Nat.reduceAdd])
   obtain rfl:j=x.evs.length:=by omega
   rw[hxe]
   simp (disch:=first|decide|omega) only[hA,aC,NI,IQ,tl,tk,bg,bh,reduceCtorEq,xD,go_sem]
   refine⟨i+1,bB,by simp only;omega,?_⟩
   simp only
   rw[c2,←sn]
   have h0:=lt1 (B.length+9) oM
   rw[←sn]at h0
   have h1:=ZBa (B.length+9) oM
   refine KA.kroundG (i:=10) (ver:=x.evs.length) (sz:=5) (rows:=x.evs.map eEv) (junk:=[.live 0 3 [[.v (.str x.name),.v (.isl 2 (x.vars.map eVr)),.v (.isl 5 (x.evs.map eEv))]],.dead x.evs.length,.live 0 3 [[.v (.str x.name),.v (.isl 2 (x.vars.map eVr)),.v (.isl 5 (x.evs.map eEv))]]]) (p:=zR) (k:=6) rfl kQ kA ?_ UP kS kS kV hR (by simp (disch:=omega) only[eq_true h0,eq_true h1,lts.down,Nat.reduceLT,Nat.reduceAdd]) kV
   have hz:∀(a c d:Nat),a≠B.length+10→QF (B.length+10) x.evs.length 5 (x.evs.map eEv) (.sl a c 0 d)=.sl a c 0 d:=fun a c d h=>by simp[QF,h]
   have hy:QF (B.length+10) x.evs.length 5 (x.evs.map eEv) (.sl (B.length+10) x.evs.length 0 x.evs.length)=.v (.isl 5 (x.evs.map eEv)):=iM (by rw[aa])
   have hv:∀y:IV,QF (B.length+10) x.evs.length 5 (x.evs.map eEv) (.v y)=.v y:=fun _=>rfl
   have hSf:=dM (ver:=x.evs.length) (sz:=5) (rows:=x.evs.map eEv) h1 (show B.length+9≤B.length+10 by omega)
   have hPf:=H7 (ver:=x.evs.length) (sz:=5) (rows:=x.evs.map eEv) (v:=i+1) (z:=3) (r:=[.v (.str x.name),.v (.isl 2 (x.vars.map eVr)),.sl (B.length+10) x.evs.length 0 x.evs.length]) (lt0 (B.length+9) oM) (show B.length+9≤B.length+10 by omega)
   have hV:∀r:List (List IV),(vs r).map (fun y=>y.map (QF (B.length+10) x.evs.length 5 (x.evs.map eEv)))=vs r:=fun r=>dM (m:=0) (YL.2 trivial) (an _)
   have ZEW:=hPf
   unfold qF at hPf
   simp only[ba,bl,hz,hy,hv]at ZEW
   simp only[bw,cg,dj,cz,ba,bl,ZEW]
   unfold qF
   simp (disch:=omega) only[ba,bl,hz,hy,hv,hSf,hV]
 obtain rfl:i=w.tr.length:=by omega
 have c2:cp2 B w p w.tr.length=[.live 0 3 [[.v (.str (w.tr.getD p dfPr).name),.v (.isl 2 ((w.tr.getD p dfPr).vars.map eVr)),.sl (B.length+8) (w.tr.getD p dfPr).evs.length 0 (w.tr.getD p dfPr).evs.length]],.live (w.tr.getD p dfPr).evs.length 5 (vs ((w.tr.getD p dfPr).evs.map eEv))]:=if_pos oM
 have tP:cvP w p (B.length+8) w.tr.length=BO w p (B.length+8):=cv (by rw[gI];omega)
 rw[c2,tP]
 simp (disch:=first|decide|omega) only[hA,aC,NI,aa,go_sem]
 refine NJ (.inr rfl) (xs:=[.agg [.sl (B.length+3) w.sv.length 0 w.sv.length,.v (.int .i64 w.net.now),.v (.bool w.net.fifo),.v (.isl 4 (w.net.l.map eMs)),.v (.isl 1 (w.net.tm.map eI)),.v (.isl 2 (w.net.fates.map eFt)),.v (.int .i64 w.now),.v (.int .i64 w.sent),.sl (B.length+6) w.tr.length 0 w.tr.length]]) (y:=.agg (mvC w B.length)) (l':=ZEA w p B.length) kR (m:=4) rfl (fun j=>match j with|0=>3|1=>5|2=>6|_=>8) (fun a c ha hc h=>?_) (fun j r' h=>?_) ?_ hR hB ⟨by rw[hB,am],rfl,by rw[hB,am]⟩
 ·obtain rfl|rfl|rfl|rfl:a=0∨a=1∨a=2∨a=3:=oM<;>(obtain rfl|rfl|rfl|rfl:c=0∨c=1∨c=2∨c=3:=oM)<;>first|rfl|(simp at h)
 ·match j,h with
  |0,h =>
    cases h
    refine⟨.live w.sv.length 6 SV,rfl,rfl,rfl,by rw[←i6,iG,iG],fun k r r' h1 h2=>?_⟩
    rw[←i6]at h1
    have hk:k<w.sv.length:=by
     have:=(aj.1 h1).1
     rwa [iG]at this
    by_cases V5:p=k
    ·subst V5
     rw[CN hp]at h1 h2
     cases h1;cases h2
     exact .cons (.v _) (.cons (.v _) (.cons (.v _) (.cons (Rn.slE (j:=1) rfl oM) (.cons (.v _) (.cons (.v _) .nil)))))
    ·rw[I5 hk V5]at h1 h2
     cases h1;cases h2
     exact RnL.plain
  |1,h=>cases h;exact⟨_,rfl,RnR.plain⟩
  |2,h =>
    cases h
    refine⟨.live w.tr.length 3 (BO w p (B.length+8)),rfl,rfl,rfl,by rw[gI,gI],fun k r r' h1 h2=>?_⟩
    have hk:k<w.tr.length:=by
     have:=(aj.1 h1).1
     rwa [gI]at this
    by_cases V5:p=k
    ·subst V5
     rw[AW qM]at h1 h2
     cases h1;cases h2
     exact .cons (.v _) (.cons (.v _) (.cons (Rn.slE (j:=3) rfl oM) .nil))
    ·rw[D5 hk V5]at h1 h2
     cases h1;cases h2
     exact RnL.plain
  |3,h=>cases h;exact⟨_,rfl,RnR.plain⟩
  |j+4,h=>cases h
 ·rw[jW]
  exact Rn.aggL (.cons (Rn.slE (j:=0) rfl oM) (.cons (.v _) (.cons (.v _) (.cons (.v _) (.cons (.v _) (.cons (.v _) (.cons (.v _) (.cons (.v _) (.cons (Rn.slE (j:=2) rfl oM) .nil)))))))))
def a_wStep:AFunc:=({c:=_}:CF Tryz.prog 19).c
theorem Z4:CA Tryz.prog 19=some a_wStep:=by kernel_rfl
def a_wTick:AFunc:=({c:=_}:CF Tryz.prog 16).c
theorem O3:CA Tryz.prog 16=some a_wTick:=by kernel_rfl

theorem ZA.split {P:Program} {f:Nat} {args:List AV} {b l X1 X2:List Row} {x:AV} (hl:X1.length=b.length) (h:ZA P f args (b++l) [] (fun r b' l'=>r=x∧b'=X1++X2∧l'=[])):ZA P f args b l (fun r b' l'=>r=x∧b'=X1∧l'=X2):=by
 refine⟨h.1,fun F L w us s hr=>Calls.mono (h.2 F L w us (by rw[cj];exact s) hr) ?_⟩
 rintro en w' ⟨v,x',b',l',F',L',h1,h2,h3,h4,h5,rfl,rfl,rfl⟩
 rw[cj]at h3
 rw[cj,cj]at h4
 exact⟨v,_,X1,X2,F',L',h1,h2,h3,h4,hl,rfl,rfl,rfl⟩
theorem ZH9 {B P:List Row} {w:Wd} {p q:Nat} (hq:q=B.length+P.length):∃f n,q+5≤n∧∀w':Wd,B++(P++[wV w' p q,XU w' p,qX w' p q,yV w' p,zX w' q])=kB n (mvF f w' p q):=by
 obtain⟨n0,f,hn,hBf,_⟩:=ZGQ (B++P)
 rw[am,←hq]at hn
 subst hn
 refine⟨f,n0+5,ah _,fun w'=>?_⟩
 rw[←ay,hBf]
 apply ek
 intro j
 by_cases hj:j<n0
 ·rw[aw (by rw[GB];exact hj),eH hj,eH oM,YU (.inl hj)]
 ·rw[au (by rw[GB];omega),GB]
  by_cases hj5:j<n0+5
  ·rw[eH hj5]
   obtain rfl|rfl|rfl|rfl|rfl:j=n0∨j=n0+1∨j=n0+2∨j=n0+3∨j=n0+4:=by omega
   ·rw[fz,VU];rfl
   ·rw[co,gV];rfl
   ·rw[co,vX];rfl
   ·rw[co,jX];rfl
   ·rw[co,JU];rfl
  ·rw[ce kT,ce (by rw[GB];omega)]
theorem ZCN (w:Wd) (q:Nat):mvC w q=[.sl q w.sv.length 0 w.sv.length,.v (.int .i64 w.net.now),.v (.bool w.net.fifo),.v (.isl 4 (w.net.l.map eMs)),.v (.isl 1 (w.net.tm.map eI)),.v (.isl 2 (w.net.fates.map eFt)),.v (.int .i64 w.now),.v (.int .i64 w.sent),.sl (q+2) w.tr.length 0 w.tr.length]:=rfl
theorem b9 (w:Wd) (p q:Nat):ZEA w p q=[wV w p q,XU w p,qX w p q,yV w p]:=rfl
theorem AA (w:Wd):(eWd w).map AV.v=(zWA w):=rfl
theorem SG {n:Nat} {l:List Row} (e:Int):Dv n l (.tup [.agg zZA,.v (.int .i64 e)]) (.tup [.agg ((eWd wd0).map .v),.v (.int .i64 e)]):=
 Dv.tupL (.cons (Dv.aggL (.cons (.z 6) (.cons (.v _) (.cons (.v _) (.cons (.z 4) (.cons (.z 1) (.cons (.z 2) (.cons (.v _) (.cons (.v _) (.cons (.z 3) .nil)))))))))) (.cons (.v _) .nil))
noncomputable def iL (w:Wd) (p:Int):Wd×Int:=if wdB w=true then (if p<0∨(w.sv.length:Int)≤p then (wd0,2) else if IG w p.toNat=true then stW w p.toNat else (wd0,6)) else (wd0,1)
theorem z5 {w:Wd} {p:Nat} (h:(stW w p).2≠0):(stW w p).1=wd0:=by
 unfold stW stI at h⊢
 split at h<;>rename_i h1
 ·exact absurd rfl h
 rw[if_neg h1]
 split at h<;>rename_i h2
 ·rw[if_pos h2]
  split at h<;>rename_i h3
  ·exact absurd rfl h
  ·rw[if_neg h3]
 rw[if_neg h2]
 split at h<;>rename_i h4
 ·split at h<;>exact absurd rfl h
 rw[if_neg h4]
 split at h<;>rename_i h5
 ·rw[if_pos h5]
  split at h<;>rename_i h6
  ·exact absurd rfl h
  ·rw[if_neg h6]
 rw[if_neg h5]
 split at h<;>exact absurd rfl h
theorem xK (w:Wd) (rT:SvsS w.sv) (hS:Small w.tr) (hN:NwS w.net) (h0:0<w.sv.length) (h1:0<w.tr.length) (b l:List Row) :
  ZA Tryz.prog 43 [.agg ((eWd w).map .v)] b l (fun r b' l'=>r=.agg ((eWd w).map .v)∧b'=b∧l'=l):=
 ZA.deep (N:=ZEA w 0 (b.length+l.length)) (by have:=ZDh (n:=b.length+l.length) (i:=0) (l:=ZEA w 0 (b.length+l.length)) h0 h1 rfl rfl rfl rfl;exact this) (wQ w rT hS hN 0 h0 h1 b l)
theorem rN (w:Wd) (hS:Sm w.tr) (hN:Nm w.tr) (rT:SvsS w.sv) (hSn:NwS w.net) (p:Int) (b l:List Row):ZA Tryz.prog 19 [.agg ((eWd w).map .v),.v (.int .i64 p)] b l (fun r b' l'=>r=.tup [.agg ((eWd (iL w p).1).map .v),.v (.int .i64 (iL w p).2)]∧b'=b∧l'=l):=by
 refine XA Z4 rfl kE ?_
 intro B g hB hR hE hA;simp only[EA]at hA
 have cV:=fun b l=>FF w hS hN rT hSn b l
 rw[AA]at hA cV
 have tY:=rT.len
 simp (disch:=first|decide|omega) only[a_wStep,hA,cellsOf,go_sem]
 refine ZA.nxt (cV _ _) ?_
 cases t1:wdB w
 ·have hr:iL w p=(wd0,1):=by unfold iL;rw[if_neg (by rw[t1];simp)]
  rw[hr]
  simp (disch:=first|decide|omega) only[hA,cellsOf,go_sem]
  exact yC (.inr rfl) (xs:=[.agg zZA,.v (.int .i64 1)]) kR (SG 1) hR hB ⟨rfl,rfl,rfl⟩
 have hw:=WdV.of t1
 by_cases h1:p<0
 ·have d1:decide (p<0)=true:=ag h1
  have hr:iL w p=(wd0,2):=by unfold iL;rw[if_pos t1,if_pos (.inl h1)]
  rw[hr]
  simp (disch:=first|decide|omega) only[hA,d1,cellsOf,go_sem]
  exact yC (.inr rfl) (xs:=[.agg zZA,.v (.int .i64 2)]) kR (SG 2) hR hB ⟨rfl,rfl,rfl⟩
 have d1:decide (p<0)=false:=ak h1
 obtain⟨k,rfl⟩:∃k:Nat,p=k:=⟨p.toNat,by omega⟩
 by_cases h2:w.sv.length≤k
 ·have d2:decide ((k:Int)≥(w.sv.length:Int))=true:=ag oM
  have d2':decide ((w.sv.length:Int)≤(k:Int))=true:=d2
  have hr:iL w k=(wd0,2):=by unfold iL;rw[if_pos t1,if_pos (.inr oM)]
  rw[hr]
  simp (disch:=first|decide|omega) only[hA,d1,d2,d2',aa,go_sem]
  exact yC (.inr rfl) (xs:=[.agg zZA,.v (.int .i64 2)]) kR (SG 2) hR hB ⟨rfl,rfl,rfl⟩
 have d2:decide ((k:Int)≥(w.sv.length:Int))=false:=ak oM
 have d2':decide ((w.sv.length:Int)≤(k:Int))=false:=d2
 have YM:k<w.sv.length:=by omega
 have hkt:k<w.tr.length:=by rw[hw.len];exact YM
 have cE:=fun b l=>bR w rT hw.small hw.sv hw.len k YM b l
 rw[AA]at cE
 simp (disch:=first|decide|omega) only[hA,d1,d2,d2',aa,go_sem]
 refine ZA.nxt (cE _ _) ?_
 cases t2:IG w k
 ·have hr:iL w k=(wd0,6):=by unfold iL;rw[if_pos t1,if_neg oM,bs,if_neg (by rw[t2];simp)]
  rw[hr]
  simp (disch:=first|decide|omega) only[hA,cellsOf,go_sem]
  exact yC (.inr rfl) (xs:=[.agg zZA,.v (.int .i64 6)]) kR (SG 6) hR hB ⟨rfl,rfl,rfl⟩
 have hr:iL w k=stW w k:=by unfold iL;rw[if_pos t1,if_neg oM,bs,if_pos t2]
 rw[hr]
 have cC:=fun b l=>wQ w rT hw.small hSn k YM hkt b l
 rw[AA]at cC
 simp only[ZCN,b9]at cC
 simp (disch:=first|decide|omega) only[hA,aa,go_sem]
 refine ZA.nxt (cC _ _) ?_
 simp (disch:=first|decide|omega) only[hA,aa,go_sem]
 obtain⟨f,n,hn,VG⟩:=ZH9 (B:=B) (P:=[.live 0 9 [(zWA w)],.live 0 9 [zZA]]) (w:=w) (p:=k) (q:=B.length+2) rfl
 have cS:=ZA.split (l:=[.live 0 9 [(zWA w)],.live 0 9 [zZA]]++[wV w k (B.length+2),XU w k,qX w k (B.length+2),yV w k,zX w (B.length+2)]) (b:=B) rfl (by
  have:=a9 f w k (B.length+2) n hn hw YM t2 (B++([.live 0 9 [(zWA w)],.live 0 9 [zZA]]++[wV w k (B.length+2),XU w k,qX w k (B.length+2),yV w k,zX w (B.length+2)])) [] (VG w)
  rw[←VG]at this
  exact this)
 refine ZA.nxt cS ?_
 by_cases he:(stW w k).2=0
 ·have e0:((stW w k).2 != 0)=false:=by rw[he];rfl
  have hM:stM w k=(stW w k).1:=by unfold stM;rw[if_pos he]
  obtain⟨s',ev,n',sn',h3,h4⟩:=ZA5 hw YM t2 he
  have sQ:k<(stW w k).1.sv.length:=by rw[h3];show k<(w.sv.set k s').length;rw[ec];exact YM
  have uT:k<(stW w k).1.tr.length:=by rw[h3,h4.tr,mG];exact hkt
  obtain⟨W,hW⟩:∃W,(stW w k).1=W:=⟨_,rfl⟩
  rw[hM,hW]
  rw[hW]at sQ uT
  rw[he]
  have m4:zX W (B.length+2)=.live 0 9 [[.sl (B.length+2) W.sv.length 0 W.sv.length,.v (.int .i64 W.net.now),.v (.bool W.net.fifo),.v (.isl 4 (W.net.l.map eMs)),.v (.isl 1 (W.net.tm.map eI)),.v (.isl 2 (W.net.fates.map eFt)),.v (.int .i64 W.now),.v (.int .i64 W.sent),.sl (B.length+4) W.tr.length 0 W.tr.length]]:=rfl
  have n0:((0:Int) != 0)=false:=rfl
  simp (disch:=first|decide|omega) only[hA,e0,n0,m4,aa,go_sem]
  exact yC (.inr rfl) (xs:=[.agg [.sl (B.length+2) W.sv.length 0 W.sv.length,.v (.int .i64 W.net.now),.v (.bool W.net.fifo),.v (.isl 4 (W.net.l.map eMs)),.v (.isl 1 (W.net.tm.map eI)),.v (.isl 2 (W.net.fates.map eFt)),.v (.int .i64 W.now),.v (.int .i64 W.sent),.sl (B.length+4) W.tr.length 0 W.tr.length],.v (.int .i64 0)]) kR (Dv.tupL (.cons (ZDh (i:=2) sQ uT rfl rfl rfl rfl) (.cons (.v _) .nil))) hR hB ⟨rfl,rfl,rfl⟩
 ·have e0:((stW w k).2 != 0)=true:=bne_iff_ne.2 he
  rw[z5 he]
  obtain⟨er,her⟩:∃er,(stW w k).2=er:=⟨_,rfl⟩
  rw[her]at e0⊢
  obtain⟨W,hW⟩:∃W,stM w k=W:=⟨_,rfl⟩
  rw[hW]
  simp (disch:=first|decide|omega) only[hA,e0,aa,go_sem]
  exact yC (.inr rfl) (xs:=[.agg zZA,.v (.int .i64 er)]) kR (SG er) hR hB ⟨rfl,rfl,rfl⟩
noncomputable def uL (w:Wd) (k:Int):Wd×Int:=if wdB w=true then (if (0≤k∧k≤1000000)∧w.now+k≤1000000000 then (tkW w k,0) else (wd0,2)) else (wd0,1)
theorem dN (w:Wd) (hS:Sm w.tr) (hN:Nm w.tr) (rT:SvsS w.sv) (hSn:NwS w.net) (k:Int) (b l:List Row):ZA Tryz.prog 16 [.agg ((eWd w).map .v),.v (.int .i64 k)] b l (fun r b' l'=>r=.tup [.agg ((eWd (uL w k).1).map .v),.v (.int .i64 (uL w k).2)]∧b'=b∧l'=l):=by
 refine XA O3 rfl kE ?_
 intro B g hB hR hE hA;simp only[EA]at hA
 have cV:=fun b l=>FF w hS hN rT hSn b l
 rw[AA]at hA cV
 have tY:=rT.len
 simp (disch:=first|decide|omega) only[a_wTick,hA,cellsOf,go_sem]
 refine ZA.nxt (cV _ _) ?_
 cases t1:wdB w
 ·have hr:uL w k=(wd0,1):=by unfold uL;rw[if_neg (by rw[t1];simp)]
  rw[hr]
  simp (disch:=first|decide|omega) only[hA,cellsOf,go_sem]
  exact yC (.inr rfl) (xs:=[.agg zZA,.v (.int .i64 1)]) kR (SG 1) hR hB ⟨rfl,rfl,rfl⟩
 have hw:=WdV.of t1
 have EZ:=hw.now
 simp (disch:=first|decide|omega) only[hA,cellsOf,go_sem]
 refine ZA.nxt (AD _ _ _ _ _) ?_
 cases t2:inZ k 0 1000000
 ·have hr:uL w k=(wd0,2):=by
   unfold inZ at t2
   have:=iq t2
   unfold uL;rw[if_pos t1,if_neg (fun h=>this h.1)]
  rw[hr]
  simp (disch:=first|decide|omega) only[hA,cellsOf,go_sem]
  exact yC (.inr rfl) (xs:=[.agg zZA,.v (.int .i64 2)]) kR (SG 2) hR hB ⟨rfl,rfl,rfl⟩
 unfold inZ at t2
 have h2:=fy t2
 have hwr:IntKind.i64.wrap (w.now+k)=w.now+k:=zB oM oM
 by_cases h3:w.now+k≤1000000000
 case neg =>
  have d3:decide (w.now+k>1000000000)=true:=ag oM
  have d3':decide (1000000000<w.now+k)=true:=d3
  have hr:uL w k=(wd0,2):=by unfold uL;rw[if_pos t1,if_neg (fun h=>h3 h.2)]
  rw[hr]
  simp (disch:=first|decide|omega) only[hA,hwr,d3,d3',cellsOf,go_sem]
  exact yC (.inr rfl) (xs:=[.agg zZA,.v (.int .i64 2)]) kR (SG 2) hR hB ⟨rfl,rfl,rfl⟩
 have d3:decide (w.now+k>1000000000)=false:=ak oM
 have d3':decide (1000000000<w.now+k)=false:=d3
 have hr:uL w k=(tkW w k,0):=by unfold uL;rw[if_pos t1,if_pos ⟨h2,h3⟩]
 rw[hr]
 have cC:=fun b l=>xK w rT hw.small hSn (by have:=(jO hw.sv).1;omega) hw.tr.lo b l
 rw[AA]at cC
 have cG:=fun b l=>ZCL w.net (w.now+k) b l
 have hgo:goE w.net (w.now+k)=0:=by
  unfold goE;rw[if_pos (TF.2 hw.net),if_neg oM,if_neg (by have:=hw.nnow;omega)]
 have hgn:goN w.net (w.now+k)={w.net with now:=w.now+k}:=by unfold goN;rw[if_pos hgo]
 rw[hgo,hgn]at cG
 simp only[eNw,nwA,ba,bl]at cG
 have n0:((0:Int) != 0)=false:=rfl
 simp (disch:=first|decide|omega) only[hA,hwr,d3,d3',cellsOf,go_sem]
 refine ZA.nxt (cC _ _) ?_
 simp (disch:=first|decide|omega) only[hA,hwr,cellsOf,go_sem]
 refine ZA.nxt (cG _ _) ?_
 simp (disch:=first|decide|omega) only[hA,n0,cellsOf,go_sem]
 rw[AA]
 exact QA (xs:=[.agg [.v (.isl 6 (w.sv.map eSv)),.v (.int .i64 (w.now+k)),.v (.bool w.net.fifo),.v (.isl 4 (w.net.l.map eMs)),.v (.isl 1 (w.net.tm.map eI)),.v (.isl 2 (w.net.fates.map eFt)),.v (.int .i64 (w.now+k)),.v (.int .i64 w.sent),.v (.isl 3 (w.tr.map ePr))],.v (.int .i64 0)])
def a_wNewW:AFunc:=({c:=_}:CF Tryz.prog 13).c
theorem Q4:CA Tryz.prog 13=some a_wNewW:=by kernel_rfl
def NY:List (Nat×Nat):=[(8,8),(37,54)]
def a_wNewW1:AFunc:=({c:=_}:CF Tryz.prog 41).c
theorem YY:CA Tryz.prog 41=some a_wNewW1:=by kernel_rfl

def npr (s:Sv):Pr:=⟨s.name,qN s.vars,[]⟩
def xN (l:List Sv) (n:Nw):Wd:=⟨l,n,0,0,l.map npr⟩
theorem K7 {l:List Sv} {i:Nat} (h:i<l.length):(l.map npr).getD i dfPr=npr l[i]:=by
 rw[aq,ai,ae h];rfl
def tL (l:List Sv) (n:Nw):Wd×Int:=if ZH l=true∧nwB n=true then (if n.now≠0∨0<n.l.length∨l.any (fun s=>s.pc != 0)=true then (wd0,6) else (xN l n,0)) else (wd0,1)
theorem iX (s:Sv) (b l:List Row):ZA Tryz.prog 41 [.agg ((eSv s).map .v)] b l (fun r b' l'=>r=.v (.bool (s.pc != 0))∧b'=b∧l'=l):=by
 refine XA YY rfl kE ?_
 intro B g hB hR hE hA;simp only[EA]at hA
 simp (disch:=first|decide|omega) only[a_wNewW1,hA,eSv,cellsOf,go_sem]
 exact QA (xs:=[.v (.bool (s.pc != 0))])
def nprZ (s:Sv):List IV:=[.str s.name,.isl 2 ((qN s.vars).map eVr),.zsl]
theorem s9 {l:List Sv} {i:Nat} (h:i<l.length):(l.take i).map nprZ++[[.str l[i].name,.isl 2 ((qN l[i].vars).map eVr),.zsl]]=(l.take (i+1)).map nprZ:=by
 rw[gu,ae h,ci];rfl
theorem ZFN (l:List Sv):IVle (.isl 3 (l.map nprZ)) (.isl 3 ((l.map npr).map ePr)):=by
 refine .isl _ _ _ kS (fun k row row' h1 h2=>?_) (fun k row row' j a a' h1 h2 h3 h4=>?_)
 ·rw[ai]at h1 h2
  rw[ai]at h2
  cases hk:l[k]? with
  |none=>rw[hk]at h1;cases h1
  |some s=>rw[hk]at h1 h2;cases h1;cases h2;rfl
 ·rw[ai]at h1 h2
  rw[ai]at h2
  cases hk:l[k]? with
  |none=>rw[hk]at h1;cases h1
  |some s =>
    rw[hk]at h1 h2;cases h1;cases h2
    match j,h3,h4 with
    |0,h3,h4=>cases h3;cases h4;exact .refl _
    |1,h3,h4=>cases h3;cases h4;exact .refl _
    |2,h3,h4=>cases h3;cases h4;exact .zsl 5
    |j+3,h3,h4=>cases h3
theorem G3 {l:List Sv} {p:Sv→Bool}:((List.range l.length).any fun j=>p (l.getD j dfSv))=l.any p:=tG
theorem sN (L:List Sv) (hL:SvsS L) (n:Nw) (hSn:NwS n) (b l:List Row):ZA Tryz.prog 13 [.v (.isl 6 (L.map eSv)),.agg ((eNw n).map .v)] b l (fun r b' l'=>r=.tup [.agg ((eWd (tL L n).1).map .v),.v (.int .i64 (tL L n).2)]∧b'=b∧l'=l):=by
 refine XA Q4 rfl kE ?_
 intro B g hB hR hE hA;simp only[EA]at hA
 have heN:(eNw n).map AV.v=(zNA n):=rfl
 have cV:=fun b l=>LG n b l
 rw[heN]at hA cV
 have hLl:=hL.len
 have hnl:=hSn.l
 simp (disch:=first|decide|omega) only[a_wNewW,hA,cellsOf,go_sem]
 refine ZA.nxt (lL L hL _ _) ?_
 cases t1:ZH L
 ·have hr:tL L n=(wd0,1):=by unfold tL;rw[if_neg (fun h=>by rw[t1]at h;cases h.1)]
  rw[hr]
  simp (disch:=first|decide|omega) only[hA,cellsOf,go_sem]
  exact yC (.inr rfl) (xs:=[.agg zZA,.v (.int .i64 1)]) kR (SG 1) hR hB ⟨rfl,rfl,rfl⟩
 simp (disch:=first|decide|omega) only[hA,cellsOf,go_sem]
 refine ZA.nxt (cV _ _) ?_
 cases t2:nwB n
 ·have hr:tL L n=(wd0,1):=by unfold tL;rw[if_neg (fun h=>by rw[t2]at h;cases h.2)]
  rw[hr]
  simp (disch:=first|decide|omega) only[hA,cellsOf,go_sem]
  exact yC (.inr rfl) (xs:=[.agg zZA,.v (.int .i64 1)]) kR (SG 1) hR hB ⟨rfl,rfl,rfl⟩
 by_cases h3:n.now=0
 case neg =>
  have d3:(n.now != 0)=true:=bne_iff_ne.2 h3
  have hr:tL L n=(wd0,6):=by unfold tL;rw[if_pos ⟨t1,t2⟩,if_pos (.inl h3)]
  rw[hr]
  simp (disch:=first|decide|omega) only[hA,d3,cellsOf,go_sem]
  exact yC (.inr rfl) (xs:=[.agg zZA,.v (.int .i64 6)]) kR (SG 6) hR hB ⟨rfl,rfl,rfl⟩
 have d3:(n.now != 0)=false:=by rw[h3];rfl
 by_cases h4:0<n.l.length
 ·have d4:decide ((n.l.length:Int)>0)=true:=ag oM
  have d4':decide ((0:Int)<(n.l.length:Int))=true:=d4
  have hr:tL L n=(wd0,6):=by unfold tL;rw[if_pos ⟨t1,t2⟩,if_pos (.inr (.inl h4))]
  rw[hr]
  simp (disch:=first|decide|omega) only[hA,d3,d4,d4',aa,go_sem]
  exact yC (.inr rfl) (xs:=[.agg zZA,.v (.int .i64 6)]) kR (SG 6) hR hB ⟨rfl,rfl,rfl⟩
 have d4:decide ((n.l.length:Int)>0)=false:=ak oM
 have d4':decide ((0:Int)<(n.l.length:Int))=false:=d4
 have cC:=fun B0 l0=>zE IK GK (L.map eSv) 41 [] (fun j=>(L.getD j dfSv).pc != 0) rR (by rw[aa];exact hLl) B0 l0 (fun j row hj=>by
  have fG:j<L.length:=by have:=(aj.1 hj).1;rwa [aa]at this
  rw[ai,ae fG]at hj
  cases hj
  simp only[YA fG]
  exact iX _ _ _)
 rw[aa,G3 (p:=fun s=>s.pc != 0)]at cC
 simp (disch:=first|decide|omega) only[hA,d3,d4,d4',aa,go_sem]
 refine ZA.nxt (cC _ _) ?_
 cases t5:L.any (fun s=>s.pc != 0)
 case true =>
  have hr:tL L n=(wd0,6):=by unfold tL;rw[if_pos ⟨t1,t2⟩,if_pos (.inr (.inr t5))]
  rw[hr]
  simp (disch:=first|decide|omega) only[hA,aa,go_sem]
  exact yC (.inr rfl) (xs:=[.agg zZA,.v (.int .i64 6)]) kR (SG 6) hR hB ⟨rfl,rfl,rfl⟩
 have hr:tL L n=(xN L n,0):=by unfold tL;rw[if_pos ⟨t1,t2⟩,if_neg (fun h=>by
  rcases h with h|h|h
  ·exact h h3
  ·exact h4 h
  ·rw[t5]at h;cases h)]
 rw[hr]
 have hn:=jO t1
 have h8:=ZHR t1
 simp (disch:=first|decide|omega) only[hA,aa,go_sem]
 refine ZB (ι:=Nat) NY (fun i=>[(37,.v (.int .i64 i))]) 3 (fun i=>[.live 0 5 [(zNA n)],.live 0 9 [zZA],.live 0 9 [[.v (.isl 6 (L.map eSv)),.v (.int .i64 n.now),.v (.bool n.fifo),.v (.isl 4 (n.l.map eMs)),.v (.isl 1 (n.tm.map eI)),.v (.isl 2 (n.fates.map eFt)),.v (.int .i64 0),.v (.int .i64 0),.sl (B.length+3) i 0 i]],.live i 3 (vs ((L.take i).map nprZ))])
  (fun i=>i≤L.length) (fun i=>L.length-i) 0 (an _) kM kA (fun e=>KA.nilcell (e:=e) (b:=B) (l:=[.live 0 5 [(zNA n)],.live 0 9 [zZA],.live 0 9 [[.v (.isl 6 (L.map eSv)),.v (.int .i64 n.now),.v (.bool n.fifo),.v (.isl 4 (n.l.map eMs)),.v (.isl 1 (n.tm.map eI)),.v (.isl 2 (n.fates.map eFt)),.v (.int .i64 0),.v (.int .i64 0),.v .zsl]]]) (i:=2) (k:=0) (j:=8) (sz:=3) rfl rfl rfl) ?_
 intro g1 aI bI aC i hi
 have vl:((L.take i).map nprZ).length=i:=by rw[aa,bu];omega
 have vt:List.take i ((L.take i).map nprZ)=(L.take i).map nprZ:=cv (by rw[vl];omega)
 by_cases bB:i<L.length
 ·have GM:=ZL bB
  have cP:=fun b l=>fR L[i].vars (h8 i bB) b l
  have x6:=s9 bB
  obtain⟨Y,hY⟩:∃Y,(L.take i).map nprZ=Y:=⟨_,rfl⟩
  rw[hY]at vl vt x6⊢
  simp (disch:=first|decide|omega) only[hA,aC,GM,vl,vt,aa,go_sem]
  refine ZA.nxt (cP _ _) ?_
  simp (disch:=first|decide|omega) only[hA,aC,GM,vl,vt,xD,go_sem]
  rw[x6]
  refine⟨i+1,bB,by simp only;omega,?_⟩
  exact KA.kround (p:=NY) (k:=3) kQ kA rfl aI kS kV hR kL
 ·obtain rfl:i=L.length:=by omega
  have xX:L.take L.length=L:=jf
  have nL:=ZFN L
  rw[xX]at vl⊢
  have cC:∀b l,ZA Tryz.prog 43 [.agg [.v (.isl 6 (L.map eSv)),.v (.int .i64 n.now),.v (.bool n.fifo),.v (.isl 4 (n.l.map eMs)),.v (.isl 1 (n.tm.map eI)),.v (.isl 2 (n.fates.map eFt)),.v (.int .i64 0),.v (.int .i64 0),.v (.isl 3 (L.map nprZ))]] b l (fun r b' l'=>r=.agg ((eWd (xN L n)).map .v)∧b'=b∧l'=l):=fun b l=>by
   have hS:Small (xN L n).tr:=by
    refine⟨by show (L.map npr).length≤_;rw[aa];omega,fun x hx=>?_,fun x hx=>?_,fun x hx=>?_⟩
    all_goals
     obtain⟨s,hs,rfl⟩:=de.1 hx
     obtain⟨p,hp,rfl⟩:=dh hs
     have:=h8 p hp
     simp[npr,WI]
    omega
   refine (xK (xN L n) hL hS hSn (by show 0<L.length;omega) (by show 0<(L.map npr).length;rw[aa];omega) b l).le rfl (fun i x y hx hy=>?_)
   match i,hx,hy with
   |0,hx,hy =>
     cases hx;cases hy
     rw[AA]
     refine .agg _ _ rfl (fun j u v hu hv=>?_)
     match j,hu,hv with
     |0,hu,hv=>cases hu;cases hv;exact .refl _
     |1,hu,hv=>cases hu;cases hv;exact .refl _
     |2,hu,hv=>cases hu;cases hv;exact .refl _
     |3,hu,hv=>cases hu;cases hv;exact .refl _
     |4,hu,hv=>cases hu;cases hv;exact .refl _
     |5,hu,hv=>cases hu;cases hv;exact .refl _
     |6,hu,hv=>cases hu;cases hv;exact .refl _
     |7,hu,hv=>cases hu;cases hv;exact .refl _
     |8,hu,hv=>cases hu;cases hv;exact .v _ _ nL
  obtain⟨Y,hY⟩:∃Y,L.map nprZ=Y:=⟨_,rfl⟩
  rw[hY]at vl cC⊢
  obtain⟨W,hW⟩:∃W,xN L n=W:=⟨_,rfl⟩
  rw[hW]at cC⊢
  rw[AA]at cC⊢
  simp (disch:=first|decide|omega) only[hA,aC,aa,go_sem]
  refine ZA.frzB (i:=3) (ver:=L.length) (sz:=3) (rows:=Y) (args':=[.agg [.v (.isl 6 (L.map eSv)),.v (.int .i64 n.now),.v (.bool n.fifo),.v (.isl 4 (n.l.map eMs)),.v (.isl 1 (n.tm.map eI)),.v (.isl 2 (n.fates.map eFt)),.v (.int .i64 0),.v (.int .i64 0),.v (.isl 3 Y)]]) rfl (by simp[frz,QF,vl];rw[←vl,jf]) ?_
  refine ZA.nxt (cC _ _) ?_
  simp (disch:=first|decide|omega) only[hA,aC,aa,go_sem]
  exact QA (xs:=[.agg (zWA W),.v (.int .i64 0)])
theorem Dv.repR {F:Nat→Prop} {L:LMap} {n:Nat} {l:List Row} {w:World} (hs:∀i ver sz els,l[i]? = some (.live ver sz els)→∃q,L (n+i) ver=some q∧OQ w F L sz els q) {x y:AV} (h:Dv n l x y):∀v,RepA w F L x v→RepA w (FD F L n l) L y v:=by
 have mono:∀{x:AV} {v:Value},RepA w F L x v→RepA w (FD F L n l) L x v:=fun hx=>hx.mono (fun _ h=>.inl h) (fun _ _=>rfl) (fun _ _ _ h=>h)
 induction h with
 |v x=>exact fun v hv=>mono hv
 |z sz =>
   intro v hv
   cases hv.vI
   exact .v _ _ (.isl0 _ _ _ (an _))
 |sl i ver off len sz els rows hi nL hl h1 h2 ih =>
   intro v hv
   obtain⟨q,k1,k2⟩:=hs _ _ _ _ hi
   refine .v _ _ ?_
   cases hv with
   |sl _ _ _ _ blk o z cap hL g1 g2 =>
     rw[k1]at hL;cases hL
     obtain⟨q1,q2,q3,cur,T,q4,q5,q6,q7⟩:=k2
     subst q1
     have RG:∀(k:Nat) (row:List IV) (j:Nat) (c:IV),rows[k]? = some row→row[j]? = some c→∃u,w.cell? ⟨blk,o+off*z+k*z+j,none⟩=some u∧RepI w (FD F L n l) c u:=by
      intro k row j c hk hj
      have YM:=(aj.1 hk).1
      have fG:=(aj.1 hj).1
      have hr:els[off+k]? = some els[off+k]:=ae oM
      have hlr:=h1 k _ row hr hk
      have ha:els[off+k][j]? = some els[off+k][j]:=ae oM
      obtain⟨_,u,g3,g4⟩:=q7 (off+k) _ j _ hr ha
      refine⟨u,?_,(ih k _ row j _ c hr hk ha hj u g4).vI⟩
      rw[ca]at g3
      simp only[World.cell?,q4]
      rw[←g3]
      simp[da]
     have:=RepI.isl (w:=w) (F:=FD F L n l) rows blk (o+off*z) z (cap-off) (fun k j=>(w.cell? ⟨blk,o+off*z+k*z+j,none⟩).getD undef) (.inr ⟨i,ver,z,els,_,hi,k1,rfl⟩) oM oM
      (fun k row hk=>by
       have YM:=(aj.1 hk).1
       have hr:els[off+k]? = some els[off+k]:=ae oM
       rw[←h1 k _ row hr hk]
       exact q6 _ _ hr)
      (fun k row j c hk hj=>by
       obtain⟨u,g3,_⟩:=RG k row j c hk hj
       rw[g3];rfl)
      (fun k row j c hk hj=>by
       obtain⟨u,g3,g4⟩:=RG k row j c hk hj
       rw[g3];exact g4)
     rw[hl]at this
     exact this
   |slz =>
     have:rows=[]:=cu hl
     rw[this];exact .isl0 _ _ _ oM
   |sln =>
     have:rows=[]:=cu hl
     rw[this];exact .isl0 _ _ _ oM
 |agg cs ds hl _ ih =>
   intro v hv
   obtain⟨us,rfl,hu⟩:=hv.aggL
   refine bA.agg ⟨by rw[←hl];exact hu.1,fun j d u hd hju=>?_⟩
   have fG:=(aj.1 hd).1
   have hc:cs[j]? = some cs[j]:=ae oM
   exact ih j _ d hc hd u (hu.2 j _ u hc hju)
 |tup cs ds hl _ ih =>
   intro v hv
   obtain⟨us,rfl,hu⟩:=hv.tupL
   refine bA.tup ⟨by rw[←hl];exact hu.1,fun j d u hd hju=>?_⟩
   have fG:=(aj.1 hd).1
   have hc:cs[j]? = some cs[j]:=ae oM
   exact ih j _ d hc hd u (hu.2 j _ u hc hju)

theorem ZA.deepMid {P:Program} {f:Nat} {args args':List AV} {b l1 N l2:List Row} {Q:AV→List Row→List Row→Prop} (hl:args.length=args'.length)
  (hd:∀(i:Nat) (x y:AV),args[i]? = some x→args'[i]? = some y→Dv (b.length+l1.length) N x y) (h:ZA P f args' b (l1++(N.map yG++l2)) Q):ZA P f args b (l1++(N++l2)) Q:=by
 refine⟨h.1,fun F L w us s hr=>?_⟩
 obtain⟨n,hn⟩:∃n,n=b.length+l1.length:=⟨_,rfl⟩
 rw[←hn]at hd
 have e1:∀X:List Row,∀j,j<n→(b++(l1++(X++l2)))[j]? = (b++l1)[j]?:=fun X j hj=>by
  rw[←ay,aw (by rw[am];omega)]
 have e2:∀X:List Row,∀j,j<X.length→(b++(l1++(X++l2)))[n+j]? = X[j]?:=fun X j hj=>by
  rw[←ay,au (by rw[am];omega),am,←hn,co,aw hj]
 have e3:∀X:List Row,∀j,(b++(l1++(X++l2)))[n+X.length+j]? = l2[j]?:=fun X j=>by
  rw[←ay,au (by rw[am];omega),am,←hn,da,co,au oM,co]
 have sp:∀j,j<n∨(∃i,i<N.length∧j=n+i)∨∃i,j=n+N.length+i:=fun j=>by
  by_cases h1:j<n
  ·exact .inl h1
  ·by_cases h2:j<n+N.length
   ·exact .inr (.inl ⟨j-n,by omega,by omega⟩)
   ·exact .inr (.inr ⟨j-(n+N.length),by omega⟩)
 have hml:(N.map yG).length=N.length:=aa _
 have e2d:∀i,i<N.length→∃r,N[i]? = some r∧(b++(l1++(N++l2)))[n+i]? = some r∧(b++(l1++(N.map yG++l2)))[n+i]? = some (yG r):=fun i hi=>by
  refine⟨N[i],ae hi,by rw[e2 _ _ hi,ae hi],?_⟩
  rw[e2 _ _ (by rw[hml];exact hi),ai,ae hi];rfl
 have e3d:∀j,(b++(l1++(N.map yG++l2)))[n+N.length+j]? = l2[j]?:=fun j=>by
  have:=e3 (N.map yG) j
  rw[hml]at this;exact this
 have gH:∀{j v z:Nat} {els:List (List AV)},(b++(l1++(N.map yG++l2)))[j]? = some (.live v z els)→(∀i,i<N.length→j≠n+i)∧(b++(l1++(N++l2)))[j]? = some (.live v z els):=fun {j v z els} hj=>by
  rcases sp j with h1|⟨i,hi,rfl⟩|⟨i,rfl⟩
  ·rw[e1 _ _ h1]at hj⊢;exact⟨fun i _=>by omega,hj⟩
  ·obtain⟨r,_,_,h4⟩:=e2d i hi
   rw[h4]at hj;cases hj
  ·rw[e3d]at hj;rw[e3];exact⟨fun i _=>by omega,hj⟩
 have yF:∀{i ver sz els},N[i]? = some (.live ver sz els)→i<N.length∧(b++(l1++(N++l2)))[n+i]? = some (.live ver sz els):=fun {i ver sz els} hi=>by
  have:=(aj.1 hi).1
  exact⟨this,by rw[e2 _ _ this];exact hi⟩
 have VG:∀k,gD L (b++(l1++(N.map yG++l2))) k→gD L (b++(l1++(N++l2))) k:=by
  rintro k ⟨j,v,z,els,q,h1,h2,h3⟩
  exact⟨j,v,z,els,q,(gH h1).2,h2,h3⟩
 have s1:Sim (FD F L n N) L (b++(l1++(N.map yG++l2))) w:=by
  refine⟨fun j v z els hj=>?_,fun j v q hq=>?_,fun j j' v v' z z' e1 e2 bb q1 q2 h1 h2=>s.apart j j' v v' z z' e1 e2 bb q1 q2 (gH h1).2 (gH h2).2,fun k hk=>?_,s.glob.mono (fun _ h=>.inl h) (fun _ _=>rfl)⟩
  ·obtain⟨q,g1,g2⟩:=s.row j v z els (gH hj).2
   exact⟨q,g1,g2.mono (fun _ _=>rfl) (fun _ _ h=>h.mono (fun _ h=>.inl h) (fun _ _=>rfl) (fun _ _ _ h=>h))⟩
  ·obtain⟨r,h1,h2⟩:=s.born j v q hq
   rcases sp j with h3|⟨i,hi,rfl⟩|⟨i,rfl⟩
   ·exact⟨r,by rw[e1 _ _ h3]at h1⊢;exact h1,h2⟩
   ·obtain⟨r',_,h4,h5⟩:=e2d i hi
    rw[h4]at h1;cases h1
    exact⟨yG r,h5,h2⟩
   ·exact⟨r,by rw[e3]at h1;rw[e3d];exact h1,h2⟩
  ·rcases hk with hk|⟨i,ver,sz,els,q,h1,h2,h3⟩
   ·exact⟨(s.imm k hk).1,fun ho=>(s.imm k hk).2 (VG k ho)⟩
   ·obtain⟨hi,h1⟩:=yF h1
    obtain⟨q',g1,g2⟩:=s.row _ _ _ _ h1
    rw[h2]at g1;cases g1
    refine⟨g2.lt h3,?_⟩
    rintro⟨j,v,z,els',q2,k1,k2,k3⟩
    obtain⟨hj,k4⟩:=gH k1
    exact hj i hi (s.apart j (n+i) v ver z sz els' els k q2 q k4 h1 k2 h2 k3 h3)
 have rV:bA w (FD F L n N) L args' us.toList:=⟨by rw[←hl];exact hr.1,fun j y v hy hv=>by
  have mR:=(aj.1 hy).1
  have hx:args[j]? = some args[j]:=ae oM
  exact (hd j _ y hx hy).repR (fun i ver sz els hi=>s.row _ _ _ _ (yF hi).2) v (hr.2 j _ v hx hv)⟩
 refine Calls.mono (h.2 _ L w us s1 rV) ?_
 rintro en w' ⟨v,x,b',l',F2,L2,h1,h2,h3,h4,h5,h6⟩
 have jD:(b++(l1++(N.map yG++l2))).length=(b++(l1++(N++l2))).length:=by simp
 have st:Step (b++(l1++(N++l2))).length F L (b++(l1++(N++l2))) w (FD F L n N) L (b++(l1++(N.map yG++l2))) w:=by
  refine⟨fun _ h=>.inl h,fun _ _ _ _ h=>h,rfl,rfl,rfl,ah _,fun _ _ _=>rfl,fun k _ ho=>VG k ho,fun id hid v hv=>?_,fun k hk hf=>?_⟩
  ·rcases sp id with h3|⟨i,hi,rfl⟩|⟨i,rfl⟩
   ·rw[e1 _ _ h3]at hv⊢;exact hv
   ·obtain⟨r,_,h4,h5⟩:=e2d i hi
    rw[h4]at hv;cases hv
    exact h5
   ·rw[e3]at hv;rw[e3d];exact hv
  ·rcases hf with hf|⟨i,ver,sz,els,q,h1,h2,h3⟩
   ·exact .inl hf
   ·exact .inr ⟨_,_,_,_,_,(yF h1).2,h2,h3⟩
 exact⟨v,x,b',l',F2,L2,h1,h2,h3,st.trans (jD▸h4),h5,h6⟩
def a_rLensO:AFunc:=({c:=_}:CF Tryz.prog 21).c
theorem jY:CA Tryz.prog 21=some a_rLensO:=by kernel_rfl
def lU:List (Nat×Nat):=[(3,21)]

theorem Q1 (t:Tr) (hS:Small t) (b l:List Row):ZA Tryz.prog 21 [.agg [.v (eT t)]] b l (fun r b' l'=>r=.v (.isl 1 ((GG t).map eI))∧b'=b∧l'=l):=by
 refine XA jY rfl kE ?_
 intro B g hB hR hE hA;simp only[EA]at hA
 have hnp:=hS.np
 have hll:(GG t).length=t.length:=aa _
 simp (disch:=first|decide|omega) only[a_rLensO,hA,eT,go_sem]
 refine GH (ι:=Nat) 3 1 lU (fun i=>[(3,.sl (B.length+1) i 0 i),(4,.v (.int .i64 i))]) 2 (fun i=>[(zTA t),.live i 1 (vs (((GG t).take i).map eI))])
  (fun i=>i≤t.length) (fun i=>t.length-i) 0 (an _) (by simp (disch:=decide) only[hA,go_sem]) kE rfl kM kA (fun e=>by simpa [vs] using KA.refl _ _ _) ?_
 intro g1 aI bI aC i hi
 by_cases bB:i<t.length
 ·have hget:(t.map ePr)[i]? = some [.str t[i].name,.isl 2 (t[i].vars.map eVr),.isl 5 (t[i].evs.map eEv)]:=by rw[ai,ae bB];rfl
  have dk:decide ((i:Int)<(t.length:Int))=true:=ag oM
  have vJ:min i (GG t).length=i:=by omega
  have y6:List.take i (List.map eI (List.take i (GG t)))=((GG t).take i).map eI:=cv kT
  have hr:((GG t).take i).map eI++[[.int .i64 (t[i].evs.length:Int)]]=((GG t).take (i+1)).map eI:=by
   rw[←rP (f:=eI) (show i<(GG t).length by omega)]
   unfold GG
   rw[mi];rfl
  simp (disch:=first|decide|omega) only[hA,aC,hget,dk,vJ,y6,hr,bu,KD,bg,bh,cz,go_sem]
  refine⟨i+1,bB,by simp only;omega,?_⟩
  exact KA.kround (p:=lU) (k:=2) kQ kA rfl aI kS kV hR kL
 ·obtain rfl:i=t.length:=by omega
  have dk:decide ((t.length:Int)<(t.length:Int))=false:=by simp
  simp (disch:=first|decide|omega) only[hA,aC,dk,aa,go_sem]
  have htk:(GG t).take t.length=GG t:=cv oM
  rw[htk]
  exact nM (i:=1) (ver:=t.length) (sz:=1) (n:=t.length) (rows:=(GG t).map eI) (.inr rfl) kR rfl kT hR hB ⟨rfl,rfl,rfl⟩
def a_wRun:AFunc:=({c:=_}:CF Tryz.prog 29).c
theorem ZAO:CA Tryz.prog 29=some a_wRun:=by kernel_rfl
def A6:List (Nat×Nat):=[(5,5),(7,8),(21,44)]

theorem ZEY {n:Nat} {l:List Row} (e:Bool):Dv n l (.tup [.agg zZA,.v (.bool e)]) (.tup [.agg ((eWd wd0).map .v),.v (.bool e)]):=
 Dv.tupL (.cons (Dv.aggL (.cons (.z 6) (.cons (.v _) (.cons (.v _) (.cons (.z 4) (.cons (.z 1) (.cons (.z 2) (.cons (.v _) (.cons (.v _) (.cons (.z 3) .nil)))))))))) (.cons (.v _) .nil))
noncomputable def QN (w:Wd) (x:Int):Wd×Int:=if 0≤x then iL w x else uL w (-x)
noncomputable def KX (w:Wd):List Int→Wd×Int
 |[]=>(w,0)
 |x::r=>if (QN w x).2=0 then KX (QN w x).1 r else (wd0,(QN w x).2)
theorem U9 {w:Wd} (hw:WdV w) {x:Int} (h:(QN w x).2=0):WdV (QN w x).1:=by
 unfold QN at h⊢
 split at h<;>rename_i h1
 ·rw[if_pos h1]
  unfold iL at h⊢
  rw[if_pos hw.to]at h⊢
  split at h<;>rename_i h2
  ·cases h
  rw[if_neg h2]
  split at h<;>rename_i h3
  ·rw[if_pos h3]
   exact ZJ hw oM h3 h
  ·cases h
 ·rw[if_neg h1]
  unfold uL at h⊢
  rw[if_pos hw.to]at h⊢
  split at h<;>rename_i h2
  ·rw[if_pos h2];exact uO hw ⟨h2.1.1,h2.2⟩
  ·cases h
theorem ZEu {w:Wd} {x:Int} (h:(QN w x).2≠0):(QN w x).1=wd0:=by
 unfold QN at h⊢
 split at h<;>rename_i h1
 ·rw[if_pos h1]
  unfold iL at h⊢
  split at h<;>rename_i h2
  ·rw[if_pos h2]
   split at h<;>rename_i h3
   ·rw[if_pos h3]
   rw[if_neg h3]
   split at h<;>rename_i h4
   ·rw[if_pos h4];exact z5 h
   ·rw[if_neg h4]
  ·rw[if_neg h2]
 ·rw[if_neg h1]
  unfold uL at h⊢
  split at h<;>rename_i h2
  ·rw[if_pos h2]
   split at h<;>rename_i h3
   ·exact absurd rfl h
   ·rw[if_neg h3]
  ·rw[if_neg h2]
theorem ZE8 {w:Wd} {x:Int} (h0:x<0) (h1:-9223372036854775808≤x):uL w (IntKind.i64.wrap (-x))=uL w (-x):=by
 by_cases h:x=-9223372036854775808
 ·subst h
  have e1:IntKind.i64.wrap (-(-9223372036854775808))=-9223372036854775808:=by decide
  rw[e1]
  unfold uL
  rw[if_neg (by omega:¬((0≤(-9223372036854775808:Int)∧(-9223372036854775808:Int)≤1000000)∧w.now+-9223372036854775808≤1000000000)),if_neg (by omega:¬((0≤(-(-9223372036854775808):Int)∧(-(-9223372036854775808):Int)≤1000000)∧w.now+-(-9223372036854775808)≤1000000000))]
 ·rw[zB oM oM]
theorem QV {α:Type} {l:List α} {i:Nat} (h:i<l.length):l.drop i=l[i]::l.drop (i+1):=mj h
noncomputable def UX (w:Wd) (order:List Int):Wd×Int:=if wdB w=true then (if 1000<order.length then (wd0,5) else KX w order) else (wd0,1)
theorem n8 (w:Wd) (hS:Sm w.tr) (hN:Nm w.tr) (rT:SvsS w.sv) (hSn:NwS w.net) (order:List Int) (hol:order.length≤1000000) (ho:∀x∈order,-9223372036854775808≤x) (b l:List Row):ZA Tryz.prog 29 [.agg ((eWd w).map .v),.v (.isl 1 (order.map eI))] b l (fun r b' l'=>r=.tup [.agg ((eWd (UX w order).1).map .v),.v (.int .i64 (UX w order).2)]∧b'=b∧l'=l):=by
 refine XA ZAO rfl kE ?_
 intro B g hB hR hE hA;simp only[EA]at hA
 have cV:=fun b l=>FF w hS hN rT hSn b l
 rw[AA]at hA cV
 simp (disch:=first|decide|omega) only[a_wRun,hA,cellsOf,go_sem]
 refine ZA.nxt (cV _ _) ?_
 cases t1:wdB w
 ·have hr:UX w order=(wd0,1):=by unfold UX;rw[if_neg (by rw[t1];simp)]
  rw[hr]
  simp (disch:=first|decide|omega) only[hA,cellsOf,go_sem]
  exact yC (.inr rfl) (xs:=[.agg zZA,.v (.int .i64 1)]) kR (SG 1) hR hB ⟨rfl,rfl,rfl⟩
 have hw:=WdV.of t1
 by_cases h2:1000<order.length
 ·have d2:decide ((order.length:Int)>1000)=true:=ag oM
  have d2':decide ((1000:Int)<(order.length:Int))=true:=d2
  have hr:UX w order=(wd0,5):=by unfold UX;rw[if_pos t1,if_pos h2]
  rw[hr]
  simp (disch:=first|decide|omega) only[hA,d2,d2',aa,go_sem]
  exact yC (.inr rfl) (xs:=[.agg zZA,.v (.int .i64 5)]) kR (SG 5) hR hB ⟨rfl,rfl,rfl⟩
 have d2:decide ((order.length:Int)>1000)=false:=ak oM
 have d2':decide ((1000:Int)<(order.length:Int))=false:=d2
 have hr:UX w order=KX w order:=by unfold UX;rw[if_pos t1,if_neg h2]
 rw[hr]
 have cC:=fun b l=>xK w rT hw.small hSn (by have:=(jO hw.sv).1;omega) hw.tr.lo b l
 rw[AA]at cC
 simp (disch:=first|decide|omega) only[hA,d2,d2',aa,go_sem]
 refine ZA.nxt (cC _ _) ?_
 simp (disch:=first|decide|omega) only[hA,aa,go_sem]
 refine ZB (ι:=Nat×Wd) A6 (fun z=>[(21,.v (.int .i64 z.1))]) 2 (fun z=>[.live 0 9 [(eWd z.2).map .v],.live 0 9 [zZA]])
  (fun z=>z.1≤order.length∧WdV z.2∧KX w order=KX z.2 (order.drop z.1)) (fun z=>order.length-z.1) (0,w) ⟨an _,hw,by rw[dp]⟩ kM kA kF ?_
 rintro g1 aI bI aC ⟨i,W⟩ ⟨hi,hW,rY⟩
 simp only at hi hW rY⊢
 by_cases bB:i<order.length
 ·have hgo:=NG bB
  obtain⟨x,hx⟩:∃x,order[i]=x:=⟨_,rfl⟩
  rw[YA bB,hx]at hgo
  have hxm:-9223372036854775808≤x:=by rw[←hx];exact ho _ (ap bB)
  rw[QV bB,hx]at rY
  rw[rY]
  rw[AA]
  obtain⟨y,hy⟩:∃y,QN W x=y:=⟨_,rfl⟩
  have hrr:KX W (x::order.drop (i+1))=if y.2=0 then KX y.1 (order.drop (i+1)) else (wd0,y.2):=by show (if (QN W x).2=0 then KX (QN W x).1 _ else _)=_;rw[hy]
  have hye:y.2=0→WdV y.1:=fun h=>by rw[←hy]at h⊢;exact U9 hW h
  have hy0:y.2≠0→y.1=wd0:=fun h=>by rw[←hy]at h⊢;exact ZEu h
  have cS:=fun b l=>rN W hW.small.sm hW.nm hW.svS hW.net.s x b l
  have cT:=fun b l=>dN W hW.small.sm hW.nm hW.svS hW.net.s (IntKind.i64.wrap (0-x)) b l
  rw[AA]at cS cT
  by_cases h0:0≤x
  case' pos =>
   have d0:decide (x≥0)=true:=ag h0
   have d0':decide (0≤x)=true:=d0
   have hyo:iL W x=y:=by rw[←hy];unfold QN;rw[if_pos h0]
   rw[hyo,AA]at cS
   simp (disch:=first|decide|omega) only[hA,aC,hgo,d0,d0',aa,go_sem]
   refine ZA.nxt (cS _ _) ?_
  case' neg =>
   have d0:decide (x≥0)=false:=ak h0
   have d0':decide (0≤x)=false:=d0
   have hyo:uL W (IntKind.i64.wrap (0-x))=y:=by rw[Int.zero_sub,ZE8 oM hxm,←hy];unfold QN;rw[if_neg h0]
   rw[hyo,AA]at cT
   simp (disch:=first|decide|omega) only[hA,aC,hgo,d0,d0',aa,go_sem]
   refine ZA.nxt (cT _ _) ?_
  all_goals
   by_cases he:y.2=0
   ·have e0:(y.2 != 0)=false:=by rw[he];rfl
    have ZIe:=hrr
    rw[if_pos he]at ZIe
    have hWy:=hye he
    rw[ZIe]
    simp (disch:=first|decide|omega) only[hA,aC,e0,aa,go_sem]
    refine⟨(i+1,y.1),⟨bB,hWy,by rw[←ZIe,←rY]⟩,by simp only;omega,?_⟩
    simp only[AA]
    exact KA.kround (p:=A6) (k:=2) kQ kA rfl aI kS kV hR kL
   ·have e0:(y.2 != 0)=true:=bne_iff_ne.2 he
    rw[if_neg he]at hrr
    rw[hrr]
    simp (disch:=first|decide|omega) only[hA,aC,e0,aa,go_sem]
    exact yC (.inr rfl) (xs:=[.agg zZA,.v (.int .i64 y.2)]) kR (SG y.2) hR hB ⟨rfl,rfl,rfl⟩
 ·obtain rfl:i=order.length:=by omega
  have hrn:KX w order=(W,0):=by rw[rY,List.drop_length];rfl
  rw[hrn,AA]
  simp (disch:=first|decide|omega) only[hA,aC,aa,go_sem]
  exact QA (xs:=[.agg (zWA W),.v (.int .i64 0)])
end Go.Proofs.YtadnnjchehjbiaaGreatDoor
