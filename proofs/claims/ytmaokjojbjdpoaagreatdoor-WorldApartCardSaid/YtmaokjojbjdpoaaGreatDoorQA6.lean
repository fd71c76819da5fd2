/- Texts of one proof, laid together: NE, NF, NH, R3, B1, WV, PB, WL, PF, WJ, WK, WY, B2, B3, B4. No condition. -/
import Derived.Test.YtmaokjojbjdpoaaGreatDoorQA5
import Derived.Test.YtmaokjojbjdpoaaGreatDoorQA3
import Derived.Test.YtmaokjojbjdpoaaGreatDoorQA4
import Derived.Test.YtmaokjojbjdpoaaGreatDoorQA2
import Derived.KernelRfl
import Derived.Test.YtmaokjojbjdpoaaGreatDoorProg
set_option linter.unusedSimpArgs false
set_option maxHeartbeats 8000000
set_option maxRecDepth 20000
namespace Go.Proofs.YtmaokjojbjdpoaaGreatDoor
set_option maxHeartbeats 16000000
set_option maxRecDepth 100000
set_option linter.unusedVariables false
set_option linter.unusedSimpArgs false
attribute [local go_sem ↓] vC YB kC xC zD lB yC qD wC dD SA mB jC RA pB qC CA aB nC JB TA uC fB eB zB bB qB OB sB jD iC vD yD nE iD pE mE GB LB
attribute [local go_sem] VB MA CD jB EA sE xD gD wD GK IK uD dC rC sC CC nA QC FA ZC LA UB aop SE LD aD IC GD eC ID fJ SF dF amm AE fC IB qF bD rF comma LC DF lJ IF GF XJ zF VF UE ZJ eqC eqF tG cellsOf xB YC CB UF mI rd rdI fE mk tD AV.cell List.all_cons List.all_nil Bool.and_true Bool.true_and Bool.and_self List.length_cons List.length_nil List.length_append Nat.reduceAdd Nat.reduceSub Nat.reduceMul Nat.zero_add Nat.add_zero List.cons_append List.nil_append List.append_assoc List.append_nil List.getElem?_cons_zero List.getElem?_cons_succ List.getElem?_nil List.set_cons_zero List.set_cons_succ List.drop_zero List.drop_succ_cons List.take_zero List.take_succ_cons List.take_nil List.drop_nil List.map_cons List.map_nil Option.map_some if_true if_false Bool.false_eq_true and_self true_and and_true Nat.reduceLeDiff Nat.reduceLT Nat.le_refl Nat.reduceEqDiff ite_true ite_false beq_self_eq_true beq_true beq_false Bool.not_true Bool.not_false Bool.true_beq Bool.false_beq rE MB wB JD KD zC KC UC VC UD VD dE dA eK YK bK fK kG vG wG yG geI gtI gG decide_true decide_false room List.getElem?_map List.length_map List.length_take Int.toNat_natCast Nat.min_def Nat.min_self kD EC DD tB lD EF zA List.getElem_cons_zero List.getElem_cons_succ
def a_nSend:AFunc:=({c:=_}:CF Tryz.prog 156).c
theorem O5:jA Tryz.prog 156=some a_nSend:=by kernel_rfl
def ZM:List (Nat×Nat):=[(7,9),(44,72)]
def rZ:List (Nat×Nat):=[(96,113)]

theorem KA.namedAll {N:Nat} {f:Nat→AV} {b l:List Row} (ov:List (Nat×AV)) (h:EF f ov):KA (kOf N f) b l (kOf N (kOv ov (fun _=>.any))) b l:=by
 intro F L w a s he
 refine⟨F,L,s,⟨he.1,by rw[he.2.1,yI,yI],fun i x v hx hv=>?_⟩,Step.refl _ _ _ _ _,rfl⟩
 rw[ME]at hx
 split at hx
 ·rename_i hi
  cases hx
  rcases kOv_get (ov:=ov) (f:=fun _=>AV.any) (i:=i) with hg|hg
  ·rw[hg];exact .any v
  ·rw[←h.mem hg]
   exact he.2.2 i _ v (by rw[ME,if_pos hi]) hv
 ·cases hx
def hdF (n:Nw):Int×Int:=n.fates.headD (1,0)
def S0 (n:Nw):Nat:=if n.fates=[] then 0 else 1
def sdX (n:Nw) (m:Ms) (k:Nat):Nat→List (Ms×Nat)
 |0=>(SB n).xs
 |c+1=>(sdX n m k c).take k++[(m,n.l.length+c)]++(sdX n m k c).drop k
def sdT (n:Nw) (a:Int) (k:Nat):Nat→List Int
 |0=>n.tm
 |c+1=>(sdT n a k c).take k++[a]++(sdT n a k c).drop k
theorem V9 {α:Type} {l:List α} {x:α} {k:Nat}:(l.take k++[x]++l.drop k).length=l.length+1:=by
 simp only[aq,cf,ea,ee,fh];omega
theorem QO {n:Nw} {m:Ms} {k:Nat}:∀c,(sdX n m k c).length=n.l.length+c
 |0=>fA
 |c+1=>by rw[sdX,V9,QO c];omega
theorem XO {n:Nw} {a:Int} {k:Nat}:∀c,(sdT n a k c).length=n.tm.length+c
 |0=>rfl
 |c+1=>by rw[sdT,V9,XO c];omega
theorem J9 {α:Type} {l:List α} {x:α} {k c:Nat} (hk:k≤l.length):(l.take k++List.replicate c x++l.drop k).take k++[x]++(l.take k++List.replicate c x++l.drop k).drop k=l.take k++List.replicate (c+1) x++l.drop k:=by
 have hl:(l.take k).length=k:=by rw[cf];omega
 rw[bh (l.take k),List.take_append_of_le_length oM,List.drop_append_of_le_length oM,cr (l:=l.take k) oM,List.drop_of_length_le (l:=l.take k) oM,bx]
 simp
theorem Y8 {n:Nw} {m:Ms} {k:Nat} (hk:k≤n.l.length):∀c,(sdX n m k c).map (·.1)=n.l.take k++List.replicate c m++n.l.drop k
 |0=>by
   have:(SB n).xs.map (·.1)=n.l:=congrArg Nw.l (EO n)
   rw[sdX,this,ca,db,ix]
 |c+1=>by
   rw[sdX,bq,bq,fy,gp,Y8 hk c]
   exact J9 hk
theorem ZDk {n:Nw} {a:Int} {k:Nat} (hk:k≤n.tm.length):∀c,sdT n a k c=n.tm.take k++List.replicate c a++n.tm.drop k
 |0=>by simp[sdT]
 |c+1=>by rw[sdT,ZDk hk c,J9 hk]
def sdB (n:Nw) (m:Ms) (j:Nat):List Int:=if j<n.l.length then (n.l.getD j dfMs).body else m.body
def c7 (n:Nw) (m:Ms) (c:Nat):Lv:=⟨n.now,n.fifo,1+c,1+c,S0 n,sdX n m (leN n.tm (MG n m)) c,sdT n (MG n m) (leN n.tm (MG n m)) c,n.fates,fl (n.l.length+c) (sdB n m)⟩
theorem qX {n:Nw} {m:Ms} {k:Nat}:∀c,∀x∈sdX n m k c,x.2<n.l.length+c∧sdB n m x.2=x.1.body
 |0,x,hx=>by
   obtain⟨i,hi,rfl⟩:=cq.1 hx
   have hi:=ba.1 hi
   refine⟨hi,?_⟩
   unfold sdB;rw[if_pos hi]
 |c+1,x,hx=>by
   rw[sdX]at hx
   simp only[bn,lu]at hx
   have ih:=qX (n:=n) (m:=m) (k:=k) c
   rcases hx with (hx|rfl)|hx
   ·have:=ih x (dt hx);exact⟨by omega,this.2⟩
   ·refine⟨by simp only;omega,?_⟩
    unfold sdB;rw[if_neg (by simp only;omega)]
   ·have:=ih x (ey hx);exact⟨by omega,this.2⟩
theorem ZFp {n:Nw}:S0 n≤n.fates.length:=by
 unfold S0
 split
 ·exact aj _
 ·rename_i h
  cases hf:n.fates with
  |nil=>exact absurd hf h
  |cons x r=>simp
theorem J8 {n:Nw} {m:Ms} {c:Nat}:(c7 n m c).ok:=by
 refine⟨ZFp,fun x hx=>?_⟩
 obtain⟨h1,h2⟩:=qX c x hx
 show (fl (n.l.length+c) (sdB n m))[x.2]? = _
 rw[eD h1,h2]
def rQ (n:Nw) (m:Ms):Int:=if nwB n=true then (if msB m=true then sdE n m else 1) else 1
def p7 (n:Nw) (m:Ms):Option Lv:=if rQ n m=0 then some (c7 n m (XU n).toNat) else none
def ZEe (n:Nw) (m:Ms):Nw:=if rQ n m=0 then ZU n m (MG n m) (XU n).toNat else nw0
theorem ZFV {n:Nw} {m:Ms}:∀y,p7 n m=some y→y.ok:=by
 intro y h
 unfold p7 at h
 split at h
 ·cases h;exact J8
 ·cases h
theorem ZAV {n:Nw}:n.fates.drop (S0 n)=n.fates.drop 1:=by
 unfold S0
 split
 ·rename_i h;rw[h];rfl
 ·rfl
theorem ZFW {n:Nw} {m:Ms}:ZB6 (p7 n m)=ZEe n m:=by
 unfold p7 ZEe
 split
 ·rename_i h
  have hv:NwV n:=by
   unfold rQ at h
   split at h
   ·rename_i h1;exact MF.1 h1
   ·cases h
  have hl:=hv.len
  have CJ:=AS (l:=n.tm) (a:=MG n m)
  unfold ZB6 Lv.nw c7 ZU
  simp only
  rw[Y8 oM,ZDk CJ,ZAV]
 ·rfl
theorem DL {n:Nw} {base:Nat}:(SB n).rows base=.live 1 4 ((SB n).xs.map (lvE base))::.live 1 1 (vs (n.tm.map eI))::.live 1 2 (vs (n.fates.map eFt))::fl n.l.length (clB n):=by
 have h:(n.l.map (·.body)).map bdR=fl n.l.length (clB n):=by
  apply dr
  intro j
  by_cases hj:j<n.l.length
  ·rw[eD hj,List.map_map,an,ah hj]
   unfold clB;rw[YA hj];rfl
  ·rw[mH oM,bu (by simp;omega)]
 unfold Lv.rows
 show _::_::_::(n.l.map (·.body)).map bdR=_
 rw[h];rfl
theorem ZDP {n:Nw} {base i:Nat} (h:i<n.l.length):((SB n).xs.map (lvE base))[i]? = some [.v (.int .i64 n.l[i].fr),.v (.int .i64 n.l[i].to),.v (.int .i64 n.l[i].nu),.sl (base+(3+i)) 1 0 n.l[i].body.length]:=by
 have hx:(SB n).xs=fl n.l.length (fun i=>(n.l.getD i dfMs,i)):=rfl
 rw[hx,an,eD h,YA h];rfl
def sdN (n:Nw) (B:Nat) (vL vA kL kA:Nat):Row:=.live 0 5 [[.v (.int .i64 n.now),.v (.bool n.fifo),.sl (B+3) vL 0 kL,.sl (B+4) vA 0 kA,.sl (B+5) 1 (S0 n) (n.fates.length-S0 n)]]
def sdM (m:Ms):Row:=.live 0 4 [[.v (.int .i64 m.fr),.v (.int .i64 m.to),.v (.int .i64 m.nu),.v (.isl 1 (m.body.map eI))]]
def sdO:Row:=.live 0 5 [[.v (.int .i64 0),.v (.bool false),.v .zsl,.v .zsl,.v .zsl]]
def sdF (n:Nw):Row:=.live 0 2 [[.v (.int .i64 (hdF n).1),.v (.int .i64 (hdF n).2)]]
theorem KA.ktrim {N:Nat} {f:Nat→AV} {b l l1 junk:List Row} (ov:List (Nat×AV)) (h:EF f ov) (hl:l=l1++junk) (ho:EI (b.length+l1.length) ov) (hb:tA b.length b) (h1:tA (b.length+l1.length) l1) :
  KA (kOf N f) b l (kOf N (kOv ov (fun _=>.any))) b l1:=by
 have hE:KLt (b.length+l1.length) (fun _=>AV.any):=fun _=>.any
 exact (KA.namedAll ov h).trans (KA.trim hl ((hE.ov ho).env) (hb.mono oM) h1)
theorem ZDy {xs:List (Ms×Nat)} {c base M:Nat} (h:∀x∈xs,x.2<c) (hM:base+(3+c)≤M):∀row∈xs.map (lvE base),∀a∈row,AVlt M a:=by
 intro row hr a ha
 obtain⟨x,hx,rfl⟩:=cq.1 hr
 have:=h x hx
 unfold lvE at ha
 simp only[cu,jf,or_false]at ha
 rcases ha with rfl|rfl|rfl|rfl
 ·exact .v _
 ·exact .v _
 ·exact .v _
 ·exact .sl _ _ _ _ oM
theorem sU {n:Nw} {m:Ms} {B vL vA kL kA M wL wA:Nat} {X:List (List AV)} {tv fv:List (List IV)} {T:List Row} (hM:B+6≤M) (hX:∀row∈X,∀c∈row,AVlt M c) (hT:tA M T) :
  tA M (sdN n B vL vA kL kA::sdM m::sdO::.live wL 4 X::.live wA 1 (vs tv)::.live 1 2 (vs fv)::T):=by
 unfold sdN sdM sdO
 refine qE.2 ⟨by simp (disch:=omega) only[lts.down,Nat.reduceLT,Nat.reduceAdd],qE.2 ⟨by simp (disch:=omega) only[lts.down,Nat.reduceLT,Nat.reduceAdd],qE.2 ⟨by simp (disch:=omega) only[lts.down,Nat.reduceLT,Nat.reduceAdd],qE.2 ⟨hX,qE.2 ⟨CK.2 trivial,qE.2 ⟨CK.2 trivial,hT⟩⟩⟩⟩⟩⟩
theorem tA.app {M:Nat} {a c:List Row} (h1:tA M a) (h2:tA M c):tA M (a++c):=by
 intro id ver sz els h
 by_cases hid:id<a.length
 ·rw[aw hid]at h;exact h1 id ver sz els h
 ·rw[ar oM]at h;exact h2 _ ver sz els h
theorem tA.flB {M k:Nat} {g:Nat→List Int}:tA M (fl k fun j=>bdR (g j)):=by
 intro id ver sz els h row hr c hc
 by_cases hid:id<k
 ·rw[eD hid]at h
  cases h
  obtain⟨r0,_,rfl⟩:=cq.1 hr
  obtain⟨x0,_,rfl⟩:=cq.1 hc
  exact .v _
 ·rw[mH oM]at h;cases h
theorem ZGV {n:Nw}:∀x∈(SB n).xs,x.2<n.l.length:=fun x hx=>(qX (n:=n) (m:=dfMs) (k:=0) 0 x hx).1
def QH (n:Nw) (m:Ms) (B c:Nat):List Row:=sdN n B (1+c) (1+c) (n.l.length+c) (n.tm.length+c)::sdM m::sdO::.live (1+c) 4 ((sdX n m (leN n.tm (MG n m)) c).map (lvE (B+3)))::.live (1+c) 1 (vs ((sdT n (MG n m) (leN n.tm (MG n m)) c).map eI))::.live 1 2 (vs (n.fates.map eFt))::fl (n.l.length+c) (fun j=>bdR (sdB n m j))
theorem wK {n:Nw} {m:Ms} {B c:Nat}:(QH n m B c).length=n.l.length+c+6:=by unfold QH;simp[fA]
theorem rU {n:Nw} {m:Ms} {B c:Nat}:tA (B+(QH n m B c).length) (QH n m B c):=by
 rw[wK]
 exact sU oM (ZDy (fun x hx=>(qX c x hx).1) oM) tA.flB
theorem PX {n:Nw} {m:Ms} {B:Nat}:QH n m B 0=sdN n B 1 1 n.l.length n.tm.length::sdM m::sdO::.live 1 4 ((SB n).xs.map (lvE (B+3)))::.live 1 1 (vs (n.tm.map eI))::.live 1 2 (vs (n.fates.map eFt))::fl n.l.length (clB n):=by
 have h:fl (n.l.length+0) (fun j=>bdR (sdB n m j))=fl n.l.length (clB n):=by
  refine YM (fun i hi=>?_)
  unfold clB sdB
  rw[if_pos oM]
 unfold QH
 rw[h]
 rfl
theorem LX {n:Nw} {m:Ms} {B c K:Nat} (hK:leN n.tm (MG n m)=K):QH n m B (c+1)=sdN n B (1+c+1) (1+c+1) (n.l.length+c+1) (n.tm.length+c+1)::sdM m::sdO ::
  .live (1+c+1) 4 (((sdX n m K c).map (lvE (B+3))).take K++[.v (.int .i64 m.fr),.v (.int .i64 m.to),.v (.int .i64 m.nu),.sl (B+(n.l.length+c+1+1+1+1+1+1)) 1 0 m.body.length]::((sdX n m K c).map (lvE (B+3))).drop K) ::
  .live (1+c+1) 1 (vs (((sdT n (MG n m) K c).map eI).take K++[[.int .i64 (MG n m)]])++vs (((sdT n (MG n m) K c).map eI).drop K))::.live 1 2 (vs (n.fates.map eFt))::(fl (n.l.length+c) (fun j=>bdR (sdB n m j))++[.live 1 1 (vs (m.body.map eI))]):=by
 have h1:fl (n.l.length+(c+1)) (fun j=>bdR (sdB n m j))=fl (n.l.length+c) (fun j=>bdR (sdB n m j))++[.live 1 1 (vs (m.body.map eI))]:=by
  unfold fl
  rw[←ct,fq,bq]
  simp only[bl,cd]
  have:sdB n m (n.l.length+c)=m.body:=if_neg oM
  rw[this];rfl
 have h2:(sdX n m K (c+1)).map (lvE (B+3))=((sdX n m K c).map (lvE (B+3))).take K++[.v (.int .i64 m.fr),.v (.int .i64 m.to),.v (.int .i64 m.nu),.sl (B+(n.l.length+c+1+1+1+1+1+1)) 1 0 m.body.length]::((sdX n m K c).map (lvE (B+3))).drop K:=by
  rw[sdX,bq,bq,fy,gp]
  have:lvE (B+3) (m,n.l.length+c)=[.v (.int .i64 m.fr),.v (.int .i64 m.to),.v (.int .i64 m.nu),.sl (B+(n.l.length+c+1+1+1+1+1+1)) 1 0 m.body.length]:=by
   unfold lvE
   rw[show B+3+(3+(m,n.l.length+c).2)=B+(n.l.length+c+1+1+1+1+1+1) by simp only;omega]
  simp only[bl,cd,this,bh,da,dw]
 have h3:vs ((sdT n (MG n m) K (c+1)).map eI)=vs (((sdT n (MG n m) K c).map eI).take K++[[.int .i64 (MG n m)]])++vs (((sdT n (MG n m) K c).map eI).drop K):=by
  rw[sdT,bq,bq,fy,gp,ZDg]
  rfl
 unfold QH
 rw[hK,h1,h2,h3]
 rfl
theorem ZA0 (n:Nw) (m:Ms) (b l:List Row):QA Tryz.prog 156 [.agg ((eNw n).map .v),.agg (zMA m)] b l
  (fun r b' l'=>r=.tup [ZCD (b.length+l.length) (p7 n m),.v (.int .i64 (rQ n m))]∧b'=b∧l'=l++wV (b.length+l.length) (p7 n m)):=by
 refine XA O5 rfl kE ?_
 intro B g hB hR hE hA;simp only[zA]at hA
 have hV:=qG n
 have hC:=aL n
 unfold eNw at hV hC
 simp only[bl,cd]at hV hC
 have bad:rQ n m≠0→p7 n m=none:=fun h=>if_neg h
 simp (disch:=first|decide|omega) only[a_nSend,hA,eNw,go_sem]
 refine QA.nxt (hV _ _) ?_
 cases h1:nwB n
 ·have he:rQ n m=1:=by unfold rQ;rw[h1];rfl
  rw[bad (by rw[he];decide),he]
  simp (disch:=first|decide|omega) only[hA,cellsOf,go_sem]
  exact DA (.inr rfl) (xs:=[zNw,.v (.int .i64 1)]) (by simp (disch:=first|decide|omega) only[resVs,resV,hA,zNw,go_sem]) (by simp only[one,zNw,lts.down,Nat.reduceLT,Nat.reduceAdd]) hR hB ⟨rfl,rfl,by simp[wV]⟩
 simp (disch:=first|decide|omega) only[hA,go_sem]
 refine QA.nxt (aU m _ _) ?_
 cases h2:msB m
 ·have he:rQ n m=1:=by unfold rQ;rw[if_pos h1,h2];rfl
  rw[bad (by rw[he];decide),he]
  simp (disch:=first|decide|omega) only[hA,cellsOf,go_sem]
  exact DA (.inr rfl) (xs:=[zNw,.v (.int .i64 1)]) (by simp (disch:=first|decide|omega) only[resVs,resV,hA,zNw,go_sem]) (by simp only[one,zNw,lts.down,Nat.reduceLT,Nat.reduceAdd]) hR hB ⟨rfl,rfl,by simp[wV]⟩
 have hes:rQ n m=sdE n m:=by unfold rQ;rw[if_pos h1,if_pos h2]
 rw[hes]at bad⊢
 have hv:=MF.1 h1
 have ZKX:=hv.now
 have dW:=hv.l
 have pC:=hv.len
 have hfl:=hv.fl
 have hhd:=EQ hv
 have hbl:=aZ h2
 simp (disch:=first|decide|omega) only[hA,go_sem]
 refine QA.nxt (hC hv.s _ _) ?_
 have hxl:(SB n).xs.length=n.l.length:=fA
 have hav:∀base,(SB n).av base=.agg [.v (.int .i64 n.now),.v (.bool n.fifo),.sl base 1 0 n.l.length,.sl (base+1) 1 0 n.tm.length,.sl (base+2) 1 0 n.fates.length]:=fun base=>by
  unfold Lv.av;rw[hxl];rfl
 have e1:B.length+3+1=B.length+4:=rfl
 have e2:B.length+3+2=B.length+5:=rfl
 have hrw:=DL (n:=n) (base:=B.length+3)
 have ha0:IH n m 0=n.now+(hdF n).2:=rfl
 have hdc:0≤(hdF n).1∧(hdF n).1≤3:=hhd.1
 have hda:0≤(hdF n).2∧(hdF n).2≤1000000:=hhd.2
 by_cases hf:n.fates=[]
 case' pos =>
  have d1:decide ((0:Int)<(n.fates.length:Int))=false:=by rw[hf];rfl
  have h1f:(hdF n).1=1:=by unfold hdF;rw[hf];rfl
  have h2f:(hdF n).2=0:=by unfold hdF;rw[hf];rfl
  have ho:S0 n=0:=if_pos hf
  have hff:Row.live 0 2 [[.v (.int .i64 1),.v (.int .i64 0)]]=sdF n:=by unfold sdF;rw[h1f,h2f]
  have hat:n.now+0=IH n m 0:=by rw[ha0,h2f]
  have hn0:Row.live 0 5 [[.v (.int .i64 n.now),.v (.bool n.fifo),.sl (B.length+3) 1 0 n.l.length,.sl (B.length+4) 1 0 n.tm.length,.sl (B.length+5) 1 0 n.fates.length]]=sdN n B.length 1 1 n.l.length n.tm.length:=by unfold sdN;rw[ho];rfl
  simp (disch:=first|decide|omega) only[hA,hav,hrw,e1,e2,fA,RC,MC,yB,rB,d1,cellsOf,go_sem]
 case' neg =>
  have Q1:0<n.fates.length:=by
   cases hq:n.fates with
   |nil=>exact absurd hq hf
   |cons x r=>simp
  have d1:decide ((0:Int)<(n.fates.length:Int))=true:=ae oM
  have ho:S0 n=1:=if_neg hf
  have hg0:(n.fates.map eFt)[Int.toNat 0]? = some [.int .i64 (hdF n).1,.int .i64 (hdF n).2]:=by
   show (n.fates.map eFt)[0]? = _
   unfold hdF
   cases hq:n.fates with
   |nil=>exact absurd hq hf
   |cons x r=>rfl
  have hff:Row.live 0 2 [[.v (.int .i64 (hdF n).1),.v (.int .i64 (hdF n).2)]]=sdF n:=rfl
  have hn0:Row.live 0 5 [[.v (.int .i64 n.now),.v (.bool n.fifo),.sl (B.length+3) 1 0 n.l.length,.sl (B.length+4) 1 0 n.tm.length,.sl (B.length+5) 1 (Int.toNat 1) (n.fates.length-Int.toNat 1)]]=sdN n B.length 1 1 n.l.length n.tm.length:=by unfold sdN;rw[ho];rfl
  have hat:n.now+(hdF n).2=IH n m 0:=rfl
  simp (disch:=first|decide|omega) only[hA,hav,hrw,e1,e2,fA,RC,MC,yB,rB,d1,hg0,wB,cellsOf,go_sem]
 all_goals
  refine JA (ι:=Nat) ZM (fun i=>[(7,.v (.int .i64 (IH n m i))),(44,.v (.int .i64 i))]) (n.l.length+7) (fun _=>sdN n B.length 1 1 n.l.length n.tm.length::sdM m::sdO::.live 1 4 ((SB n).xs.map (lvE (B.length+3)))::.live 1 1 (vs (n.tm.map eI))::.live 1 2 (vs (n.fates.map eFt))::(fl n.l.length (clB n)++[sdF n]))
   (fun i=>i≤n.l.length) (fun i=>n.l.length-i) 0 (aj _) kM (by ((try simp (disch:=decide) only[hA,hat,go_sem])<;>exact kH)) (fun e=>by rw[hn0,hff];exact KA.refl _ _ _) ?_
  intro g1 UG mF rA i hi
  have MY:tA (B.length+(sdN n B.length 1 1 n.l.length n.tm.length::sdM m::sdO::.live 1 4 ((SB n).xs.map (lvE (B.length+3)))::.live 1 1 (vs (n.tm.map eI))::.live 1 2 (vs (n.fates.map eFt))::(fl n.l.length (clB n)++[sdF n])).length) (sdN n B.length 1 1 n.l.length n.tm.length::sdM m::sdO::.live 1 4 ((SB n).xs.map (lvE (B.length+3)))::.live 1 1 (vs (n.tm.map eI))::.live 1 2 (vs (n.fates.map eFt))::(fl n.l.length (clB n)++[sdF n])):=by
   refine sU kS (ZDy ZGV (by simp[fA];omega)) (tA.app tA.flB ?_)
   unfold sdF
   simp (disch:=omega) only[lts.down,Nat.reduceLT,Nat.reduceAdd]
  by_cases yA:i<n.l.length
  ·have hxg:=ZDP (n:=n) (base:=B.length+3) yA
   have htg:=tE (l:=n.tm) (i:=i) oM
   have hbd:=UO hv (m:=m) i oM
   cases hfi:(n.fifo==true)
   case false =>
    have hfb:(n.fifo=true)=False:=by simpa using hfi
    have pG:IH n m (i+1)=IH n m i:=by simp only[IH];rw[if_neg (fun h=>by rw[hfb]at h;exact h.1)]
    simp (disch:=first|decide|omega) only[hA,rA,hxg,htg,hfi,hfb,fA,RC,MC,yB,rB,wB,sdN,sdM,sdO,sdF,cellsOf,go_sem]
    refine⟨i+1,yA,by simp only;omega,?_⟩
    exact KA.kround (p:=ZM) (k:=n.l.length+7) (l1:=sdN n B.length 1 1 n.l.length n.tm.length::sdM m::sdO::.live 1 4 ((SB n).xs.map (lvE (B.length+3)))::.live 1 1 (vs (n.tm.map eI))::.live 1 2 (vs (n.fates.map eFt))::(fl n.l.length (clB n)++[sdF n])) (junk:=[_]) kQ (by ((try simp (disch:=decide) only[pG,hA,go_sem])<;>exact kH)) (by simp only[sdN,sdM,sdO,sdF,da,bh,dw];rfl) UG (by simp[fA]) kV hR MY
   case true =>
    have hfb:(n.fifo=true)=True:=by simpa using hfi
    by_cases hfr:n.l[i].fr=m.fr
    case neg =>
     have d1:(n.l[i].fr==m.fr)=false:=dy.2 hfr
     have pG:IH n m (i+1)=IH n m i:=by simp only[IH];rw[if_neg (fun h=>hfr (by have:=h.2.1;rwa [YA yA]at this))]
     simp (disch:=first|decide|omega) only[hA,rA,hxg,htg,hfi,hfb,d1,fA,RC,MC,yB,rB,wB,sdN,sdM,sdO,sdF,cellsOf,go_sem]
     refine⟨i+1,yA,by simp only;omega,?_⟩
     exact KA.kround (p:=ZM) (k:=n.l.length+7) (l1:=sdN n B.length 1 1 n.l.length n.tm.length::sdM m::sdO::.live 1 4 ((SB n).xs.map (lvE (B.length+3)))::.live 1 1 (vs (n.tm.map eI))::.live 1 2 (vs (n.fates.map eFt))::(fl n.l.length (clB n)++[sdF n])) (junk:=[_]) kQ (by ((try simp (disch:=decide) only[pG,hA,go_sem])<;>exact kH)) (by simp only[sdN,sdM,sdO,sdF,da,bh,dw];rfl) UG (by simp[fA]) kV hR MY
    have d1:(n.l[i].fr==m.fr)=true:=by rw[hfr];simp
    by_cases hto:n.l[i].to=m.to
    case neg =>
     have d2:(n.l[i].to==m.to)=false:=dy.2 hto
     have pG:IH n m (i+1)=IH n m i:=by simp only[IH];rw[if_neg (fun h=>hto (by have:=h.2.2;rwa [YA yA]at this))]
     simp (disch:=first|decide|omega) only[hA,rA,hxg,htg,hfi,hfb,d1,d2,fA,RC,MC,yB,rB,wB,sdN,sdM,sdO,sdF,cellsOf,go_sem]
     refine⟨i+1,yA,by simp only;omega,?_⟩
     exact KA.kround (p:=ZM) (k:=n.l.length+7) (l1:=sdN n B.length 1 1 n.l.length n.tm.length::sdM m::sdO::.live 1 4 ((SB n).xs.map (lvE (B.length+3)))::.live 1 1 (vs (n.tm.map eI))::.live 1 2 (vs (n.fates.map eFt))::(fl n.l.length (clB n)++[sdF n])) (junk:=[_]) kQ (by ((try simp (disch:=decide) only[pG,hA,go_sem])<;>exact kH)) (by simp only[sdN,sdM,sdO,sdF,da,bh,dw];rfl) UG (by simp[fA]) kV hR MY
    have d2:(n.l[i].to==m.to)=true:=by rw[hto];simp
    have pG:(if IH n m i<n.tm.getD i 0 then n.tm.getD i 0 else IH n m i)=IH n m (i+1):=by
     simp only[IH]
     rw[if_pos (show n.fifo=true∧_ from⟨by rw[hfb];trivial,by rw[YA yA];exact hfr,by rw[YA yA];exact hto⟩)]
     split<;>omega
    simp (disch:=first|decide|omega) only[hA,rA,hxg,htg,hfi,hfb,d1,d2,fA,RC,MC,yB,rB,wB,sdN,sdM,sdO,sdF,cellsOf,go_sem]
    refine⟨i+1,yA,by simp only;omega,?_⟩
    exact KA.kround (p:=ZM) (k:=n.l.length+7) (l1:=sdN n B.length 1 1 n.l.length n.tm.length::sdM m::sdO::.live 1 4 ((SB n).xs.map (lvE (B.length+3)))::.live 1 1 (vs (n.tm.map eI))::.live 1 2 (vs (n.fates.map eFt))::(fl n.l.length (clB n)++[sdF n])) (junk:=[_]) kQ (by ((try simp (disch:=decide) only[pG,hA,go_sem])<;>exact kH)) (by simp only[sdN,sdM,sdO,sdF,da,bh,dw];rfl) UG (by simp[fA]) kV hR MY
  ·obtain rfl:i=n.l.length:=by omega
   have ZGr:IH n m n.l.length=MG n m:=rfl
   have hbd:=UO hv (m:=m) n.l.length (ai _)
   rw[ZGr]at hbd
   have d1:decide (1099512627776<MG n m)=false:=ag oM
   by_cases ZBZ:1000<(n.l.length:Int)+(hdF n).1
   ·have d2:=ae ZBZ
    have he:sdE n m=5:=by unfold sdE;rw[if_neg oM,if_pos (show (n.l.length:Int)+XU n>1000 from ZBZ)]
    rw[bad (by rw[he];decide),he]
    simp (disch:=first|decide|omega) only[hA,rA,ZGr,d1,d2,fA,RC,MC,yB,rB,wB,sdN,sdM,sdO,sdF,cellsOf,go_sem]
    exact DA (.inr rfl) (xs:=[zNw,.v (.int .i64 5)]) (by simp (disch:=first|decide|omega) only[resVs,resV,hA,rA,zNw,go_sem]) (by simp only[one,zNw,lts.down,Nat.reduceLT,Nat.reduceAdd]) hR hB ⟨rfl,rfl,by simp[wV]⟩
   have d2:=ag ZBZ
   have he:sdE n m=0:=by unfold sdE;rw[if_neg oM,if_neg (show ¬(n.l.length:Int)+XU n>1000 from ZBZ)]
   have hZ:p7 n m=some (c7 n m (XU n).toNat):=if_pos (by rw[hes,he])
   rw[hZ,he]
   simp (disch:=first|decide|omega) only[hA,rA,ZGr,d1,d2,fA,RC,MC,yB,rB,wB,sdN,sdM,sdO,sdF,cellsOf,go_sem]
   refine QA.nxt (ZAn n.tm oM hv.sorted (MG n m) (B.length+4) 1 _ _ (by rw[ar oM,ci];rfl)) ?_
   simp (disch:=first|decide|omega) only[hA,rA,ZGr,d1,d2,fA,RC,MC,yB,rB,wB,cellsOf,go_sem]
   have ZKW:=AS (l:=n.tm) (a:=MG n m)
   obtain⟨C,hC1⟩:∃C:Nat,(hdF n).1=(C:Int):=⟨(hdF n).1.toNat,by omega⟩
   have hCc:(XU n).toNat=C:=by show (hdF n).1.toNat=C;omega
   rw[hC1]
   refine sL (f':=kOv [(2,.ptr B.length 0 0 0),(3,.ptr (B.length+1) 0 0 0),(4,.ptr (B.length+2) 0 0 0),(5,.v (.int .i64 0)),(7,.v (.int .i64 (MG n m))),(10,.v (.int .i64 (leN n.tm (MG n m)))),(95,.v (.int .i64 C)),(96,.v (.int .i64 0))] (fun _=>.any)) (l':=QH n m B.length 0)
    (ι:=Nat) rZ (fun c=>[(96,.v (.int .i64 c))]) 6 (fun c=>QH n m B.length c) (fun c=>c≤C) (fun c=>C-c) 0 (aj _)
    (KA.ktrim (junk:=[sdF n]) _ kA (by rw[PX,hC1.symm];rfl) (by rw[wK];simp (disch:=omega) only[EI,lts.down,Nat.reduceLT,Nat.reduceAdd]) hR rU) (KLt.ov (fun _=>.any) kV) kA kF ?_
   intro g2 AJ OP VE c hc
   by_cases hlc:c<C
   ·simp (disch:=first|decide|omega) only[hA,VE,fA,RC,MC,yB,rB,wB,QH,sdN,sdM,sdO,cellsOf,go_sem]
    refine QA.nxt (GO m oM _ _) ?_
    simp (disch:=first|decide|omega) only[hA,VE,fA,RC,MC,yB,rB,wB,bx,ca,go_sem]
    obtain⟨K,hK⟩:∃K,K=leN n.tm (MG n m):=⟨_,rfl⟩
    have hK2:leN n.tm (MG n m)=K:=hK.symm
    rw[←hK]at ZKW⊢
    have hM:=fun b l hid hv=>ZCt (B.length+3) (1+c) K (B.length+(n.l.length+c+1+1+1+1+1+1+1)) 0 ((sdX n m K c).map (lvE (B.length+3))) [.v (.int .i64 m.fr),.v (.int .i64 m.to),.v (.int .i64 m.nu),.sl (B.length+(n.l.length+c+1+1+1+1+1+1)) 1 0 m.body.length] b l hid hv oM (by rw[aa,QO];omega) (by rw[aa,QO];omega)
    simp only[aa,QO]at hM
    refine QA.nxt (hM _ _ (by rw[ar oM,ci];rfl) (by rw[ar oM,ci];simp only[ga];rw[MC];rfl)) ?_
    simp (disch:=first|decide|omega) only[hA,VE,fA,RC,MC,yB,rB,wB,bx,ca,go_sem]
    have hI:=fun b l hid hv=>ZCu (B.length+4) (1+c) K (B.length+(n.l.length+c+2+1+1+1+1+1+1)) 0 (vs ((sdT n (MG n m) K c).map eI)) [.v (.int .i64 (MG n m))] b l hid hv oM (by rw[MB,aa,XO];omega) (by rw[MB,aa,XO];omega)
    simp only[MB,aa,XO]at hI
    rw[hK2]
    refine QA.nxt (hI _ _ (by rw[ar oM,ci];rfl) (by rw[ar oM,ci];simp only[ga];rw[MC];rfl)) ?_
    simp (disch:=first|decide|omega) only[hA,VE,fA,RC,MC,yB,rB,wB,bx,ca,go_sem]
    subst hK
    refine⟨c+1,hlc,by simp only;omega,?_⟩
    show KA _ B _ (kOf 115 (kOv [(96,.v (.int .i64 ((c+1:Nat):Int)))] g2)) B (QH n m B.length (c+1))
    exact KA.kround (p:=rZ) (k:=6) (l1:=QH n m B.length (c+1)) (junk:=[_,_]) kQ kA (by rw[LX hK2];simp only[sdN,sdM,sdO,da,bh,dw];rfl) AJ (by rw[wK];omega) (by rw[wK];simp (disch:=omega) only[EI,lts.down,Nat.reduceLT,Nat.reduceAdd]) hR rU
   ·obtain rfl:c=C:=by omega
    simp (disch:=first|decide|omega) only[hA,VE,fA,RC,MC,yB,rB,wB,QH,sdN,sdM,sdO,cellsOf,go_sem]
    rw[hCc]
    have hzx:(c7 n m c).xs.length=n.l.length+c:=QO c
    have hzt:(c7 n m c).tm.length=n.tm.length+c:=XO c
    refine SZ (.inr rfl) (z:=c7 n m c) J8 (s:=3) (c:=.int .i64 0) (junk:=[]) (by simp (disch:=first|decide|omega) only[resVs,resV,hA,VE,Lv.av,hzx,hzt,go_sem];rfl) ?_ hR hB ⟨by rw[hB,aq];rfl,rfl,by rw[hB,aq];rfl⟩
    rw[db]
    unfold Lv.rows
    rw[show (c7 n m c).bd.map bdR=fl (n.l.length+c) (fun j=>bdR (sdB n m j)) from ZED]
    rfl
theorem Z4 (n:Nw) (m:Ms) (b l:List Row):QA Tryz.prog 156 [.agg ((eNw n).map .v),.agg (zMA m)] b l
  (fun r b' l'=>r=.tup [nwA (ZEe n m),.v (.int .i64 (rQ n m))]∧b'=b∧l'=l):=by
 rw[←ZFW]
 exact QA.ownV ZFV (ZA0 n m b l)
def a_nRecv:AFunc:=({c:=_}:CF Tryz.prog 157).c
theorem Z6:jA Tryz.prog 157=some a_nRecv:=by kernel_rfl
def sZ:List (Nat×Nat):=[(6,8),(24,56)]

def rcE (n:Nw) (to:Int):Int:=if nwB n=true then (if ptB to=true then (if fiR n to<0 then 7 else 0) else 2) else 1
def uJ (n:Nw) (k:Nat):Lv:=⟨n.now,n.fifo,2,2,0,(SB n).xs.take k++(SB n).xs.drop (k+1),n.tm.take k++n.tm.drop (k+1),n.fates,n.l.map (·.body)⟩
def rcZ (n:Nw) (to:Int):Option Lv:=if rcE n to=0 then some (uJ n (fiR n to).toNat) else none
def rcN (n:Nw) (to:Int):Nw:=if rcE n to=0 then woN n (fiR n to).toNat else nw0
def rcM (n:Nw) (to:Int):Ms:=if rcE n to=0 then n.l.getD (fiR n to).toNat dfMs else dfMs
def ZB4 (n:Nw) (to:Int) (base:Nat):AV:=if rcE n to=0 then .agg [.v (.int .i64 (rcM n to).fr),.v (.int .i64 (rcM n to).to),.v (.int .i64 (rcM n to).nu),.sl (base+(3+n.l.length)) 1 0 (rcM n to).body.length] else .agg [.v (.int .i64 0),.v (.int .i64 0),.v (.int .i64 0),.v .zsl]
def rcR (n:Nw) (to:Int) (base:Nat):List Row:=if rcE n to=0 then (uJ n (fiR n to).toNat).rows base++[bdR (rcM n to).body] else []
theorem V8 {n:Nw} {k:Nat}:(uJ n k).ok:=by
 refine⟨aj _,fun x hx=>?_⟩
 refine (FO n).bd x ?_
 rcases bn.1 hx with h|h
 ·exact dt h
 ·exact ey h
theorem ZF6 {n:Nw} {k:Nat}:(uJ n k).nw=woN n k:=by
 have h:(SB n).xs.map (·.1)=n.l:=congrArg Nw.l (EO n)
 unfold Lv.nw uJ woN
 simp only[bq,fy,gp,h,gz]
theorem ZIA {n:Nw} {to:Int}:ZB6 (rcZ n to)=rcN n to:=by
 unfold rcZ rcN
 split
 ·exact ZF6
 ·rfl
theorem ZAC {n:Nw} {k base:Nat}:(uJ n k).rows base=.live 2 4 (((SB n).xs.map (lvE base)).take k++((SB n).xs.map (lvE base)).drop (k+1))::.live 2 1 (vs ((n.tm.map eI).take k)++vs ((n.tm.map eI).drop (k+1)))::.live 1 2 (vs (n.fates.map eFt))::fl n.l.length (clB n):=by
 have h:=DL (n:=n) (base:=base)
 unfold Lv.rows at h⊢
 have h2:=(List.cons.inj (List.cons.inj (List.cons.inj h).2).2).2
 have h3:(uJ n k).bd.map bdR=fl n.l.length (clB n):=h2
 rw[h3]
 unfold uJ
 simp only[bq,fy,gp,ZDg]
theorem ZA1 (n:Nw) (to:Int) (b l:List Row):QA Tryz.prog 157 [.agg ((eNw n).map .v),.v (.int .i64 to)] b l
  (fun r b' l'=>r=.tup [ZCD (b.length+l.length) (rcZ n to),ZB4 n to (b.length+l.length),.v (.int .i64 (rcE n to))]∧b'=b∧l'=l++rcR n to (b.length+l.length)):=by
 refine XA Z6 rfl kE ?_
 intro B g hB hR hE hA;simp only[zA]at hA
 have hV:=qG n
 have hC:=aL n
 unfold eNw at hV hC
 simp only[bl,cd]at hV hC
 have bad:rcE n to≠0→rcZ n to=none∧ZB4 n to (b.length+l.length)=.agg [.v (.int .i64 0),.v (.int .i64 0),.v (.int .i64 0),.v .zsl]∧rcR n to (b.length+l.length)=[]:=fun h=>⟨if_neg h,if_neg h,if_neg h⟩
 simp (disch:=first|decide|omega) only[a_nRecv,hA,eNw,go_sem]
 refine QA.nxt (hV _ _) ?_
 cases h1:nwB n
 ·have he:rcE n to=1:=by unfold rcE;rw[h1];rfl
  obtain⟨b1,b2,b3⟩:=bad (by rw[he];decide)
  rw[b1,b2,b3,he]
  simp (disch:=first|decide|omega) only[hA,cellsOf,go_sem]
  exact DA (.inr rfl) (xs:=[zNw,.agg [.v (.int .i64 0),.v (.int .i64 0),.v (.int .i64 0),.v .zsl],.v (.int .i64 1)]) (by simp (disch:=first|decide|omega) only[resVs,resV,hA,zNw,go_sem]) (by simp only[one,zNw,lts.down,Nat.reduceLT,Nat.reduceAdd]) hR hB ⟨rfl,rfl,by simp⟩
 simp (disch:=first|decide|omega) only[hA,go_sem]
 refine QA.nxt (qJ to _ _) ?_
 cases h2:ptB to
 ·have he:rcE n to=2:=by unfold rcE;rw[if_pos h1,h2];rfl
  obtain⟨b1,b2,b3⟩:=bad (by rw[he];decide)
  rw[b1,b2,b3,he]
  simp (disch:=first|decide|omega) only[hA,cellsOf,go_sem]
  exact DA (.inr rfl) (xs:=[zNw,.agg [.v (.int .i64 0),.v (.int .i64 0),.v (.int .i64 0),.v .zsl],.v (.int .i64 2)]) (by simp (disch:=first|decide|omega) only[resVs,resV,hA,zNw,go_sem]) (by simp only[one,zNw,lts.down,Nat.reduceLT,Nat.reduceAdd]) hR hB ⟨rfl,rfl,by simp⟩
 have hv:=MF.1 h1
 have dW:=hv.l
 have pC:=hv.len
 simp (disch:=first|decide|omega) only[hA,go_sem]
 refine JA (ι:=Nat) sZ (fun i=>[(24,.v (.int .i64 i))]) 3 (fun _=>[.live 0 5 [(zNA n)],.live 0 5 [[.v (.int .i64 0),.v (.bool false),.v .zsl,.v .zsl,.v .zsl]],.live 0 4 [[.v (.int .i64 0),.v (.int .i64 0),.v (.int .i64 0),.v .zsl]]])
  (fun i=>i≤n.l.length∧∀j,j<i→arB n to j=false) (fun i=>n.l.length-i) 0 ⟨aj _,fun j hj=>by omega⟩ kM kA kF ?_
 rintro g1 UG mF rA k ⟨hk,h0⟩
 by_cases yA:k<n.l.length
 ·simp (disch:=first|decide|omega) only[hA,rA,aa,go_sem]
  refine QA.nxt (GU n k yA oM to _ _) ?_
  cases q:arB n to k
  ·simp (disch:=first|decide|omega) only[hA,rA,go_sem]
   refine⟨k+1,⟨yA,fun j hj=>?_⟩,by simp only;omega,?_⟩
   ·rcases bj j k with JG|JG
    ·exact h0 j JG
    ·obtain rfl:j=k:=by omega
     exact q
   ·exact KA.kround (p:=sZ) (k:=3) kQ kA rfl UG kS kV hR kL
  have hfi:fiR n to=k:=E7 yA h0 q
  have he:rcE n to=0:=by unfold rcE;rw[if_pos h1,if_pos h2,hfi,if_neg oM]
  have tO:(fiR n to).toNat=k:=by rw[hfi];rfl
  have hZ:rcZ n to=some (uJ n k):=by unfold rcZ;rw[if_pos he,tO]
  have hM:rcM n to=n.l[k]:=by unfold rcM;rw[if_pos he,tO,YA yA]
  have hMA:ZB4 n to (b.length+l.length)=.agg [.v (.int .i64 n.l[k].fr),.v (.int .i64 n.l[k].to),.v (.int .i64 n.l[k].nu),.sl (b.length+l.length+(3+n.l.length)) 1 0 n.l[k].body.length]:=by unfold ZB4;rw[if_pos he,hM]
  have hRR:rcR n to (b.length+l.length)=(uJ n k).rows (b.length+l.length)++[bdR n.l[k].body]:=by unfold rcR;rw[if_pos he,tO,hM]
  rw[hZ,hMA,hRR,he]
  have P7:=EK yA
  simp (disch:=first|decide|omega) only[hA,rA,P7,aa,go_sem]
  refine QA.nxt (GO n.l[k] (hv.s.body _ (am yA)) _ _) ?_
  simp (disch:=first|decide|omega) only[hA,rA,cellsOf,go_sem]
  refine QA.nxt (hC hv.s _ _) ?_
  have hxl:(SB n).xs.length=n.l.length:=fA
  have hav:∀base,(SB n).av base=.agg [.v (.int .i64 n.now),.v (.bool n.fifo),.sl base 1 0 n.l.length,.sl (base+1) 1 0 n.tm.length,.sl (base+2) 1 0 n.fates.length]:=fun base=>by
   unfold Lv.av;rw[hxl];rfl
  have e1:B.length+5+1=B.length+6:=rfl
  have e2:B.length+5+2=B.length+7:=rfl
  have hrw:=DL (n:=n) (base:=B.length+5)
  simp (disch:=first|decide|omega) only[hA,rA,hav,hrw,e1,e2,cellsOf,go_sem]
  have hD:=fun b l hid=>ZDL (B.length+5) 1 k ((SB n).xs.map (lvE (B.length+5))) b l hid (by rw[aa,hxl];exact yA)
  simp only[aa,hxl]at hD
  refine QA.nxt (hD _ _ (by rw[ar oM,ci];rfl)) ?_
  simp (disch:=first|decide|omega) only[hA,rA,cellsOf,go_sem]
  have hI:=fun b l hid=>ZDM (B.length+6) 1 k (vs (n.tm.map eI)) b l hid (by rw[MB,aa];omega)
  simp only[aa,MB]at hI
  refine QA.nxt (hI _ _ (by rw[ar oM,ci];rfl)) ?_
  simp (disch:=first|decide|omega) only[hA,rA,cellsOf,go_sem]
  rw[←ZAC]
  obtain⟨σ,s1,s2⟩:∃σ:Nat→Nat,(∀j,j<n.l.length+3→σ j=j+5)∧σ (n.l.length+3)=3:=⟨fun j=>if j<n.l.length+3 then j+5 else 3,fun j h=>if_pos h,if_neg oM⟩
  have hbd:(uJ n k).bd.length=n.l.length:=by unfold uJ;simp
  have MY:((uJ n k).rows B.length).length=n.l.length+3:=by unfold Lv.rows;simp[hbd]
  have hzx:(uJ n k).xs.length=n.l.length-1:=by
   unfold uJ
   simp only[aq,cf,ea,hxl];omega
  have hzt:(uJ n k).tm.length=n.tm.length-1:=by
   unfold uJ
   simp only[aq,cf,ea];omega
  have hza:(uJ n k).av (B.length+5)=.agg [.v (.int .i64 n.now),.v (.bool n.fifo),.sl (B.length+5) 2 0 (n.l.length-1),.sl (B.length+6) 2 0 (n.tm.length-1),.sl (B.length+7) 1 0 n.fates.length]:=by
   unfold Lv.av
   rw[hzx,hzt]
   rfl
  refine UI (.inr rfl) (xs:=[(uJ n k).av (B.length+5),.agg [.v (.int .i64 n.l[k].fr),.v (.int .i64 n.l[k].to),.v (.int .i64 n.l[k].nu),.sl (B.length+3) 1 0 n.l[k].body.length],.v (.int .i64 0)]) (y:=.tup [(uJ n k).av B.length,.agg [.v (.int .i64 n.l[k].fr),.v (.int .i64 n.l[k].to),.v (.int .i64 n.l[k].nu),.sl (B.length+(3+n.l.length)) 1 0 n.l[k].body.length],.v (.int .i64 0)]) (l':=(uJ n k).rows B.length++[bdR n.l[k].body]) (by simp (disch:=first|decide|omega) only[resVs,resV,hA,rA,hza,go_sem]) (m:=n.l.length+4) (by rw[aq,MY];rfl) σ (fun a c ha hc h=>?_) (fun j r' h=>?_) ?_ hR hB ⟨by rw[hB,aq];rfl,rfl,by rw[hB,aq]⟩
  ·by_cases h1:a<n.l.length+3<;>by_cases h2:c<n.l.length+3
   ·rw[s1 a h1,s1 c h2]at h;omega
   ·rw[s1 a h1,show c=n.l.length+3 by omega,s2]at h;omega
   ·rw[s1 c h2,show a=n.l.length+3 by omega,s2]at h;omega
   ·omega
  ·by_cases hj:j<n.l.length+3
   ·rw[aw oM]at h
    have key:∀pre:List Row,pre.length=5→∃r,(pre++(uJ n k).rows (B.length+5))[σ j]? = some r∧RnR B.length (n.l.length+4) σ r r':=fun pre hp=>by
     have:=Lv.rnR (z:=uJ n k) V8 (n:=B.length) (s:=5) (m:=n.l.length+4) oM (σ:=σ) (fun j hj=>s1 j oM) (pre:=pre) (junk:=[]) hp j r' h
     rwa [db]at this
    exact key [_,_,_,_,_] rfl
   ·have hl:=(ak.1 h).1
    rw[aq,MY]at hl
    have hl:j<n.l.length+3+1:=hl
    obtain rfl:j=n.l.length+3:=by omega
    rw[ar oM,MY,eh]at h
    cases h
    rw[s2]
    exact⟨_,rfl,RnR.plain⟩
  ·refine Rn.tupL (.cons (Lv.rnA oM (fun j hj=>s1 j oM)) (.cons (Rn.aggL (.cons (.v _) (.cons (.v _) (.cons (.v _) (.cons ?_ .nil))))) (.cons (.v _) .nil)))
   exact Rn.slE (by rw[gx 3];exact s2) oM
 ·obtain rfl:k=n.l.length:=by omega
  have hfi:fiR n to=-1:=gU h0
  have he:rcE n to=7:=by unfold rcE;rw[if_pos h1,if_pos h2,hfi];rfl
  obtain⟨b1,b2,b3⟩:=bad (by rw[he];decide)
  rw[b1,b2,b3,he]
  simp (disch:=first|decide|omega) only[hA,rA,cellsOf,go_sem]
  exact DA (.inr rfl) (xs:=[zNw,.agg [.v (.int .i64 0),.v (.int .i64 0),.v (.int .i64 0),.v .zsl],.v (.int .i64 7)]) (by simp (disch:=first|decide|omega) only[resVs,resV,hA,rA,zNw,go_sem]) (by simp only[one,zNw,lts.down,Nat.reduceLT,Nat.reduceAdd]) hR hB ⟨rfl,rfl,by simp⟩
theorem ZF5 {n:Nw} {to:Int} {base:Nat}:Dv base (rcR n to base) (ZB4 n to base) (.agg ((eMs (rcM n to)).map .v)):=by
 by_cases he:rcE n to=0
 ·unfold ZB4 rcR
  rw[if_pos he,if_pos he]
  unfold eMs
  refine Dv.aggL (.cons (.v _) (.cons (.v _) (.cons (.v _) (.cons ?_ .nil))))
  refine Dv.slV (rows:=(rcM n to).body.map eI) ?_ kS
  have MY:((uJ n (fiR n to).toNat).rows base).length=3+n.l.length:=by unfold Lv.rows uJ;simp;omega
  rw[ar oM,MY,eh]
  rfl
 ·unfold ZB4 rcM
  rw[if_neg he,if_neg he]
  exact Dv.aggL (.cons (.v _) (.cons (.v _) (.cons (.v _) (.cons (.z 1) .nil))))
theorem ZIB {n:Nw} {to:Int} {base:Nat}:Dv base (rcR n to base) (ZCD base (rcZ n to)) (nwA (rcN n to)):=by
 rw[←ZIA]
 by_cases he:rcE n to=0
 ·unfold rcZ rcR
  rw[if_pos he,if_pos he]
  exact (Lv.dv V8 base).more _
 ·unfold rcZ
  rw[if_neg he]
  exact ZDb
theorem Q4 (n:Nw) (to:Int) (b l:List Row):QA Tryz.prog 157 [.agg ((eNw n).map .v),.v (.int .i64 to)] b l
  (fun r b' l'=>r=.tup [nwA (rcN n to),.agg ((eMs (rcM n to)).map .v),.v (.int .i64 (rcE n to))]∧b'=b∧l'=l):=
 QA.deep (Dv.tupL (.cons ZIB (.cons ZF5 (.cons (.v _) .nil)))) (ZA1 n to b l)
def a_rin:AFunc:=({c:=_}:CF Tryz.prog 103).c
theorem ZD0:jA Tryz.prog 103=some a_rin:=by kernel_rfl
def a_rparty:AFunc:=({c:=_}:CF Tryz.prog 148).c
theorem lY:jA Tryz.prog 148=some a_rparty:=by kernel_rfl
def a_rmsg:AFunc:=({c:=_}:CF Tryz.prog 105).c
theorem ZAy:jA Tryz.prog 105=some a_rmsg:=by kernel_rfl
def i8:List (Nat×Nat):=[(2,3),(33,46)]
def a_rfate:AFunc:=({c:=_}:CF Tryz.prog 147).c
theorem l5:jA Tryz.prog 147=some a_rfate:=by kernel_rfl
def a_rfates:AFunc:=({c:=_}:CF Tryz.prog 104).c
theorem fY:jA Tryz.prog 104=some a_rfates:=by kernel_rfl
def pU:List (Nat×Nat):=[(2,15)]
def a_rnValid:AFunc:=({c:=_}:CF Tryz.prog 53).c
theorem UW:jA Tryz.prog 53=some a_rnValid:=by kernel_rfl
def iR:List (Nat×Nat):=[(2,4),(36,64)]
def a_rWaiting:AFunc:=({c:=_}:CF Tryz.prog 61).c
theorem gT:jA Tryz.prog 61=some a_rWaiting:=by kernel_rfl
def yP:List (Nat×Nat):=[(5,33)]

def inZ (x lo hi:Int):Bool:=decide (lo≤x∧x≤hi)
theorem ZAB (x lo hi:Int) (b l:List Row):QA Tryz.prog 103 [.v (.int .i64 x),.v (.int .i64 lo),.v (.int .i64 hi)] b l (fun r b' l'=>r=.v (.bool (inZ x lo hi))∧b'=b∧l'=l):=by
 refine XA ZD0 rfl kE ?_
 intro B g hB hR hE hA;simp only[zA]at hA
 by_cases h1:lo≤x
 ·have d1:=ae h1
  by_cases h2:x≤hi
  ·have d2:=ae h2
   simp (disch:=first|decide|omega) only[a_rin,hA,d1,d2,go_sem]
   exact ZA (xs:=[.v (.bool true)]) ⟨by unfold inZ;rw[ae (show lo≤x∧x≤hi from⟨h1,h2⟩)];rfl,rfl,rfl⟩
  ·have d2:=ag h2
   simp (disch:=first|decide|omega) only[a_rin,hA,d1,d2,go_sem]
   exact ZA (xs:=[.v (.bool false)]) ⟨by unfold inZ;rw[ag (show ¬(lo≤x∧x≤hi) from fun h=>h2 h.2)];rfl,rfl,rfl⟩
 ·have d1:=ag h1
  simp (disch:=first|decide|omega) only[a_rin,hA,d1,go_sem]
  exact ZA (xs:=[.v (.bool false)]) ⟨by unfold inZ;rw[ag (show ¬(lo≤x∧x≤hi) from fun h=>h1 h.1)];rfl,rfl,rfl⟩
theorem aI (x lo hi:Int) (b l:List Row):QA Tryz.prog 103 [.v (.int .i64 x),.v (.int .i64 lo),.v (.int .i64 hi)] b l (fun r b' l'=>r=.v (.bool (decide (lo≤x∧x≤hi)))∧b'=b∧l'=l):=ZAB x lo hi b l
theorem jP (p:Int) (b l:List Row):QA Tryz.prog 148 [.v (.int .i64 p)] b l (fun r b' l'=>r=.v (.bool (ptB p))∧b'=b∧l'=l):=by
 refine XA lY rfl kE ?_
 intro B g hB hR hE hA;simp only[zA]at hA
 simp (disch:=first|decide|omega) only[a_rparty,hA,go_sem]
 refine QA.nxt (aI p 0 7 _ _) ?_
 simp (disch:=first|decide|omega) only[hA,go_sem]
 exact ZA (xs:=[.v (.bool (decide (0≤p∧p≤7)))])
theorem ZAA (m:Ms) (b l:List Row):QA Tryz.prog 105 [.agg (zMA m)] b l (fun r b' l'=>r=.v (.bool (msB m))∧b'=b∧l'=l):=by
 refine XA ZAy rfl kE ?_
 intro B g hB hR hE hA;simp only[zA]at hA
 simp (disch:=first|decide|omega) only[a_rmsg,hA,go_sem]
 refine QA.nxt (jP m.fr _ _) ?_
 cases h1:ptB m.fr
 ·simp (disch:=first|decide|omega) only[hA,go_sem]
  exact ZA (xs:=[.v (.bool false)]) ⟨by unfold msB;rw[h1];rfl,rfl,rfl⟩
 simp (disch:=first|decide|omega) only[hA,go_sem]
 refine QA.nxt (jP m.to _ _) ?_
 cases h2:ptB m.to
 ·simp (disch:=first|decide|omega) only[hA,go_sem]
  exact ZA (xs:=[.v (.bool false)]) ⟨by unfold msB;rw[h1,h2];rfl,rfl,rfl⟩
 by_cases h3:m.fr=m.to
 ·have d3:(m.fr==m.to)=true:=by rw[h3];simp
  simp (disch:=first|decide|omega) only[hA,d3,go_sem]
  exact ZA (xs:=[.v (.bool false)]) ⟨by unfold msB;rw[h1,h2,ag oM];rfl,rfl,rfl⟩
 have d3:(m.fr==m.to)=false:=dy.2 h3
 simp (disch:=first|decide|omega) only[hA,d3,go_sem]
 refine QA.nxt (aI m.nu 0 199 _ _) ?_
 by_cases h4:0≤m.nu∧m.nu≤199
 case neg =>
  rw[ag h4]
  simp (disch:=first|decide|omega) only[hA,go_sem]
  exact ZA (xs:=[.v (.bool false)]) ⟨by unfold msB;rw[h1,h2,ae h3,ag h4];rfl,rfl,rfl⟩
 rw[ae h4]
 by_cases h6:20<m.body.length
 ·have d6:decide ((20:Int)<(m.body.length:Int))=true:=ae oM
  simp (disch:=first|decide|omega) only[hA,d6,aa,go_sem]
  exact ZA (xs:=[.v (.bool false)]) ⟨by unfold msB;rw[h1,h2,ae h3,ae h4,ag (show ¬m.body.length≤20 by omega)];rfl,rfl,rfl⟩
 have d6:decide ((20:Int)<(m.body.length:Int))=false:=ag oM
 have hms:msB m=m.body.all vlB:=by unfold msB;rw[h1,h2,ae h3,ae h4,ae (show m.body.length≤20 by omega)];rfl
 simp (disch:=first|decide|omega) only[hA,d6,aa,go_sem]
 refine JA (ι:=Nat) i8 (fun i=>[(3,.v (.int .i64 i))]) 1 (fun _=>[.live 0 4 [(zMA m)]])
  (fun i=>i≤m.body.length∧∀j (h:j<m.body.length),j<i→vlB m.body[j]=true) (fun i=>m.body.length-i) 0 ⟨aj _,fun j _ hj=>by omega⟩ kM kA kF ?_
 rintro g1 UG mF rA i ⟨hi,h0⟩
 by_cases yA:i<m.body.length
 ·have hg:=tE yA
  rw[YA yA]at hg
  simp (disch:=first|decide|omega) only[hA,rA,hg,aa,go_sem]
  refine QA.nxt (aI m.body[i] (-1073741824) 1073741824 _ _) ?_
  cases q:decide (-1073741824≤m.body[i]∧m.body[i]≤1073741824)
  ·simp (disch:=first|decide|omega) only[hA,rA,go_sem]
   exact ZA (xs:=[.v (.bool false)]) ⟨by rw[hms,ew.2 ⟨m.body[i],am yA,by unfold vlB;rw[q];simp⟩];rfl,rfl,rfl⟩
  ·simp (disch:=first|decide|omega) only[hA,rA,go_sem]
   refine⟨i+1,⟨yA,fun j hj JG=>?_⟩,by simp only;omega,?_⟩
   ·rcases bj j i with h|h
    ·exact h0 j hj h
    ·obtain rfl:j=i:=by omega
     exact q
   ·exact KA.kround (p:=i8) (k:=1) kQ kA rfl UG kS kV hR kL
 ·obtain rfl:i=m.body.length:=by omega
  simp (disch:=first|decide|omega) only[hA,rA,aa,go_sem]
  exact ZA (xs:=[.v (.bool true)]) ⟨by rw[hms,bg.2 (fun x hx=>by obtain⟨j,hj,rfl⟩:=cn hx;exact h0 j hj hj)];rfl,rfl,rfl⟩
theorem Q3 (f:Int×Int) (b l:List Row):QA Tryz.prog 147 [.agg [.v (.int .i64 f.1),.v (.int .i64 f.2)]] b l (fun r b' l'=>r=.v (.bool (ftB f))∧b'=b∧l'=l):=by
 refine XA l5 rfl kE ?_
 intro B g hB hR hE hA;simp only[zA]at hA
 simp (disch:=first|decide|omega) only[a_rfate,hA,go_sem]
 refine QA.nxt (aI f.1 0 3 _ _) ?_
 cases q:decide (0≤f.1∧f.1≤3)
 ·simp (disch:=first|decide|omega) only[hA,go_sem]
  exact ZA (xs:=[.v (.bool false)]) ⟨by unfold ftB;rw[ag (fun h=>by rw[lw]at q;exact q h.1)];rfl,rfl,rfl⟩
 ·simp (disch:=first|decide|omega) only[hA,go_sem]
  refine QA.nxt (aI f.2 0 1000000 _ _) ?_
  simp (disch:=first|decide|omega) only[hA,go_sem]
  exact ZA (xs:=[.v (.bool (decide (0≤f.2∧f.2≤1000000)))]) ⟨by unfold ftB;rw[decide_eq_true_iff]at q;simp only[q,true_and,one],rfl,rfl⟩
theorem CX (v:List (Int×Int)) (hn:v.length≤1000000) (b l:List Row):QA Tryz.prog 104 [.v (.isl 2 (v.map eFt))] b l (fun r b' l'=>r=.v (.bool (N0 v))∧b'=b∧l'=l):=by
 refine XA fY rfl kE ?_
 intro B g hB hR hE hA;simp only[zA]at hA
 simp (disch:=first|decide|omega) only[a_rfates,hA,go_sem]
 refine JA (ι:=Nat) pU (fun i=>[(3,.v (.int .i64 i))]) 0 (fun _=>[])
  (fun i=>i≤v.length∧∀j (h:j<v.length),j<i→ftB v[j]=true) (fun i=>v.length-i) 0 ⟨aj _,fun j _ hj=>by omega⟩ kM kA kF ?_
 rintro g1 UG mF rA i ⟨hi,h0⟩
 by_cases yA:i<v.length
 ·have hg:(v.map eFt)[i]? = some [.int .i64 v[i].1,.int .i64 v[i].2]:=by rw[an,ah yA];rfl
  simp (disch:=first|decide|omega) only[hA,rA,hg,aa,go_sem]
  refine QA.nxt (Q3 v[i] _ _) ?_
  cases q:ftB v[i]
  ·simp (disch:=first|decide|omega) only[hA,rA,go_sem]
   exact ZA (xs:=[.v (.bool false)]) ⟨by unfold N0;rw[ew.2 ⟨v[i],am yA,by rw[q];simp⟩];rfl,rfl,rfl⟩
  ·simp (disch:=first|decide|omega) only[hA,rA,go_sem]
   refine⟨i+1,⟨yA,fun j hj JG=>?_⟩,by simp only;omega,?_⟩
   ·rcases bj j i with h|h
    ·exact h0 j hj h
    ·obtain rfl:j=i:=by omega
     exact q
   ·exact KA.kround (p:=pU) (k:=0) kQ kA rfl UG kS kV hR kL
 ·obtain rfl:i=v.length:=by omega
  simp (disch:=first|decide|omega) only[hA,rA,aa,go_sem]
  exact ZA (xs:=[.v (.bool true)]) ⟨by unfold N0;rw[bg.2 (fun x hx=>by obtain⟨j,hj,rfl⟩:=cn hx;exact h0 j hj hj)];rfl,rfl,rfl⟩
def GT (n:Nw) (i:Nat):Int:=if i=0 then 0 else n.tm.getD (i-1) 0
theorem ZIN {n:Nw} {i:Nat} (hp:∀j,j<i→mtB n j=true):mtB n i=(msB (n.l.getD i dfMs)&&decide (GT n i≤n.tm.getD i 0∧n.tm.getD i 0≤1099512627776)):=by
 unfold mtB GT
 congr 1
 by_cases h:i=0
 ·subst h
  rw[if_pos rfl]
  rw[decide_eq_decide]
  omega
 ·rw[if_neg h]
  have h1:=hp (i-1) oM
  unfold mtB at h1
  simp only[au,bc]at h1
  rw[decide_eq_decide]
  have:=h1.2.1
  constructor
  ·rintro⟨a1,a2,a3⟩;exact⟨a3 oM,a2⟩
  ·rintro⟨a1,a2⟩;exact⟨by omega,a2,fun _=>a1⟩
theorem NV (n:Nw) (b l:List Row):QA Tryz.prog 53 [.agg ((eNw n).map .v)] b l (fun r b' l'=>r=.v (.bool (nwB n))∧b'=b∧l'=l):=by
 refine XA UW rfl kE ?_
 intro B g hB hR hE hA;simp only[zA]at hA
 have F:∀{p:Prop} [Decidable p],¬p→decide p=false:=fun h=>ag h
 simp (disch:=first|decide|omega) only[a_rnValid,hA,eNw,go_sem]
 refine QA.nxt (aI n.now 0 1099511627776 _ _) ?_
 cases e1:decide (0≤n.now∧n.now≤1099511627776)
 ·simp (disch:=first|decide|omega) only[hA,go_sem]
  exact ZA (xs:=[.v (.bool false)]) ⟨by unfold nwB;rw[e1];rfl,rfl,rfl⟩
 by_cases h3:n.l.length=n.tm.length
 case neg =>
  have d3:((n.l.length:Int) != (n.tm.length:Int))=true:=by simp;omega
  simp (disch:=first|decide|omega) only[hA,d3,aa,go_sem]
  exact ZA (xs:=[.v (.bool false)]) ⟨by unfold nwB;rw[e1,F h3];rfl,rfl,rfl⟩
 have d3:((n.l.length:Int) != (n.tm.length:Int))=false:=by simp;omega
 have e3:decide (n.l.length=n.tm.length)=true:=ae h3
 by_cases h4:1000<n.l.length
 ·have d4:decide ((1000:Int)<(n.l.length:Int))=true:=ae oM
  simp (disch:=first|decide|omega) only[hA,d3,d4,aa,go_sem]
  exact ZA (xs:=[.v (.bool false)]) ⟨by unfold nwB;rw[e1,e3,F (show ¬n.l.length≤1000 by omega)];rfl,rfl,rfl⟩
 have d4:decide ((1000:Int)<(n.l.length:Int))=false:=ag oM
 have e4:decide (n.l.length≤1000)=true:=ae oM
 by_cases h5:1000<n.fates.length
 ·have d5:decide ((1000:Int)<(n.fates.length:Int))=true:=ae oM
  simp (disch:=first|decide|omega) only[hA,d3,d4,d5,aa,go_sem]
  exact ZA (xs:=[.v (.bool false)]) ⟨by unfold nwB;rw[e1,e3,e4,F (show ¬n.fates.length≤1000 by omega)];rfl,rfl,rfl⟩
 have d5:decide ((1000:Int)<(n.fates.length:Int))=false:=ag oM
 have e5:decide (n.fates.length≤1000)=true:=ae oM
 simp (disch:=first|decide|omega) only[hA,d3,d4,d5,aa,go_sem]
 refine QA.nxt (CX n.fates oM _ _) ?_
 cases h6:N0 n.fates
 ·simp (disch:=first|decide|omega) only[hA,go_sem]
  exact ZA (xs:=[.v (.bool false)]) ⟨by unfold nwB;rw[e1,e3,e4,e5,h6];rfl,rfl,rfl⟩
 have JF:=ZDx (n:=n) (by rw[e1,e3,e4,e5,h6];rfl)
 have l0:GT n 0=0:=rfl
 simp (disch:=first|decide|omega) only[hA,aa,go_sem]
 refine JA (ι:=Nat) iR (fun i=>[(3,.v (.int .i64 (GT n i))),(4,.v (.int .i64 i))]) 1 (fun _=>[.live 0 5 [(zNA n)]])
  (fun i=>i≤n.l.length∧∀j,j<i→mtB n j=true) (fun i=>n.l.length-i) 0 ⟨aj _,fun j hj=>by omega⟩ kM (by ((try simp (disch:=decide) only[hA,l0,go_sem])<;>exact kH)) kF ?_
 rintro g1 UG mF rA i ⟨hi,h0⟩
 by_cases yA:i<n.l.length
 ·have hm:=EK yA
  have ht:=tE (show i<n.tm.length by omega)
  have hmt:=ZIN h0
  rw[YA yA]at hmt
  have ZBh:mtB n i=false→nwB n=false:=fun h=>by
   rw[JF,ew]
   exact⟨i,ba.2 yA,by rw[h];simp⟩
  simp (disch:=first|decide|omega) only[hA,rA,hm,aa,go_sem]
  refine QA.nxt (ZAA n.l[i] _ _) ?_
  cases q1:msB n.l[i]
  ·simp (disch:=first|decide|omega) only[hA,rA,go_sem]
   exact ZA (xs:=[.v (.bool false)]) ⟨by rw[ZBh (by rw[hmt,q1];rfl)];rfl,rfl,rfl⟩
  simp (disch:=first|decide|omega) only[hA,rA,ht,go_sem]
  refine QA.nxt (aI (n.tm.getD i 0) (GT n i) 1099512627776 _ _) ?_
  cases q2:decide (GT n i≤n.tm.getD i 0∧n.tm.getD i 0≤1099512627776)
  ·simp (disch:=first|decide|omega) only[hA,rA,go_sem]
   exact ZA (xs:=[.v (.bool false)]) ⟨by rw[ZBh (by rw[hmt,q1,q2];rfl)];rfl,rfl,rfl⟩
  have hla:GT n (i+1)=n.tm.getD i 0:=rfl
  simp (disch:=first|decide|omega) only[hA,rA,ht,go_sem]
  refine⟨i+1,⟨yA,fun j hj=>?_⟩,by simp only;omega,?_⟩
  ·rcases bj j i with JG|JG
   ·exact h0 j JG
   ·obtain rfl:j=i:=by omega
    rw[hmt,q1,q2];rfl
  ·exact KA.kround (p:=iR) (k:=1) kQ (by ((try simp (disch:=decide) only[hA,hla,go_sem])<;>exact kH)) rfl UG kS kV hR kL
 ·obtain rfl:i=n.l.length:=by omega
  simp (disch:=first|decide|omega) only[hA,rA,aa,go_sem]
  exact ZA (xs:=[.v (.bool true)]) ⟨by rw[JF,bg.2 (fun j hj=>h0 j (ba.1 hj))];rfl,rfl,rfl⟩
theorem UT (n:Nw) (to:Int) (hl:n.l.length≤1000000) (ht:n.l.length=n.tm.length) (b l:List Row):QA Tryz.prog 61 [.agg (zNA n),.v (.int .i64 to)] b l (fun r b' l'=>r=.v (.int .i64 (wtN n to n.l.length))∧b'=b∧l'=l):=by
 refine XA gT rfl kE ?_
 intro B g hB hR hE hA;simp only[zA]at hA
 have z0:wtN n to 0=0:=rfl
 simp (disch:=first|decide|omega) only[a_rWaiting,hA,go_sem]
 refine JA (ι:=Nat) yP (fun i=>[(5,.v (.int .i64 (wtN n to i))),(6,.v (.int .i64 i))]) 1 (fun _=>[.live 0 5 [(zNA n)]])
  (fun i=>i≤n.l.length) (fun i=>n.l.length-i) 0 (aj _) kM (by ((try simp (disch:=decide) only[hA,z0,go_sem])<;>exact kH)) kF ?_
 rintro g1 UG mF rA i hi
 by_cases yA:i<n.l.length
 ·have hm:=EK yA
  have htg:=tE (show i<n.tm.length by omega)
  have kJ:n.l.getD i dfMs=n.l[i]:=YA yA
  have hwl:=G6 (n:=n) (to:=to) i
  cases q1:(n.l[i].to==to)
  case' false =>
   have hs:wtN n to (i+1)=wtN n to i:=by simp only[wtN];rw[if_neg];unfold arB;rw[kJ,ag (by simpa using q1)];simp
   simp (disch:=first|decide|omega) only[hA,rA,hm,htg,q1,aa,go_sem]
  case' true =>
   cases q2:decide (n.tm.getD i 0≤n.now)
   case' false =>
    have hs:wtN n to (i+1)=wtN n to i:=by simp only[wtN];rw[if_neg];unfold arB;rw[q2];simp
    simp (disch:=first|decide|omega) only[hA,rA,hm,htg,q1,q2,aa,go_sem]
   case' true =>
    have hs:wtN n to (i+1)=wtN n to i+1:=by simp only[wtN];rw[if_pos];unfold arB;rw[q2,kJ,ae (by simpa using q1)];rfl
    simp (disch:=first|decide|omega) only[hA,rA,hm,htg,q1,q2,aa,go_sem]
  all_goals
   refine⟨i+1,yA,by simp only;omega,?_⟩
   exact KA.kround (p:=yP) (k:=1) kQ (by ((try simp (disch:=decide) only[hA,hs,go_sem])<;>exact kH)) rfl UG kS kV hR kL
 ·obtain rfl:i=n.l.length:=by omega
  simp (disch:=first|decide|omega) only[hA,rA,aa,go_sem]
  exact ZA (xs:=[.v (.int .i64 (wtN n to n.l.length))])
def a_sMs:AFunc:=({c:=_}:CF Tryz.prog 110).c
theorem ZDY:jA Tryz.prog 110=some a_sMs:=by kernel_rfl
def ZDt:List (Nat×Nat):=[(4,5),(34,51)]
def a_sNw:AFunc:=⟨2,102,[.tmp 4],(.seq (.region [⟨some 2,.box (.t 0),none⟩,⟨some 3,.box (.t 1),none⟩,⟨some 4,.mv (.c (.v (.bool false))),none⟩]) (.seq (.seq (.region [VFx 8 0 2,VLx 9 8,VFx 10 0 3,VLx 11 10,VNx 12 9 11,VMx 13 12,VFx 14 1 2 (some (13,false)),VLx 15 14 (some (13,false)),VFx 16 1 3 (some (13,false)),VLx 17 16 (some (13,false)),⟨some 18,.binB .neq (.t 15) (.t 17),some (13,false)⟩,⟨some 19,.pick (.t 13) (.c (.v (.bool true))) (.t 18),none⟩,VMx 20 19,VFx 21 2 2 (some (20,false)),VLx 22 21 (some (20,false)),VEx 23 22 (some (20,false)),VFx 24 2 3 (some (20,false)),VLx 25 24 (some (20,false)),VEx 26 25 (some (20,false)),VNx 27 23 26 (some (20,false)),⟨some 28,.pick (.t 20) (.c (.v (.bool true))) (.t 27),none⟩,VMx 29 28,VFx 30 3 2 (some (29,false)),VLx 31 30 (some (29,false)),VEx 32 31 (some (29,false)),VFx 33 3 3 (some (29,false)),VLx 34 33 (some (29,false)),VEx 35 34 (some (29,false)),VNx 36 32 35 (some (29,false)),⟨some 37,.pick (.t 29) (.c (.v (.bool true))) (.t 36),none⟩,VMx 38 37,VFx 39 4 2 (some (38,false)),VLx 40 39 (some (38,false)),VEx 41 40 (some (38,false)),VFx 42 4 3 (some (38,false)),VLx 43 42 (some (38,false)),VEx 44 43 (some (38,false)),VNx 45 41 44 (some (38,false)),⟨some 46,.pick (.t 38) (.c (.v (.bool true))) (.t 45),none⟩]) (.cond (.t 46) (.seq (.region [⟨some 4,.mv (.c (.v (.bool false))),none⟩]) .ret) .skip)) (.seq (.seq (.region [⟨some 5,.mv (.c (.v (.int .i64 0))),none⟩]) (.block 0 (.loop (.seq (.seq (.region [VMx 47 5,VFx 48 2 2,VLx 49 48,VEx 50 49,⟨some 51,.bin .lss (.t 47) (.t 50),none⟩]) (.cond (.t 51) .skip (.exit 0))) (.seq (.block 1 (.seq (.draw [⟨0,VFx 54 2 2,[]⟩,⟨1,VLx 55 54,[]⟩,⟨2,VMx 56 5,[]⟩,⟨3,VIx 57 4 55 56,[]⟩,⟨4,⟨some 58,.load (some 4) (.t 57),none⟩,[]⟩,⟨5,VFx 59 2 3,[]⟩,⟨6,VLx 60 59,[]⟩,⟨7,VMx 61 5,[]⟩,⟨8,VIx 62 4 60 61,[]⟩,⟨9,⟨some 63,.load (some 4) (.t 62),none⟩,[]⟩,⟨10,⟨some 64,.call (.c (.fn 110 [])) [(.t 58),(.t 63)],none⟩,[]⟩,⟨11,⟨some 65,.not (.t 64),none⟩,[]⟩]) (.cond (.t 65) (.seq (.region [⟨some 4,.mv (.c (.v (.bool false))),none⟩]) .ret) .skip))) (.region [VMx 52 5,⟨some 53,.bin .add (.t 52) (.c (.v (.int .i64 1))),none⟩,VMx 5 53])))))) (.seq (.seq (.region [⟨some 6,.mv (.c (.v (.int .i64 0))),none⟩]) (.block 2 (.loop (.seq (.seq (.region [VMx 66 6,VFx 67 3 2,VLx 68 67,VEx 69 68,⟨some 70,.bin .lss (.t 66) (.t 69),none⟩]) (.cond (.t 70) .skip (.exit 2))) (.seq (.block 3 (.seq (.draw [⟨0,VFx 73 3 2,[]⟩,⟨1,VLx 74 73,[]⟩,⟨2,VMx 75 6,[]⟩,⟨3,VIx 76 1 74 75,[]⟩,⟨4,VLx 77 76,[]⟩,⟨5,VFx 78 3 3,[]⟩,⟨6,VLx 79 78,[]⟩,⟨7,VMx 80 6,[]⟩,⟨8,VIx 81 1 79 80,[]⟩,⟨9,VLx 82 81,[]⟩,⟨10,VNx 83 77 82,[]⟩]) (.cond (.t 83) (.seq (.region [⟨some 4,.mv (.c (.v (.bool false))),none⟩]) .ret) .skip))) (.region [VMx 71 6,⟨some 72,.bin .add (.t 71) (.c (.v (.int .i64 1))),none⟩,VMx 6 72])))))) (.seq (.seq (.region [⟨some 7,.mv (.c (.v (.int .i64 0))),none⟩]) (.block 4 (.loop (.seq (.seq (.region [VMx 84 7,VFx 85 4 2,VLx 86 85,VEx 87 86,⟨some 88,.bin .lss (.t 84) (.t 87),none⟩]) (.cond (.t 88) .skip (.exit 4))) (.seq (.block 5 (.seq (.draw [⟨0,VFx 91 4 2,[]⟩,⟨1,VLx 92 91,[]⟩,⟨2,VMx 93 7,[]⟩,⟨3,VIx 94 2 92 93,[]⟩,⟨4,⟨some 95,.load (some 2) (.t 94),none⟩,[]⟩,⟨5,VFx 96 4 3,[]⟩,⟨6,VLx 97 96,[]⟩,⟨7,VMx 98 7,[]⟩,⟨8,VIx 99 2 97 98,[]⟩,⟨9,⟨some 100,.load (some 2) (.t 99),none⟩,[]⟩,⟨10,⟨some 101,.eqs true [.i,.i] (.t 95) (.t 100),none⟩,[]⟩]) (.cond (.t 101) (.seq (.region [⟨some 4,.mv (.c (.v (.bool false))),none⟩]) .ret) .skip))) (.region [VMx 89 7,⟨some 90,.bin .add (.t 89) (.c (.v (.int .i64 1))),none⟩,VMx 7 90])))))) (.seq (.region [⟨some 4,.mv (.c (.v (.bool true))),none⟩]) .ret))))))⟩
theorem ZDX:jA Tryz.prog 58=some a_sNw:=by kernel_rfl
def ZDs:List (Nat×Nat):=[(4,5),(47,65)]
def ZDr:List (Nat×Nat):=[(4,4),(6,6),(66,83)]
def ZDq:List (Nat×Nat):=[(4,4),(7,7),(84,101)]

theorem neI (n:Int):(n != n)=false:=by simp
theorem neB (n:Bool):(!(n==n))=false:=by simp
theorem eqIr (n:Int):(n==n)=true:=by simp
def msR (a:Ms):Row:=.live 0 4 [[.v (.int .i64 a.fr),.v (.int .i64 a.to),.v (.int .i64 a.nu),.v (.isl 1 (a.body.map eI))]]
def nwR (a:Nw):Row:=.live 0 5 [[.v (.int .i64 a.now),.v (.bool a.fifo),.v (.isl 4 (a.l.map eMs)),.v (.isl 1 (a.tm.map eI)),.v (.isl 2 (a.fates.map eFt))]]
theorem ZCW (a:Ms) (hn:a.body.length≤1000000) (b l:List Row):QA Tryz.prog 110 [.agg (zMA a),.agg (zMA a)] b l (fun r b' l'=>r=.v (.bool true)∧b'=b∧l'=l):=by
 refine XA ZDY rfl kE ?_
 intro B g hB hR hE hA;simp only[zA]at hA
 simp (disch:=first|decide|omega) only[a_sMs,hA,neI,aa,go_sem]
 refine JA (ι:=Nat) ZDt (fun i=>[(5,.v (.int .i64 i))]) 2 (fun _=>[msR a,msR a]) (fun i=>i≤a.body.length) (fun i=>a.body.length-i) 0 (aj _) kM kA kF ?_
 intro g1 UG mF rA i hi
 unfold msR
 by_cases yA:i<a.body.length
 ·have ha:=tE yA
  simp (disch:=first|decide|omega) only[hA,rA,ha,neI,aa,go_sem]
  refine⟨i+1,yA,by simp only;omega,?_⟩
  exact KA.kround (p:=ZDt) (k:=2) kQ kA rfl UG kS kV hR kL
 ·simp (disch:=first|decide|omega) only[hA,rA,aa,go_sem]
  exact ZA (xs:=[.v (.bool true)])
theorem ZIY {l:List (Int×Int)} {i:Nat} (h:i<l.length):(l.map eFt)[i]? = some [.int .i64 l[i].1,.int .i64 l[i].2]:=by
 rw[an,ah h];rfl
theorem ZCV (a:Nw) (hS:NwS a) (b l:List Row):QA Tryz.prog 58 [.agg ((eNw a).map .v),.agg ((eNw a).map .v)] b l (fun r b' l'=>r=.v (.bool true)∧b'=b∧l'=l):=by
 refine XA ZDX rfl kE ?_
 intro B g hB hR hE hA;simp only[zA]at hA
 have hal:=hS.l
 have hat:=hS.tm
 have haf:=hS.fates
 simp (disch:=first|decide|omega) only[a_sNw,hA,eNw,neI,neB,aa,go_sem]
 refine JA (ι:=Nat) ZDs (fun i=>[(5,.v (.int .i64 i))]) 2 (fun _=>[nwR a,nwR a]) (fun i=>i≤a.l.length) (fun i=>a.l.length-i) 0 (aj _) kM kA kF ?_
 intro g1 UG mF rA i hi
 unfold nwR
 by_cases yA:i<a.l.length
 ·have ha:=EK yA
  simp (disch:=first|decide|omega) only[hA,rA,ha,aa,go_sem]
  refine QA.nxt (ZCW a.l[i] (hS.body _ (am yA)) _ _) ?_
  simp (disch:=first|decide|omega) only[hA,rA,go_sem]
  refine⟨i+1,yA,by simp only;omega,?_⟩
  exact KA.kround (p:=ZDs) (k:=2) kQ kA rfl UG kS kV hR kL
 simp (disch:=first|decide|omega) only[hA,rA,aa,go_sem]
 refine JA (ι:=Nat) ZDr (fun i=>[(6,.v (.int .i64 i))]) 2 (fun _=>[nwR a,nwR a]) (fun i=>i≤a.tm.length) (fun i=>a.tm.length-i) 0 (aj _) kM kA kF ?_
 intro g2 AJ OP VE i hi
 unfold nwR
 by_cases yA:i<a.tm.length
 ·have ha:=tE yA
  simp (disch:=first|decide|omega) only[hA,rA,VE,ha,neI,aa,go_sem]
  refine⟨i+1,yA,by simp only;omega,?_⟩
  exact KA.kround (p:=ZDr) (k:=2) kQ kA rfl AJ kS kV hR kL
 simp (disch:=first|decide|omega) only[hA,rA,VE,aa,go_sem]
 refine JA (ι:=Nat) ZDq (fun i=>[(7,.v (.int .i64 i))]) 2 (fun _=>[nwR a,nwR a]) (fun i=>i≤a.fates.length) (fun i=>a.fates.length-i) 0 (aj _) kM kA kF ?_
 intro g3 FY UU dH i hi
 unfold nwR
 by_cases yA:i<a.fates.length
 ·have ha:=ZIY yA
  simp (disch:=first|decide|omega) only[hA,rA,VE,dH,ha,eqIr,aa,go_sem]
  refine⟨i+1,yA,by simp only;omega,?_⟩
  exact KA.kround (p:=ZDq) (k:=2) kQ kA rfl FY kS kV hR kL
 simp (disch:=first|decide|omega) only[hA,rA,VE,dH,aa,go_sem]
 exact ZA (xs:=[.v (.bool true)])
structure In where
 op:Int
 a:Int
 b:Int
structure Sv where
 name:ByteArray
 code:List In
 pc:Int
 vars:List Int
 off:Int
 rate:Int
structure Wd where
 sv:List Sv
 net:Nw
 now:Int
 sent:Int
 tr:Tr
def eIn (x:In):List IV:=[.int .i64 x.op,.int .i64 x.a,.int .i64 x.b]
def eSv (s:Sv):List IV:=[.str s.name,.isl 3 (s.code.map eIn),.int .i64 s.pc,.isl 1 (s.vars.map eI),.int .i64 s.off,.int .i64 s.rate]
def eWd (w:Wd):List IV:=[.isl 6 (w.sv.map eSv),.int .i64 w.net.now,.bool w.net.fifo,.isl 4 (w.net.l.map eMs),.isl 1 (w.net.tm.map eI),.isl 2 (w.net.fates.map eFt),.int .i64 w.now,.int .i64 w.sent,.isl 3 (w.tr.map ePr)]
def dN:In:=⟨0,0,0⟩
def dfSv:Sv:=⟨⟨#[]⟩,[],0,[],0,0⟩
def wd0:Wd:=⟨[],nw0,0,0,[]⟩
def iE (k c p n:Int) (x:In):Bool:=
 if x.op=1∨x.op=2 then inZ x.a 0 (k-1)&&vlB x.b
 else if x.op=3 then inZ x.a 0 (k-1)&&(inZ x.b 0 (n-1)&&decide (x.b≠p))
 else if x.op=4 then inZ x.a 0 (k-1)
 else if x.op=5 then inZ x.a 0 (k-1)&&inZ x.b 0 (c-1)
 else if x.op=6 then inZ x.a 0 (c-1)&&inZ x.b 0 (k-1)
 else decide (x.op=7∨x.op=8)
def NI (s:Sv):Bool:=inZ s.off 0 1000000&&inZ s.rate 500 2000
def iH (s:Sv) (now:Int):Bool:=NI s&&inZ now 0 1000000000
def nH (s:Sv) (now:Int):Int:=if iH s now=true then s.off+now*s.rate / 1000 else 0
def sv1 (s:Sv) (p n:Int):Bool:=nD s.name&&(inZ s.code.length 1 100&&(decide (s.vars.length≤8)&&(inZ s.pc 0 s.code.length&&(NI s&&(s.vars.all vlB&&s.code.all (iE s.vars.length s.code.length p n))))))
def svB (l:List Sv) (p:Nat):Bool:=sv1 (l.getD p dfSv) p l.length&&(l.take p).all fun x=>!(x.name==(l.getD p dfSv).name)
def bF (l:List Sv):Bool:=inZ l.length 1 8&&(List.range l.length).all (svB l)
structure SvS (s:Sv):Prop where
 name:s.name.size≤1000000
 code:s.code.length≤1000000
 vars:s.vars.length≤1000000
structure SvsS (l:List Sv):Prop where
 len:l.length≤1000000
 all:∀s∈l,SvS s
theorem CG {l:List Sv} {i:Nat} (h:i<l.length):(l.map eSv)[i]? = some [.str l[i].name,.isl 3 (l[i].code.map eIn),.int .i64 l[i].pc,.isl 1 (l[i].vars.map eI),.int .i64 l[i].off,.int .i64 l[i].rate]:=by
 rw[an,ah h];rfl
theorem gI {l:List In} {i:Nat} (h:i<l.length):(l.map eIn)[i]? = some [.int .i64 l[i].op,.int .i64 l[i].a,.int .i64 l[i].b]:=by
 rw[an,ah h];rfl
theorem I2 (s:ByteArray):fD [⟨s,[],[]⟩]=nD s:=by
 have h1:SC [⟨s,[],[]⟩] 0=if nD s=true then 0 else 13:=by
  unfold SC
  cases h:nD s<;>simp[h,uB]
 have h2:ids [⟨s,[],[]⟩]=[]:=by simp[ids,PM,iA]
 unfold fD eE
 rw[h2,if_neg kS]
 cases h:nD s
 ·rw[h]at h1
  simp[h1]
 ·rw[h]at h1
  simp[h1]

def idA (x:Nat×Nat):AV:=.agg [.v (.int .i64 x.1),.v (.int .i64 x.2)]
theorem aW (w:World) (F:Nat→Prop) (L:LMap) (x:Nat×Nat):RepA w F L (idA x) (IA x):=by
 refine bA.agg (vs:=#[.int .i64 x.1,.int .i64 x.2]) ?_
 exact bA.cons (.v _ _ (.int _ _)) (bA.cons (.v _ _ (.int _ _)) bA.nil)
theorem AD {w:World} {F:Nat→Prop} {L:LMap} {x:AV} {xs:List AV} {vs:List Value} (h:bA w F L (x::xs) vs):∃v us,vs=v::us∧RepA w F L x v∧bA w F L xs us:=by
 obtain⟨h1,h2⟩:=h
 cases vs with
 |nil=>simp at h1
 |cons v us=>exact⟨v,us,rfl,h2 0 x v rfl rfl,by simpa using h1,fun i a u ha hu=>h2 (i+1) a u ha hu⟩
theorem XG {w:World} {F:Nat→Prop} {L:LMap} {vs:List Value} (h:bA w F L [] vs):vs=[]:=by
 have:=h.1
 exact co (by simpa using this.symm)
theorem YO {w:World} {F:Nat→Prop} {L:LMap} {t:Tr} {xs:List AV} {vs:Array Value} (hn:Nm t) (h:bA w F L (.agg [.v (eT t)]::xs) vs.toList):∃u us,vs=(.agg #[u]::us).toArray∧SlR 3 RPr w u t∧bA w F L xs us:=by
 obtain⟨v,us,h1,h2,h3⟩:=AD h
 obtain⟨cs,rfl,h4⟩:=h2.aggL
 obtain⟨u,rest,h5,h6,h7⟩:=AD h4
 have:=XG h7
 subst this
 have fX:cs=#[u]:=gb.1 (by rw[h5])
 subst fX
 exact⟨u,us,gb.1 (by rw[h1]),tr_in hn h6.vI,h3⟩

section
theorem VP (t:Tr) (hS:Sm t) (hN:Nm t) (b l:List Row):QA Tryz.prog 35 [.agg [.v (eT t)]] b l (fun r b' l'=>r=.v (.bool (fD t))∧b'=b∧l'=l):=by
 refine QA.of_ext ⟨_,Tryz.func35,by kernel_rfl,by kernel_rfl⟩ (fun F L w vs hr=>?_)
 obtain⟨u,us,rfl,hs,hr2⟩:=YO hN hr
 obtain rfl:=XG hr2
 refine (BO u t w hS hs).mono ?_
 rintro e w' ⟨rfl,he⟩
 exact⟨he,_,_,rfl,.v _ _ (.bool _),rfl,rfl,rfl⟩
theorem yR (t:Tr) (hS:Small t) (hN:Nm t) (b l:List Row):QA Tryz.prog 35 [.agg [.v (eT t)]] b l (fun r b' l'=>r=.v (.bool (fD t))∧b'=b∧l'=l):=VP t hS.sm hN b l
end
section
variable (cs:List Int) (lr:List IV) (p i:Nat) (kd pr mg:Int) (x4 x5:AV) (B l:List Row)
end

theorem Q8 {F:Nat→Prop} {W:World} (hF:∀b,F b→b<W.heap.size) (hG:ZCF W F:=by intro _ _ h;cases h):Sim F (fun _ _=>none) ([]++[]) W:=
 ⟨fun i v z els hi=>by simp at hi,fun i v q hq=>(by cases hq),fun i i' v v' z z' e1 e2 bb q q' h1=>by simp at h1,fun b hb=>⟨hF b hb,by rintro⟨i,v,s,e1,q,h1,h2,h3⟩;cases h2⟩,hG⟩
def L2 (b4 b5:Nat):LMap:=fun id ver=>if id=0∧ver=0 then some (.pl b4 0 1 1) else if id=1∧ver=0 then some (.pl b5 0 1 1) else none
structure CutOk (t:Tr) (c:List Int):Prop where
 len:c.length=t.length
 np:t.length≤1000000
 nv:∀x∈t,x.vars.length≤1000000
 ne:∀x∈t,x.evs.length≤1000000
 na:∀x∈t,∀e∈x.evs,e.asg.length≤1000000
 le:∀(k:Nat) (h:k<t.length) (h2:k<c.length),0≤c[k]∧c[k]≤t[k].evs.length
end Go.Proofs.YtmaokjojbjdpoaaGreatDoor
namespace Go.Proofs.YtmaokjojbjdpoaaGreatDoor
open Go.RowKit
set_option linter.unusedVariables false
attribute [local go_sem] Oper.semAt_some

def RInt (w:World) (b o:Nat) (x:Int):Prop:=w.cell? ⟨b,o,none⟩=some (.int .i64 x)
theorem RInt.keeps:PT RInt:=fun _ _ _ _ _ he h=>he.cellAt h
def cAt (cs:List Int) (p:Nat):Int:=cs.getD p 0
end Go.Proofs.YtmaokjojbjdpoaaGreatDoor
namespace Go.Proofs.YtmaokjojbjdpoaaGreatDoor
set_option linter.unusedVariables false

section
theorem NX (t:Tr) (hS:Small t) (hN:Nm t) (b l:List Row) (m:Int):QA Tryz.prog 31 [.agg [.v (eT t)],.v (.int .i64 m)] b l (fun r b' l'=>r=.tup [idA (EB t 2 m),.v (.bool (decide (0<(EB t 2 m).2)))]∧b'=b∧l'=l):=by
 refine QA.of_ext ⟨_,Tryz.func31,by kernel_rfl,by kernel_rfl⟩ (fun F L w vs hr=>?_)
 obtain⟨u,us,rfl,hs,hr2⟩:=YO hN hr
 obtain⟨v,us,rfl,h3,hr2⟩:=AD hr2
 obtain rfl:=XG hr2
 cases h3.vI
 refine (j6 u t m w hS hs).mono ?_
 rintro e w' ⟨rfl,he⟩
 exact⟨he,_,_,rfl,bA.tup (bA.cons (aW _ _ _ _) (bA.cons (.v _ _ (.bool _)) bA.nil)),rfl,rfl,rfl⟩
theorem VT (t:Tr) (hS:Small t) (hN:Nm t) (b l:List Row) (m:Int):QA Tryz.prog 158 [.agg [.v (eT t)],.v (.int .i64 m)] b l (fun r b' l'=>r=.tup [idA (EB t 3 m),.v (.bool (decide (0<(EB t 3 m).2)))]∧b'=b∧l'=l):=by
 refine QA.of_ext ⟨_,Tryz.func158,by kernel_rfl,by kernel_rfl⟩ (fun F L w vs hr=>?_)
 obtain⟨u,us,rfl,hs,hr2⟩:=YO hN hr
 obtain⟨v,us,rfl,h3,hr2⟩:=AD hr2
 obtain rfl:=XG hr2
 cases h3.vI
 refine (vW u t m w hS hs).mono ?_
 rintro e w' ⟨rfl,he⟩
 exact⟨he,_,_,rfl,bA.tup (bA.cons (aW _ _ _ _) (bA.cons (.v _ _ (.bool _)) bA.nil)),rfl,rfl,rfl⟩
theorem E4 (t:Tr) (hS:Small t) (hN:Nm t) (b l:List Row) (hM:(ids t).length≤1000000):QA Tryz.prog 39 [.agg [.v (eT t)]] b l (fun r b' l'=>r=.v (.int .i64 (sM t))∧b'=b∧l'=l):=by
 refine QA.of_ext ⟨_,Tryz.func39,by kernel_rfl,by kernel_rfl⟩ (fun F L w vs hr=>?_)
 obtain⟨u,us,rfl,hs,hr2⟩:=YO hN hr
 obtain rfl:=XG hr2
 refine (ZBP u t w hS hM hs).mono ?_
 rintro e w' ⟨rfl,he⟩
 exact⟨he,_,_,rfl,.v _ _ (.int _ _),rfl,rfl,rfl⟩
end
set_option linter.unusedSimpArgs false
theorem QA.frz {P:Program} {f i ver sz:Nat} {args:List AV} {rows:List (List IV)} {b l:List Row} {Q:AV→List Row→List Row→Prop} (hi:l[i]? = some (.live ver sz (vs rows))) (h:QA P f (args.map (frz (b.length+i) ver sz rows)) b (l.set i (.dead ver)) Q):QA P f args b l Q:=by
 refine⟨h.1,fun F L w us s hr=>?_⟩
 obtain⟨F',s1,SH,st1,_⟩:=jJ (e:=args) hi F L w {tmps:=us,defers:=[]} s ⟨rfl,by have:=hr.1;simpa using this.symm,fun j x v hx hv=>hr.2 j x v hx (by simpa using hv)⟩
 refine Calls.mono (h.2 F' L w us s1 ⟨by have:=hr.1;simpa using this,fun j x v hx hv=>SH.2.2 j x v hx (by simpa using hv)⟩) ?_
 rintro en w' ⟨v,x,b',l',F2,L2,h1,h2,h3,h4,h5,h6⟩
 have pC:(b++l.set i (.dead ver)).length=(b++l).length:=by simp
 have st:Step (b++l).length F L (b++l) w F' L (b++l.set i (.dead ver)) w:=by
  refine⟨st1.imm,fun _ _ _ _ hl=>hl,rfl,rfl,rfl,ai _,fun _ _ _=>rfl,st1.own,fun id hid v hv=>?_,st1.fnew⟩
  by_cases hj:id<b.length
  ·rw[aw hj]at hv⊢;exact hv
  ·rw[ar oM]at hv⊢
   by_cases JG:i=id-b.length
   ·rw[←JG,hi]at hv;cases hv
   ·rw[bf JG];exact hv
 exact⟨v,x,b',l',F2,L2,h1,h2,h3,st.trans (pC▸h4),h5,h6⟩

def kB (n:Nat) (f:Nat→Row):List Row:=(List.range n).map f
def rUp (f:Nat→Row) (i:Nat) (r:Row):Nat→Row:=fun j=>if i=j then r else f j
theorem NG {f:Nat→Row} {i:Nat} {r:Row}:rUp f i r i=r:=by unfold rUp;rw[if_pos rfl]
theorem sA {f:Nat→Row} {i j:Nat} {r:Row} (h:i≠j):rUp f i r j=f j:=by unfold rUp;rw[if_neg h]
theorem GA {n:Nat} {f:Nat→Row}:(kB n f).length=n:=by simp[kB]
theorem XH {n i:Nat} {f:Nat→Row} (h:i<n):(kB n f)[i]? = some (f i):=by
 unfold kB;rw[an,jg h];rfl
theorem ZIS {n i:Nat} {f:Nat→Row} {r:Row}:(kB n f).set i r=kB n (rUp f i r):=by
 apply dr
 intro j
 by_cases hj:j<n
 ·rw[XH hj]
  by_cases uQ:i=j
  ·subst uQ;rw[ay (by rw[GA];exact hj),NG]
  ·rw[bf uQ,XH hj,sA uQ]
 ·rw[bu (by rw[dj,GA];omega),bu (by rw[GA];omega)]
theorem pH {n i:Nat} {f:Nat→Row} {l:List Row} (h:i<n):hget (kB n f) l i=some (f i):=by
 unfold hget;rw[if_pos (by rw[GA];exact h),XH h]
theorem NN {n i:Nat} {f:Nat→Row} {l:List Row}:hget (kB n f) l (n+i)=l[i]?:=by
 unfold hget;rw[if_neg (by rw[GA];omega),GA,ci]
theorem mS {n:Nat} {f:Nat→Row} {l:List Row}:hget (kB n f) l n=l[0]?:=NN (i:=0)
theorem MJ {n i:Nat} {f:Nat→Row} {r:Row} (h:i<n):vE (kB n f) i r=kB n (rUp f i r):=by
 unfold vE;rw[if_pos (by rw[GA];exact h),ZIS]
theorem PJ {n i:Nat} {f:Nat→Row} {l:List Row} {r:Row} (h:i<n):lE (kB n f) l i r=l:=by
 unfold lE;rw[if_pos (by rw[GA];exact h)]
theorem vM {n i:Nat} {f:Nat→Row} {r:Row}:vE (kB n f) (n+i) r=kB n f:=by
 unfold vE;rw[if_neg (by rw[GA];omega)]
theorem NO {n:Nat} {f:Nat→Row} {r:Row}:vE (kB n f) n r=kB n f:=vM (i:=0)
theorem jM {n i:Nat} {f:Nat→Row} {l:List Row} {r:Row}:lE (kB n f) l (n+i) r=l.set i r:=by
 unfold lE;rw[if_neg (by rw[GA];omega),GA,ci]
theorem TO {n:Nat} {f:Nat→Row} {l:List Row} {r:Row}:lE (kB n f) l n r=l.set 0 r:=jM (i:=0)
theorem ZHA (B:List Row):∃n f,n=B.length∧B=kB n f∧∀i r,B[i]? = some r→f i=r:=by
 refine⟨B.length,fun i=>B.getD i (.dead 0),rfl,?_,fun i r h=>by simp only[ap,h];rfl⟩
 apply dr
 intro j
 by_cases hj:j<B.length
 ·rw[XH hj,ap,ah hj];rfl
 ·rw[bu oM,bu (by rw[GA];omega)]
def AW (m:Nat) (r:Row):Prop:=∀ver sz els,r=.live ver sz els→∀row∈els,∀c∈row,AVlt m c
theorem AW.live {m ver sz:Nat} {els:List (List AV)} (h:∀row∈els,∀c∈row,AVlt m c):AW m (.live ver sz els):=fun v s e he=>by cases he;exact h
theorem AW.dead {m ver:Nat}:AW m (.dead ver):=fun v s e he=>by cases he
theorem AW.vs {m ver sz:Nat} {rows:List (List IV)}:AW m (.live ver sz (vs rows)):=.live (CK.2 trivial)
theorem iB {α:Type} (x:α):List.replicate 1 x=[x]:=rfl
attribute [local go_sem ↓] vC YB kC xC zD lB yC qD wC dD SA mB jC RA pB qC CA aB nC JB TA uC fB eB zB bB qB OB sB jD iC vD yD nE iD pE mE GB LB
attribute [local go_sem] VB MA CD jB EA sE xD gD wD GK IK uD dC rC sC CC nA QC FA ZC LA UB aop SE LD aD IC GD eC ID fJ SF dF amm AE fC IB qF bD rF comma LC DF lJ IF GF XJ zF VF UE ZJ eqC eqF tG cellsOf xB YC CB UF mI rd rdI fE mk tD AV.cell List.all_cons List.all_nil Bool.and_true Bool.true_and Bool.and_self List.length_cons List.length_nil List.length_append Nat.reduceAdd Nat.reduceSub Nat.reduceMul Nat.zero_add Nat.add_zero List.cons_append List.nil_append List.append_assoc List.append_nil List.getElem?_cons_zero List.getElem?_cons_succ List.getElem?_nil List.set_cons_zero List.set_cons_succ List.drop_zero List.drop_succ_cons List.take_zero List.take_succ_cons List.take_nil List.drop_nil List.map_cons List.map_nil Option.map_some if_true if_false Bool.false_eq_true and_self true_and and_true Nat.reduceLeDiff Nat.reduceLT Nat.le_refl Nat.reduceEqDiff ite_true ite_false beq_self_eq_true beq_true beq_false Bool.not_true Bool.not_false Bool.true_beq Bool.false_beq rE MB wB JD KD zC KC UC VC UD VD dE dA eK YK bK fK kG vG wG yG geI gtI gG decide_true decide_false room List.getElem?_map List.length_map List.length_take Int.toNat_natCast Nat.min_def Nat.min_self kD EC DD tB lD EF zA List.getElem_cons_zero List.getElem_cons_succ
def a_within:AFunc:=({c:=_}:CF Tryz.prog 48).c
theorem gY:jA Tryz.prog 48=some a_within:=by kernel_rfl
def a_wval:AFunc:=({c:=_}:CF Tryz.prog 120).c
theorem ZAs:jA Tryz.prog 120=some a_wval:=by kernel_rfl
def a_wclock:AFunc:=({c:=_}:CF Tryz.prog 90).c
theorem uY:jA Tryz.prog 90=some a_wclock:=by kernel_rfl
def a_wClock:AFunc:=({c:=_}:CF Tryz.prog 38).c
theorem nY:jA Tryz.prog 38=some a_wClock:=by kernel_rfl
def a_wright:AFunc:=({c:=_}:CF Tryz.prog 123).c
theorem wY:jA Tryz.prog 123=some a_wright:=by kernel_rfl
def a_wright1:AFunc:=({c:=_}:CF Tryz.prog 161).c
theorem YW:jA Tryz.prog 161=some a_wright1:=by kernel_rfl
def a_wright2:AFunc:=({c:=_}:CF Tryz.prog 162).c
theorem XW:jA Tryz.prog 162=some a_wright2:=by kernel_rfl
def a_r54in:AFunc:=({c:=_}:CF Tryz.prog 52).c
theorem R5:jA Tryz.prog 52=some a_r54in:=by kernel_rfl
def a_r54val:AFunc:=({c:=_}:CF Tryz.prog 74).c
theorem cY:jA Tryz.prog 74=some a_r54val:=by kernel_rfl
def a_r54rates:AFunc:=({c:=_}:CF Tryz.prog 145).c
theorem xT:jA Tryz.prog 145=some a_r54rates:=by kernel_rfl
def a_r54Clock:AFunc:=({c:=_}:CF Tryz.prog 109).c
theorem pT:jA Tryz.prog 109=some a_r54Clock:=by kernel_rfl
def a_r54Instr:AFunc:=({c:=_}:CF Tryz.prog 146).c
theorem nT:jA Tryz.prog 146=some a_r54Instr:=by kernel_rfl

theorem FC (x lo hi:Int) (b l:List Row):QA Tryz.prog 48 [.v (.int .i64 x),.v (.int .i64 lo),.v (.int .i64 hi)] b l (fun r b' l'=>r=.v (.bool (inZ x lo hi))∧b'=b∧l'=l):=by
 refine XA gY rfl kE ?_
 intro B g hB hR hE hA;simp only[zA]at hA
 by_cases h1:lo≤x
 ·have d1:decide (x≥lo)=true:=ae h1
  have d1':decide (lo≤x)=true:=ae h1
  simp (disch:=first|decide|omega) only[a_within,hA,d1,d1',go_sem]
  exact ZA (xs:=[.v (.bool (decide (x≤hi)))]) ⟨by simp[inZ,h1,one],rfl,rfl⟩
 ·have d1:decide (x≥lo)=false:=ag h1
  have d1':decide (lo≤x)=false:=ag h1
  simp (disch:=first|decide|omega) only[a_within,hA,d1,d1',go_sem]
  exact ZA (xs:=[.v (.bool false)]) ⟨by simp[inZ,h1,one],rfl,rfl⟩
theorem FB (x lo hi:Int) (b l:List Row):QA Tryz.prog 52 [.v (.int .i64 x),.v (.int .i64 lo),.v (.int .i64 hi)] b l (fun r b' l'=>r=.v (.bool (inZ x lo hi))∧b'=b∧l'=l):=by
 refine XA R5 rfl kE ?_
 intro B g hB hR hE hA;simp only[zA]at hA
 by_cases h1:lo≤x
 ·have d1:decide (x≥lo)=true:=ae h1
  have d1':decide (lo≤x)=true:=ae h1
  simp (disch:=first|decide|omega) only[a_r54in,hA,d1,d1',go_sem]
  exact ZA (xs:=[.v (.bool (decide (x≤hi)))]) ⟨by simp[inZ,h1,one],rfl,rfl⟩
 ·have d1:decide (x≥lo)=false:=ag h1
  have d1':decide (lo≤x)=false:=ag h1
  simp (disch:=first|decide|omega) only[a_r54in,hA,d1,d1',go_sem]
  exact ZA (xs:=[.v (.bool false)]) ⟨by simp[inZ,h1,one],rfl,rfl⟩
theorem KM (x:Int) (b l:List Row):QA Tryz.prog 120 [.v (.int .i64 x)] b l (fun r b' l'=>r=.v (.bool (vlB x))∧b'=b∧l'=l):=by
 refine XA ZAs rfl kE ?_
 intro B g hB hR hE hA;simp only[zA]at hA
 simp (disch:=first|decide|omega) only[a_wval,hA,go_sem]
 refine QA.nxt (FC _ _ _ _ _) ?_
 simp (disch:=first|decide|omega) only[hA,go_sem]
 exact ZA (xs:=[.v (.bool (inZ x (-1073741824) 1073741824))])
theorem fL (x:Int) (b l:List Row):QA Tryz.prog 74 [.v (.int .i64 x)] b l (fun r b' l'=>r=.v (.bool (vlB x))∧b'=b∧l'=l):=by
 refine XA cY rfl kE ?_
 intro B g hB hR hE hA;simp only[zA]at hA
 simp (disch:=first|decide|omega) only[a_r54val,hA,go_sem]
 refine QA.nxt (FB _ _ _ _ _) ?_
 simp (disch:=first|decide|omega) only[hA,go_sem]
 exact ZA (xs:=[.v (.bool (inZ x (-1073741824) 1073741824))])
def LstC (x:AV):Prop:=(∃y,x=.v y)∨∃id ver o n,x=.sl id ver o n
theorem YP (y0 y1 y2:IV) (x3:AV) (off rate:Int) (b l:List Row) (h3:LstC x3):QA Tryz.prog 90 [.agg [.v y0,.v y1,.v y2,x3,.v (.int .i64 off),.v (.int .i64 rate)]] b l (fun r b' l'=>r=.v (.bool (inZ off 0 1000000&&inZ rate 500 2000))∧b'=b∧l'=l):=by
 refine XA uY rfl kE ?_
 intro B g hB hR hE hA;simp only[zA]at hA
 rcases h3 with ⟨y,rfl⟩|⟨id,ver,o,n,rfl⟩
 all_goals
  simp (disch:=first|decide|omega) only[a_wclock,hA,go_sem]
  refine QA.nxt (FC _ _ _ _ _) ?_
  cases h1:inZ off 0 1000000
  ·simp (disch:=first|decide|omega) only[hA,go_sem]
   exact ZA (xs:=[.v (.bool false)]) ⟨by simp[one],rfl,rfl⟩
  ·simp (disch:=first|decide|omega) only[hA,go_sem]
   refine QA.nxt (FC _ _ _ _ _) ?_
   simp (disch:=first|decide|omega) only[hA,go_sem]
   exact ZA (xs:=[.v (.bool (inZ rate 500 2000))]) ⟨by simp[one],rfl,rfl⟩
theorem x7 {s:Sv} {now:Int} (h:iH s now=true):(0≤s.off∧s.off≤1000000)∧(500≤s.rate∧s.rate≤2000)∧(0≤now∧now≤1000000000)∧0≤now*s.rate∧now*s.rate≤2000000000000:=by
 unfold iH NI inZ at h
 simp only[au,bc]at h
 obtain⟨⟨h1,h2⟩,h3⟩:=h
 refine⟨h1,h2,h3,Int.mul_nonneg h3.1 oM,?_⟩
 have:=Int.mul_le_mul h3.2 h2.2 oM oM
 omega
theorem JP (y0 y1 y2:IV) (x3:AV) (s:Sv) (now:Int) (b l:List Row) (h3:LstC x3):QA Tryz.prog 38 [.agg [.v y0,.v y1,.v y2,x3,.v (.int .i64 s.off),.v (.int .i64 s.rate)],.v (.int .i64 now)] b l (fun r b' l'=>r=.tup [.v (.int .i64 (nH s now)),.v (.int .i64 (if iH s now=true then 0 else 2))]∧b'=b∧l'=l):=by
 refine XA nY rfl kE ?_
 intro B g hB hR hE hA;simp only[zA]at hA
 have cC:=fun b l=>YP y0 y1 y2 x3 s.off s.rate b l h3
 have e1:(inZ s.off 0 1000000&&inZ s.rate 500 2000)=NI s:=rfl
 rw[e1]at cC
 rcases h3 with ⟨y,rfl⟩|⟨id,ver,o,n,rfl⟩
 all_goals
  simp (disch:=first|decide|omega) only[a_wClock,hA,go_sem]
  refine QA.nxt (cC _ _) ?_
  cases h1:NI s
  ·have hk:iH s now=false:=by unfold iH;rw[h1];rfl
   simp (disch:=first|decide|omega) only[hA,go_sem]
   exact ZA (xs:=[.v (.int .i64 0),.v (.int .i64 2)]) ⟨by unfold nH;rw[hk];rfl,rfl,rfl⟩
  ·simp (disch:=first|decide|omega) only[hA,go_sem]
   refine QA.nxt (FC _ _ _ _ _) ?_
   cases h2:inZ now 0 1000000000
   ·have hk:iH s now=false:=by unfold iH;rw[h1,h2];rfl
    simp (disch:=first|decide|omega) only[hA,go_sem]
    exact ZA (xs:=[.v (.int .i64 0),.v (.int .i64 2)]) ⟨by unfold nH;rw[hk];rfl,rfl,rfl⟩
   ·have hk:iH s now=true:=by unfold iH;rw[h1,h2];rfl
    obtain⟨g1,g2,g3,g4,g5⟩:=x7 hk
    have hd:Int.tdiv (now*s.rate) 1000=now*s.rate / 1000:=Int.tdiv_eq_ediv_of_nonneg g4
    have IE:IntKind.i64.wrap (now*s.rate)=now*s.rate:=dA oM oM
    have hw2:IntKind.i64.wrap (now*s.rate / 1000)=now*s.rate / 1000:=dA oM oM
    have hw3:IntKind.i64.wrap (s.off+now*s.rate / 1000)=s.off+now*s.rate / 1000:=dA oM oM
    have n0:((1000:Int)=0)=False:=by decide
    simp (disch:=first|decide|omega) only[hA,hd,IE,hw2,hw3,n0,go_sem]
    exact ZA (xs:=[.v (.int .i64 (s.off+now*s.rate / 1000)),.v (.int .i64 0)]) ⟨by unfold nH;rw[hk];rfl,rfl,rfl⟩
theorem RM (y0 y1 y2 y3:IV) (s:Sv) (b l:List Row):QA Tryz.prog 145 [.agg [.v y0,.v y1,.v y2,.v y3,.v (.int .i64 s.off),.v (.int .i64 s.rate)]] b l (fun r b' l'=>r=.v (.bool (NI s))∧b'=b∧l'=l):=by
 refine XA xT rfl kE ?_
 intro B g hB hR hE hA;simp only[zA]at hA
 simp (disch:=first|decide|omega) only[a_r54rates,hA,go_sem]
 refine QA.nxt (FB _ _ _ _ _) ?_
 cases h1:inZ s.off 0 1000000
 ·simp (disch:=first|decide|omega) only[hA,go_sem]
  exact ZA (xs:=[.v (.bool false)]) ⟨by simp[one,NI,h1],rfl,rfl⟩
 ·simp (disch:=first|decide|omega) only[hA,go_sem]
  refine QA.nxt (FB _ _ _ _ _) ?_
  simp (disch:=first|decide|omega) only[hA,go_sem]
  exact ZA (xs:=[.v (.bool (inZ s.rate 500 2000))]) ⟨by simp[one,NI,h1],rfl,rfl⟩
theorem kT (y0 y1 y2 y3:IV) (s:Sv) (now:Int) (b l:List Row):QA Tryz.prog 109 [.agg [.v y0,.v y1,.v y2,.v y3,.v (.int .i64 s.off),.v (.int .i64 s.rate)],.v (.int .i64 now)] b l (fun r b' l'=>r=.tup [.v (.int .i64 (nH s now)),.v (.bool (iH s now))]∧b'=b∧l'=l):=by
 refine XA pT rfl kE ?_
 intro B g hB hR hE hA;simp only[zA]at hA
 have cC:=fun b l=>RM y0 y1 y2 y3 s b l
 simp (disch:=first|decide|omega) only[a_r54Clock,hA,go_sem]
 refine QA.nxt (cC _ _) ?_
 cases h1:NI s
 ·have hk:iH s now=false:=by unfold iH;rw[h1];rfl
  simp (disch:=first|decide|omega) only[hA,go_sem]
  exact ZA (xs:=[.v (.int .i64 0),.v (.bool false)]) ⟨by unfold nH;rw[hk];rfl,rfl,rfl⟩
 ·simp (disch:=first|decide|omega) only[hA,go_sem]
  refine QA.nxt (FB _ _ _ _ _) ?_
  cases h2:inZ now 0 1000000000
  ·have hk:iH s now=false:=by unfold iH;rw[h1,h2];rfl
   simp (disch:=first|decide|omega) only[hA,go_sem]
   exact ZA (xs:=[.v (.int .i64 0),.v (.bool false)]) ⟨by unfold nH;rw[hk];rfl,rfl,rfl⟩
  ·have hk:iH s now=true:=by unfold iH;rw[h1,h2];rfl
   obtain⟨g1,g2,g3,g4,g5⟩:=x7 hk
   have hd:Int.tdiv (now*s.rate) 1000=now*s.rate / 1000:=Int.tdiv_eq_ediv_of_nonneg g4
   have IE:IntKind.i64.wrap (now*s.rate)=now*s.rate:=dA oM oM
   have hw2:IntKind.i64.wrap (now*s.rate / 1000)=now*s.rate / 1000:=dA oM oM
   have hw3:IntKind.i64.wrap (s.off+now*s.rate / 1000)=s.off+now*s.rate / 1000:=dA oM oM
   have n0:((1000:Int)=0)=False:=by decide
   simp (disch:=first|decide|omega) only[hA,hd,IE,hw2,hw3,n0,go_sem]
   exact ZA (xs:=[.v (.int .i64 (s.off+now*s.rate / 1000)),.v (.bool true)]) ⟨by unfold nH;rw[hk];rfl,rfl,rfl⟩
def jG (s:Sv):Row:=.live 0 6 [[.v (.str s.name),.v (.isl 3 (s.code.map eIn)),.v (.int .i64 s.pc),.v (.isl 1 (s.vars.map eI)),.v (.int .i64 s.off),.v (.int .i64 s.rate)]]
theorem tF (s:Sv) (hS:SvS s) (x:Int) (id:Nat) (b l:List Row) (hg:hget b l id=some (jG s)):QA Tryz.prog 161 [.v (.int .i64 x),.ptr id 0 0 0] b l (fun r b' l'=>r=.v (.bool (inZ x 0 (s.vars.length-1)))∧b'=b∧l'=l):=by
 refine XA YW rfl kE ?_
 intro B g hB hR hE hA;simp only[zA]at hA
 have hv:=hS.vars
 have VE:∀l',hget B l' id=some (jG s):=fun l'=>by
  rw[PC]at hg
  rw[PC,aw (by rw[hB];exact (ak.1 hg).1),hB];exact hg
 unfold jG at VE
 simp (disch:=first|decide|omega) only[a_wright1,hA,VE,aa,go_sem]
 refine QA.nxt (FC _ _ _ _ _) ?_
 simp (disch:=first|decide|omega) only[hA,go_sem]
 exact ZA (xs:=[.v (.bool (inZ x 0 (s.vars.length-1)))])
theorem nN (s:Sv) (hS:SvS s) (x:Int) (id:Nat) (b l:List Row) (hg:hget b l id=some (jG s)):QA Tryz.prog 162 [.v (.int .i64 x),.ptr id 0 0 0] b l (fun r b' l'=>r=.v (.bool (inZ x 0 (s.code.length-1)))∧b'=b∧l'=l):=by
 refine XA XW rfl kE ?_
 intro B g hB hR hE hA;simp only[zA]at hA
 have hv:=hS.code
 have VE:∀l',hget B l' id=some (jG s):=fun l'=>by
  rw[PC]at hg
  rw[PC,aw (by rw[hB];exact (ak.1 hg).1),hB];exact hg
 unfold jG at VE
 simp (disch:=first|decide|omega) only[a_wright2,hA,VE,aa,go_sem]
 refine QA.nxt (FC _ _ _ _ _) ?_
 simp (disch:=first|decide|omega) only[hA,go_sem]
 exact ZA (xs:=[.v (.bool (inZ x 0 (s.code.length-1)))])
abbrev zSA (x:Sv):List AV:=[.v (.str x.name),.v (.isl 3 (x.code.map eIn)),.v (.int .i64 x.pc),.v (.isl 1 (x.vars.map eI)),.v (.int .i64 x.off),.v (.int .i64 x.rate)]
theorem cX (s:Sv) (hS:SvS s) (p n:Int) (hn:0≤n∧n≤1000000) (x:In) (b l:List Row):QA Tryz.prog 123 [.agg (zSA s),.v (.int .i64 p),.v (.int .i64 n),.agg [.v (.int .i64 x.op),.v (.int .i64 x.a),.v (.int .i64 x.b)]] b l (fun r b' l'=>r=.v (.bool (iE s.vars.length s.code.length p n x))∧b'=b∧l'=l):=by
 refine XA wY rfl kE ?_
 intro B g hB hR hE hA;simp only[zA]at hA
 have hv:=hS.vars
 have hc:=hS.code
 have hwn:IntKind.i64.wrap (n-1)=n-1:=dA oM oM
 by_cases o:x.op=1
 ·have hr:iE s.vars.length s.code.length p n x=(inZ x.a 0 (s.vars.length-1)&&vlB x.b):=by unfold iE;rw[if_pos oM]
  rw[hr]
  have e1:(x.op==1)=true:=by simp[o]
  have e2:(x.op==2)=false:=by simp[o]
  have e3:(x.op==3)=false:=by simp[o]
  have e4:(x.op==4)=false:=by simp[o]
  have e5:(x.op==5)=false:=by simp[o]
  have e6:(x.op==6)=false:=by simp[o]
  have e7:(x.op==7)=false:=by simp[o]
  have e8:(x.op==8)=false:=by simp[o]
  simp (disch:=first|decide|omega) only[a_wright,hA,e1,e2,e3,e4,e5,e6,e7,e8,go_sem]
  refine QA.nxt (tF s hS x.a B.length B _ (by rw[nA];rfl)) ?_
  cases h1:inZ x.a 0 (s.vars.length-1)
  ·simp (disch:=first|decide|omega) only[hA,go_sem]
   exact ZA (xs:=[.v (.bool false)]) ⟨by simp[one],rfl,rfl⟩
  ·simp (disch:=first|decide|omega) only[hA,go_sem]
   refine QA.nxt (KM _ _ _) ?_
   simp (disch:=first|decide|omega) only[hA,go_sem]
   exact ZA (xs:=[.v (.bool (vlB x.b))]) ⟨by simp[one],rfl,rfl⟩
 have o1:=o
 clear o
 by_cases o:x.op=2
 ·have hr:iE s.vars.length s.code.length p n x=(inZ x.a 0 (s.vars.length-1)&&vlB x.b):=by unfold iE;rw[if_pos oM]
  rw[hr]
  have e1:(x.op==1)=false:=by simp[o]
  have e2:(x.op==2)=true:=by simp[o]
  have e3:(x.op==3)=false:=by simp[o]
  have e4:(x.op==4)=false:=by simp[o]
  have e5:(x.op==5)=false:=by simp[o]
  have e6:(x.op==6)=false:=by simp[o]
  have e7:(x.op==7)=false:=by simp[o]
  have e8:(x.op==8)=false:=by simp[o]
  simp (disch:=first|decide|omega) only[a_wright,hA,e1,e2,e3,e4,e5,e6,e7,e8,go_sem]
  refine QA.nxt (tF s hS x.a B.length B _ (by rw[nA];rfl)) ?_
  cases h1:inZ x.a 0 (s.vars.length-1)
  ·simp (disch:=first|decide|omega) only[hA,go_sem]
   exact ZA (xs:=[.v (.bool false)]) ⟨by simp[one],rfl,rfl⟩
  ·simp (disch:=first|decide|omega) only[hA,go_sem]
   refine QA.nxt (KM _ _ _) ?_
   simp (disch:=first|decide|omega) only[hA,go_sem]
   exact ZA (xs:=[.v (.bool (vlB x.b))]) ⟨by simp[one],rfl,rfl⟩
 have o2:=o
 clear o
 by_cases o:x.op=3
 ·have hr:iE s.vars.length s.code.length p n x=(inZ x.a 0 (s.vars.length-1)&&(inZ x.b 0 (n-1)&&decide (x.b≠p))):=by unfold iE;rw[if_neg oM,if_pos o]
  rw[hr]
  have e1:(x.op==1)=false:=by simp[o]
  have e2:(x.op==2)=false:=by simp[o]
  have e3:(x.op==3)=true:=by simp[o]
  have e4:(x.op==4)=false:=by simp[o]
  have e5:(x.op==5)=false:=by simp[o]
  have e6:(x.op==6)=false:=by simp[o]
  have e7:(x.op==7)=false:=by simp[o]
  have e8:(x.op==8)=false:=by simp[o]
  simp (disch:=first|decide|omega) only[a_wright,hA,e1,e2,e3,e4,e5,e6,e7,e8,go_sem]
  refine QA.nxt (tF s hS x.a B.length B _ (by rw[nA];rfl)) ?_
  cases h1:inZ x.a 0 (s.vars.length-1)
  ·simp (disch:=first|decide|omega) only[hA,go_sem]
   exact ZA (xs:=[.v (.bool false)]) ⟨by simp[one],rfl,rfl⟩
  ·simp (disch:=first|decide|omega) only[hA,hwn,go_sem]
   refine QA.nxt (FC _ _ _ _ _) ?_
   cases h2:inZ x.b 0 (n-1)
   ·simp (disch:=first|decide|omega) only[hA,go_sem]
    exact ZA (xs:=[.v (.bool false)]) ⟨by simp[one],rfl,rfl⟩
   ·have hb:(x.b != p)=decide (x.b≠p):=by by_cases h:x.b=p<;>simp[h]
    simp (disch:=first|decide|omega) only[hA,hb,go_sem]
    exact ZA (xs:=[.v (.bool (decide (x.b≠p)))]) ⟨by simp[one],rfl,rfl⟩
 have o3:=o
 clear o
 by_cases o:x.op=4
 ·have hr:iE s.vars.length s.code.length p n x=inZ x.a 0 (s.vars.length-1):=by unfold iE;rw[if_neg oM,if_neg oM,if_pos o]
  rw[hr]
  have e1:(x.op==1)=false:=by simp[o]
  have e2:(x.op==2)=false:=by simp[o]
  have e3:(x.op==3)=false:=by simp[o]
  have e4:(x.op==4)=true:=by simp[o]
  have e5:(x.op==5)=false:=by simp[o]
  have e6:(x.op==6)=false:=by simp[o]
  have e7:(x.op==7)=false:=by simp[o]
  have e8:(x.op==8)=false:=by simp[o]
  simp (disch:=first|decide|omega) only[a_wright,hA,e1,e2,e3,e4,e5,e6,e7,e8,go_sem]
  refine QA.nxt (tF s hS x.a B.length B _ (by rw[nA];rfl)) ?_
  simp (disch:=first|decide|omega) only[hA,go_sem]
  exact ZA (xs:=[.v (.bool (inZ x.a 0 (s.vars.length-1)))])
 have o4:=o
 clear o
 by_cases o:x.op=5
 ·have hr:iE s.vars.length s.code.length p n x=(inZ x.a 0 (s.vars.length-1)&&inZ x.b 0 (s.code.length-1)):=by unfold iE;rw[if_neg oM,if_neg oM,if_neg oM,if_pos o]
  rw[hr]
  have e1:(x.op==1)=false:=by simp[o]
  have e2:(x.op==2)=false:=by simp[o]
  have e3:(x.op==3)=false:=by simp[o]
  have e4:(x.op==4)=false:=by simp[o]
  have e5:(x.op==5)=true:=by simp[o]
  have e6:(x.op==6)=false:=by simp[o]
  have e7:(x.op==7)=false:=by simp[o]
  have e8:(x.op==8)=false:=by simp[o]
  simp (disch:=first|decide|omega) only[a_wright,hA,e1,e2,e3,e4,e5,e6,e7,e8,go_sem]
  refine QA.nxt (tF s hS x.a B.length B _ (by rw[nA];rfl)) ?_
  cases h1:inZ x.a 0 (s.vars.length-1)
  ·simp (disch:=first|decide|omega) only[hA,go_sem]
   exact ZA (xs:=[.v (.bool false)]) ⟨by simp[one],rfl,rfl⟩
  ·simp (disch:=first|decide|omega) only[hA,go_sem]
   refine QA.nxt (nN s hS x.b B.length B _ (by rw[nA];rfl)) ?_
   simp (disch:=first|decide|omega) only[hA,go_sem]
   exact ZA (xs:=[.v (.bool (inZ x.b 0 (s.code.length-1)))]) ⟨by simp[one],rfl,rfl⟩
 have o5:=o
 clear o
 by_cases o:x.op=6
 ·have hr:iE s.vars.length s.code.length p n x=(inZ x.a 0 (s.code.length-1)&&inZ x.b 0 (s.vars.length-1)):=by unfold iE;rw[if_neg oM,if_neg oM,if_neg oM,if_neg oM,if_pos o]
  rw[hr]
  have e1:(x.op==1)=false:=by simp[o]
  have e2:(x.op==2)=false:=by simp[o]
  have e3:(x.op==3)=false:=by simp[o]
  have e4:(x.op==4)=false:=by simp[o]
  have e5:(x.op==5)=false:=by simp[o]
  have e6:(x.op==6)=true:=by simp[o]
  have e7:(x.op==7)=false:=by simp[o]
  have e8:(x.op==8)=false:=by simp[o]
  simp (disch:=first|decide|omega) only[a_wright,hA,e1,e2,e3,e4,e5,e6,e7,e8,go_sem]
  refine QA.nxt (nN s hS x.a B.length B _ (by rw[nA];rfl)) ?_
  cases h1:inZ x.a 0 (s.code.length-1)
  ·simp (disch:=first|decide|omega) only[hA,go_sem]
   exact ZA (xs:=[.v (.bool false)]) ⟨by simp[one],rfl,rfl⟩
  ·simp (disch:=first|decide|omega) only[hA,go_sem]
   refine QA.nxt (tF s hS x.b B.length B _ (by rw[nA];rfl)) ?_
   simp (disch:=first|decide|omega) only[hA,go_sem]
   exact ZA (xs:=[.v (.bool (inZ x.b 0 (s.vars.length-1)))]) ⟨by simp[one],rfl,rfl⟩
 have o6:=o
 clear o
 have hr:iE s.vars.length s.code.length p n x=decide (x.op=7∨x.op=8):=by unfold iE;rw[if_neg oM,if_neg oM,if_neg oM,if_neg oM,if_neg oM]
 rw[hr]
 have e1:(x.op==1)=false:=by simpa using o1
 have e2:(x.op==2)=false:=by simpa using o2
 have e3:(x.op==3)=false:=by simpa using o3
 have e4:(x.op==4)=false:=by simpa using o4
 have e5:(x.op==5)=false:=by simpa using o5
 have e6:(x.op==6)=false:=by simpa using o6
 by_cases o7:x.op=7
 ·have e7:(x.op==7)=true:=by simpa using o7
  simp (disch:=first|decide|omega) only[a_wright,hA,e1,e2,e3,e4,e5,e6,e7,go_sem]
  exact ZA (xs:=[.v (.bool true)]) ⟨by simp[one,o7],rfl,rfl⟩
 ·have e7:(x.op==7)=false:=by simpa using o7
  by_cases o8:x.op=8
  ·have e8:(x.op==8)=true:=by simpa using o8
   simp (disch:=first|decide|omega) only[a_wright,hA,e1,e2,e3,e4,e5,e6,e7,e8,go_sem]
   exact ZA (xs:=[.v (.bool true)]) ⟨by simp[one,o8],rfl,rfl⟩
  ·have e8:(x.op==8)=false:=by simpa using o8
   simp (disch:=first|decide|omega) only[a_wright,hA,e1,e2,e3,e4,e5,e6,e7,e8,go_sem]
   exact ZA (xs:=[.v (.bool false)]) ⟨by simp[one,o7,o8],rfl,rfl⟩
def a_wname:AFunc:=({c:=_}:CF Tryz.prog 117).c
theorem j5:jA Tryz.prog 117=some a_wname:=by kernel_rfl
def a_wsvc1:AFunc:=({c:=_}:CF Tryz.prog 119).c
theorem K5:jA Tryz.prog 119=some a_wsvc1:=by kernel_rfl
def a_wsvc2:AFunc:=({c:=_}:CF Tryz.prog 122).c
theorem U5:jA Tryz.prog 122=some a_wsvc2:=by kernel_rfl
def a_wsvc3:AFunc:=({c:=_}:CF Tryz.prog 124).c
theorem V5:jA Tryz.prog 124=some a_wsvc3:=by kernel_rfl
def a_wsvcs:AFunc:=({c:=_}:CF Tryz.prog 64).c
theorem J5:jA Tryz.prog 64=some a_wsvcs:=by kernel_rfl
def vZ:List (Nat×Nat):=[(2,4),(11,61)]

theorem rK:jA Tryz.prog 127=some (FJ 6):=by kernel_rfl
theorem sK:jA Tryz.prog 69=some (tH 127):=by kernel_rfl
theorem V6:jA Tryz.prog 160=some (FJ 3):=by kernel_rfl
theorem K6:jA Tryz.prog 121=some (tH 160):=by kernel_rfl
theorem rI (s:ByteArray) (hs:s.size≤maxLen) (b l:List Row):QA Tryz.prog 144 [.v (.str s)] b l (fun r b' l'=>r=.v (.bool (nD s))∧b'=b∧l'=l):=by
 refine QA.of_ext ⟨_,Tryz.func144,by kernel_rfl,by kernel_rfl⟩ (fun F L w vs hr=>?_)
 obtain⟨u,us,h1,h2,h3⟩:=AD hr
 have:=XG h3
 subst this
 obtain rfl:vs=#[u]:=gb.1 (by rw[h1])
 cases h2.vI
 refine (ZAE s w hs).mono ?_
 rintro e w' ⟨rfl,rfl⟩
 exact⟨Ext.refl _,_,_,rfl,.v _ _ (.bool _),rfl,rfl,rfl⟩
theorem ZIL {s:ByteArray} (hs:s.size≤maxLen):Nm [⟨s,[],[]⟩]:=fun p hp=>by
 simp at hp;subst hp
 exact⟨hs,fun v hv=>by simp at hv⟩
theorem F9 (s:ByteArray):Small [⟨s,[],[]⟩]:=by
 refine⟨by simp,fun x hx=>?_,fun x hx=>?_,fun x hx e he=>?_⟩<;>simp at hx<;>subst hx<;>simp at *
theorem Y2 (s:ByteArray) (hs:s.size≤maxLen) (b l:List Row):QA Tryz.prog 117 [.v (.str s)] b l (fun r b' l'=>r=.v (.bool (nD s))∧b'=b∧l'=l):=by
 refine XA j5 rfl kE ?_
 intro B g hB hR hE hA;simp only[zA]at hA
 have cV:=fun b l=>yR [⟨s,[],[]⟩] (F9 s) (ZIL hs) b l
 rw[I2]at cV
 simp (disch:=first|decide|omega) only[a_wname,hA,YC,CB,iB,go_sem]
 refine QA.frzB (i:=0) (ver:=0) (sz:=3) (rows:=[[.str s,.zsl,.zsl]]) (args':=[.agg [.v (.isl 3 [[.str s,.zsl,.zsl]])]]) rfl (by simp[frz,YF]) ?_
 refine QA.nxt ((cV _ _).le rfl (fun i x y hx hy=>?_)) ?_
 ·match i,hx,hy with
  |0,hx,hy =>
    cases hx;cases hy
    refine .agg _ _ rfl (fun j u v hu hv=>?_)
    match j,hu,hv with
    |0,hu,hv =>
      cases hu;cases hv
      refine .v _ _ (IVle.rows ⟨⟨rfl,fun k a c ha hc=>?_⟩,trivial⟩)
      match k,ha,hc with
      |0,ha,hc=>cases ha;cases hc;exact .refl _
      |1,ha,hc=>cases ha;cases hc;exact .zsl 2
      |2,ha,hc=>cases ha;cases hc;exact .zsl 5
 simp (disch:=first|decide|omega) only[hA,go_sem]
 exact ZA (xs:=[.v (.bool (nD s))])
theorem Z2 (x:Int) (b l:List Row):QA Tryz.prog 119 [.v (.int .i64 x)] b l (fun r b' l'=>r=.v (.bool (!vlB x))∧b'=b∧l'=l):=by
 refine XA K5 rfl kE ?_
 intro B g hB hR hE hA;simp only[zA]at hA
 simp (disch:=first|decide|omega) only[a_wsvc1,hA,go_sem]
 refine QA.nxt (KM _ _ _) ?_
 simp (disch:=first|decide|omega) only[hA,go_sem]
 exact ZA (xs:=[.v (.bool (!vlB x))])
theorem O1 (s:Sv) (hS:SvS s) (p:Nat) (ls:List Sv) (hls:ls.length≤1000000) (x:In) (i0 i1 i2:Nat) (b l:List Row) (h0:hget b l i0=some (jG s)) (h1:hget b l i1=some (.live 0 1 [[.v (.int .i64 p)]])) (h2:hget b l i2=some (.live 0 1 [[.v (.isl 6 (ls.map eSv))]])) :
  QA Tryz.prog 122 [.agg [.v (.int .i64 x.op),.v (.int .i64 x.a),.v (.int .i64 x.b)],.ptr i0 0 0 0,.ptr i1 0 0 0,.ptr i2 0 0 0] b l (fun r b' l'=>r=.v (.bool (!iE s.vars.length s.code.length p ls.length x))∧b'=b∧l'=l):=by
 refine XA U5 rfl kE ?_
 intro B g hB hR hE hA;simp only[zA]at hA
 have up:∀{i:Nat} {r:Row},hget b l i=some r→∀l',hget B l' i=some r:=fun hg l'=>by
  rw[PC]at hg
  rw[PC,aw (by rw[hB];exact (ak.1 hg).1),hB];exact hg
 have g0:=up h0
 have g1:=up h1
 have g2:=up h2
 unfold jG at g0
 simp (disch:=first|decide|omega) only[a_wsvc2,hA,g0,g1,g2,aa,go_sem]
 refine QA.nxt (cX s hS _ _ oM x _ _) ?_
 simp (disch:=first|decide|omega) only[hA,go_sem]
 exact ZA (xs:=[.v (.bool (!iE s.vars.length s.code.length p ls.length x))])
theorem C1 (s x:Sv) (i0:Nat) (b l:List Row) (h0:hget b l i0=some (jG s)) :
  QA Tryz.prog 124 [.agg ((eSv x).map .v),.ptr i0 0 0 0] b l (fun r b' l'=>r=.v (.bool (x.name==s.name))∧b'=b∧l'=l):=by
 refine XA V5 rfl kE ?_
 intro B g hB hR hE hA;simp only[zA]at hA
 have g0:∀l',hget B l' i0=some (jG s):=fun l'=>by
  rw[PC]at h0
  rw[PC,aw (by rw[hB];exact (ak.1 h0).1),hB];exact h0
 unfold jG at g0
 simp (disch:=first|decide|omega) only[a_wsvc3,hA,g0,eSv,go_sem]
 exact ZA (xs:=[.v (.bool (x.name==s.name))])
theorem JZ {l:List Sv} {i:Nat} (hi:i<l.length) (h:svB l i=false):bF l=false:=by
 unfold bF
 rw[Bool.and_eq_false_iff]
 right
 rw[ew]
 exact⟨i,ba.2 hi,by rw[h];simp⟩
theorem uU {l:List Sv} (hl:inZ l.length 1 8=true) (h:∀i,i<l.length→svB l i=true):bF l=true:=by
 unfold bF
 rw[hl,hU,bg]
 exact fun i hi=>h i (ba.1 hi)
theorem ZR {l:List Sv}:∀row∈l.map eSv,row.length=6:=by
 intro row h
 obtain⟨s,_,rfl⟩:=cq.1 h
 rfl
theorem ZGR {l:List In}:∀row∈l.map eIn,row.length=3:=by
 intro row h
 obtain⟨s,_,rfl⟩:=cq.1 h
 rfl
theorem dL (ls:List Sv) (hS:SvsS ls) (b l:List Row):QA Tryz.prog 64 [.v (.isl 6 (ls.map eSv))] b l (fun r b' l'=>r=.v (.bool (bF ls))∧b'=b∧l'=l):=by
 refine XA J5 rfl kE ?_
 intro B g hB hR hE hA;simp only[zA]at hA
 have hln:=hS.len
 simp (disch:=first|decide|omega) only[a_wsvcs,hA,aa,go_sem]
 refine QA.nxt (FC _ _ _ _ _) ?_
 cases GE:inZ ls.length 1 8
 ·simp (disch:=first|decide|omega) only[hA,go_sem]
  exact ZA (xs:=[.v (.bool false)]) ⟨by unfold bF;rw[GE];rfl,rfl,rfl⟩
 simp (disch:=first|decide|omega) only[hA,aa,go_sem]
 refine JA (ι:=Nat) vZ (fun i=>[(11,.v (.int .i64 i))]) 1 (fun _=>[.live 0 1 [[.v (.isl 6 (ls.map eSv))]]])
  (fun i=>i≤ls.length∧∀j,j<i→svB ls j=true) (fun i=>ls.length-i) 0 ⟨aj _,fun j hj=>by omega⟩ kM kA kF ?_
 rintro g1 UG mF rA i ⟨hi,h0⟩
 by_cases yA:i<ls.length
 case neg =>
  obtain rfl:i=ls.length:=by omega
  simp (disch:=first|decide|omega) only[hA,rA,go_sem]
  exact ZA (xs:=[.v (.bool true)]) ⟨by rw[uU GE h0];rfl,rfl,rfl⟩
 obtain⟨s,hs⟩:∃s,ls[i]=s:=⟨_,rfl⟩
 have kJ:ls.getD i dfSv=s:=by rw[YA yA,hs]
 have hSs:=hS.all s (by rw[←hs];exact am yA)
 have FM:=CG yA
 rw[hs]at FM
 have S1:=hSs.name
 have hsc:=hSs.code
 have rV:=hSs.vars
 have n6:svB ls i=(sv1 s i ls.length&&(ls.take i).all fun x=>!(x.name==s.name)):=by unfold svB;rw[kJ]
 have bad:svB ls i=false→AV.v (.bool (bF ls))=.v (.bool false):=fun h=>by rw[JZ yA h]
 simp (disch:=first|decide|omega) only[hA,rA,FM,aa,go_sem]
 refine QA.nxt (Y2 _ (by simp only[maxLen];omega) _ _) ?_
 cases t1:nD s.name
 ·simp (disch:=first|decide|omega) only[hA,rA,go_sem]
  exact ZA (xs:=[.v (.bool false)]) ⟨by rw[bad (by rw[n6];unfold sv1;rw[t1];rfl)];rfl,rfl,rfl⟩
 simp (disch:=first|decide|omega) only[hA,rA,aa,go_sem]
 refine QA.nxt (FC _ _ _ _ _) ?_
 cases t2:inZ s.code.length 1 100
 ·simp (disch:=first|decide|omega) only[hA,rA,go_sem]
  exact ZA (xs:=[.v (.bool false)]) ⟨by rw[bad (by rw[n6];unfold sv1;rw[t1,t2];rfl)];rfl,rfl,rfl⟩
 by_cases t3:s.vars.length≤8
 case neg =>
  have d3:decide ((s.vars.length:Int)>8)=true:=ae oM
  have d3':decide ((8:Int)<(s.vars.length:Int))=true:=d3
  simp (disch:=first|decide|omega) only[hA,rA,d3,d3',aa,go_sem]
  exact ZA (xs:=[.v (.bool false)]) ⟨by rw[bad (by rw[n6];unfold sv1;rw[t1,t2,ag t3];rfl)];rfl,rfl,rfl⟩
 have d3:decide ((s.vars.length:Int)>8)=false:=ag oM
 have d3':decide ((8:Int)<(s.vars.length:Int))=false:=d3
 simp (disch:=first|decide|omega) only[hA,rA,d3,d3',aa,go_sem]
 refine QA.nxt (FC _ _ _ _ _) ?_
 cases t4:inZ s.pc 0 s.code.length
 ·simp (disch:=first|decide|omega) only[hA,rA,go_sem]
  exact ZA (xs:=[.v (.bool false)]) ⟨by rw[bad (by rw[n6];unfold sv1;rw[t1,t2,ae t3,t4];rfl)];rfl,rfl,rfl⟩
 simp (disch:=first|decide|omega) only[hA,rA,aa,go_sem]
 refine QA.nxt (YP _ _ _ _ _ _ _ _ (.inl ⟨_,rfl⟩)) ?_
 have hrt:(inZ s.off 0 1000000&&inZ s.rate 500 2000)=NI s:=rfl
 rw[hrt]
 cases t5:NI s
 ·simp (disch:=first|decide|omega) only[hA,rA,go_sem]
  exact ZA (xs:=[.v (.bool false)]) ⟨by rw[bad (by rw[n6];unfold sv1;rw[t1,t2,ae t3,t4,t5];rfl)];rfl,rfl,rfl⟩
 simp (disch:=first|decide|omega) only[hA,rA,aa,go_sem]
 refine QA.nxt (tL s.vars _ [] (fun j=>!vlB (s.vars.getD j 0)) rV _ _ (fun j hj=>by
  simp only[YA hj]
  exact Z2 _ _ _)) ?_
 rw[sG (p:=fun x=>!vlB x),yF]
 cases t6:s.vars.all vlB
 ·simp (disch:=first|decide|omega) only[hA,rA,go_sem]
  exact ZA (xs:=[.v (.bool false)]) ⟨by rw[bad (by rw[n6];unfold sv1;rw[t1,t2,ae t3,t4,t5,t6];rfl)];rfl,rfl,rfl⟩
 obtain⟨R,hR3⟩:∃R:List Row,R=[.live 0 1 [[.v (.isl 6 (ls.map eSv))]],.live 0 1 [[.v (.int .i64 i)]],jG s]:=⟨_,rfl⟩
 have q0:hget (B++R) [] (B.length+2)=some (jG s):=by rw[PC,db,ar oM,ci,hR3];rfl
 have q1:hget (B++R) [] (B.length+1)=some (.live 0 1 [[.v (.int .i64 i)]]):=by rw[PC,db,ar oM,ci,hR3];rfl
 have q2:hget (B++R) [] B.length=some (.live 0 1 [[.v (.isl 6 (ls.map eSv))]]):=by rw[PC,db,ar oM,eh,hR3];rfl
 have cK:=YD K6 V6 (s.code.map eIn) 122 [.ptr (B.length+2) 0 0 0,.ptr (B.length+1) 0 0 0,.ptr B.length 0 0 0] (fun j=>!iE s.vars.length s.code.length i ls.length (s.code.getD j dN)) ZGR (by rw[aa];exact hsc) B R (fun j row hj=>by
  have rG:j<s.code.length:=by have:=(ak.1 hj).1;rwa [aa]at this
  rw[gI rG]at hj
  cases hj
  simp only[YA rG]
  exact O1 s hSs i ls hln _ _ _ _ _ _ q0 q1 q2)
 rw[aa,sG (p:=fun x=>!iE s.vars.length s.code.length i ls.length x),yF]at cK
 have I0:(ls.take i).length=i:=by rw[cf];omega
 have cN:=YD sK rK ((ls.take i).map eSv) 124 [.ptr (B.length+2) 0 0 0] (fun j=>(((ls.take i).getD j dfSv).name==s.name)) ZR (by rw[aa];omega) B R (fun j row hj=>by
  have rG:j<(ls.take i).length:=by have:=(ak.1 hj).1;rwa [aa]at this
  rw[an,ah rG]at hj
  cases hj
  simp only[YA rG]
  exact C1 s _ _ _ _ q0)
 rw[aa,sG (d:=dfSv) (p:=fun x:Sv=>x.name==s.name)]at cN
 rw[hR3]at cK cN
 unfold jG at cK cN
 simp (disch:=first|decide|omega) only[hA,rA,aa,go_sem]
 refine QA.nxt cK ?_
 cases t7:s.code.all (iE s.vars.length s.code.length i ls.length)
 ·simp (disch:=first|decide|omega) only[hA,rA,go_sem]
  exact ZA (xs:=[.v (.bool false)]) ⟨by rw[bad (by rw[n6];unfold sv1;rw[t1,t2,ae t3,t4,t5,t6,t7];rfl)];rfl,rfl,rfl⟩
 have LH:sv1 s i ls.length=true:=by unfold sv1;rw[t1,t2,ae t3,t4,t5,t6,t7];rfl
 rw[fy]at cN
 simp (disch:=first|decide|omega) only[hA,rA,aa,go_sem]
 refine QA.nxt cN ?_
 have hna:(ls.take i).all (fun x=>!(x.name==s.name))=!(ls.take i).any (fun x=>x.name==s.name):=by
  rw[dx]
  simp[bg,fu]
 cases t8:(ls.take i).any (fun x=>x.name==s.name)
 ·simp (disch:=first|decide|omega) only[hA,rA,go_sem]
  refine⟨i+1,⟨yA,fun j hj=>?_⟩,by simp only;omega,?_⟩
  ·rcases bj j i with JG|JG
   ·exact h0 j JG
   ·obtain rfl:j=i:=by omega
    rw[n6,LH,hna,t8];rfl
  ·exact KA.kround (p:=vZ) (k:=1) kQ kA rfl UG kS kV hR kL
 ·simp (disch:=first|decide|omega) only[hA,rA,go_sem]
  exact ZA (xs:=[.v (.bool false)]) ⟨by rw[bad (by rw[n6,LH,hna,t8];rfl)];rfl,rfl,rfl⟩
def a_r54Serv:AFunc:=({c:=_}:CF Tryz.prog 102).c
theorem jW:jA Tryz.prog 102=some a_r54Serv:=by kernel_rfl
def tR:List (Nat×Nat):=[(6,7),(40,53)]
def sR:List (Nat×Nat):=[(6,6),(8,8),(54,70)]
def a_r54Servs:AFunc:=({c:=_}:CF Tryz.prog 51).c
theorem tT:jA Tryz.prog 51=some a_r54Servs:=by kernel_rfl
def rP:List (Nat×Nat):=[(2,4),(9,39)]
def dP:List (Nat×Nat):=[(2,2),(4,4),(24,39)]

theorem yT (s:Sv) (hS:SvS s) (p n:Int) (hn:0≤n∧n≤1000000) (x:In) (b l:List Row):QA Tryz.prog 146 [.agg (zSA s),.agg [.v (.int .i64 x.op),.v (.int .i64 x.a),.v (.int .i64 x.b)],.v (.int .i64 p),.v (.int .i64 n)] b l (fun r b' l'=>r=.v (.bool (iE s.vars.length s.code.length p n x))∧b'=b∧l'=l):=by
 refine XA nT rfl kE ?_
 intro B g hB hR hE hA;simp only[zA]at hA
 have hv:=hS.vars
 have hc:=hS.code
 have hwn:IntKind.i64.wrap (n-1)=n-1:=dA oM oM
 have hwv:IntKind.i64.wrap ((s.vars.length:Int)-1)=(s.vars.length:Int)-1:=dA oM oM
 have hwc:IntKind.i64.wrap ((s.code.length:Int)-1)=(s.code.length:Int)-1:=dA oM oM
 by_cases o:x.op=1
 ·have hr:iE s.vars.length s.code.length p n x=(inZ x.a 0 (s.vars.length-1)&&vlB x.b):=by unfold iE;rw[if_pos oM]
  rw[hr]
  have e1:(x.op==1)=true:=by simp[o]
  have e2:(x.op==2)=false:=by simp[o]
  have e3:(x.op==3)=false:=by simp[o]
  have e4:(x.op==4)=false:=by simp[o]
  have e5:(x.op==5)=false:=by simp[o]
  have e6:(x.op==6)=false:=by simp[o]
  have e7:(x.op==7)=false:=by simp[o]
  have e8:(x.op==8)=false:=by simp[o]
  have dl:decide (x.op<1)=false:=ag oM
  have dg:decide (x.op>8)=false:=ag oM
  have dg':decide (8<x.op)=false:=dg
  simp (disch:=first|decide|omega) only[a_r54Instr,hA,e1,e2,e3,e4,e5,e6,e7,e8,dl,dg,dg',hwn,hwv,hwc,aa,go_sem]
  refine QA.nxt (FB _ _ _ _ _) ?_
  cases h1:inZ x.a 0 (s.vars.length-1)
  ·simp (disch:=first|decide|omega) only[hA,go_sem]
   exact ZA (xs:=[.v (.bool false)]) ⟨by simp[one],rfl,rfl⟩
  ·simp (disch:=first|decide|omega) only[hA,go_sem]
   refine QA.nxt (fL _ _ _) ?_
   simp (disch:=first|decide|omega) only[hA,go_sem]
   exact ZA (xs:=[.v (.bool (vlB x.b))]) ⟨by simp[one],rfl,rfl⟩
 have o1:=o
 clear o
 by_cases o:x.op=2
 ·have hr:iE s.vars.length s.code.length p n x=(inZ x.a 0 (s.vars.length-1)&&vlB x.b):=by unfold iE;rw[if_pos oM]
  rw[hr]
  have e1:(x.op==1)=false:=by simp[o]
  have e2:(x.op==2)=true:=by simp[o]
  have e3:(x.op==3)=false:=by simp[o]
  have e4:(x.op==4)=false:=by simp[o]
  have e5:(x.op==5)=false:=by simp[o]
  have e6:(x.op==6)=false:=by simp[o]
  have e7:(x.op==7)=false:=by simp[o]
  have e8:(x.op==8)=false:=by simp[o]
  have dl:decide (x.op<1)=false:=ag oM
  have dg:decide (x.op>8)=false:=ag oM
  have dg':decide (8<x.op)=false:=dg
  simp (disch:=first|decide|omega) only[a_r54Instr,hA,e1,e2,e3,e4,e5,e6,e7,e8,dl,dg,dg',hwn,hwv,hwc,aa,go_sem]
  refine QA.nxt (FB _ _ _ _ _) ?_
  cases h1:inZ x.a 0 (s.vars.length-1)
  ·simp (disch:=first|decide|omega) only[hA,go_sem]
   exact ZA (xs:=[.v (.bool false)]) ⟨by simp[one],rfl,rfl⟩
  ·simp (disch:=first|decide|omega) only[hA,go_sem]
   refine QA.nxt (fL _ _ _) ?_
   simp (disch:=first|decide|omega) only[hA,go_sem]
   exact ZA (xs:=[.v (.bool (vlB x.b))]) ⟨by simp[one],rfl,rfl⟩
 have o2:=o
 clear o
 by_cases o:x.op=3
 ·have hr:iE s.vars.length s.code.length p n x=(inZ x.a 0 (s.vars.length-1)&&(inZ x.b 0 (n-1)&&decide (x.b≠p))):=by unfold iE;rw[if_neg oM,if_pos o]
  rw[hr]
  have e1:(x.op==1)=false:=by simp[o]
  have e2:(x.op==2)=false:=by simp[o]
  have e3:(x.op==3)=true:=by simp[o]
  have e4:(x.op==4)=false:=by simp[o]
  have e5:(x.op==5)=false:=by simp[o]
  have e6:(x.op==6)=false:=by simp[o]
  have e7:(x.op==7)=false:=by simp[o]
  have e8:(x.op==8)=false:=by simp[o]
  have dl:decide (x.op<1)=false:=ag oM
  have dg:decide (x.op>8)=false:=ag oM
  have dg':decide (8<x.op)=false:=dg
  simp (disch:=first|decide|omega) only[a_r54Instr,hA,e1,e2,e3,e4,e5,e6,e7,e8,dl,dg,dg',hwn,hwv,hwc,aa,go_sem]
  refine QA.nxt (FB _ _ _ _ _) ?_
  cases h1:inZ x.a 0 (s.vars.length-1)
  ·simp (disch:=first|decide|omega) only[hA,go_sem]
   exact ZA (xs:=[.v (.bool false)]) ⟨by simp[one],rfl,rfl⟩
  ·simp (disch:=first|decide|omega) only[hA,hwn,go_sem]
   refine QA.nxt (FB _ _ _ _ _) ?_
   cases h2:inZ x.b 0 (n-1)
   ·simp (disch:=first|decide|omega) only[hA,go_sem]
    exact ZA (xs:=[.v (.bool false)]) ⟨by simp[one],rfl,rfl⟩
   ·have hb:(x.b != p)=decide (x.b≠p):=by by_cases h:x.b=p<;>simp[h]
    simp (disch:=first|decide|omega) only[hA,hb,go_sem]
    exact ZA (xs:=[.v (.bool (decide (x.b≠p)))]) ⟨by simp[one],rfl,rfl⟩
 have o3:=o
 clear o
 by_cases o:x.op=4
 ·have hr:iE s.vars.length s.code.length p n x=inZ x.a 0 (s.vars.length-1):=by unfold iE;rw[if_neg oM,if_neg oM,if_pos o]
  rw[hr]
  have e1:(x.op==1)=false:=by simp[o]
  have e2:(x.op==2)=false:=by simp[o]
  have e3:(x.op==3)=false:=by simp[o]
  have e4:(x.op==4)=true:=by simp[o]
  have e5:(x.op==5)=false:=by simp[o]
  have e6:(x.op==6)=false:=by simp[o]
  have e7:(x.op==7)=false:=by simp[o]
  have e8:(x.op==8)=false:=by simp[o]
  have dl:decide (x.op<1)=false:=ag oM
  have dg:decide (x.op>8)=false:=ag oM
  have dg':decide (8<x.op)=false:=dg
  simp (disch:=first|decide|omega) only[a_r54Instr,hA,e1,e2,e3,e4,e5,e6,e7,e8,dl,dg,dg',hwn,hwv,hwc,aa,go_sem]
  refine QA.nxt (FB _ _ _ _ _) ?_
  simp (disch:=first|decide|omega) only[hA,go_sem]
  exact ZA (xs:=[.v (.bool (inZ x.a 0 (s.vars.length-1)))])
 have o4:=o
 clear o
 by_cases o:x.op=5
 ·have hr:iE s.vars.length s.code.length p n x=(inZ x.a 0 (s.vars.length-1)&&inZ x.b 0 (s.code.length-1)):=by unfold iE;rw[if_neg oM,if_neg oM,if_neg oM,if_pos o]
  rw[hr]
  have e1:(x.op==1)=false:=by simp[o]
  have e2:(x.op==2)=false:=by simp[o]
  have e3:(x.op==3)=false:=by simp[o]
  have e4:(x.op==4)=false:=by simp[o]
  have e5:(x.op==5)=true:=by simp[o]
  have e6:(x.op==6)=false:=by simp[o]
  have e7:(x.op==7)=false:=by simp[o]
  have e8:(x.op==8)=false:=by simp[o]
  have dl:decide (x.op<1)=false:=ag oM
  have dg:decide (x.op>8)=false:=ag oM
  have dg':decide (8<x.op)=false:=dg
  simp (disch:=first|decide|omega) only[a_r54Instr,hA,e1,e2,e3,e4,e5,e6,e7,e8,dl,dg,dg',hwn,hwv,hwc,aa,go_sem]
  refine QA.nxt (FB _ _ _ _ _) ?_
  cases h1:inZ x.a 0 (s.vars.length-1)
  ·simp (disch:=first|decide|omega) only[hA,go_sem]
   exact ZA (xs:=[.v (.bool false)]) ⟨by simp[one],rfl,rfl⟩
  ·simp (disch:=first|decide|omega) only[hA,hwv,hwc,go_sem]
   refine QA.nxt (FB _ _ _ _ _) ?_
   simp (disch:=first|decide|omega) only[hA,go_sem]
   exact ZA (xs:=[.v (.bool (inZ x.b 0 (s.code.length-1)))]) ⟨by simp[one],rfl,rfl⟩
 have o5:=o
 clear o
 by_cases o:x.op=6
 ·have hr:iE s.vars.length s.code.length p n x=(inZ x.a 0 (s.code.length-1)&&inZ x.b 0 (s.vars.length-1)):=by unfold iE;rw[if_neg oM,if_neg oM,if_neg oM,if_neg oM,if_pos o]
  rw[hr]
  have e1:(x.op==1)=false:=by simp[o]
  have e2:(x.op==2)=false:=by simp[o]
  have e3:(x.op==3)=false:=by simp[o]
  have e4:(x.op==4)=false:=by simp[o]
  have e5:(x.op==5)=false:=by simp[o]
  have e6:(x.op==6)=true:=by simp[o]
  have e7:(x.op==7)=false:=by simp[o]
  have e8:(x.op==8)=false:=by simp[o]
  have dl:decide (x.op<1)=false:=ag oM
  have dg:decide (x.op>8)=false:=ag oM
  have dg':decide (8<x.op)=false:=dg
  simp (disch:=first|decide|omega) only[a_r54Instr,hA,e1,e2,e3,e4,e5,e6,e7,e8,dl,dg,dg',hwn,hwv,hwc,aa,go_sem]
  refine QA.nxt (FB _ _ _ _ _) ?_
  cases h1:inZ x.a 0 (s.code.length-1)
  ·simp (disch:=first|decide|omega) only[hA,go_sem]
   exact ZA (xs:=[.v (.bool false)]) ⟨by simp[one],rfl,rfl⟩
  ·simp (disch:=first|decide|omega) only[hA,hwv,hwc,go_sem]
   refine QA.nxt (FB _ _ _ _ _) ?_
   simp (disch:=first|decide|omega) only[hA,go_sem]
   exact ZA (xs:=[.v (.bool (inZ x.b 0 (s.vars.length-1)))]) ⟨by simp[one],rfl,rfl⟩
 have o6:=o
 clear o
 have hr:iE s.vars.length s.code.length p n x=decide (x.op=7∨x.op=8):=by unfold iE;rw[if_neg oM,if_neg oM,if_neg oM,if_neg oM,if_neg oM]
 rw[hr]
 have e1:(x.op==1)=false:=by simpa using o1
 have e2:(x.op==2)=false:=by simpa using o2
 have e3:(x.op==3)=false:=by simpa using o3
 have e4:(x.op==4)=false:=by simpa using o4
 have e5:(x.op==5)=false:=by simpa using o5
 have e6:(x.op==6)=false:=by simpa using o6
 by_cases hl:x.op<1
 ·have dl:=ae hl
  simp (disch:=first|decide|omega) only[a_r54Instr,hA,dl,aa,go_sem]
  exact ZA (xs:=[.v (.bool false)]) ⟨by rw[ag oM];rfl,rfl,rfl⟩
 have dl:=ag hl
 by_cases hg:8<x.op
 ·have dg:=ae hg
  simp (disch:=first|decide|omega) only[a_r54Instr,hA,dl,dg,aa,go_sem]
  exact ZA (xs:=[.v (.bool false)]) ⟨by rw[ag oM];rfl,rfl,rfl⟩
 have dg:=ag hg
 simp (disch:=first|decide|omega) only[a_r54Instr,hA,dl,dg,e1,e2,e3,e4,e5,e6,aa,go_sem]
 exact ZA (xs:=[.v (.bool true)]) ⟨by rw[ae oM];rfl,rfl,rfl⟩
theorem FV (s:Sv) (hS:SvS s) (p n:Int) (hn:0≤n∧n≤1000000) (b l:List Row):QA Tryz.prog 102 [.agg (zSA s),.v (.int .i64 p),.v (.int .i64 n)] b l (fun r b' l'=>r=.v (.bool (sv1 s p n))∧b'=b∧l'=l):=by
 refine XA jW rfl kE ?_
 intro B g hB hR hE hA;simp only[zA]at hA
 have S1:=hS.name
 have rV:=hS.vars
 have hsc:=hS.code
 simp (disch:=first|decide|omega) only[a_r54Serv,hA,go_sem]
 refine QA.nxt (rI _ (by simp only[maxLen];omega) _ _) ?_
 cases t1:nD s.name
 ·simp (disch:=first|decide|omega) only[hA,go_sem]
  exact ZA (xs:=[.v (.bool false)]) ⟨by unfold sv1;rw[t1];rfl,rfl,rfl⟩
 simp (disch:=first|decide|omega) only[hA,aa,go_sem]
 refine QA.nxt (FB _ _ _ _ _) ?_
 cases t2:inZ s.code.length 1 100
 ·simp (disch:=first|decide|omega) only[hA,go_sem]
  exact ZA (xs:=[.v (.bool false)]) ⟨by unfold sv1;rw[t1,t2];rfl,rfl,rfl⟩
 by_cases t3:s.vars.length≤8
 case neg =>
  have d3:decide ((s.vars.length:Int)>8)=true:=ae oM
  have d3':decide ((8:Int)<(s.vars.length:Int))=true:=d3
  simp (disch:=first|decide|omega) only[hA,d3,d3',aa,go_sem]
  exact ZA (xs:=[.v (.bool false)]) ⟨by unfold sv1;rw[t1,t2,ag t3];rfl,rfl,rfl⟩
 have d3:decide ((s.vars.length:Int)>8)=false:=ag oM
 have d3':decide ((8:Int)<(s.vars.length:Int))=false:=d3
 simp (disch:=first|decide|omega) only[hA,d3,d3',aa,go_sem]
 refine QA.nxt (FB _ _ _ _ _) ?_
 cases t4:inZ s.pc 0 s.code.length
 ·simp (disch:=first|decide|omega) only[hA,go_sem]
  exact ZA (xs:=[.v (.bool false)]) ⟨by unfold sv1;rw[t1,t2,ae t3,t4];rfl,rfl,rfl⟩
 simp (disch:=first|decide|omega) only[hA,go_sem]
 refine QA.nxt (RM _ _ _ _ s _ _) ?_
 cases t5:NI s
 ·simp (disch:=first|decide|omega) only[hA,go_sem]
  exact ZA (xs:=[.v (.bool false)]) ⟨by unfold sv1;rw[t1,t2,ae t3,t4,t5];rfl,rfl,rfl⟩
 simp (disch:=first|decide|omega) only[hA,aa,go_sem]
 refine JA (ι:=Nat) tR (fun i=>[(7,.v (.int .i64 i))]) 1 (fun _=>[jG s])
  (fun i=>i≤s.vars.length∧∀j,j<i→vlB (s.vars.getD j 0)=true) (fun i=>s.vars.length-i) 0 ⟨aj _,fun j hj=>by omega⟩ kM kA kF ?_
 rintro g1 UG mF rA i ⟨hi,h0⟩
 unfold jG
 by_cases yA:i<s.vars.length
 ·have CI:=tE yA
  simp (disch:=first|decide|omega) only[hA,rA,CI,aa,go_sem]
  refine QA.nxt (fL _ _ _) ?_
  cases q:vlB (s.vars.getD i 0)
  ·simp (disch:=first|decide|omega) only[hA,rA,go_sem]
   exact ZA (xs:=[.v (.bool false)]) ⟨by unfold sv1;rw[t1,t2,ae t3,t4,t5,show s.vars.all vlB=false from ew.2 ⟨s.vars.getD i 0,by rw[YA yA];exact am yA,by rw[q];simp⟩];rfl,rfl,rfl⟩
  ·simp (disch:=first|decide|omega) only[hA,rA,go_sem]
   refine⟨i+1,⟨yA,fun j hj=>?_⟩,by simp only;omega,?_⟩
   ·rcases bj j i with JG|JG
    ·exact h0 j JG
    ·obtain rfl:j=i:=by omega
     exact q
   ·exact KA.kround (p:=tR) (k:=1) kQ kA rfl UG kS kV hR kL
 obtain rfl:i=s.vars.length:=by omega
 have t6:s.vars.all vlB=true:=by
  rw[bg]
  intro x hx
  obtain⟨j,hj,rfl⟩:=cn hx
  rw[←YA (d:=0) hj]
  exact h0 j hj
 simp (disch:=first|decide|omega) only[hA,rA,aa,go_sem]
 refine JA (ι:=Nat) sR (fun i=>[(8,.v (.int .i64 i))]) 1 (fun _=>[jG s])
  (fun i=>i≤s.code.length∧∀j,j<i→iE s.vars.length s.code.length p n (s.code.getD j dN)=true) (fun i=>s.code.length-i) 0 ⟨aj _,fun j hj=>by omega⟩ kM kA kF ?_
 rintro g2 AJ OP VE i ⟨hi2,h02⟩
 unfold jG
 by_cases yA:i<s.code.length
 ·have CI:=gI yA
  simp (disch:=first|decide|omega) only[hA,rA,VE,CI,aa,go_sem]
  refine QA.nxt (yT s hS p n hn s.code[i] _ _) ?_
  rw[←YA (d:=dN) yA]
  cases q:iE s.vars.length s.code.length p n (s.code.getD i dN)
  ·simp (disch:=first|decide|omega) only[hA,rA,VE,go_sem]
   exact ZA (xs:=[.v (.bool false)]) ⟨by unfold sv1;rw[t1,t2,ae t3,t4,t5,t6,show s.code.all (iE s.vars.length s.code.length p n)=false from ew.2 ⟨s.code.getD i dN,by rw[YA yA];exact am yA,by rw[q];simp⟩];rfl,rfl,rfl⟩
  ·simp (disch:=first|decide|omega) only[hA,rA,VE,go_sem]
   refine⟨i+1,⟨yA,fun j hj=>?_⟩,by simp only;omega,?_⟩
   ·rcases bj j i with JG|JG
    ·exact h02 j JG
    ·obtain rfl:j=i:=by omega
     exact q
   ·exact KA.kround (p:=sR) (k:=1) kQ kA rfl AJ kS kV hR kL
 obtain rfl:i=s.code.length:=by omega
 have t7:s.code.all (iE s.vars.length s.code.length p n)=true:=by
  rw[bg]
  intro x hx
  obtain⟨j,hj,rfl⟩:=cn hx
  rw[←YA (d:=dN) hj]
  exact h02 j hj
 simp (disch:=first|decide|omega) only[hA,rA,VE,aa,go_sem]
 exact ZA (xs:=[.v (.bool true)]) ⟨by unfold sv1;rw[t1,t2,ae t3,t4,t5,t6,t7];rfl,rfl,rfl⟩
theorem vT (ls:List Sv) (hS:SvsS ls) (b l:List Row):QA Tryz.prog 51 [.v (.isl 6 (ls.map eSv))] b l (fun r b' l'=>r=.v (.bool (bF ls))∧b'=b∧l'=l):=by
 refine XA tT rfl kE ?_
 intro B g hB hR hE hA;simp only[zA]at hA
 have hln:=hS.len
 simp (disch:=first|decide|omega) only[a_r54Servs,hA,aa,go_sem]
 refine QA.nxt (FB _ _ _ _ _) ?_
 cases GE:inZ ls.length 1 8
 ·simp (disch:=first|decide|omega) only[hA,go_sem]
  exact ZA (xs:=[.v (.bool false)]) ⟨by unfold bF;rw[GE];rfl,rfl,rfl⟩
 simp (disch:=first|decide|omega) only[hA,aa,go_sem]
 refine JA (ι:=Nat) rP (fun i=>[(3,.v (.int .i64 i))]) 0 (fun _=>[])
  (fun i=>i≤ls.length∧∀j,j<i→svB ls j=true) (fun i=>ls.length-i) 0 ⟨aj _,fun j hj=>by omega⟩ kM kA kF ?_
 rintro g1 UG mF rA i ⟨hi,h0⟩
 by_cases yA:i<ls.length
 case neg =>
  obtain rfl:i=ls.length:=by omega
  simp (disch:=first|decide|omega) only[hA,rA,aa,go_sem]
  exact ZA (xs:=[.v (.bool true)]) ⟨by rw[uU GE h0];rfl,rfl,rfl⟩
 obtain⟨s,hs⟩:∃s,ls[i]=s:=⟨_,rfl⟩
 have kJ:ls.getD i dfSv=s:=by rw[YA yA,hs]
 have hSs:=hS.all s (by rw[←hs];exact am yA)
 have FM:=CG yA
 rw[hs]at FM
 have n6:svB ls i=(sv1 s i ls.length&&(ls.take i).all fun x=>!(x.name==s.name)):=by unfold svB;rw[kJ]
 have bad:svB ls i=false→AV.v (.bool (bF ls))=.v (.bool false):=fun h=>by rw[JZ yA h]
 simp (disch:=first|decide|omega) only[hA,rA,FM,aa,go_sem]
 refine QA.nxt (FV s hSs _ _ oM _ _) ?_
 cases t1:sv1 s i ls.length
 ·simp (disch:=first|decide|omega) only[hA,rA,go_sem]
  exact ZA (xs:=[.v (.bool false)]) ⟨by rw[bad (by rw[n6,t1];rfl)];rfl,rfl,rfl⟩
 simp (disch:=first|decide|omega) only[hA,rA,aa,go_sem]
 refine JA (ι:=Nat) dP (fun k=>[(4,.v (.int .i64 k))]) 0 (fun _=>[])
  (fun k=>k≤i∧∀j,j<k→((ls.getD j dfSv).name==s.name)=false) (fun k=>i-k) 0 ⟨aj _,fun j hj=>by omega⟩ kM kA kF ?_
 rintro g2 AJ OP VE k ⟨hk,h02⟩
 by_cases GN:k<i
 ·have hgk:=CG (show k<ls.length by omega)
  have ZLg:ls.getD k dfSv=ls[k]:=YA oM
  cases q:(ls[k].name==s.name)
  ·simp (disch:=first|decide|omega) only[hA,rA,VE,FM,hgk,q,aa,go_sem]
   refine⟨k+1,⟨GN,fun j hj=>?_⟩,by simp only;omega,?_⟩
   ·rcases bj j k with JG|JG
    ·exact h02 j JG
    ·obtain rfl:j=k:=by omega
     rw[ZLg];exact q
   ·exact KA.kround (p:=dP) (k:=0) kQ kA rfl AJ kS kV hR kL
  ·simp (disch:=first|decide|omega) only[hA,rA,VE,FM,hgk,q,aa,go_sem]
   exact ZA (xs:=[.v (.bool false)]) ⟨by rw[bad (by rw[n6,t1,hU,ew];exact⟨ls[k],ek.2 ⟨k,by rw[cz,if_pos GN,ah oM]⟩,by rw[q];simp⟩)];rfl,rfl,rfl⟩
 ·obtain rfl:k=i:=by omega
  have JF:(ls.take k).all (fun x=>!(x.name==s.name))=true:=by
   rw[bg]
   intro x hx
   obtain⟨j,hj,rfl⟩:=cn hx
   have hj2:j<k:=by rw[cf]at hj;omega
   have:=h02 j hj2
   rw[YA oM]at this
   rw[List.getElem_take,this];rfl
  simp (disch:=first|decide|omega) only[hA,rA,VE,aa,go_sem]
  refine⟨k+1,⟨yA,fun j hj=>?_⟩,by simp only;omega,?_⟩
  ·rcases bj j k with JG|JG
   ·exact h0 j JG
   ·obtain rfl:j=k:=by omega
    rw[n6,t1,JF];rfl
  ·exact KA.kround (p:=rP) (k:=0) kQ kA rfl UG kS kV hR kL
end Go.Proofs.YtmaokjojbjdpoaaGreatDoor
