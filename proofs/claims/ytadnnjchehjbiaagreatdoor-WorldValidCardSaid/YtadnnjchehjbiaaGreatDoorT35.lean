/- Texts of one proof, laid together: NE, NF, NH, R3, B1, WV, WF, PB, WH, WL, PF, WJ, WK, PH, WY, B2, B3. No condition. -/
import Derived.Test.YtadnnjchehjbiaaGreatDoorT34
import Derived.KernelRfl
import Derived.RangeFuncCalls
import Derived.RangeFuncIn
import Derived.OrdersIn
import Derived.AtR
import Derived.Sort.LoopGhostIn
set_option linter.unusedSimpArgs false
set_option maxHeartbeats 8000000
set_option maxRecDepth 100000
namespace Go.Proofs.YtadnnjchehjbiaaGreatDoor
set_option maxHeartbeats 16000000
set_option maxRecDepth 100000
set_option linter.unusedVariables false
set_option linter.unusedSimpArgs false
attribute [local go_sem ↓] xB tA iB rB EB SA uB CB dB UC gA RA wB yA DA yB dA FA lB nA xA sB TA MA lA LA fA vB aA AB tB OB ZC LC VC FC EC OC VD
attribute [local go_sem] pA uA QD eA iA MC YC XC QC nG pG JC nB pB mB MB UA KB jA UB qA mA aop sD pC rC SB sC DB tC YG YE LD amm tD IB QB SD dC ED comma nC XE QG QE ZE SF DD GD eC RF eqC eqF DE cellsOf JB yD KD ID dF rd rdI wD mk iC AV.cell List.all_cons List.all_nil Bool.and_true Bool.true_and Bool.and_self List.length_cons List.length_nil List.length_append Nat.reduceAdd Nat.reduceSub Nat.reduceMul Nat.zero_add Nat.add_zero List.cons_append List.nil_append List.append_assoc List.append_nil List.getElem?_cons_zero List.getElem?_cons_succ List.getElem?_nil List.set_cons_zero List.set_cons_succ List.drop_zero List.drop_succ_cons List.take_zero List.take_succ_cons List.take_nil List.drop_nil List.map_cons List.map_nil Option.map_some if_true if_false Bool.false_eq_true and_self true_and and_true Nat.reduceLeDiff Nat.reduceLT Nat.le_refl Nat.reduceEqDiff ite_true ite_false beq_self_eq_true beq_true beq_false Bool.not_true Bool.not_false Bool.true_beq Bool.false_beq mD gC TB GC RC qC zC FB KC DC IC nD zB IH nH DH HH EE ME CE LE geI gtI AE decide_true decide_false room List.getElem?_map List.length_map List.length_take Int.toNat_natCast Nat.min_def Nat.min_self qE JE uE mC vE bG EA List.getElem_cons_zero List.getElem_cons_succ
def a_nSend:AFunc:=({c:=_}:CF Tryz.prog 110).c
theorem H4:CA Tryz.prog 110=some a_nSend:=by kernel_rfl
def gM:List (Nat×Nat):=[(7,9),(44,72)]
def PY:List (Nat×Nat):=[(96,113)]

theorem KA.namedAll {N:Nat} {f:Nat→AV} {b l:List Row} (ov:List (Nat×AV)) (h:bG f ov):KA (kOf N f) b l (kOf N (kOv ov (fun _=>.any))) b l:=by
 intro F L w a s he
 refine⟨F,L,s,⟨he.1,by rw[he.2.1,TI,TI],fun i x v hx hv=>?_⟩,Step.refl _ _ _ _ _,rfl⟩
 rw[rF]at hx
 split at hx
 ·rename_i hi
  cases hx
  rcases kOv_get (ov:=ov) (f:=fun _=>AV.any) (i:=i) with hg|hg
  ·rw[hg];exact .any v
  ·rw[←h.mem hg]
   exact he.2.2 i _ v (by rw[rF,if_pos hi]) hv
 ·cases hx
def hdF (n:Nw):Int×Int:=n.fates.headD (1,0)
def RZ (n:Nw):Nat:=if n.fates=[] then 0 else 1
def sdX (n:Nw) (m:Ms) (k:Nat):Nat→List (Ms×Nat)
 |0=>(ZD n).xs
 |c+1=>(sdX n m k c).take k++[(m,n.l.length+c)]++(sdX n m k c).drop k
def sdT (n:Nw) (a:Int) (k:Nat):Nat→List Int
 |0=>n.tm
 |c+1=>(sdT n a k c).take k++[a]++(sdT n a k c).drop k
theorem s7 {α:Type} {l:List α} {x:α} {k:Nat}:(l.take k++[x]++l.drop k).length=l.length+1:=by
 simp only[am,bu,fp,ck,cr];omega
theorem TO {n:Nw} {m:Ms} {k:Nat}:∀c,(sdX n m k c).length=n.l.length+c
 |0=>fC
 |c+1=>by rw[sdX,s7,TO c];omega
theorem NO {n:Nw} {a:Int} {k:Nat}:∀c,(sdT n a k c).length=n.tm.length+c
 |0=>rfl
 |c+1=>by rw[sdT,s7,NO c];omega
theorem r7 {α:Type} {l:List α} {x:α} {k c:Nat} (hk:k≤l.length):(l.take k++List.replicate c x++l.drop k).take k++[x]++(l.take k++List.replicate c x++l.drop k).drop k=l.take k++List.replicate (c+1) x++l.drop k:=by
 have hl:(l.take k).length=k:=by rw[bu];omega
 rw[ay (l.take k),List.take_append_of_le_length oM,List.drop_append_of_le_length oM,cv (l:=l.take k) oM,List.drop_of_length_le (l:=l.take k) oM,bg]
 simp
theorem S6 {n:Nw} {m:Ms} {k:Nat} (hk:k≤n.l.length):∀c,(sdX n m k c).map (·.1)=n.l.take k++List.replicate c m++n.l.drop k
 |0=>by
   have:(ZD n).xs.map (·.1)=n.l:=congrArg Nw.l (bP n)
   rw[sdX,this,bh,cj,gq]
 |c+1=>by
   rw[sdX,ci,ci,gx,jb,S6 hk c]
   exact r7 hk
theorem ZDE {n:Nw} {a:Int} {k:Nat} (hk:k≤n.tm.length):∀c,sdT n a k c=n.tm.take k++List.replicate c a++n.tm.drop k
 |0=>by simp[sdT]
 |c+1=>by rw[sdT,ZDE hk c,r7 hk]
def sdB (n:Nw) (m:Ms) (j:Nat):List Int:=if j<n.l.length then (n.l.getD j dfMs).body else m.body
def U6 (n:Nw) (m:Ms) (c:Nat):Lv:=⟨n.now,n.fifo,1+c,1+c,RZ n,sdX n m (leN n.tm (xF n m)) c,sdT n (xF n m) (leN n.tm (xF n m)) c,n.fates,fl (n.l.length+c) (sdB n m)⟩
theorem LW {n:Nw} {m:Ms} {k:Nat}:∀c,∀x∈sdX n m k c,x.2<n.l.length+c∧sdB n m x.2=x.1.body
 |0,x,hx=>by
   obtain⟨i,hi,rfl⟩:=de.1 hx
   have hi:=bc.1 hi
   refine⟨hi,?_⟩
   unfold sdB;rw[if_pos hi]
 |c+1,x,hx=>by
   rw[sdX]at hx
   simp only[bn,List.mem_singleton]at hx
   have ih:=LW (n:=n) (m:=m) (k:=k) c
   rcases hx with (hx|rfl)|hx
   ·have:=ih x (dr hx);exact⟨by omega,this.2⟩
   ·refine⟨by simp only;omega,?_⟩
    unfold sdB;rw[if_neg (by simp only;omega)]
   ·have:=ih x (fd hx);exact⟨by omega,this.2⟩
theorem ZFK {n:Nw}:RZ n≤n.fates.length:=by
 unfold RZ
 split
 ·exact an _
 ·rename_i h
  cases hf:n.fates with
  |nil=>exact absurd hf h
  |cons x r=>simp
theorem N6 {n:Nw} {m:Ms} {c:Nat}:(U6 n m c).ok:=by
 refine⟨ZFK,fun x hx=>?_⟩
 obtain⟨h1,h2⟩:=LW c x hx
 show (fl (n.l.length+c) (sdB n m))[x.2]? = _
 rw[IF h1,h2]
def NQ (n:Nw) (m:Ms):Int:=if nwB n=true then (if msB m=true then sdE n m else 1) else 1
def V6 (n:Nw) (m:Ms):Option Lv:=if NQ n m=0 then some (U6 n m (iN n).toNat) else none
def ZDy (n:Nw) (m:Ms):Nw:=if NQ n m=0 then uN n m (xF n m) (iN n).toNat else nw0
theorem ZEd {n:Nw} {m:Ms}:∀y,V6 n m=some y→y.ok:=by
 intro y h
 unfold V6 at h
 split at h
 ·cases h;exact N6
 ·cases h
theorem r9 {n:Nw}:n.fates.drop (RZ n)=n.fates.drop 1:=by
 unfold RZ
 split
 ·rename_i h;rw[h];rfl
 ·rfl
theorem ZEe {n:Nw} {m:Ms}:ZAi (V6 n m)=ZDy n m:=by
 unfold V6 ZDy
 split
 ·rename_i h
  have hv:NwV n:=by
   unfold NQ at h
   split at h
   ·rename_i h1;exact TF.1 h1
   ·cases h
  have hl:=hv.len
  have nL:=vT (l:=n.tm) (a:=xF n m)
  unfold ZAi Lv.nw U6 uN
  simp only
  rw[S6 oM,ZDE nL,r9]
 ·rfl
theorem OL {n:Nw} {base:Nat}:(ZD n).rows base=.live 1 4 ((ZD n).xs.map (lvE base))::.live 1 1 (vs (n.tm.map eI))::.live 1 2 (vs (n.fates.map eFt))::fl n.l.length (clB n):=by
 have h:(n.l.map (·.body)).map bdR=fl n.l.length (clB n):=by
  apply ek
  intro j
  by_cases hj:j<n.l.length
  ·rw[IF hj,List.map_map,ai,ae hj]
   unfold clB;rw[YA hj];rfl
  ·rw[CK oM,ce kT]
 unfold Lv.rows
 show _::_::_::(n.l.map (·.body)).map bdR=_
 rw[h];rfl
theorem ZCa {n:Nw} {base i:Nat} (h:i<n.l.length):((ZD n).xs.map (lvE base))[i]? = some [.v (.int .i64 n.l[i].fr),.v (.int .i64 n.l[i].to),.v (.int .i64 n.l[i].nu),.sl (base+(3+i)) 1 0 n.l[i].body.length]:=by
 have hx:(ZD n).xs=fl n.l.length (fun i=>(n.l.getD i dfMs,i)):=rfl
 rw[hx,ai,IF h,YA h];rfl
def sdN (n:Nw) (B:Nat) (vL vA kL kA:Nat):Row:=.live 0 5 [[.v (.int .i64 n.now),.v (.bool n.fifo),.sl (B+3) vL 0 kL,.sl (B+4) vA 0 kA,.sl (B+5) 1 (RZ n) (n.fates.length-RZ n)]]
def sdM (m:Ms):Row:=.live 0 4 [[.v (.int .i64 m.fr),.v (.int .i64 m.to),.v (.int .i64 m.nu),.v (.isl 1 (m.body.map eI))]]
def sdO:Row:=.live 0 5 [[.v (.int .i64 0),.v (.bool false),.v .zsl,.v .zsl,.v .zsl]]
def sdF (n:Nw):Row:=.live 0 2 [[.v (.int .i64 (hdF n).1),.v (.int .i64 (hdF n).2)]]
theorem KA.ktrim {N:Nat} {f:Nat→AV} {b l l1 junk:List Row} (ov:List (Nat×AV)) (h:bG f ov) (hl:l=l1++junk) (ho:KM (b.length+l1.length) ov) (hb:YB b.length b) (h1:YB (b.length+l1.length) l1) :
  KA (kOf N f) b l (kOf N (kOv ov (fun _=>.any))) b l1:=by
 have hE:KLt (b.length+l1.length) (fun _=>AV.any):=fun _=>.any
 exact (KA.namedAll ov h).trans (KA.trim hl ((hE.ov ho).env) (hb.mono oM) h1)
theorem ZDT {xs:List (Ms×Nat)} {c base M:Nat} (h:∀x∈xs,x.2<c) (hM:base+(3+c)≤M):∀row∈xs.map (lvE base),∀a∈row,AVlt M a:=by
 intro row hr a ha
 obtain⟨x,hx,rfl⟩:=de.1 hr
 have:=h x hx
 unfold lvE at ha
 simp only[dx,ju,or_false]at ha
 rcases ha with rfl|rfl|rfl|rfl
 ·exact .v _
 ·exact .v _
 ·exact .v _
 ·exact .sl _ _ _ _ oM
theorem nU {n:Nw} {m:Ms} {B vL vA kL kA M wL wA:Nat} {X:List (List AV)} {tv fv:List (List IV)} {T:List Row} (hM:B+6≤M) (hX:∀row∈X,∀c∈row,AVlt M c) (hT:YB M T) :
  YB M (sdN n B vL vA kL kA::sdM m::sdO::.live wL 4 X::.live wA 1 (vs tv)::.live 1 2 (vs fv)::T):=by
 unfold sdN sdM sdO
 refine TE.2 ⟨by simp (disch:=omega) only[lts.down,Nat.reduceLT,Nat.reduceAdd],TE.2 ⟨by simp (disch:=omega) only[lts.down,Nat.reduceLT,Nat.reduceAdd],TE.2 ⟨by simp (disch:=omega) only[lts.down,Nat.reduceLT,Nat.reduceAdd],TE.2 ⟨hX,TE.2 ⟨YL.2 trivial,TE.2 ⟨YL.2 trivial,hT⟩⟩⟩⟩⟩⟩
theorem YB.app {M:Nat} {a c:List Row} (h1:YB M a) (h2:YB M c):YB M (a++c):=by
 intro id ver sz els h
 by_cases hid:id<a.length
 ·rw[aw hid]at h;exact h1 id ver sz els h
 ·rw[au oM]at h;exact h2 _ ver sz els h
theorem YB.flB {M k:Nat} {g:Nat→List Int}:YB M (fl k fun j=>bdR (g j)):=by
 intro id ver sz els h row hr c hc
 by_cases hid:id<k
 ·rw[IF hid]at h
  cases h
  obtain⟨r0,_,rfl⟩:=de.1 hr
  obtain⟨x0,_,rfl⟩:=de.1 hc
  exact .v _
 ·rw[CK oM]at h;cases h
theorem ZFh {n:Nw}:∀x∈(ZD n).xs,x.2<n.l.length:=fun x hx=>(LW (n:=n) (m:=dfMs) (k:=0) 0 x hx).1
def fH (n:Nw) (m:Ms) (B c:Nat):List Row:=sdN n B (1+c) (1+c) (n.l.length+c) (n.tm.length+c)::sdM m::sdO::.live (1+c) 4 ((sdX n m (leN n.tm (xF n m)) c).map (lvE (B+3)))::.live (1+c) 1 (vs ((sdT n (xF n m) (leN n.tm (xF n m)) c).map eI))::.live 1 2 (vs (n.fates.map eFt))::fl (n.l.length+c) (fun j=>bdR (sdB n m j))
theorem sK {n:Nw} {m:Ms} {B c:Nat}:(fH n m B c).length=n.l.length+c+6:=by unfold fH;simp[fC]
theorem tU {n:Nw} {m:Ms} {B c:Nat}:YB (B+(fH n m B c).length) (fH n m B c):=by
 rw[sK]
 exact nU oM (ZDT (fun x hx=>(LW c x hx).1) oM) YB.flB
theorem tX {n:Nw} {m:Ms} {B:Nat}:fH n m B 0=sdN n B 1 1 n.l.length n.tm.length::sdM m::sdO::.live 1 4 ((ZD n).xs.map (lvE (B+3)))::.live 1 1 (vs (n.tm.map eI))::.live 1 2 (vs (n.fates.map eFt))::fl n.l.length (clB n):=by
 have h:fl (n.l.length+0) (fun j=>bdR (sdB n m j))=fl n.l.length (clB n):=by
  refine ZCX (fun i hi=>?_)
  unfold clB sdB
  rw[if_pos oM]
 unfold fH
 rw[h]
 rfl
theorem nX {n:Nw} {m:Ms} {B c K:Nat} (hK:leN n.tm (xF n m)=K):fH n m B (c+1)=sdN n B (1+c+1) (1+c+1) (n.l.length+c+1) (n.tm.length+c+1)::sdM m::sdO ::
  .live (1+c+1) 4 (((sdX n m K c).map (lvE (B+3))).take K++[.v (.int .i64 m.fr),.v (.int .i64 m.to),.v (.int .i64 m.nu),.sl (B+(n.l.length+c+1+1+1+1+1+1)) 1 0 m.body.length]::((sdX n m K c).map (lvE (B+3))).drop K) ::
  .live (1+c+1) 1 (vs (((sdT n (xF n m) K c).map eI).take K++[[.int .i64 (xF n m)]])++vs (((sdT n (xF n m) K c).map eI).drop K))::.live 1 2 (vs (n.fates.map eFt))::(fl (n.l.length+c) (fun j=>bdR (sdB n m j))++[.live 1 1 (vs (m.body.map eI))]):=by
 have h1:fl (n.l.length+(c+1)) (fun j=>bdR (sdB n m j))=fl (n.l.length+c) (fun j=>bdR (sdB n m j))++[.live 1 1 (vs (m.body.map eI))]:=by
  unfold fl
  rw[←da,ig,ci]
  simp only[ba,bl]
  have:sdB n m (n.l.length+c)=m.body:=if_neg oM
  rw[this];rfl
 have h2:(sdX n m K (c+1)).map (lvE (B+3))=((sdX n m K c).map (lvE (B+3))).take K++[.v (.int .i64 m.fr),.v (.int .i64 m.to),.v (.int .i64 m.nu),.sl (B+(n.l.length+c+1+1+1+1+1+1)) 1 0 m.body.length]::((sdX n m K c).map (lvE (B+3))).drop K:=by
  rw[sdX,ci,ci,gx,jb]
  have:lvE (B+3) (m,n.l.length+c)=[.v (.int .i64 m.fr),.v (.int .i64 m.to),.v (.int .i64 m.nu),.sl (B+(n.l.length+c+1+1+1+1+1+1)) 1 0 m.body.length]:=by
   unfold lvE
   rw[show B+3+(3+(m,n.l.length+c).2)=B+(n.l.length+c+1+1+1+1+1+1) by simp only;omega]
  simp only[ba,bl,this,ay,bw,cg]
 have h3:vs ((sdT n (xF n m) K (c+1)).map eI)=vs (((sdT n (xF n m) K c).map eI).take K++[[.int .i64 (xF n m)]])++vs (((sdT n (xF n m) K c).map eI).drop K):=by
  rw[sdT,ci,ci,gx,jb,ZDA]
  rfl
 unfold fH
 rw[hK,h1,h2,h3]
 rfl
theorem l9 (n:Nw) (m:Ms) (b l:List Row):ZA Tryz.prog 110 [.agg ((eNw n).map .v),.agg (zMA m)] b l
  (fun r b' l'=>r=.tup [ZB4 (b.length+l.length) (V6 n m),.v (.int .i64 (NQ n m))]∧b'=b∧l'=l++vV (b.length+l.length) (V6 n m)):=by
 refine XA H4 rfl kE ?_
 intro B g hB hR hE hA;simp only[EA]at hA
 have hV:=LG n
 have hC:=FL n
 unfold eNw at hV hC
 simp only[ba,bl]at hV hC
 have bad:NQ n m≠0→V6 n m=none:=fun h=>if_neg h
 simp (disch:=first|decide|omega) only[a_nSend,hA,eNw,go_sem]
 refine ZA.nxt (hV _ _) ?_
 cases h1:nwB n
 ·have he:NQ n m=1:=by unfold NQ;rw[h1];rfl
  rw[bad (by rw[he];decide),he]
  simp (disch:=first|decide|omega) only[hA,cellsOf,go_sem]
  exact wC (.inr rfl) (xs:=[zNw,.v (.int .i64 1)]) (by simp (disch:=first|decide|omega) only[resVs,resV,hA,zNw,go_sem]) (by simp only[one,zNw,lts.down,Nat.reduceLT,Nat.reduceAdd]) hR hB ⟨rfl,rfl,by simp[vV]⟩
 simp (disch:=first|decide|omega) only[hA,go_sem]
 refine ZA.nxt (aU m _ _) ?_
 cases h2:msB m
 ·have he:NQ n m=1:=by unfold NQ;rw[if_pos h1,h2];rfl
  rw[bad (by rw[he];decide),he]
  simp (disch:=first|decide|omega) only[hA,cellsOf,go_sem]
  exact wC (.inr rfl) (xs:=[zNw,.v (.int .i64 1)]) (by simp (disch:=first|decide|omega) only[resVs,resV,hA,zNw,go_sem]) (by simp only[one,zNw,lts.down,Nat.reduceLT,Nat.reduceAdd]) hR hB ⟨rfl,rfl,by simp[vV]⟩
 have hes:NQ n m=sdE n m:=by unfold NQ;rw[if_pos h1,if_pos h2]
 rw[hes]at bad⊢
 have hv:=TF.1 h1
 have EZ:=hv.now
 have xX:=hv.l
 have jD:=hv.len
 have hfl:=hv.fl
 have hhd:=wR hv
 have hbl:=QZ h2
 simp (disch:=first|decide|omega) only[hA,go_sem]
 refine ZA.nxt (hC hv.s _ _) ?_
 have hxl:(ZD n).xs.length=n.l.length:=fC
 have hav:∀base,(ZD n).av base=.agg [.v (.int .i64 n.now),.v (.bool n.fifo),.sl base 1 0 n.l.length,.sl (base+1) 1 0 n.tm.length,.sl (base+2) 1 0 n.fates.length]:=fun base=>by
  unfold Lv.av;rw[hxl];rfl
 have e1:B.length+3+1=B.length+4:=rfl
 have e2:B.length+3+2=B.length+5:=rfl
 have hrw:=OL (n:=n) (base:=B.length+3)
 have ha0:MG n m 0=n.now+(hdF n).2:=rfl
 have hdc:0≤(hdF n).1∧(hdF n).1≤3:=hhd.1
 have hda:0≤(hdF n).2∧(hdF n).2≤1000000:=hhd.2
 by_cases hf:n.fates=[]
 case' pos =>
  have d1:decide ((0:Int)<(n.fates.length:Int))=false:=by rw[hf];rfl
  have h1f:(hdF n).1=1:=by unfold hdF;rw[hf];rfl
  have h2f:(hdF n).2=0:=by unfold hdF;rw[hf];rfl
  have ho:RZ n=0:=if_pos hf
  have hff:Row.live 0 2 [[.v (.int .i64 1),.v (.int .i64 0)]]=sdF n:=by unfold sdF;rw[h1f,h2f]
  have hat:n.now+0=MG n m 0:=by rw[ha0,h2f]
  have hn0:Row.live 0 5 [[.v (.int .i64 n.now),.v (.bool n.fifo),.sl (B.length+3) 1 0 n.l.length,.sl (B.length+4) 1 0 n.tm.length,.sl (B.length+5) 1 0 n.fates.length]]=sdN n B.length 1 1 n.l.length n.tm.length:=by unfold sdN;rw[ho];rfl
  simp (disch:=first|decide|omega) only[hA,hav,hrw,e1,e2,fC,rE,iE,CC,UD,d1,cellsOf,go_sem]
 case' neg =>
  have vU:0<n.fates.length:=by
   cases hq:n.fates with
   |nil=>exact absurd hq hf
   |cons x r=>simp
  have d1:decide ((0:Int)<(n.fates.length:Int))=true:=ag oM
  have ho:RZ n=1:=if_neg hf
  have hg0:(n.fates.map eFt)[Int.toNat 0]? = some [.int .i64 (hdF n).1,.int .i64 (hdF n).2]:=by
   show (n.fates.map eFt)[0]? = _
   unfold hdF
   cases hq:n.fates with
   |nil=>exact absurd hq hf
   |cons x r=>rfl
  have hff:Row.live 0 2 [[.v (.int .i64 (hdF n).1),.v (.int .i64 (hdF n).2)]]=sdF n:=rfl
  have hn0:Row.live 0 5 [[.v (.int .i64 n.now),.v (.bool n.fifo),.sl (B.length+3) 1 0 n.l.length,.sl (B.length+4) 1 0 n.tm.length,.sl (B.length+5) 1 (Int.toNat 1) (n.fates.length-Int.toNat 1)]]=sdN n B.length 1 1 n.l.length n.tm.length:=by unfold sdN;rw[ho];rfl
  have hat:n.now+(hdF n).2=MG n m 0:=rfl
  simp (disch:=first|decide|omega) only[hA,hav,hrw,e1,e2,fC,rE,iE,CC,UD,d1,hg0,TB,cellsOf,go_sem]
 all_goals
  refine ZB (ι:=Nat) gM (fun i=>[(7,.v (.int .i64 (MG n m i))),(44,.v (.int .i64 i))]) (n.l.length+7) (fun _=>sdN n B.length 1 1 n.l.length n.tm.length::sdM m::sdO::.live 1 4 ((ZD n).xs.map (lvE (B.length+3)))::.live 1 1 (vs (n.tm.map eI))::.live 1 2 (vs (n.fates.map eFt))::(fl n.l.length (clB n)++[sdF n]))
   (fun i=>i≤n.l.length) (fun i=>n.l.length-i) 0 (an _) kM (by ((try simp (disch:=decide) only[hA,hat,go_sem])<;>exact kH)) (fun e=>by rw[hn0,hff];exact KA.refl _ _ _) ?_
  intro g1 aI bI aC i hi
  have rY:YB (B.length+(sdN n B.length 1 1 n.l.length n.tm.length::sdM m::sdO::.live 1 4 ((ZD n).xs.map (lvE (B.length+3)))::.live 1 1 (vs (n.tm.map eI))::.live 1 2 (vs (n.fates.map eFt))::(fl n.l.length (clB n)++[sdF n])).length) (sdN n B.length 1 1 n.l.length n.tm.length::sdM m::sdO::.live 1 4 ((ZD n).xs.map (lvE (B.length+3)))::.live 1 1 (vs (n.tm.map eI))::.live 1 2 (vs (n.fates.map eFt))::(fl n.l.length (clB n)++[sdF n])):=by
   refine nU kS (ZDT ZFh (by simp[fC];omega)) (YB.app YB.flB ?_)
   unfold sdF
   simp (disch:=omega) only[lts.down,Nat.reduceLT,Nat.reduceAdd]
  by_cases bB:i<n.l.length
  ·have hxg:=ZCa (n:=n) (base:=B.length+3) bB
   have htg:=NG (l:=n.tm) (i:=i) oM
   have hbd:=EO hv (m:=m) i oM
   cases hfi:(n.fifo==true)
   case false =>
    have hfb:(n.fifo=true)=False:=by simpa using hfi
    have tH:MG n m (i+1)=MG n m i:=by simp only[MG];rw[if_neg (fun h=>by rw[hfb]at h;exact h.1)]
    simp (disch:=first|decide|omega) only[hA,aC,hxg,htg,hfi,hfb,fC,rE,iE,CC,UD,TB,sdN,sdM,sdO,sdF,cellsOf,go_sem]
    refine⟨i+1,bB,by simp only;omega,?_⟩
    exact KA.kround (p:=gM) (k:=n.l.length+7) (l1:=sdN n B.length 1 1 n.l.length n.tm.length::sdM m::sdO::.live 1 4 ((ZD n).xs.map (lvE (B.length+3)))::.live 1 1 (vs (n.tm.map eI))::.live 1 2 (vs (n.fates.map eFt))::(fl n.l.length (clB n)++[sdF n])) (junk:=[_]) kQ (by ((try simp (disch:=decide) only[tH,hA,go_sem])<;>exact kH)) (by simp only[sdN,sdM,sdO,sdF,bw,ay,cg];rfl) aI (by simp[fC]) kV hR rY
   case true =>
    have hfb:(n.fifo=true)=True:=by simpa using hfi
    by_cases bZ:n.l[i].fr=m.fr
    case neg =>
     have d1:(n.l[i].fr==m.fr)=false:=fc.2 bZ
     have tH:MG n m (i+1)=MG n m i:=by simp only[MG];rw[if_neg (fun h=>bZ (by have:=h.2.1;rwa [YA bB]at this))]
     simp (disch:=first|decide|omega) only[hA,aC,hxg,htg,hfi,hfb,d1,fC,rE,iE,CC,UD,TB,sdN,sdM,sdO,sdF,cellsOf,go_sem]
     refine⟨i+1,bB,by simp only;omega,?_⟩
     exact KA.kround (p:=gM) (k:=n.l.length+7) (l1:=sdN n B.length 1 1 n.l.length n.tm.length::sdM m::sdO::.live 1 4 ((ZD n).xs.map (lvE (B.length+3)))::.live 1 1 (vs (n.tm.map eI))::.live 1 2 (vs (n.fates.map eFt))::(fl n.l.length (clB n)++[sdF n])) (junk:=[_]) kQ (by ((try simp (disch:=decide) only[tH,hA,go_sem])<;>exact kH)) (by simp only[sdN,sdM,sdO,sdF,bw,ay,cg];rfl) aI (by simp[fC]) kV hR rY
    have d1:(n.l[i].fr==m.fr)=true:=by rw[bZ];simp
    by_cases hto:n.l[i].to=m.to
    case neg =>
     have d2:(n.l[i].to==m.to)=false:=fc.2 hto
     have tH:MG n m (i+1)=MG n m i:=by simp only[MG];rw[if_neg (fun h=>hto (by have:=h.2.2;rwa [YA bB]at this))]
     simp (disch:=first|decide|omega) only[hA,aC,hxg,htg,hfi,hfb,d1,d2,fC,rE,iE,CC,UD,TB,sdN,sdM,sdO,sdF,cellsOf,go_sem]
     refine⟨i+1,bB,by simp only;omega,?_⟩
     exact KA.kround (p:=gM) (k:=n.l.length+7) (l1:=sdN n B.length 1 1 n.l.length n.tm.length::sdM m::sdO::.live 1 4 ((ZD n).xs.map (lvE (B.length+3)))::.live 1 1 (vs (n.tm.map eI))::.live 1 2 (vs (n.fates.map eFt))::(fl n.l.length (clB n)++[sdF n])) (junk:=[_]) kQ (by ((try simp (disch:=decide) only[tH,hA,go_sem])<;>exact kH)) (by simp only[sdN,sdM,sdO,sdF,bw,ay,cg];rfl) aI (by simp[fC]) kV hR rY
    have d2:(n.l[i].to==m.to)=true:=by rw[hto];simp
    have tH:(if MG n m i<n.tm.getD i 0 then n.tm.getD i 0 else MG n m i)=MG n m (i+1):=by
     simp only[MG]
     rw[if_pos (show n.fifo=true∧_ from⟨by rw[hfb];trivial,by rw[YA bB];exact bZ,by rw[YA bB];exact hto⟩)]
     split<;>omega
    simp (disch:=first|decide|omega) only[hA,aC,hxg,htg,hfi,hfb,d1,d2,fC,rE,iE,CC,UD,TB,sdN,sdM,sdO,sdF,cellsOf,go_sem]
    refine⟨i+1,bB,by simp only;omega,?_⟩
    exact KA.kround (p:=gM) (k:=n.l.length+7) (l1:=sdN n B.length 1 1 n.l.length n.tm.length::sdM m::sdO::.live 1 4 ((ZD n).xs.map (lvE (B.length+3)))::.live 1 1 (vs (n.tm.map eI))::.live 1 2 (vs (n.fates.map eFt))::(fl n.l.length (clB n)++[sdF n])) (junk:=[_]) kQ (by ((try simp (disch:=decide) only[tH,hA,go_sem])<;>exact kH)) (by simp only[sdN,sdM,sdO,sdF,bw,ay,cg];rfl) aI (by simp[fC]) kV hR rY
  ·obtain rfl:i=n.l.length:=by omega
   have ZGG:MG n m n.l.length=xF n m:=rfl
   have hbd:=EO hv (m:=m) n.l.length (ah _)
   rw[ZGG]at hbd
   have d1:decide (1099512627776<xF n m)=false:=ak oM
   by_cases ZAd:1000<(n.l.length:Int)+(hdF n).1
   ·have d2:=ag ZAd
    have he:sdE n m=5:=by unfold sdE;rw[if_neg oM,if_pos (show (n.l.length:Int)+iN n>1000 from ZAd)]
    rw[bad (by rw[he];decide),he]
    simp (disch:=first|decide|omega) only[hA,aC,ZGG,d1,d2,fC,rE,iE,CC,UD,TB,sdN,sdM,sdO,sdF,cellsOf,go_sem]
    exact wC (.inr rfl) (xs:=[zNw,.v (.int .i64 5)]) (by simp (disch:=first|decide|omega) only[resVs,resV,hA,aC,zNw,go_sem]) (by simp only[one,zNw,lts.down,Nat.reduceLT,Nat.reduceAdd]) hR hB ⟨rfl,rfl,by simp[vV]⟩
   have d2:=ak ZAd
   have he:sdE n m=0:=by unfold sdE;rw[if_neg oM,if_neg (show ¬(n.l.length:Int)+iN n>1000 from ZAd)]
   have hZ:V6 n m=some (U6 n m (iN n).toNat):=if_pos (by rw[hes,he])
   rw[hZ,he]
   simp (disch:=first|decide|omega) only[hA,aC,ZGG,d1,d2,fC,rE,iE,CC,UD,TB,sdN,sdM,sdO,sdF,cellsOf,go_sem]
   refine ZA.nxt (ZAE n.tm oM hv.sorted (xF n m) (B.length+4) 1 _ _ (by rw[au oM,co];rfl)) ?_
   simp (disch:=first|decide|omega) only[hA,aC,ZGG,d1,d2,fC,rE,iE,CC,UD,TB,cellsOf,go_sem]
   have ZJz:=vT (l:=n.tm) (a:=xF n m)
   obtain⟨C,hC1⟩:∃C:Nat,(hdF n).1=(C:Int):=⟨(hdF n).1.toNat,by omega⟩
   have hCc:(iN n).toNat=C:=by show (hdF n).1.toNat=C;omega
   rw[hC1]
   refine aL (f':=kOv [(2,.ptr B.length 0 0 0),(3,.ptr (B.length+1) 0 0 0),(4,.ptr (B.length+2) 0 0 0),(5,.v (.int .i64 0)),(7,.v (.int .i64 (xF n m))),(10,.v (.int .i64 (leN n.tm (xF n m)))),(95,.v (.int .i64 C)),(96,.v (.int .i64 0))] (fun _=>.any)) (l':=fH n m B.length 0)
    (ι:=Nat) PY (fun c=>[(96,.v (.int .i64 c))]) 6 (fun c=>fH n m B.length c) (fun c=>c≤C) (fun c=>C-c) 0 (an _)
    (KA.ktrim (junk:=[sdF n]) _ kA (by rw[tX,hC1.symm];rfl) (by rw[sK];simp (disch:=omega) only[KM,lts.down,Nat.reduceLT,Nat.reduceAdd]) hR tU) (KLt.ov (fun _=>.any) kV) kA kF ?_
   intro g2 UP ZB9 NI c hc
   by_cases hlc:c<C
   ·simp (disch:=first|decide|omega) only[hA,NI,fC,rE,iE,CC,UD,TB,fH,sdN,sdM,sdO,cellsOf,go_sem]
    refine ZA.nxt (uP m oM _ _) ?_
    simp (disch:=first|decide|omega) only[hA,NI,fC,rE,iE,CC,UD,TB,bg,bh,go_sem]
    obtain⟨K,hK⟩:∃K,K=leN n.tm (xF n m):=⟨_,rfl⟩
    have hK2:leN n.tm (xF n m)=K:=hK.symm
    rw[←hK]at ZJz⊢
    have hM:=fun b l hid hv=>ZCP (B.length+3) (1+c) K (B.length+(n.l.length+c+1+1+1+1+1+1+1)) 0 ((sdX n m K c).map (lvE (B.length+3))) [.v (.int .i64 m.fr),.v (.int .i64 m.to),.v (.int .i64 m.nu),.sl (B.length+(n.l.length+c+1+1+1+1+1+1)) 1 0 m.body.length] b l hid hv oM (by rw[aa,TO];omega) (by rw[aa,TO];omega)
    simp only[aa,TO]at hM
    refine ZA.nxt (hM _ _ (by rw[au oM,co];rfl) (by rw[au oM,co];simp only[db];rw[iE];rfl)) ?_
    simp (disch:=first|decide|omega) only[hA,NI,fC,rE,iE,CC,UD,TB,bg,bh,go_sem]
    have hI:=fun b l hid hv=>ZCQ (B.length+4) (1+c) K (B.length+(n.l.length+c+2+1+1+1+1+1+1)) 0 (vs ((sdT n (xF n m) K c).map eI)) [.v (.int .i64 (xF n m))] b l hid hv oM (by rw[gC,aa,NO];omega) (by rw[gC,aa,NO];omega)
    simp only[gC,aa,NO]at hI
    rw[hK2]
    refine ZA.nxt (hI _ _ (by rw[au oM,co];rfl) (by rw[au oM,co];simp only[db];rw[iE];rfl)) ?_
    simp (disch:=first|decide|omega) only[hA,NI,fC,rE,iE,CC,UD,TB,bg,bh,go_sem]
    subst hK
    refine⟨c+1,hlc,by simp only;omega,?_⟩
    show KA _ B _ (kOf 115 (kOv [(96,.v (.int .i64 ((c+1:Nat):Int)))] g2)) B (fH n m B.length (c+1))
    exact KA.kround (p:=PY) (k:=6) (l1:=fH n m B.length (c+1)) (junk:=[_,_]) kQ kA (by rw[nX hK2];simp only[sdN,sdM,sdO,bw,ay,cg];rfl) UP (by rw[sK];omega) (by rw[sK];simp (disch:=omega) only[KM,lts.down,Nat.reduceLT,Nat.reduceAdd]) hR tU
   ·obtain rfl:c=C:=by omega
    simp (disch:=first|decide|omega) only[hA,NI,fC,rE,iE,CC,UD,TB,fH,sdN,sdM,sdO,cellsOf,go_sem]
    rw[hCc]
    have hzx:(U6 n m c).xs.length=n.l.length+c:=TO c
    have hzt:(U6 n m c).tm.length=n.tm.length+c:=NO c
    refine UZ (.inr rfl) (z:=U6 n m c) N6 (s:=3) (c:=.int .i64 0) (junk:=[]) (by simp (disch:=first|decide|omega) only[resVs,resV,hA,NI,Lv.av,hzx,hzt,go_sem];rfl) ?_ hR hB ⟨by rw[hB,am];rfl,rfl,by rw[hB,am];rfl⟩
    rw[cj]
    unfold Lv.rows
    rw[show (U6 n m c).bd.map bdR=fl (n.l.length+c) (fun j=>bdR (sdB n m j)) from ZDW]
    rfl
theorem M1 (n:Nw) (m:Ms) (b l:List Row):ZA Tryz.prog 110 [.agg ((eNw n).map .v),.agg (zMA m)] b l
  (fun r b' l'=>r=.tup [nwA (ZDy n m),.v (.int .i64 (NQ n m))]∧b'=b∧l'=l):=by
 rw[←ZEe]
 exact ZA.ownV ZEd (l9 n m b l)
def a_nRecv:AFunc:=({c:=_}:CF Tryz.prog 111).c
theorem I4:CA Tryz.prog 111=some a_nRecv:=by kernel_rfl
def MY:List (Nat×Nat):=[(6,8),(24,56)]

def rcE (n:Nw) (to:Int):Int:=if nwB n=true then (if ptB to=true then (if fiR n to<0 then 7 else 0) else 2) else 1
def sJ (n:Nw) (k:Nat):Lv:=⟨n.now,n.fifo,2,2,0,(ZD n).xs.take k++(ZD n).xs.drop (k+1),n.tm.take k++n.tm.drop (k+1),n.fates,n.l.map (·.body)⟩
def rcZ (n:Nw) (to:Int):Option Lv:=if rcE n to=0 then some (sJ n (fiR n to).toNat) else none
def rcN (n:Nw) (to:Int):Nw:=if rcE n to=0 then woN n (fiR n to).toNat else nw0
def rcM (n:Nw) (to:Int):Ms:=if rcE n to=0 then n.l.getD (fiR n to).toNat dfMs else dfMs
def ZAh (n:Nw) (to:Int) (base:Nat):AV:=if rcE n to=0 then .agg [.v (.int .i64 (rcM n to).fr),.v (.int .i64 (rcM n to).to),.v (.int .i64 (rcM n to).nu),.sl (base+(3+n.l.length)) 1 0 (rcM n to).body.length] else .agg [.v (.int .i64 0),.v (.int .i64 0),.v (.int .i64 0),.v .zsl]
def rcR (n:Nw) (to:Int) (base:Nat):List Row:=if rcE n to=0 then (sJ n (fiR n to).toNat).rows base++[bdR (rcM n to).body] else []
theorem P6 {n:Nw} {k:Nat}:(sJ n k).ok:=by
 refine⟨an _,fun x hx=>?_⟩
 refine (eP n).bd x ?_
 rcases bn.1 hx with h|h
 ·exact dr h
 ·exact fd h
theorem ZEp {n:Nw} {k:Nat}:(sJ n k).nw=woN n k:=by
 have h:(ZD n).xs.map (·.1)=n.l:=congrArg Nw.l (bP n)
 unfold Lv.nw sJ woN
 simp only[ci,gx,jb,h,dp]
theorem ZHW {n:Nw} {to:Int}:ZAi (rcZ n to)=rcN n to:=by
 unfold rcZ rcN
 split
 ·exact ZEp
 ·rfl
theorem E8 {n:Nw} {k base:Nat}:(sJ n k).rows base=.live 2 4 (((ZD n).xs.map (lvE base)).take k++((ZD n).xs.map (lvE base)).drop (k+1))::.live 2 1 (vs ((n.tm.map eI).take k)++vs ((n.tm.map eI).drop (k+1)))::.live 1 2 (vs (n.fates.map eFt))::fl n.l.length (clB n):=by
 have h:=OL (n:=n) (base:=base)
 unfold Lv.rows at h⊢
 have h2:=(List.cons.inj (List.cons.inj (List.cons.inj h).2).2).2
 have h3:(sJ n k).bd.map bdR=fl n.l.length (clB n):=h2
 rw[h3]
 unfold sJ
 simp only[ci,gx,jb,ZDA]
theorem e9 (n:Nw) (to:Int) (b l:List Row):ZA Tryz.prog 111 [.agg ((eNw n).map .v),.v (.int .i64 to)] b l
  (fun r b' l'=>r=.tup [ZB4 (b.length+l.length) (rcZ n to),ZAh n to (b.length+l.length),.v (.int .i64 (rcE n to))]∧b'=b∧l'=l++rcR n to (b.length+l.length)):=by
 refine XA I4 rfl kE ?_
 intro B g hB hR hE hA;simp only[EA]at hA
 have hV:=LG n
 have hC:=FL n
 unfold eNw at hV hC
 simp only[ba,bl]at hV hC
 have bad:rcE n to≠0→rcZ n to=none∧ZAh n to (b.length+l.length)=.agg [.v (.int .i64 0),.v (.int .i64 0),.v (.int .i64 0),.v .zsl]∧rcR n to (b.length+l.length)=[]:=fun h=>⟨if_neg h,if_neg h,if_neg h⟩
 simp (disch:=first|decide|omega) only[a_nRecv,hA,eNw,go_sem]
 refine ZA.nxt (hV _ _) ?_
 cases h1:nwB n
 ·have he:rcE n to=1:=by unfold rcE;rw[h1];rfl
  obtain⟨b1,b2,b3⟩:=bad (by rw[he];decide)
  rw[b1,b2,b3,he]
  simp (disch:=first|decide|omega) only[hA,cellsOf,go_sem]
  exact wC (.inr rfl) (xs:=[zNw,.agg [.v (.int .i64 0),.v (.int .i64 0),.v (.int .i64 0),.v .zsl],.v (.int .i64 1)]) (by simp (disch:=first|decide|omega) only[resVs,resV,hA,zNw,go_sem]) (by simp only[one,zNw,lts.down,Nat.reduceLT,Nat.reduceAdd]) hR hB ⟨rfl,rfl,by simp⟩
 simp (disch:=first|decide|omega) only[hA,go_sem]
 refine ZA.nxt (gJ to _ _) ?_
 cases h2:ptB to
 ·have he:rcE n to=2:=by unfold rcE;rw[if_pos h1,h2];rfl
  obtain⟨b1,b2,b3⟩:=bad (by rw[he];decide)
  rw[b1,b2,b3,he]
  simp (disch:=first|decide|omega) only[hA,cellsOf,go_sem]
  exact wC (.inr rfl) (xs:=[zNw,.agg [.v (.int .i64 0),.v (.int .i64 0),.v (.int .i64 0),.v .zsl],.v (.int .i64 2)]) (by simp (disch:=first|decide|omega) only[resVs,resV,hA,zNw,go_sem]) (by simp only[one,zNw,lts.down,Nat.reduceLT,Nat.reduceAdd]) hR hB ⟨rfl,rfl,by simp⟩
 have hv:=TF.1 h1
 have xX:=hv.l
 have jD:=hv.len
 simp (disch:=first|decide|omega) only[hA,go_sem]
 refine ZB (ι:=Nat) MY (fun i=>[(24,.v (.int .i64 i))]) 3 (fun _=>[.live 0 5 [(zNA n)],.live 0 5 [[.v (.int .i64 0),.v (.bool false),.v .zsl,.v .zsl,.v .zsl]],.live 0 4 [[.v (.int .i64 0),.v (.int .i64 0),.v (.int .i64 0),.v .zsl]]])
  (fun i=>i≤n.l.length∧∀j,j<i→arB n to j=false) (fun i=>n.l.length-i) 0 ⟨an _,fun j hj=>by omega⟩ kM kA kF ?_
 rintro g1 aI bI aC k ⟨hk,h0⟩
 by_cases bB:k<n.l.length
 ·simp (disch:=first|decide|omega) only[hA,aC,aa,go_sem]
  refine ZA.nxt (IU n k bB oM to _ _) ?_
  cases q:arB n to k
  ·simp (disch:=first|decide|omega) only[hA,aC,go_sem]
   refine⟨k+1,⟨bB,fun j hj=>?_⟩,by simp only;omega,?_⟩
   ·rcases cq j k with PI|PI
    ·exact h0 j PI
    ·obtain rfl:j=k:=by omega
     exact q
   ·exact KA.kround (p:=MY) (k:=3) kQ kA rfl aI kS kV hR kL
  have hfi:fiR n to=k:=c6 bB h0 q
  have he:rcE n to=0:=by unfold rcE;rw[if_pos h1,if_pos h2,hfi,if_neg oM]
  have VP:(fiR n to).toNat=k:=by rw[hfi];rfl
  have hZ:rcZ n to=some (sJ n k):=by unfold rcZ;rw[if_pos he,VP]
  have hM:rcM n to=n.l[k]:=by unfold rcM;rw[if_pos he,VP,YA bB]
  have hMA:ZAh n to (b.length+l.length)=.agg [.v (.int .i64 n.l[k].fr),.v (.int .i64 n.l[k].to),.v (.int .i64 n.l[k].nu),.sl (b.length+l.length+(3+n.l.length)) 1 0 n.l[k].body.length]:=by unfold ZAh;rw[if_pos he,hM]
  have hRR:rcR n to (b.length+l.length)=(sJ n k).rows (b.length+l.length)++[bdR n.l[k].body]:=by unfold rcR;rw[if_pos he,VP,hM]
  rw[hZ,hMA,hRR,he]
  have hmg:=sR bB
  simp (disch:=first|decide|omega) only[hA,aC,hmg,aa,go_sem]
  refine ZA.nxt (uP n.l[k] (hv.s.body _ (ap bB)) _ _) ?_
  simp (disch:=first|decide|omega) only[hA,aC,cellsOf,go_sem]
  refine ZA.nxt (hC hv.s _ _) ?_
  have hxl:(ZD n).xs.length=n.l.length:=fC
  have hav:∀base,(ZD n).av base=.agg [.v (.int .i64 n.now),.v (.bool n.fifo),.sl base 1 0 n.l.length,.sl (base+1) 1 0 n.tm.length,.sl (base+2) 1 0 n.fates.length]:=fun base=>by
   unfold Lv.av;rw[hxl];rfl
  have e1:B.length+5+1=B.length+6:=rfl
  have e2:B.length+5+2=B.length+7:=rfl
  have hrw:=OL (n:=n) (base:=B.length+5)
  simp (disch:=first|decide|omega) only[hA,aC,hav,hrw,e1,e2,cellsOf,go_sem]
  have hD:=fun b l hid=>ZC6 (B.length+5) 1 k ((ZD n).xs.map (lvE (B.length+5))) b l hid (by rw[aa,hxl];exact bB)
  simp only[aa,hxl]at hD
  refine ZA.nxt (hD _ _ (by rw[au oM,co];rfl)) ?_
  simp (disch:=first|decide|omega) only[hA,aC,cellsOf,go_sem]
  have hI:=fun b l hid=>ZC7 (B.length+6) 1 k (vs (n.tm.map eI)) b l hid (by rw[gC,aa];omega)
  simp only[aa,gC]at hI
  refine ZA.nxt (hI _ _ (by rw[au oM,co];rfl)) ?_
  simp (disch:=first|decide|omega) only[hA,aC,cellsOf,go_sem]
  rw[←E8]
  obtain⟨σ,s1,s2⟩:∃σ:Nat→Nat,(∀j,j<n.l.length+3→σ j=j+5)∧σ (n.l.length+3)=3:=⟨fun j=>if j<n.l.length+3 then j+5 else 3,fun j h=>if_pos h,if_neg oM⟩
  have hbd:(sJ n k).bd.length=n.l.length:=by unfold sJ;simp
  have rY:((sJ n k).rows B.length).length=n.l.length+3:=by unfold Lv.rows;simp[hbd]
  have hzx:(sJ n k).xs.length=n.l.length-1:=by
   unfold sJ
   simp only[am,bu,fp,hxl];omega
  have hzt:(sJ n k).tm.length=n.tm.length-1:=by
   unfold sJ
   simp only[am,bu,fp];omega
  have hza:(sJ n k).av (B.length+5)=.agg [.v (.int .i64 n.now),.v (.bool n.fifo),.sl (B.length+5) 2 0 (n.l.length-1),.sl (B.length+6) 2 0 (n.tm.length-1),.sl (B.length+7) 1 0 n.fates.length]:=by
   unfold Lv.av
   rw[hzx,hzt]
   rfl
  refine NJ (.inr rfl) (xs:=[(sJ n k).av (B.length+5),.agg [.v (.int .i64 n.l[k].fr),.v (.int .i64 n.l[k].to),.v (.int .i64 n.l[k].nu),.sl (B.length+3) 1 0 n.l[k].body.length],.v (.int .i64 0)]) (y:=.tup [(sJ n k).av B.length,.agg [.v (.int .i64 n.l[k].fr),.v (.int .i64 n.l[k].to),.v (.int .i64 n.l[k].nu),.sl (B.length+(3+n.l.length)) 1 0 n.l[k].body.length],.v (.int .i64 0)]) (l':=(sJ n k).rows B.length++[bdR n.l[k].body]) (by simp (disch:=first|decide|omega) only[resVs,resV,hA,aC,hza,go_sem]) (m:=n.l.length+4) (by rw[am,rY];rfl) σ (fun a c ha hc h=>?_) (fun j r' h=>?_) ?_ hR hB ⟨by rw[hB,am];rfl,rfl,by rw[hB,am]⟩
  ·by_cases h1:a<n.l.length+3<;>by_cases h2:c<n.l.length+3
   ·rw[s1 a h1,s1 c h2]at h;omega
   ·rw[s1 a h1,show c=n.l.length+3 by omega,s2]at h;omega
   ·rw[s1 c h2,show a=n.l.length+3 by omega,s2]at h;omega
   ·omega
  ·by_cases hj:j<n.l.length+3
   ·rw[aw oM]at h
    have key:∀pre:List Row,pre.length=5→∃r,(pre++(sJ n k).rows (B.length+5))[σ j]? = some r∧RnR B.length (n.l.length+4) σ r r':=fun pre hp=>by
     have:=Lv.rnR (z:=sJ n k) P6 (n:=B.length) (s:=5) (m:=n.l.length+4) oM (σ:=σ) (fun j hj=>s1 j oM) (pre:=pre) (junk:=[]) hp j r' h
     rwa [cj]at this
    exact key [_,_,_,_,_] rfl
   ·have hl:=(aj.1 h).1
    rw[am,rY]at hl
    have hl:j<n.l.length+3+1:=hl
    obtain rfl:j=n.l.length+3:=by omega
    rw[au oM,rY,fz]at h
    cases h
    rw[s2]
    exact⟨_,rfl,RnR.plain⟩
  ·refine Rn.tupL (.cons (Lv.rnA oM (fun j hj=>s1 j oM)) (.cons (Rn.aggL (.cons (.v _) (.cons (.v _) (.cons (.v _) (.cons ?_ .nil))))) (.cons (.v _) .nil)))
   exact Rn.slE (by rw[ir 3];exact s2) oM
 ·obtain rfl:k=n.l.length:=by omega
  have hfi:fiR n to=-1:=rU h0
  have he:rcE n to=7:=by unfold rcE;rw[if_pos h1,if_pos h2,hfi];rfl
  obtain⟨b1,b2,b3⟩:=bad (by rw[he];decide)
  rw[b1,b2,b3,he]
  simp (disch:=first|decide|omega) only[hA,aC,cellsOf,go_sem]
  exact wC (.inr rfl) (xs:=[zNw,.agg [.v (.int .i64 0),.v (.int .i64 0),.v (.int .i64 0),.v .zsl],.v (.int .i64 7)]) (by simp (disch:=first|decide|omega) only[resVs,resV,hA,aC,zNw,go_sem]) (by simp only[one,zNw,lts.down,Nat.reduceLT,Nat.reduceAdd]) hR hB ⟨rfl,rfl,by simp⟩
theorem ZEo {n:Nw} {to:Int} {base:Nat}:Dv base (rcR n to base) (ZAh n to base) (.agg ((eMs (rcM n to)).map .v)):=by
 by_cases he:rcE n to=0
 ·unfold ZAh rcR
  rw[if_pos he,if_pos he]
  unfold eMs
  refine Dv.aggL (.cons (.v _) (.cons (.v _) (.cons (.v _) (.cons ?_ .nil))))
  refine Dv.slV (rows:=(rcM n to).body.map eI) ?_ kS
  have rY:((sJ n (fiR n to).toNat).rows base).length=3+n.l.length:=by unfold Lv.rows sJ;simp;omega
  rw[au oM,rY,fz]
  rfl
 ·unfold ZAh rcM
  rw[if_neg he,if_neg he]
  exact Dv.aggL (.cons (.v _) (.cons (.v _) (.cons (.v _) (.cons (.z 1) .nil))))
theorem ZHX {n:Nw} {to:Int} {base:Nat}:Dv base (rcR n to base) (ZB4 base (rcZ n to)) (nwA (rcN n to)):=by
 rw[←ZHW]
 by_cases he:rcE n to=0
 ·unfold rcZ rcR
  rw[if_pos he,if_pos he]
  exact (Lv.dv P6 base).more _
 ·unfold rcZ
  rw[if_neg he]
  exact TW
theorem E1 (n:Nw) (to:Int) (b l:List Row):ZA Tryz.prog 111 [.agg ((eNw n).map .v),.v (.int .i64 to)] b l
  (fun r b' l'=>r=.tup [nwA (rcN n to),.agg ((eMs (rcM n to)).map .v),.v (.int .i64 (rcE n to))]∧b'=b∧l'=l):=
 ZA.deep (Dv.tupL (.cons ZHX (.cons ZEo (.cons (.v _) .nil)))) (e9 n to b l)
def inZ (x lo hi:Int):Bool:=decide (lo≤x∧x≤hi)
def a_sMs:AFunc:=({c:=_}:CF Tryz.prog 106).c
theorem ZCl:CA Tryz.prog 106=some a_sMs:=by kernel_rfl
def ZDN:List (Nat×Nat):=[(4,5),(34,51)]
abbrev oG:List AOper:=[⟨some 4,.mv (.c (.v (.bool false))),none⟩]
def a_sNw:AFunc:=⟨2,102,[.tmp 4],(.seq (.region [⟨some 2,.box (.t 0),none⟩,⟨some 3,.box (.t 1),none⟩,⟨some 4,.mv (.c (.v (.bool false))),none⟩]) (.seq (.seq (.region [oB 8 0 2,oC 9 8,oB 10 0 3,oC 11 10,oD 12 9 11,oA 13 12,oB 14 1 2 (some (13,false)),oC 15 14 (some (13,false)),oB 16 1 3 (some (13,false)),oC 17 16 (some (13,false)),⟨some 18,.binB .neq (.t 15) (.t 17),some (13,false)⟩,⟨some 19,.pick (.t 13) (.c (.v (.bool true))) (.t 18),none⟩,oA 20 19,oB 21 2 2 (some (20,false)),oC 22 21 (some (20,false)),oF 23 22 (some (20,false)),oB 24 2 3 (some (20,false)),oC 25 24 (some (20,false)),oF 26 25 (some (20,false)),oD 27 23 26 (some (20,false)),⟨some 28,.pick (.t 20) (.c (.v (.bool true))) (.t 27),none⟩,oA 29 28,oB 30 3 2 (some (29,false)),oC 31 30 (some (29,false)),oF 32 31 (some (29,false)),oB 33 3 3 (some (29,false)),oC 34 33 (some (29,false)),oF 35 34 (some (29,false)),oD 36 32 35 (some (29,false)),⟨some 37,.pick (.t 29) (.c (.v (.bool true))) (.t 36),none⟩,oA 38 37,oB 39 4 2 (some (38,false)),oC 40 39 (some (38,false)),oF 41 40 (some (38,false)),oB 42 4 3 (some (38,false)),oC 43 42 (some (38,false)),oF 44 43 (some (38,false)),oD 45 41 44 (some (38,false)),⟨some 46,.pick (.t 38) (.c (.v (.bool true))) (.t 45),none⟩]) (.cond (.t 46) (.seq (.region oG) .ret) .skip)) (.seq (.seq (.region [⟨some 5,.mv (.c (.v (.int .i64 0))),none⟩]) (.block 0 (.loop (.seq (.seq (.region [oA 47 5,oB 48 2 2,oC 49 48,oF 50 49,⟨some 51,.bin .lss (.t 47) (.t 50),none⟩]) (.cond (.t 51) .skip (.exit 0))) (.seq (.block 1 (.seq (.draw [⟨0,oB 54 2 2,[]⟩,⟨1,oC 55 54,[]⟩,⟨2,oA 56 5,[]⟩,⟨3,oE 57 4 55 56,[]⟩,⟨4,⟨some 58,.load (some 4) (.t 57),none⟩,[]⟩,⟨5,oB 59 2 3,[]⟩,⟨6,oC 60 59,[]⟩,⟨7,oA 61 5,[]⟩,⟨8,oE 62 4 60 61,[]⟩,⟨9,⟨some 63,.load (some 4) (.t 62),none⟩,[]⟩,⟨10,⟨some 64,.call (.c (.fn 106 [])) [(.t 58),(.t 63)],none⟩,[]⟩,⟨11,⟨some 65,.not (.t 64),none⟩,[]⟩]) (.cond (.t 65) (.seq (.region oG) .ret) .skip))) (.region [oA 52 5,⟨some 53,.bin .add (.t 52) (.c (.v (.int .i64 1))),none⟩,oA 5 53])))))) (.seq (.seq (.region [⟨some 6,.mv (.c (.v (.int .i64 0))),none⟩]) (.block 2 (.loop (.seq (.seq (.region [oA 66 6,oB 67 3 2,oC 68 67,oF 69 68,⟨some 70,.bin .lss (.t 66) (.t 69),none⟩]) (.cond (.t 70) .skip (.exit 2))) (.seq (.block 3 (.seq (.draw [⟨0,oB 73 3 2,[]⟩,⟨1,oC 74 73,[]⟩,⟨2,oA 75 6,[]⟩,⟨3,oE 76 1 74 75,[]⟩,⟨4,oC 77 76,[]⟩,⟨5,oB 78 3 3,[]⟩,⟨6,oC 79 78,[]⟩,⟨7,oA 80 6,[]⟩,⟨8,oE 81 1 79 80,[]⟩,⟨9,oC 82 81,[]⟩,⟨10,oD 83 77 82,[]⟩]) (.cond (.t 83) (.seq (.region oG) .ret) .skip))) (.region [oA 71 6,⟨some 72,.bin .add (.t 71) (.c (.v (.int .i64 1))),none⟩,oA 6 72])))))) (.seq (.seq (.region [⟨some 7,.mv (.c (.v (.int .i64 0))),none⟩]) (.block 4 (.loop (.seq (.seq (.region [oA 84 7,oB 85 4 2,oC 86 85,oF 87 86,⟨some 88,.bin .lss (.t 84) (.t 87),none⟩]) (.cond (.t 88) .skip (.exit 4))) (.seq (.block 5 (.seq (.draw [⟨0,oB 91 4 2,[]⟩,⟨1,oC 92 91,[]⟩,⟨2,oA 93 7,[]⟩,⟨3,oE 94 2 92 93,[]⟩,⟨4,⟨some 95,.load (some 2) (.t 94),none⟩,[]⟩,⟨5,oB 96 4 3,[]⟩,⟨6,oC 97 96,[]⟩,⟨7,oA 98 7,[]⟩,⟨8,oE 99 2 97 98,[]⟩,⟨9,⟨some 100,.load (some 2) (.t 99),none⟩,[]⟩,⟨10,⟨some 101,.eqs true [.i,.i] (.t 95) (.t 100),none⟩,[]⟩]) (.cond (.t 101) (.seq (.region oG) .ret) .skip))) (.region [oA 89 7,⟨some 90,.bin .add (.t 89) (.c (.v (.int .i64 1))),none⟩,oA 7 90])))))) (.seq (.region [⟨some 4,.mv (.c (.v (.bool true))),none⟩]) .ret))))))⟩
theorem ZCk:CA Tryz.prog 81=some a_sNw:=by kernel_rfl
def ZDM:List (Nat×Nat):=[(4,5),(47,65)]
def ZDL:List (Nat×Nat):=[(4,4),(6,6),(66,83)]
def ZDK:List (Nat×Nat):=[(4,4),(7,7),(84,101)]

theorem neI (n:Int):(n != n)=false:=by simp
theorem neB (n:Bool):(!(n==n))=false:=by simp
theorem eqIr (n:Int):(n==n)=true:=by simp
def msR (a:Ms):Row:=.live 0 4 [[.v (.int .i64 a.fr),.v (.int .i64 a.to),.v (.int .i64 a.nu),.v (.isl 1 (a.body.map eI))]]
def nwR (a:Nw):Row:=.live 0 5 [[.v (.int .i64 a.now),.v (.bool a.fifo),.v (.isl 4 (a.l.map eMs)),.v (.isl 1 (a.tm.map eI)),.v (.isl 2 (a.fates.map eFt))]]
theorem ZBo (a:Ms) (hn:a.body.length≤1000000) (b l:List Row):ZA Tryz.prog 106 [.agg (zMA a),.agg (zMA a)] b l (fun r b' l'=>r=.v (.bool true)∧b'=b∧l'=l):=by
 refine XA ZCl rfl kE ?_
 intro B g hB hR hE hA;simp only[EA]at hA
 simp (disch:=first|decide|omega) only[a_sMs,hA,neI,aa,go_sem]
 refine ZB (ι:=Nat) ZDN (fun i=>[(5,.v (.int .i64 i))]) 2 (fun _=>[msR a,msR a]) (fun i=>i≤a.body.length) (fun i=>a.body.length-i) 0 (an _) kM kA kF ?_
 intro g1 aI bI aC i hi
 unfold msR
 by_cases bB:i<a.body.length
 ·have ha:=NG bB
  simp (disch:=first|decide|omega) only[hA,aC,ha,neI,aa,go_sem]
  refine⟨i+1,bB,by simp only;omega,?_⟩
  exact KA.kround (p:=ZDN) (k:=2) kQ kA rfl aI kS kV hR kL
 ·simp (disch:=first|decide|omega) only[hA,aC,aa,go_sem]
  exact QA (xs:=[.v (.bool true)])
theorem ZHt {l:List (Int×Int)} {i:Nat} (h:i<l.length):(l.map eFt)[i]? = some [.int .i64 l[i].1,.int .i64 l[i].2]:=by
 rw[ai,ae h];rfl
theorem ZBn (a:Nw) (hS:NwS a) (b l:List Row):ZA Tryz.prog 81 [.agg ((eNw a).map .v),.agg ((eNw a).map .v)] b l (fun r b' l'=>r=.v (.bool true)∧b'=b∧l'=l):=by
 refine XA ZCk rfl kE ?_
 intro B g hB hR hE hA;simp only[EA]at hA
 have hal:=hS.l
 have hat:=hS.tm
 have haf:=hS.fates
 simp (disch:=first|decide|omega) only[a_sNw,hA,eNw,neI,neB,aa,go_sem]
 refine ZB (ι:=Nat) ZDM (fun i=>[(5,.v (.int .i64 i))]) 2 (fun _=>[nwR a,nwR a]) (fun i=>i≤a.l.length) (fun i=>a.l.length-i) 0 (an _) kM kA kF ?_
 intro g1 aI bI aC i hi
 unfold nwR
 by_cases bB:i<a.l.length
 ·have ha:=sR bB
  simp (disch:=first|decide|omega) only[hA,aC,ha,aa,go_sem]
  refine ZA.nxt (ZBo a.l[i] (hS.body _ (ap bB)) _ _) ?_
  simp (disch:=first|decide|omega) only[hA,aC,go_sem]
  refine⟨i+1,bB,by simp only;omega,?_⟩
  exact KA.kround (p:=ZDM) (k:=2) kQ kA rfl aI kS kV hR kL
 simp (disch:=first|decide|omega) only[hA,aC,aa,go_sem]
 refine ZB (ι:=Nat) ZDL (fun i=>[(6,.v (.int .i64 i))]) 2 (fun _=>[nwR a,nwR a]) (fun i=>i≤a.tm.length) (fun i=>a.tm.length-i) 0 (an _) kM kA kF ?_
 intro g2 UP ZB9 NI i hi
 unfold nwR
 by_cases bB:i<a.tm.length
 ·have ha:=NG bB
  simp (disch:=first|decide|omega) only[hA,aC,NI,ha,neI,aa,go_sem]
  refine⟨i+1,bB,by simp only;omega,?_⟩
  exact KA.kround (p:=ZDL) (k:=2) kQ kA rfl UP kS kV hR kL
 simp (disch:=first|decide|omega) only[hA,aC,NI,aa,go_sem]
 refine ZB (ι:=Nat) ZDK (fun i=>[(7,.v (.int .i64 i))]) 2 (fun _=>[nwR a,nwR a]) (fun i=>i≤a.fates.length) (fun i=>a.fates.length-i) 0 (an _) kM kA kF ?_
 intro g3 hE3 hEE3 IQ i hi
 unfold nwR
 by_cases bB:i<a.fates.length
 ·have ha:=ZHt bB
  simp (disch:=first|decide|omega) only[hA,aC,NI,IQ,ha,eqIr,aa,go_sem]
  refine⟨i+1,bB,by simp only;omega,?_⟩
  exact KA.kround (p:=ZDK) (k:=2) kQ kA rfl hE3 kS kV hR kL
 simp (disch:=first|decide|omega) only[hA,aC,NI,IQ,aa,go_sem]
 exact QA (xs:=[.v (.bool true)])
structure In where
 op:Int
 a:Int
 b:Int
structure Sv where
 name:ByteArray
 code:List In
 pc:Int
 vars:List Int
 off:Int
 rate:Int
structure Wd where
 sv:List Sv
 net:Nw
 now:Int
 sent:Int
 tr:Tr
def eIn (x:In):List IV:=[.int .i64 x.op,.int .i64 x.a,.int .i64 x.b]
def eSv (s:Sv):List IV:=[.str s.name,.isl 3 (s.code.map eIn),.int .i64 s.pc,.isl 1 (s.vars.map eI),.int .i64 s.off,.int .i64 s.rate]
def eWd (w:Wd):List IV:=[.isl 6 (w.sv.map eSv),.int .i64 w.net.now,.bool w.net.fifo,.isl 4 (w.net.l.map eMs),.isl 1 (w.net.tm.map eI),.isl 2 (w.net.fates.map eFt),.int .i64 w.now,.int .i64 w.sent,.isl 3 (w.tr.map ePr)]
def zU:In:=⟨0,0,0⟩
def dfSv:Sv:=⟨⟨#[]⟩,[],0,[],0,0⟩
def wd0:Wd:=⟨[],nw0,0,0,[]⟩
def xH (k c p n:Int) (x:In):Bool:=
 if x.op=1∨x.op=2 then inZ x.a 0 (k-1)&&vlB x.b
 else if x.op=3 then inZ x.a 0 (k-1)&&(inZ x.b 0 (n-1)&&decide (x.b≠p))
 else if x.op=4 then inZ x.a 0 (k-1)
 else if x.op=5 then inZ x.a 0 (k-1)&&inZ x.b 0 (c-1)
 else if x.op=6 then inZ x.a 0 (c-1)&&inZ x.b 0 (k-1)
 else decide (x.op=7∨x.op=8)
def JM (s:Sv):Bool:=inZ s.off 0 1000000&&inZ s.rate 500 2000
def AH (s:Sv) (now:Int):Bool:=JM s&&inZ now 0 1000000000
def jJ (s:Sv) (now:Int):Int:=if AH s now=true then s.off+now*s.rate / 1000 else 0
def sv1 (s:Sv) (p n:Int):Bool:=GE s.name&&(inZ s.code.length 1 100&&(decide (s.vars.length≤8)&&(inZ s.pc 0 s.code.length&&(JM s&&(s.vars.all vlB&&s.code.all (xH s.vars.length s.code.length p n))))))
def svB (l:List Sv) (p:Nat):Bool:=sv1 (l.getD p dfSv) p l.length&&(l.take p).all fun x=>!(x.name==(l.getD p dfSv).name)
def ZH (l:List Sv):Bool:=inZ l.length 1 8&&(List.range l.length).all (svB l)
structure SvS (s:Sv):Prop where
 name:s.name.size≤1000000
 code:s.code.length≤1000000
 vars:s.vars.length≤1000000
structure SvsS (l:List Sv):Prop where
 len:l.length≤1000000
 all:∀s∈l,SvS s
theorem ZL {l:List Sv} {i:Nat} (h:i<l.length):(l.map eSv)[i]? = some [.str l[i].name,.isl 3 (l[i].code.map eIn),.int .i64 l[i].pc,.isl 1 (l[i].vars.map eI),.int .i64 l[i].off,.int .i64 l[i].rate]:=by
 rw[ai,ae h];rfl
theorem LO {l:List In} {i:Nat} (h:i<l.length):(l.map eIn)[i]? = some [.int .i64 l[i].op,.int .i64 l[i].a,.int .i64 l[i].b]:=by
 rw[ai,ae h];rfl
theorem D0 (s:ByteArray):pD [⟨s,[],[]⟩]=GE s:=by
 have h1:gE [⟨s,[],[]⟩] 0=if GE s=true then 0 else 13:=by
  unfold gE
  cases h:GE s<;>simp[h,YD]
 have h2:ids [⟨s,[],[]⟩]=[]:=by simp[ids,jN,sA]
 unfold pD DF
 rw[h2,if_neg kS]
 cases h:GE s
 ·rw[h]at h1
  simp[h1]
 ·rw[h]at h1
  simp[h1]

def idA (x:Nat×Nat):AV:=.agg [.v (.int .i64 x.1),.v (.int .i64 x.2)]
theorem gW (w:World) (F:Nat→Prop) (L:LMap) (x:Nat×Nat):RepA w F L (idA x) (RB x):=by
 refine bA.agg (vs:=#[.int .i64 x.1,.int .i64 x.2]) ?_
 exact bA.cons (.v _ _ (.int _ _)) (bA.cons (.v _ _ (.int _ _)) bA.nil)
theorem fE {w:World} {F:Nat→Prop} {L:LMap} {x:AV} {xs:List AV} {vs:List Value} (h:bA w F L (x::xs) vs):∃v us,vs=v::us∧RepA w F L x v∧bA w F L xs us:=by
 obtain⟨h1,h2⟩:=h
 cases vs with
 |nil=>simp at h1
 |cons v us=>exact⟨v,us,rfl,h2 0 x v rfl rfl,by simpa using h1,fun i a u ha hu=>h2 (i+1) a u ha hu⟩
theorem uG {w:World} {F:Nat→Prop} {L:LMap} {vs:List Value} (h:bA w F L [] vs):vs=[]:=by
 have:=h.1
 exact cu (by simpa using this.symm)
theorem PO {w:World} {F:Nat→Prop} {L:LMap} {t:Tr} {xs:List AV} {vs:Array Value} (hn:Nm t) (h:bA w F L (.agg [.v (eT t)]::xs) vs.toList):∃u us,vs=(.agg #[u]::us).toArray∧SlR 3 RPr w u t∧bA w F L xs us:=by
 obtain⟨v,us,h1,h2,h3⟩:=fE h
 obtain⟨cs,rfl,h4⟩:=h2.aggL
 obtain⟨u,rest,h5,h6,h7⟩:=fE h4
 have:=uG h7
 subst this
 have PN:cs=#[u]:=gj.1 (by rw[h5])
 subst PN
 exact⟨u,us,gj.1 (by rw[h1]),ZGK hn h6.vI,h3⟩

section
theorem SL (t:Tr) (hS:Sm t) (hN:Nm t) (b l:List Row):ZA Tryz.prog 20 [.agg [.v (eT t)]] b l (fun r b' l'=>r=.v (.bool (pD t))∧b'=b∧l'=l):=by
 refine ZA.of_ext ⟨_,Tryz.func20,by kernel_rfl,by kernel_rfl⟩ (fun F L w vs hr=>?_)
 obtain⟨u,us,rfl,hs,y6⟩:=PO hN hr
 obtain rfl:=uG y6
 refine (aM u t w hS hs).mono ?_
 rintro e w' ⟨rfl,he⟩
 exact⟨he,_,_,rfl,.v _ _ (.bool _),rfl,rfl,rfl⟩
theorem tN (t:Tr) (hS:Small t) (hN:Nm t) (b l:List Row):ZA Tryz.prog 20 [.agg [.v (eT t)]] b l (fun r b' l'=>r=.v (.bool (pD t))∧b'=b∧l'=l):=SL t hS.sm hN b l
end
section
variable {P:Program} {lp nn:Nat}

theorem WT {f:Nat} {args:Array Value} {w:World} {R:Ending→World→Prop} {m:Nat} (h:Calls P f args w R):CallsIn (Fence.wide.inRound lp) m P f args w R:=CallsIn.inRound lp (callsIn_wide.2 h)
theorem aV {row:String} {args:Array Value} {w:World} {R:Value→World→Prop} {m:Nat} (h:Rows P row args w R):RowsIn (Fence.wide.inRound lp) m P row args w R:=by
 intro c cs _
 obtain⟨v,w',r,s⟩:=h c cs
 exact⟨v,w',r,(stepsIn_wide.2 s:StepsIn (Machine.fenced P Fence.wide) P _ _)⟩
theorem ZBw {o:Oper} {a:Act} {w:World} {next:Act→World→Prop} {Q:Exit→Act→World→Prop} (hd:∀c,o.op≠.defer c) (h:o.wp P a w next Q):o.wpIn (Fence.wide.inRound lp) nn P a w next Q:=by
 refine⟨fun _ _=>trivial,?_⟩
 rw[Oper.semAt_eq _ _ _ hd]
 unfold Oper.wp at h
 generalize (execOp a.eval o).run P w=r at *
 cases r with
 |ok x w' =>
   cases x<;>simp only[Oper.upon,Oper.uponIn]at h⊢ <;>
    first
     |exact h
     |exact⟨fun hh=>(by cases hh),WT h⟩
     |exact⟨fun hh=>(by cases hh),aV h⟩
     |exact h.elim
 |halt x w'=>cases x<;>simp only[Oper.upon,Oper.uponIn]at h⊢ <;> exact h
theorem OH {ops:Array Oper} {Q:Exit→Act→World→Prop} (hQ:¬LetsOut Q) (hd:∀(i:Nat) (o:Oper),ops[i]? = some o→∀c,o.op≠.defer c):∀{is:List Nat} {a:Act} {w:World},wpOps P ops Q is a w→wpOpsIn (Fence.wide.inRound lp) nn P ops Q is a w
 |[],a,w,h=>h
 |i::is,a,w,h=>by
   simp only[wpOps]at h
   simp only[wpOpsIn]
   cases ho:ops[i]? with
   |none=>rw[ho]at h;exact OH hQ hd h
   |some o =>
     rw[ho]at h
     simp only at h⊢
     split
     ·rename_i hw
      rw[if_pos hw]at h
      exact Oper.wpIn_mono (fun a w h=>OH hQ hd h) (ZBw (hd i o ho) (h.resolve_right (fun hh=>hQ hh.2)))
     ·rename_i hw
      rw[if_neg hw]at h
      exact⟨fun _ _=>trivial,OH hQ hd h⟩
theorem J8 {nb:Nat} {F:Nat→Prop} {L:LMap} {h:List Row} {w:World} {Q:AExit→List AV→List Row→List Row→Prop}:¬LetsOut (Aft nb F L h w Q):=by
 intro hh
 obtain⟨a,w1,ax,_,_,_,_,_,hex,_⟩:=hh
 exact hex
theorem cL {imm:Bool} {ops:Array Oper} {aos:List AOper} (h:AO P imm ops ops.toList=some aos) {i:Nat} {o:Oper} (ho:ops[i]? = some o):∀c,o.op≠.defer c:=by
 intro c hc
 obtain⟨k1,k2⟩:=aO h
 have bB:i<aos.length:=by rw[k1];simpa using (bp.1 ho).1
 obtain⟨o',g1,g2,_⟩:=k2 i aos[i] (ae bB)
 have:o'=o:=by
  have h1:ops[i]? = some o':=by simpa using g1
  rw[ho]at h1;cases h1;rfl
 subst this
 rw[hc]at g2
 simp[uV,cOp]at g2

theorem O9 {imm:Bool} {ops:Array Oper} {n:Nat} {c:ACode} (h:PG P imm n ops=some c):∃aos,AO P imm ops ops.toList=some aos:=by
 have one:∀ds,yO P imm ops=some ds→∃aos,AO P imm ops ops.toList=some aos:=fun ds RN=>by
  unfold yO at RN
  split at RN
  case h_2=>cases RN
  rename_i aos pS
  exact⟨aos,pS⟩
 cases n with
 |zero =>
   obtain⟨ds,RN,_⟩:=map_some h
   exact one ds RN
 |succ n =>
   unfold PG at h
   split at h
   ·rename_i ds RN;exact one ds RN
   ·split at h
    case h_2=>cases h
    rename_i aos pS
    exact⟨aos,pS⟩
theorem SR {C:CallP} (hC:∀f args b l Q,C f args b l Q→ZA P f args b l Q) (RQ:∀f args b l (Q Q':AV→List Row→List Row→Prop),C f args b l Q→(∀x b' l',Q x b' l'→Q' x b' l')→C f args b l Q'):∀(code:Code) (ac:ACode),DG P code=some ac→∀e b l Q,run C KA ac e b l Q →
  ∀F L w a,Sim F L (b++l) w→PC w F L e a→code.wpIn (Fence.wide.inRound lp) nn P (Aft b.length F L (b++l) w Q) a w:=by
 intro code
 induction code with
 |skip =>
   intro ac hc e b l Q h F L w a s he
   cases hc
   exact wpIn_skip ⟨.normal,e,b,l,F,L,trivial,s,he,Step.refl _ _ _ _ _,rfl,h⟩
 |region id ops draw =>
   intro ac hc e b l Q h F L w a s he
   cases hc
   cases hc:ZAl P ops draw with
   |none=>rw[hc]at h;exact (uD h).elim
   |some ac =>
   rw[hc]at h
   replace h:run C KA ac e b l Q:=h
   simp only[ZAl]at hc
   cases draw
   case true =>
    simp only[if_true]at hc
    obtain⟨imm,hc⟩:∃imm,PG P imm 6 ops=some ac:=by
     cases hf:PG P false 6 ops with
     |some c=>rw[hf]at hc;cases hc;exact⟨false,hf⟩
     |none=>rw[hf]at hc;exact⟨true,hc⟩
    obtain⟨hm,hp⟩:=AL hC RQ 6 ops ac hc e b l Q h F L w a s he
    obtain⟨aos,pS⟩:=O9 hc
    refine wpIn_region_draw fun t=>?_
    simp only[Region.schedule,hm,kp,if_true]
    exact OH J8 (fun i o ho=>cL pS ho) (hp _ (gR _ _ _))
   simp only[bx,if_false]at hc
   obtain⟨aos,hao,rfl⟩:=map_some hc
   refine wpIn_region (OH J8 (fun i o ho=>cL hao ho) (qT hC ops ops.toList (List.range ops.size) aos hao ?_ e b l h rfl F L w a s he (Step.refl _ _ _ _ _) ?_))
   ·apply ek
    intro i
    simp only[ai]
    by_cases hi:i<ops.size
    ·simp[hi]
    ·simp[hi]
   ·intro e' b' l' F' L' a' w' hq s' he' st hb
    exact⟨.normal,e',b',l',F',L',trivial,s',he',st,hb,hq⟩
 |seq x y ihx ihy =>
   intro ac hc e b l Q h F L w a s he
   simp only[DG]at hc
   split at hc
   case h_2=>cases hc
   rename_i x' y' hx hy
   cases hc
   refine wpIn_seq (wpIn_mono (ihx x' hx e b l _ h F L w a s he) ?_)
   rintro ex a1 w1 ⟨ax,e1,b1,l1,F1,L1,hex,s1,iH,st1,uI,hq⟩
   cases ex<;>cases ax<;>first|exact hex.elim|skip
   ·simp only[Exit.then]
    refine wpIn_mono (ihy y' hy e1 b1 l1 Q hq F1 L1 w1 a1 s1 iH) ?_
    rintro ex2 a2 w2 ⟨ax2,e2,b2,l2,F2,L2,ZER,s2,QI,st2,RO,MN⟩
    exact⟨ax2,e2,b2,l2,F2,L2,ZER,s2,QI,st1.trans (uI▸st2),RO.trans uI,MN⟩
   ·exact⟨_,e1,b1,l1,F1,L1,hex,s1,iH,st1,uI,hq⟩
   ·exact⟨_,e1,b1,l1,F1,L1,hex,s1,iH,st1,uI,hq⟩
 |cond c x y ihx ihy =>
   intro ac hc e b l Q h F L w a s he
   simp only[DG]at hc
   split at hc
   case h_2=>cases hc
   rename_i c' x' y' SQ hx hy
   cases hc
   simp only[run]at h
   have hr:=jB he SQ
   generalize ev e c'=q at *
   split at h
   case h_2=>exact h.elim
   rename_i t
   refine wpIn_cond (dL hr) ?_
   cases t
   ·simp only[bx,if_false]at h⊢
    exact ihy y' hy e b l Q h F L w a s he
   ·simp only[if_true]at h⊢
    exact ihx x' hx e b l Q h F L w a s he
 |block id c ih =>
   intro ac hc e b l Q h F L w a s he
   simp only[DG]at hc
   obtain⟨c',SQ,rfl⟩:=map_some hc
   refine wpIn_block (wpIn_mono (ih c' SQ e b l _ h F L w a s he) ?_)
   rintro ex a1 w1 ⟨ax,e1,b1,l1,F1,L1,hex,s1,iH,st1,uI,hq⟩
   cases ex<;>cases ax<;>first|exact hex.elim|skip
   ·exact⟨.normal,e1,b1,l1,F1,L1,trivial,s1,iH,st1,uI,hq⟩
   ·rename_i i j
    have hij:i=j:=hex
    subst hij
    simp only[Exit.inBlock]
    simp only[yX]at hq
    split
    ·rename_i hi;rw[if_pos hi]at hq;exact⟨.normal,e1,b1,l1,F1,L1,trivial,s1,iH,st1,uI,hq⟩
    ·rename_i hi;rw[if_neg hi]at hq;exact⟨.exit i,e1,b1,l1,F1,L1,rfl,s1,iH,st1,uI,hq⟩
   ·exact⟨.ret,e1,b1,l1,F1,L1,trivial,s1,iH,st1,uI,hq⟩
 |loop c ih =>
   intro ac hc e b l Q h F L w a s he
   simp only[DG]at hc
   obtain⟨c',SQ,rfl⟩:=map_some hc
   obtain⟨I,⟨e0,b0,l0,m0,JW,hI0⟩,tT⟩:=h
   obtain⟨F0,L0,s0,he0,st0,hb0⟩:=JW F L w a s he
   refine wpIn_loop_ghost (fun n a1 w1=>∃e1 b1 l1 F1 L1,Sim F1 L1 (b1++l1) w1∧PC w1 F1 L1 e1 a1∧Step b.length F L (b++l) w F1 L1 (b1++l1) w1∧b1.length=b.length∧I e1 b1 l1 n) m0 ⟨e0,b0,l0,F0,L0,s0,he0,st0,hb0,hI0⟩ ?_
   rintro n a1 w1 ⟨e1,b1,l1,F1,L1,s1,iH,st1,uI,hI1⟩
   refine wpIn_mono (ih c' SQ e1 b1 l1 _ (tT e1 b1 l1 n hI1) F1 L1 w1 a1 s1 iH) ?_
   rintro ex a2 w2 ⟨ax,e2,b2,l2,F2,L2,hex,s2,QI,st2,RO,hq⟩
   have st12:=st1.trans (uI▸st2)
   cases ex<;>cases ax<;>first|exact hex.elim|skip
   ·obtain⟨e3,b3,l3,m3,hw3,hI3,bB⟩:=hq
    obtain⟨F3,L3,s3,z8,st3,hb3⟩:=hw3 F2 L2 w2 a2 s2 QI
    have hbb:b2.length=b.length:=RO.trans uI
    exact⟨m3,bB,e3,b3,l3,F3,L3,s3,z8,st12.trans (hbb▸st3),hb3.trans hbb,hI3⟩
   ·exact⟨_,e2,b2,l2,F2,L2,hex,s2,QI,st12,RO.trans uI,hq⟩
   ·exact⟨_,e2,b2,l2,F2,L2,hex,s2,QI,st12,RO.trans uI,hq⟩
 |exit i =>
   intro ac hc e b l Q h F L w a s he
   cases hc
   exact wpIn_exit ⟨.exit i,e,b,l,F,L,rfl,s,he,Step.refl _ _ _ _ _,rfl,h⟩
 |ret =>
   intro ac hc e b l Q h F L w a s he
   cases hc
   exact wpIn_ret ⟨.ret,e,b,l,F,L,trivial,s,he,Step.refl _ _ _ _ _,rfl,h⟩
 |rangeFunc f ps az c ih1 ih2=>intro ac hc e b l Q h;cases hc;exact (uD h).elim
 |scope c ih=>intro ac hc e b l Q h;cases hc;exact (uD h).elim
 |label i=>intro ac hc e b l Q h;cases hc;exact (uD h).elim
 |goto i=>intro ac hc e b l Q h;cases hc;exact (uD h).elim
 |refuse y=>intro ac hc e b l Q h;cases hc;exact (uD h).elim

end
def fF:ACode:=(.block 3 (.seq (.seq (.draw [⟨0,⟨(some 55),.faddr 0 (.t 12),none⟩,[]⟩,⟨1,⟨(some 56),.load none (.t 55),none⟩,[]⟩,⟨2,⟨(some 57),.bin .neq (.t 56) (.c (.v (.int .i64 3))),none⟩,[]⟩,⟨3,⟨(some 58),.mv (.t 57),none⟩,[]⟩,⟨4,⟨(some 59),.faddr 1 (.t 11),some (58,false)⟩,[]⟩,⟨5,⟨(some 60),.load none (.t 59),some (58,false)⟩,[]⟩,⟨6,⟨(some 61),.load none (.t 3),some (58,false)⟩,[]⟩,⟨7,⟨(some 62),.faddr 0 (.t 11),some (58,false)⟩,[]⟩,⟨8,⟨(some 63),.load none (.t 62),some (58,false)⟩,[]⟩,⟨9,⟨(some 64),.iaddr 1 (.t 61) (.t 63),some (58,false)⟩,[]⟩,⟨10,⟨(some 65),.load none (.t 64),some (58,false)⟩,[]⟩,⟨11,⟨(some 66),.bin .gtr (.t 60) (.t 65),some (58,false)⟩,[]⟩,⟨12,⟨(some 67),.pick (.t 58) (.c (.v (.bool true))) (.t 66),none⟩,[]⟩])
 (.cond (.t 67) (.exit 3)
 .skip))
 (.seq (.draw [⟨0,⟨(some 68),.load none (.t 8),none⟩,[]⟩,⟨1,⟨(some 69),.faddr 2 (.t 12),none⟩,[]⟩,⟨2,⟨(some 70),.load none (.t 69),none⟩,[]⟩,⟨3,⟨(some 71),.nilck (.t 68),none⟩,[]⟩,⟨4,⟨(some 72),.iaddrA 200 4 (.t 71) (.t 70),none⟩,[]⟩,⟨5,⟨(some 73),.faddr 0 (.t 72),none⟩,[]⟩,⟨6,⟨(some 74),.load (some 2) (.t 73),none⟩,[]⟩,⟨7,⟨(some 13),.alloc [(.v (.int .i64 0)),(.v (.int .i64 0))],none⟩,[⟨(some 68),.load none (.t 8),none⟩,⟨(some 69),.faddr 2 (.t 12),none⟩,⟨(some 70),.load none (.t 69),none⟩,⟨(some 71),.nilck (.t 68),none⟩,⟨(some 72),.iaddrA 200 4 (.t 71) (.t 70),none⟩,⟨(some 73),.faddr 0 (.t 72),none⟩,⟨(some 74),.load (some 2) (.t 73),none⟩]⟩,⟨8,⟨none,.store 2 (.t 13) (.t 74),none⟩,[]⟩])
 (.seq (.draw [⟨0,⟨(some 75),.faddr 1 (.t 13),none⟩,[]⟩,⟨1,⟨(some 76),.load none (.t 75),none⟩,[]⟩,⟨2,⟨(some 77),.load none (.t 3),none⟩,[]⟩,⟨3,⟨(some 78),.faddr 0 (.t 13),none⟩,[]⟩,⟨4,⟨(some 79),.load none (.t 78),none⟩,[]⟩,⟨5,⟨(some 80),.iaddr 1 (.t 77) (.t 79),none⟩,[]⟩,⟨6,⟨(some 81),.load none (.t 80),none⟩,[]⟩,⟨7,⟨(some 82),.bin .gtr (.t 76) (.t 81),none⟩,[]⟩])
 (.cond (.t 82) (.seq (.region [⟨(some 83),.build [(.v .zsl)] [],none⟩,⟨none,.store 1 (.t 4) (.t 83),none⟩,⟨none,.store 1 (.t 5) (.c (.v (.int .i64 18))),none⟩])
 .ret)
 .skip)))))
def KU (cs:List Int) (lr:List IV) (p i:Nat) (kd pr mg:Int) (x4 x5:AV):List AV:=[.any,.any,.any,.v (.iptr [.isl 1 (cs.map eI)] 0),x4,x5,.any,.any,.v (.iptr [.iptr lr 0] 0),.any,.any,.v (.iptr [.int .i64 (p:Int),.int .i64 (i:Int)] 0),.v (.iptr [.int .i64 kd,.int .i64 pr,.int .i64 mg] 0),.any,.any,.any,.any,.any,.any,.any,.any,.any,.any,.any,.any,.any,.any,.any,.any,.any,.any,.any,.any,.any,.any,.any,.any,.any,.any,.any,.any,.any,.any,.any,.any,.any,.any,.any,.any,.any,.any,.any,.any,.any,.any,.any,.any,.any,.any,.any,.any,.any,.any,.any,.any,.any,.any,.any,.any,.any,.any,.any,.any,.any,.any,.any,.any,.any,.any,.any,.any,.any,.any,.any,.any,.any,.any]

theorem ZGR {a b:Int} (h:a>b):decide (a>b)=true:=ag h
theorem ZDk {a b:Int} (h:¬a>b):decide (a>b)=false:=ak h

section
variable (cs:List Int) (lr:List IV) (p i:Nat) (kd pr mg:Int) (x4 x5:AV) (B l:List Row)
theorem cX (hk:(kd != 3)=true):run (ZA Tryz.prog) KA fF (KU cs lr p i kd pr mg x4 x5) B l (fun ax e b l'=>ax=.normal∧b=B∧l'=l):=by
 simp only[fF,KU,hk,↓xB,↓tA,↓iB,↓rB,↓EB,↓SA,↓uB,↓CB,↓dB,↓UC,↓gA,↓RA,↓wB,↓yA,↓DA,↓yB,↓dA,↓FA,↓lB,↓nA,↓xA,↓sB,↓TA,↓MA,↓lA,↓LA,↓fA,↓vB,↓aA,↓AB,↓tB,↓OB,↓ZC,↓LC,↓VC,↓FC,↓EC,pA,uA,QD,eA,iA,MC,YC,XC,QC,eD,bD,jC,vC,rD,fD,nG,pG,JC,nB,pB,mB,MB,UA,KB,jA,UB,qA,mA,aop,sD,pC,rC,SB,sC,DB,tC,YG,YE,LD,amm,tD,IB,QB,SD,dC,ED,comma,nC,XE,QG,QE,ZE,SF,DD,GD,eC,RF,eqC,eqF,DE,cellsOf,JB,yD,KD,ID,dF,rd,rdI,wD,mk,iC,AV.cell,ea,eo,ep,dt,fe,ck,cr,am,Nat.reduceAdd,Nat.reduceSub,Nat.reduceMul,br,cm,bg,bh,bw,cg,ay,cj,dy,db,fg,cz,dj,dp,fh,eq,ew,fi,fj,ba,bl,dn,if_true,if_false,bx,and_self,true_and,and_true,Nat.reduceLeDiff,Nat.reduceLT,ah,Nat.reduceEqDiff,ite_true,ite_false,dw,beq_true,beq_false,dq,eu,fk,fo]
theorem Y1 (hk:(kd != 3)=false) (hp:p<cs.length) (hi:(i:Int)>cs[p]):run (ZA Tryz.prog) KA fF (KU cs lr p i kd pr mg x4 x5) B l (fun ax e b l'=>ax=.normal∧b=B∧l'=l):=by
 have hd:=ZGR hi
 simp (disch:=omega) only[fF,KU,hk,eI,hd,↓xB,↓tA,↓iB,↓rB,↓EB,↓SA,↓uB,↓CB,↓dB,↓UC,↓gA,↓RA,↓wB,↓yA,↓DA,↓yB,↓dA,↓FA,↓lB,↓nA,↓xA,↓sB,↓TA,↓MA,↓lA,↓LA,↓fA,↓vB,↓aA,↓AB,↓tB,↓OB,↓ZC,↓LC,↓VC,↓FC,↓EC,pA,uA,QD,eA,iA,MC,YC,XC,QC,eD,bD,jC,vC,rD,fD,nG,pG,JC,nB,pB,mB,MB,UA,KB,jA,UB,qA,mA,aop,sD,pC,rC,SB,sC,DB,tC,YG,YE,LD,amm,tD,IB,QB,SD,dC,ED,comma,nC,XE,QG,QE,ZE,SF,DD,GD,eC,RF,eqC,eqF,DE,cellsOf,JB,yD,KD,ID,dF,rd,rdI,wD,mk,iC,AV.cell,ea,eo,ep,dt,fe,ck,cr,am,Nat.reduceAdd,Nat.reduceSub,Nat.reduceMul,br,cm,bg,bh,bw,cg,ay,cj,dy,db,fg,cz,dj,dp,fh,eq,ew,fi,fj,ba,bl,dn,if_true,if_false,bx,and_self,true_and,and_true,Nat.reduceLeDiff,Nat.reduceLT,ah,Nat.reduceEqDiff,ite_true,ite_false,dw,beq_true,beq_false,dq,eu,fk,fo,mD,gC,TB,GC,RC,qC,zC,FB,KC,DC,IC,nD,zB,IH,nH,DH,HH,EE,ME,CE,LE,geI,gtI,AE,decide_true,decide_false,room,ai,aa,bu,bs,ia,ib]
theorem Z9 (m f g:Nat) (hk:(kd != 3)=false) (hp:p<cs.length) (hi:¬(i:Int)>cs[p]) (hm:mg=m) (SW:m<200) (hl:lr.length=800) (hdr:(lr.drop (m*4)).take 2=[.int .i64 f,.int .i64 g]) (hf:f<cs.length) (hg:¬(g:Int)>cs[f]) (bB:YB B.length B) (hll:l=[]) :
  run (ZA Tryz.prog) KA fF (KU cs lr p i kd pr mg x4 x5) B l (fun ax e b l'=>ax=.normal∧b=B):=by
 subst hm;subst hll
 have hd:=ZDk hi
 have hd2:=ZDk hg
 simp (disch:=omega) only[fF,KU,hk,eI,hd,hd2,hl,hdr,↓xB,↓tA,↓iB,↓rB,↓EB,↓SA,↓uB,↓CB,↓dB,↓UC,↓gA,↓RA,↓wB,↓yA,↓DA,↓yB,↓dA,↓FA,↓lB,↓nA,↓xA,↓sB,↓TA,↓MA,↓lA,↓LA,↓fA,↓vB,↓aA,↓AB,↓tB,↓OB,↓ZC,↓LC,↓VC,↓FC,↓EC,pA,uA,QD,eA,iA,MC,YC,XC,QC,eD,bD,jC,vC,rD,fD,nG,pG,JC,nB,pB,mB,MB,UA,KB,jA,UB,qA,mA,aop,sD,pC,rC,SB,sC,DB,tC,YG,YE,LD,amm,tD,IB,QB,SD,dC,ED,comma,nC,XE,QG,QE,ZE,SF,DD,GD,eC,RF,eqC,eqF,DE,cellsOf,JB,yD,KD,ID,dF,rd,rdI,wD,mk,iC,AV.cell,ea,eo,ep,dt,fe,ck,cr,am,Nat.reduceAdd,Nat.reduceSub,Nat.reduceMul,br,cm,bg,bh,bw,cg,ay,cj,dy,db,fg,cz,dj,dp,fh,eq,ew,fi,fj,ba,bl,dn,if_true,if_false,bx,and_self,true_and,and_true,Nat.reduceLeDiff,Nat.reduceLT,ah,Nat.reduceEqDiff,ite_true,ite_false,dw,beq_true,beq_false,dq,eu,fk,fo,mD,gC,TB,GC,RC,qC,zC,FB,KC,DC,IC,nD,zB,IH,nH,DH,HH,EE,ME,CE,LE,geI,gtI,AE,decide_true,decide_false,room,ai,aa,bu,bs,ia,ib]
theorem ZHG {r0 r1:Row} {l:List Row}:hget [r0,r1] l 0=some r0:=rfl
theorem ZHF {r0 r1:Row} {l:List Row}:hget [r0,r1] l 1=some r1:=rfl
theorem ZHE {r0 r1 x:Row} {l:List Row}:hget [r0,r1] (x::l) 2=some x:=rfl
theorem ZHJ {r0 r1 r:Row}:pE [r0,r1] 0 r=[r,r1]:=rfl
theorem ZHI {r0 r1 r:Row}:pE [r0,r1] 1 r=[r0,r]:=rfl
theorem ZHH {r0 r1 r:Row}:pE [r0,r1] 2 r=[r0,r1]:=rfl
theorem ZHD {r0 r1 r:Row} {l:List Row}:IE [r0,r1] l 0 r=l:=rfl
theorem ZHC {r0 r1 r:Row} {l:List Row}:IE [r0,r1] l 1 r=l:=rfl
theorem ZHB {r0 r1 r x:Row} {l:List Row}:IE [r0,r1] (x::l) 2 r=r::l:=rfl
theorem J1 (m f g:Nat) (hk:(kd != 3)=false) (hp:p<cs.length) (hi:¬(i:Int)>cs[p]) (hm:mg=m) (SW:m<200) (hl:lr.length=800) (hdr:(lr.drop (m*4)).take 2=[.int .i64 f,.int .i64 g]) (hf:f<cs.length) (hg:(g:Int)>cs[f]) :
  run (ZA Tryz.prog) KA fF (KU cs lr p i kd pr mg (.ptr 0 0 0 0) (.ptr 1 0 0 0)) [.live 0 1 [[.v .zsl]],.live 0 1 [[.v (.int .i64 0)]]] [] (fun ax e b l'=>ax=.ret∧b=[.live 0 1 [[.v .zsl]],.live 0 1 [[.v (.int .i64 18)]]]):=by
 subst hm
 have hd:=ZDk hi
 have hd2:=ZGR hg
 simp (disch:=omega) only[fF,KU,hk,eI,hd,hd2,hl,hdr,ZHG,ZHF,ZHE,ZHJ,ZHI,ZHH,ZHD,ZHC,ZHB,↓xB,↓tA,↓iB,↓rB,↓EB,↓SA,↓uB,↓CB,↓dB,↓UC,↓gA,↓RA,↓wB,↓yA,↓DA,↓yB,↓dA,↓FA,↓lB,↓nA,↓xA,↓sB,↓TA,↓MA,↓lA,↓LA,↓fA,↓vB,↓aA,↓AB,↓tB,↓OB,↓ZC,↓LC,↓VC,↓FC,↓EC,pA,uA,QD,eA,iA,MC,YC,XC,QC,eD,bD,jC,vC,rD,fD,nG,pG,JC,nB,pB,mB,MB,UA,KB,jA,UB,qA,mA,aop,sD,pC,rC,SB,sC,DB,tC,YG,YE,LD,amm,tD,IB,QB,SD,dC,ED,comma,nC,XE,QG,QE,ZE,SF,DD,GD,eC,RF,eqC,eqF,DE,cellsOf,JB,yD,KD,ID,dF,rd,rdI,wD,mk,iC,AV.cell,ea,eo,ep,dt,fe,ck,cr,am,Nat.reduceAdd,Nat.reduceSub,Nat.reduceMul,br,cm,bg,bh,bw,cg,ay,cj,dy,db,fg,cz,dj,dp,fh,eq,ew,fi,fj,ba,bl,dn,if_true,if_false,bx,and_self,true_and,and_true,Nat.reduceLeDiff,Nat.reduceLT,ah,Nat.reduceEqDiff,ite_true,ite_false,dw,beq_true,beq_false,dq,eu,fk,fo,mD,gC,TB,GC,RC,qC,zC,FB,KC,DC,IC,nD,zB,IH,nH,DH,HH,EE,ME,CE,LE,geI,gtI,AE,decide_true,decide_false,room,ai,aa,bu,bs,ia,ib,-MB,-UA,-KB,-jA,-UB,-qA]
end

theorem FO {W:World} {F:Nat→Prop} {b:Nat} {T:TypeId} {cells:Array Value} {row:List IV} (h:JA W b T cells) (hF:F b) (hr:∀(j:Nat) (a:IV),row[j]? = some a→∃v,cells[j]? = some v∧RepI W F a v) :
  RepI W F (.iptr row 0) (.pointer (some ⟨b,0,none⟩)):=by
 refine .iptr row 0 b 0 (fun j=>(cells[j]?).getD undef) hF (fun j a hj=>?_) (fun j a hj=>?_)
 ·obtain⟨v,h1,_⟩:=hr j a hj
  rw[br,h1]
  exact h.cell h1
 ·obtain⟨v,h1,h2⟩:=hr j a hj
  rw[h1];exact h2
theorem ZF8 {W:World} {F:Nat→Prop} {L:LMap} {e:List AV} {vs:Array Value} (h:bA W F L e vs.toList):PC W F L e {tmps:=vs,defers:=[]}:=
 ⟨rfl,by have:=h.1;simpa using this.symm,fun i x v hx hv=>h.2 i x v hx (by simpa using hv)⟩
def SZ (t:Tr) (j:Nat):Int:=match j % 4 with
 |0=>(VA t (ids t) 2 (j / 4:Nat)).1
 |1=>(VA t (ids t) 2 (j / 4:Nat)).2
 |2=>(VA t (ids t) 3 (j / 4:Nat)).1
 |_=>(VA t (ids t) 3 (j / 4:Nat)).2
def zG (t:Tr):List IV:=(List.range 800).map fun j=>.int .i64 (SZ t j)
theorem pK (t:Tr):(zG t).length=800:=by simp[zG]
theorem mK {t:Tr} {j:Nat} (h:j<800):(zG t)[j]? = some (.int .i64 (SZ t j)):=by simp[zG,h]
theorem VQ {t:Tr} {m:Nat} (h:m<200):((zG t).drop (m*4)).take 2=[.int .i64 ((VA t (ids t) 2 m).1:Int),.int .i64 ((VA t (ids t) 2 m).2:Int)]:=by
 have h0:SZ t (m*4)=(VA t (ids t) 2 m).1:=by
  unfold SZ;rw[show m*4 % 4=0 by omega,show m*4 / 4=m by omega];rfl
 have h1:SZ t (m*4+1)=(VA t (ids t) 2 m).2:=by
  unfold SZ;rw[show (m*4+1) % 4=1 by omega,show (m*4+1) / 4=m by omega];rfl
 apply ek
 intro i
 match i with
 |0=>rw[cw,if_pos oM,dl,mK oM,cm,h0];rfl
 |1=>rw[cw,if_pos oM,dl,mK oM,h1];rfl
 |i+2=>rw[cw,if_neg oM];rfl
theorem XS {t:Tr} {W:World} {F:Nat→Prop} {b:Nat} {T:TypeId} {ls:Array Value} (h:JA W b T ls) (hA:ON t (ids t) ls) (hF:F b):RepI W F (.iptr (zG t) 0) (.pointer (some ⟨b,0,none⟩)):=by
 refine FO h hF (fun j a hj=>?_)
 have hj8:j<800:=by have:=(aj.1 hj).1;rwa [pK]at this
 rw[mK hj8]at hj
 cases hj
 obtain⟨g0,g1,g2,g3⟩:=hA.2 (j / 4) oM
 refine⟨_,?_,.int _ _⟩
 unfold SZ
 have hc:j % 4=0∨j % 4=1∨j % 4=2∨j % 4=3:=by omega
 rcases hc with hc|hc|hc|hc
 ·rw[hc];rw[show j=j / 4*4 by omega];rw[show j / 4*4 / 4=j / 4 by omega];exact g0
 ·rw[hc];rw[show j=j / 4*4+1 by omega];rw[show (j / 4*4+1) / 4=j / 4 by omega];exact g1
 ·rw[hc];rw[show j=j / 4*4+2 by omega];rw[show (j / 4*4+2) / 4=j / 4 by omega];exact g2
 ·rw[hc];rw[show j=j / 4*4+3 by omega];rw[show (j / 4*4+3) / 4=j / 4 by omega];exact g3

theorem KR {F:Nat→Prop} {W:World} (hF:∀b,F b→b<W.heap.size) (hG:ZAo W F:=by intro _ _ h;cases h):Sim F (fun _ _=>none) ([]++[]) W:=
 ⟨fun i v z els hi=>by simp at hi,fun i v q hq=>(by cases hq),fun i i' v v' z z' e1 e2 bb q q' h1=>by simp at h1,fun b hb=>⟨hF b hb,by rintro⟨i,v,s,e1,q,h1,h2,h3⟩;cases h2⟩,hG⟩
theorem fL {nb:Nat} {F F':Nat→Prop} {L':LMap} {h':List Row} {W W':World} (st:Step nb F (fun _ _=>none) ([]++[]) W F' L' h' W'):Ext W W':=
 ⟨st.os,st.tape,st.output,st.size,fun k hk=>st.block k hk (by rintro⟨i,v,s,e1,q,h1,h2,h3⟩;cases h2)⟩
def L2 (b4 b5:Nat):LMap:=fun id ver=>if id=0∧ver=0 then some (.pl b4 0 1 1) else if id=1∧ver=0 then some (.pl b5 0 1 1) else none
theorem l2_inv {b4 b5 id ver:Nat} {q:Loc} (h:L2 b4 b5 id ver=some q):(id=0∧ver=0∧q=.pl b4 0 1 1)∨(id=1∧ver=0∧q=.pl b5 0 1 1):=by
 unfold L2 at h
 split at h
 ·rename_i hc;cases h;exact .inl ⟨hc.1,hc.2,rfl⟩
 ·split at h
  ·rename_i hc;cases h;exact .inr ⟨hc.1,hc.2,rfl⟩
  ·cases h
theorem ZEf {F:Nat→Prop} {W:World} {b4 b5:Nat} {T4 T5:TypeId} {a4 a5:AV} {v4 v5:Value} (h4:JA W b4 T4 #[v4]) (h5:JA W b5 T5 #[v5]) (YH:b4≠b5) (c4:a4.cell=true) (c5:a5.cell=true)
  (r4:RepA W F (L2 b4 b5) a4 v4) (r5:RepA W F (L2 b4 b5) a5 v5) (hF:∀b,F b→b<W.heap.size∧b≠b4∧b≠b5) (hG:ZAo W F:=by intro _ _ h;cases h) :
  Sim F (L2 b4 b5) ([.live 0 1 [[a4]],.live 0 1 [[a5]]]++[]) W:=by
 refine⟨fun i v z els hi=>?_,fun i v q hq=>?_,fun i i' v v' z z' e1 e2 bb q q' h1 h2 h3 h6 o1 o2=>?_,fun b hb=>⟨(hF b hb).1,?_⟩,hG⟩
 ·match i with
  |0 =>
    simp at hi
    obtain⟨rfl,rfl,rfl⟩:=hi
    refine⟨.pl b4 0 1 1,rfl,rfl,by simp,by simp[maxLen],#[v4],T4,h4,by simp,fun k row hk=>?_,fun k row j a hk hj=>?_⟩
    ·cases k with
     |zero=>simp at hk;subst hk;rfl
     |succ k=>simp at hk
    ·cases k with
     |zero =>
       simp at hk;subst hk
       cases j with
       |zero=>simp at hj;subst hj;exact⟨c4,v4,rfl,r4⟩
       |succ j=>simp at hj
     |succ k=>simp at hk
  |1 =>
    simp at hi
    obtain⟨rfl,rfl,rfl⟩:=hi
    refine⟨.pl b5 0 1 1,rfl,rfl,by simp,by simp[maxLen],#[v5],T5,h5,by simp,fun k row hk=>?_,fun k row j a hk hj=>?_⟩
    ·cases k with
     |zero=>simp at hk;subst hk;rfl
     |succ k=>simp at hk
    ·cases k with
     |zero =>
       simp at hk;subst hk
       cases j with
       |zero=>simp at hj;subst hj;exact⟨c5,v5,rfl,r5⟩
       |succ j=>simp at hj
     |succ k=>simp at hk
  |i+2=>simp at hi
 ·rcases l2_inv hq with ⟨rfl,rfl,_⟩|⟨rfl,rfl,_⟩
  ·exact⟨_,rfl,an _⟩
  ·exact⟨_,rfl,an _⟩
 ·rcases l2_inv h3 with ⟨rfl,_,h⟩|⟨rfl,_,h⟩<;>rcases l2_inv h6 with ⟨rfl,_,h'⟩|⟨rfl,_,h'⟩
  ·rfl
  ·subst h;subst h'
   have e1:b4=bb:=o1
   have e2:b5=bb:=o2
   exact absurd (e1.trans e2.symm) YH
  ·subst h;subst h'
   have e1:b5=bb:=o1
   have e2:b4=bb:=o2
   exact absurd (e2.trans e1.symm) YH
  ·rfl
 ·rintro⟨i,v,s,e1,q,h1,h2,h3⟩
  rcases l2_inv h2 with ⟨_,_,h⟩|⟨_,_,h⟩
  ·subst h
   have e:b4=b:=h3
   exact (hF _ hb).2.1 e.symm
  ·subst h
   have e:b5=b:=h3
   exact (hF _ hb).2.2 e.symm
theorem J9 {b4 b5 b:Nat} {h:List Row} (ho:gD (L2 b4 b5) h b):b=b4∨b=b5:=by
 obtain⟨i,v,s,e1,q,h1,h2,h3⟩:=ho
 rcases l2_inv h2 with ⟨_,_,h⟩|⟨_,_,h⟩
 ·subst h
  have e:b4=b:=h3
  exact .inl e.symm
 ·subst h
  have e:b5=b:=h3
  exact .inr e.symm


def a_cloneAsg:AFunc:=({c:=_}:CF Tryz.prog 80).c
theorem IT:CA Tryz.prog 80=some a_cloneAsg:=by kernel_rfl
def a_cloneVar:AFunc:=({c:=_}:CF Tryz.prog 79).c
theorem GT:CA Tryz.prog 79=some a_cloneVar:=by kernel_rfl
theorem aT (rows:List (List IV)) (b l:List Row) (ht:rows.length≤1000000):ZA Tryz.prog 80 [.v (.isl 2 rows)] b l (fun r b' l'=>r=.v (.isl 2 rows)∧b'=b∧l'=l):=by
 refine YJ IT rfl ?_
 intro B hB hR _
 simp only[a_cloneAsg,↓xB,↓tA,↓iB,↓rB,↓EB,↓SA,↓uB,↓CB,↓dB,↓UC,↓gA,↓RA,↓wB,↓yA,↓DA,↓yB,↓dA,↓FA,↓lB,↓nA,↓xA,↓sB,↓TA,↓MA,↓lA,↓LA,↓fA,↓vB,↓aA,↓AB,↓tB,↓OB,↓ZC,↓LC,↓VC,↓FC,↓EC,pA,uA,QD,eA,iA,MC,YC,XC,QC,eD,bD,jC,vC,rD,fD,nG,pG,JC,nB,pB,mB,MB,UA,KB,jA,UB,qA,mA,aop,sD,pC,rC,SB,sC,DB,tC,YG,YE,LD,amm,tD,IB,QB,SD,dC,ED,comma,nC,XE,QG,QE,ZE,SF,DD,GD,eC,RF,eqC,eqF,DE,cellsOf,JB,yD,KD,ID,dF,rd,rdI,wD,mk,iC,AV.cell,ea,eo,ep,dt,fe,ck,cr,am,Nat.reduceAdd,Nat.reduceSub,Nat.reduceMul,br,cm,bg,bh,bw,cg,ay,cj,dy,db,fg,cz,dj,dp,fh,eq,ew,fi,fj,ba,bl,dn,if_true,if_false,bx,and_self,true_and,and_true,Nat.reduceLeDiff,Nat.reduceLT,ah,Nat.reduceEqDiff,ite_true,ite_false,dw,beq_true,beq_false,dq,eu,fk,fo]
 refine⟨fun h=>PU (.inr rfl) 2 rfl hR hB ⟨by rw[md.1 h],rfl,rfl⟩,?_⟩
 rw[if_pos (by simp only[aa,room];omega)]
 simp only[↓xB,↓tA,↓iB,↓rB,↓EB,↓SA,↓uB,↓CB,↓dB,↓UC,↓gA,↓RA,↓wB,↓yA,↓DA,↓yB,↓dA,↓FA,↓lB,↓nA,↓xA,↓sB,↓TA,↓MA,↓lA,↓LA,↓fA,↓vB,↓aA,↓AB,↓tB,↓OB,↓ZC,↓LC,↓VC,↓FC,↓EC,pA,uA,QD,eA,iA,MC,YC,XC,QC,eD,bD,jC,vC,rD,fD,nG,pG,JC,nB,pB,mB,MB,UA,KB,jA,UB,qA,mA,aop,sD,pC,rC,SB,sC,DB,tC,YG,YE,LD,amm,tD,IB,QB,SD,dC,ED,comma,nC,XE,QG,QE,ZE,SF,DD,GD,eC,RF,eqC,eqF,DE,cellsOf,JB,yD,KD,ID,dF,rd,rdI,wD,mk,iC,AV.cell,ea,eo,ep,dt,fe,ck,cr,am,Nat.reduceAdd,Nat.reduceSub,Nat.reduceMul,br,cm,bg,bh,bw,cg,ay,cj,dy,db,fg,cz,dj,dp,fh,eq,ew,fi,fj,ba,bl,dn,if_true,if_false,bx,and_self,true_and,and_true,Nat.reduceLeDiff,Nat.reduceLT,ah,Nat.reduceEqDiff,ite_true,ite_false,dw,beq_true,beq_false,dq,eu,fk,fo]
 exact nM (i:=0) (.inr rfl) rfl rfl kS hR hB ⟨rfl,rfl,rfl⟩
theorem fT (rows:List (List IV)) (b l:List Row) (ht:rows.length≤1000000):ZA Tryz.prog 79 [.v (.isl 2 rows)] b l (fun r b' l'=>r=.v (.isl 2 rows)∧b'=b∧l'=l):=by
 refine YJ GT rfl ?_
 intro B hB hR _
 simp only[a_cloneVar,↓xB,↓tA,↓iB,↓rB,↓EB,↓SA,↓uB,↓CB,↓dB,↓UC,↓gA,↓RA,↓wB,↓yA,↓DA,↓yB,↓dA,↓FA,↓lB,↓nA,↓xA,↓sB,↓TA,↓MA,↓lA,↓LA,↓fA,↓vB,↓aA,↓AB,↓tB,↓OB,↓ZC,↓LC,↓VC,↓FC,↓EC,pA,uA,QD,eA,iA,MC,YC,XC,QC,eD,bD,jC,vC,rD,fD,nG,pG,JC,nB,pB,mB,MB,UA,KB,jA,UB,qA,mA,aop,sD,pC,rC,SB,sC,DB,tC,YG,YE,LD,amm,tD,IB,QB,SD,dC,ED,comma,nC,XE,QG,QE,ZE,SF,DD,GD,eC,RF,eqC,eqF,DE,cellsOf,JB,yD,KD,ID,dF,rd,rdI,wD,mk,iC,AV.cell,ea,eo,ep,dt,fe,ck,cr,am,Nat.reduceAdd,Nat.reduceSub,Nat.reduceMul,br,cm,bg,bh,bw,cg,ay,cj,dy,db,fg,cz,dj,dp,fh,eq,ew,fi,fj,ba,bl,dn,if_true,if_false,bx,and_self,true_and,and_true,Nat.reduceLeDiff,Nat.reduceLT,ah,Nat.reduceEqDiff,ite_true,ite_false,dw,beq_true,beq_false,dq,eu,fk,fo]
 refine⟨fun h=>PU (.inr rfl) 2 rfl hR hB ⟨by rw[md.1 h],rfl,rfl⟩,?_⟩
 rw[if_pos (by simp only[aa,room];omega)]
 simp only[↓xB,↓tA,↓iB,↓rB,↓EB,↓SA,↓uB,↓CB,↓dB,↓UC,↓gA,↓RA,↓wB,↓yA,↓DA,↓yB,↓dA,↓FA,↓lB,↓nA,↓xA,↓sB,↓TA,↓MA,↓lA,↓LA,↓fA,↓vB,↓aA,↓AB,↓tB,↓OB,↓ZC,↓LC,↓VC,↓FC,↓EC,pA,uA,QD,eA,iA,MC,YC,XC,QC,eD,bD,jC,vC,rD,fD,nG,pG,JC,nB,pB,mB,MB,UA,KB,jA,UB,qA,mA,aop,sD,pC,rC,SB,sC,DB,tC,YG,YE,LD,amm,tD,IB,QB,SD,dC,ED,comma,nC,XE,QG,QE,ZE,SF,DD,GD,eC,RF,eqC,eqF,DE,cellsOf,JB,yD,KD,ID,dF,rd,rdI,wD,mk,iC,AV.cell,ea,eo,ep,dt,fe,ck,cr,am,Nat.reduceAdd,Nat.reduceSub,Nat.reduceMul,br,cm,bg,bh,bw,cg,ay,cj,dy,db,fg,cz,dj,dp,fh,eq,ew,fi,fj,ba,bl,dn,if_true,if_false,bx,and_self,true_and,and_true,Nat.reduceLeDiff,Nat.reduceLT,ah,Nat.reduceEqDiff,ite_true,ite_false,dw,beq_true,beq_false,dq,eu,fk,fo]
 exact nM (i:=0) (.inr rfl) rfl rfl kS hR hB ⟨rfl,rfl,rfl⟩
def a_first:AFunc:=({c:=_}:CF Tryz.prog 56).c
theorem F4:CA Tryz.prog 56=some a_first:=by kernel_rfl

theorem KA.roundFrz {e e':List AV} {b l l1:List Row} {i ver sz:Nat} {rows:List (List IV)} (hf:Fgt e e') (hi:l[i]? = some (.live ver sz (vs rows))) (he0:e'.map (frz (b.length+i) ver sz rows)=e')
  (hl:List.take l1.length ((l.set i (.dead ver)).map (qF (QF (b.length+i) ver sz rows)))=l1) (he:∀x∈e',AVlt (b.length+l1.length) x) (hb:YB b.length b) (h1:YB (b.length+l1.length) l1):KA e b l e' b l1:=by
 have hz:=KA.freezeAll (e:=e') (b:=b) hi
 rw[he0]at hz
 refine (KA.forget hf).trans (hz.trans (KA.trim (junk:=List.drop l1.length ((l.set i (.dead ver)).map (qF (QF (b.length+i) ver sz rows)))) ?_ he (hb.mono oM) h1))
 have:=gq l1.length ((l.set i (.dead ver)).map (qF (QF (b.length+i) ver sz rows)))
 rw[hl]at this
 exact this.symm
theorem ZGy {id ver sz:Nat} {rows r:List (List IV)}:(vs r).map (List.map (QF id ver sz rows))=vs r:=by
 simp[vs,QF,Function.comp_def]
theorem O1 {rs:List ARes} {Q:AV→List Row→List Row→Prop} {B e l:_} {ex:AExit} (hex:ex=.normal∨ex=.ret) {i ver sz n:Nat} {rows:List (List IV)} (hx:resVs e B l rs=some [.agg [.sl (B.length+i) ver 0 n]]) (hi:l[i]? = some (.live ver sz (vs rows))) (hn:n=rows.length)
  (hR:YB B.length B) {b0 l0:List Row} (hB:B=b0++l0) (hq:Q (.agg [.v (.isl sz rows)]) b0 l0):KH rs Q b0.length ex e B l:=by
 refine IP hex hx (y:=.agg [.v (.isl sz rows)]) ((KA.freeze (i:=i) (rows:=rows) hi).trans ?_) (l':=[]) hB (by simpa using hq)
 have h1:List.map (frz (B.length+i) ver sz rows) [one [.agg [AV.sl (B.length+i) ver 0 n]]]=[.agg [.v (.isl sz rows)]]:=by
  simp only[ba,bl,one,frz,iM hn]
 rw[h1]
 exact KA.trim (l1:=[]) rfl (by intro x hx;simp at hx;subst hx;exact .agg _ (by intro c hc;simp at hc;subst hc;exact .v _)) (by simpa using hR) wE

def cutP (p:Pr) (n:Int):Pr:=⟨p.name,p.vars,p.evs.take n.toNat⟩
def VH (t:Tr) (c:List Int):Tr:=List.zipWith cutP t c
structure CutOk (t:Tr) (c:List Int):Prop where
 len:c.length=t.length
 np:t.length≤1000000
 nv:∀x∈t,x.vars.length≤1000000
 ne:∀x∈t,x.evs.length≤1000000
 na:∀x∈t,∀e∈x.evs,e.asg.length≤1000000
 le:∀(k:Nat) (h:k<t.length) (h2:k<c.length),0≤c[k]∧c[k]≤t[k].evs.length
abbrev zTA (x:Tr):Row:=.live 0 1 [[.v (.isl 3 (x.map ePr))]]
theorem S2 (t:Tr) (c:List Int) (hC:CutOk t c) (b l:List Row):ZA Tryz.prog 56 [.agg [.v (eT t)],.v (.isl 1 (c.map eI))] b l (fun r b' l'=>r=.agg [.v (eT (VH t c))]∧b'=b∧l'=l):=by
 refine YJ F4 rfl ?_
 intro B hB hR _
 have hnp:=hC.np
 have jD:=hC.len
 have hfl:(VH t c).length=t.length:=by simp[VH];omega
 simp only[a_first,eT,↓xB,↓tA,↓iB,↓rB,↓EB,↓SA,↓uB,↓CB,↓dB,↓UC,↓gA,↓RA,↓wB,↓yA,↓DA,↓yB,↓dA,↓FA,↓lB,↓nA,↓xA,↓sB,↓TA,↓MA,↓lA,↓LA,↓fA,↓vB,↓aA,↓AB,↓tB,↓OB,↓ZC,↓LC,↓VC,↓FC,↓EC,pA,uA,QD,eA,iA,MC,YC,XC,QC,eD,bD,jC,vC,rD,fD,nG,pG,JC,nB,pB,mB,MB,UA,KB,jA,UB,qA,mA,aop,sD,pC,rC,SB,sC,DB,tC,YG,YE,LD,amm,tD,IB,QB,SD,dC,ED,comma,nC,XE,QG,QE,ZE,SF,DD,GD,eC,RF,eqC,eqF,DE,cellsOf,JB,yD,KD,ID,dF,rd,rdI,wD,mk,iC,AV.cell,ea,eo,ep,dt,fe,ck,cr,am,Nat.reduceAdd,Nat.reduceSub,Nat.reduceMul,br,cm,bg,bh,bw,cg,ay,cj,dy,db,fg,cz,dj,dp,fh,eq,ew,fi,fj,ba,bl,dn,if_true,if_false,bx,and_self,true_and,and_true,Nat.reduceLeDiff,Nat.reduceLT,ah,Nat.reduceEqDiff,ite_true,ite_false,dw,beq_true,beq_false,dq,eu,fk,fo]
 refine II (ι:=Nat×Nat)
  (fun i=>[.any,.v (.isl 1 (c.map eI)),.ptr B.length 0 0 0,.any,.ptr (B.length+1) 0 0 0,.ptr (B.length+2) 0 0 0,.any,.any,.any,.any,.any,.any,.v (.isl 3 (t.map ePr)),.v (.int .i64 t.length),.v (.int .i64 i.1)]++List.replicate 41 .any)
  (fun _=>B) (fun i=>[(zTA t),.live 0 1 [[.v .zsl]],.live 0 1 [[.sl (B.length+3) i.2 0 i.1]],.live i.2 3 (vs (((VH t c).take i.1).map ePr))])
  (fun i=>i.1≤t.length) (fun i=>t.length-i.1) (0,0) (an _) ?_ ?_
 ·refine KA.trans (KA.nilcell (i:=2) (k:=0) (j:=0) (sz:=3) rfl rfl rfl) ?_
  simp only[aa,↓xB,↓tA,↓iB,↓rB,↓EB,↓SA,↓uB,↓CB,↓dB,↓UC,↓gA,↓RA,↓wB,↓yA,↓DA,↓yB,↓dA,↓FA,↓lB,↓nA,↓xA,↓sB,↓TA,↓MA,↓lA,↓LA,↓fA,↓vB,↓aA,↓AB,↓tB,↓OB,↓ZC,↓LC,↓VC,↓FC,↓EC,pA,uA,QD,eA,iA,MC,YC,XC,QC,eD,bD,jC,vC,rD,fD,nG,pG,JC,nB,pB,mB,MB,UA,KB,jA,UB,qA,mA,aop,sD,pC,rC,SB,sC,DB,tC,YG,YE,LD,amm,tD,IB,QB,SD,dC,ED,comma,nC,XE,QG,QE,ZE,SF,DD,GD,eC,RF,eqC,eqF,DE,cellsOf,JB,yD,KD,ID,dF,rd,rdI,wD,mk,iC,AV.cell,ea,eo,ep,dt,fe,ck,cr,am,Nat.reduceAdd,Nat.reduceSub,Nat.reduceMul,br,cm,bg,bh,bw,cg,ay,cj,dy,db,fg,cz,dj,dp,fh,eq,ew,fi,fj,ba,bl,dn,if_true,if_false,bx,and_self,true_and,and_true,Nat.reduceLeDiff,Nat.reduceLT,ah,Nat.reduceEqDiff,ite_true,ite_false,dw,beq_true,beq_false,dq,eu,fk,fo]
  exact KA.forget (by simp[Fgt])
 ·rintro⟨k,v⟩ hk
  dsimp only at hk⊢
  simp only[bg,bh,bw,cg]
  by_cases bB:k<t.length
  ·have YH:=hC.ne t[k] (ap bB)
   have hnv:=hC.nv t[k] (ap bB)
   have hck:k<c.length:=by omega
   obtain⟨hc0,qL⟩:=hC.le k bB hck
   simp (disch:=omega) only[ePr,↓xB,↓tA,↓iB,↓rB,↓EB,↓SA,↓uB,↓CB,↓dB,↓UC,↓gA,↓RA,↓wB,↓yA,↓DA,↓yB,↓dA,↓FA,↓lB,↓nA,↓xA,↓sB,↓TA,↓MA,↓lA,↓LA,↓fA,↓vB,↓aA,↓AB,↓tB,↓OB,↓ZC,↓LC,↓VC,↓FC,↓EC,pA,uA,QD,eA,iA,MC,YC,XC,QC,eD,bD,jC,vC,rD,fD,nG,pG,JC,nB,pB,mB,MB,UA,KB,jA,UB,qA,mA,aop,sD,pC,rC,SB,sC,DB,tC,YG,YE,LD,amm,tD,IB,QB,SD,dC,ED,comma,nC,XE,QG,QE,ZE,SF,DD,GD,eC,RF,eqC,eqF,DE,cellsOf,JB,yD,KD,ID,dF,rd,rdI,wD,mk,iC,AV.cell,ea,eo,ep,dt,fe,ck,cr,am,Nat.reduceAdd,Nat.reduceSub,Nat.reduceMul,br,cm,bg,bh,bw,cg,ay,cj,dy,db,fg,cz,dj,dp,fh,eq,ew,fi,fj,ba,bl,dn,if_true,if_false,bx,and_self,true_and,and_true,Nat.reduceLeDiff,Nat.reduceLT,ah,Nat.reduceEqDiff,ite_true,ite_false,dw,beq_true,beq_false,dq,eu,fk,fo,mD,gC,TB,GC,RC,qC,zC,FB,KC,DC,IC,nD,zB,IH,nH,DH,HH,EE,ME,CE,LE,geI,gtI,AE,decide_true,decide_false,room,ai,aa,bu,bs,ia,ib]
   refine AC _ _ _ _ _ _ (fT (t[k].vars.map eVr) _ _ kT) ?_
   rintro r b' l' ⟨rfl,rfl,rfl⟩
   simp (disch:=omega) only[eI,↓xB,↓tA,↓iB,↓rB,↓EB,↓SA,↓uB,↓CB,↓dB,↓UC,↓gA,↓RA,↓wB,↓yA,↓DA,↓yB,↓dA,↓FA,↓lB,↓nA,↓xA,↓sB,↓TA,↓MA,↓lA,↓LA,↓fA,↓vB,↓aA,↓AB,↓tB,↓OB,↓ZC,↓LC,↓VC,↓FC,↓EC,pA,uA,QD,eA,iA,MC,YC,XC,QC,eD,bD,jC,vC,rD,fD,nG,pG,JC,nB,pB,mB,MB,UA,KB,jA,UB,qA,mA,aop,sD,pC,rC,SB,sC,DB,tC,YG,YE,LD,amm,tD,IB,QB,SD,dC,ED,comma,nC,XE,QG,QE,ZE,SF,DD,GD,eC,RF,eqC,eqF,DE,cellsOf,JB,yD,KD,ID,dF,rd,rdI,wD,mk,iC,AV.cell,ea,eo,ep,dt,fe,ck,cr,am,Nat.reduceAdd,Nat.reduceSub,Nat.reduceMul,br,cm,bg,bh,bw,cg,ay,cj,dy,db,fg,cz,dj,dp,fh,eq,ew,fi,fj,ba,bl,dn,if_true,if_false,bx,and_self,true_and,and_true,Nat.reduceLeDiff,Nat.reduceLT,ah,Nat.reduceEqDiff,ite_true,ite_false,dw,beq_true,beq_false,dq,eu,fk,fo,mD,gC,TB,GC,RC,qC,zC,FB,KC,DC,IC,nD,zB,IH,nH,DH,HH,EE,ME,CE,LE,geI,gtI,AE,decide_true,decide_false,room,ai,aa,bu,bs,ia,ib]
   obtain⟨ys,hys⟩:∃ys,t[k].evs.take c[k].toNat=ys:=⟨_,rfl⟩
   have hyl:c[k].toNat=ys.length:=by rw[←hys];simp;omega
   have hy1:ys.length≤1000000:=by omega
   have hya:∀e∈ys,e.asg.length≤1000000:=fun e he=>hC.na t[k] (ap bB) e (dr (hys▸he))
   rw[←gx,hys,hyl]
   refine II (ι:=Nat×Nat)
    (fun i=>[.any,.v (.isl 1 (c.map eI)),.ptr b'.length 0 0 0,.any,.ptr (b'.length+1) 0 0 0,.ptr (b'.length+2) 0 0 0,.any,.any,.ptr (b'.length+5) 0 0 0,.any,.any,.any,.v (.isl 3 (t.map ePr)),.v (.int .i64 t.length),.v (.int .i64 k)]++(List.replicate 16 .any++([.v (.isl 5 (ys.map eEv)),.v (.int .i64 ys.length),.v (.int .i64 i.1)]++List.replicate 22 .any)))
    (fun _=>b') (fun i=>[(zTA t),.live 0 1 [[.v .zsl]],.live 0 1 [[.sl (b'.length+3) v 0 k]],.live v 3 (vs (((VH t c).take k).map ePr)),
     .live 0 3 [[.v (.str t[k].name),.v (.isl 2 (t[k].vars.map eVr)),.v (.isl 5 (t[k].evs.map eEv))]],.live 0 3 [[.v (.str t[k].name),.v (.isl 2 (t[k].vars.map eVr)),.sl (b'.length+6) i.2 0 i.1]],.live i.2 5 (vs ((ys.take i.1).map eEv))])
    (fun i=>i.1≤ys.length) (fun i=>ys.length-i.1) (0,0) (an _) ?_ ?_
   ·refine KA.trans (KA.nilcell (i:=5) (k:=0) (j:=2) (sz:=5) rfl rfl rfl) ?_
    simp only[aa,↓xB,↓tA,↓iB,↓rB,↓EB,↓SA,↓uB,↓CB,↓dB,↓UC,↓gA,↓RA,↓wB,↓yA,↓DA,↓yB,↓dA,↓FA,↓lB,↓nA,↓xA,↓sB,↓TA,↓MA,↓lA,↓LA,↓fA,↓vB,↓aA,↓AB,↓tB,↓OB,↓ZC,↓LC,↓VC,↓FC,↓EC,pA,uA,QD,eA,iA,MC,YC,XC,QC,eD,bD,jC,vC,rD,fD,nG,pG,JC,nB,pB,mB,MB,UA,KB,jA,UB,qA,mA,aop,sD,pC,rC,SB,sC,DB,tC,YG,YE,LD,amm,tD,IB,QB,SD,dC,ED,comma,nC,XE,QG,QE,ZE,SF,DD,GD,eC,RF,eqC,eqF,DE,cellsOf,JB,yD,KD,ID,dF,rd,rdI,wD,mk,iC,AV.cell,ea,eo,ep,dt,fe,ck,cr,am,Nat.reduceAdd,Nat.reduceSub,Nat.reduceMul,br,cm,bg,bh,bw,cg,ay,cj,dy,db,fg,cz,dj,dp,fh,eq,ew,fi,fj,ba,bl,dn,if_true,if_false,bx,and_self,true_and,and_true,Nat.reduceLeDiff,Nat.reduceLT,ah,Nat.reduceEqDiff,ite_true,ite_false,dw,beq_true,beq_false,dq,eu,fk,fo]
    exact KA.forget (by simp[Fgt])
   ·rintro⟨j,u⟩ hj
    dsimp only at hj⊢
    simp only[bg,bh,bw,cg]
    by_cases hjt:j<ys.length
    ·have hja:=hya ys[j] (ap hjt)
     have vJ:min j ys.length=j:=by omega
     simp (disch:=omega) only[vJ,eEv,↓xB,↓tA,↓iB,↓rB,↓EB,↓SA,↓uB,↓CB,↓dB,↓UC,↓gA,↓RA,↓wB,↓yA,↓DA,↓yB,↓dA,↓FA,↓lB,↓nA,↓xA,↓sB,↓TA,↓MA,↓lA,↓LA,↓fA,↓vB,↓aA,↓AB,↓tB,↓OB,↓ZC,↓LC,↓VC,↓FC,↓EC,pA,uA,QD,eA,iA,MC,YC,XC,QC,eD,bD,jC,vC,rD,fD,nG,pG,JC,nB,pB,mB,MB,UA,KB,jA,UB,qA,mA,aop,sD,pC,rC,SB,sC,DB,tC,YG,YE,LD,amm,tD,IB,QB,SD,dC,ED,comma,nC,XE,QG,QE,ZE,SF,DD,GD,eC,RF,eqC,eqF,DE,cellsOf,JB,yD,KD,ID,dF,rd,rdI,wD,mk,iC,AV.cell,ea,eo,ep,dt,fe,ck,cr,am,Nat.reduceAdd,Nat.reduceSub,Nat.reduceMul,br,cm,bg,bh,bw,cg,ay,cj,dy,db,fg,cz,dj,dp,fh,eq,ew,fi,fj,ba,bl,dn,if_true,if_false,bx,and_self,true_and,and_true,Nat.reduceLeDiff,Nat.reduceLT,ah,Nat.reduceEqDiff,ite_true,ite_false,dw,beq_true,beq_false,dq,eu,fk,fo,mD,gC,TB,GC,RC,qC,zC,FB,KC,DC,IC,nD,zB,IH,nH,DH,HH,EE,ME,CE,LE,geI,gtI,AE,decide_true,decide_false,room,ai,aa,bu,bs,ia,ib]
     refine AC _ _ _ _ _ _ (aT (ys[j].asg.map YN) _ _ kT) ?_
     rintro r b' l' ⟨rfl,rfl,rfl⟩
     simp (disch:=omega) only[vJ,↓xB,↓tA,↓iB,↓rB,↓EB,↓SA,↓uB,↓CB,↓dB,↓UC,↓gA,↓RA,↓wB,↓yA,↓DA,↓yB,↓dA,↓FA,↓lB,↓nA,↓xA,↓sB,↓TA,↓MA,↓lA,↓LA,↓fA,↓vB,↓aA,↓AB,↓tB,↓OB,↓ZC,↓LC,↓VC,↓FC,↓EC,pA,uA,QD,eA,iA,MC,YC,XC,QC,eD,bD,jC,vC,rD,fD,nG,pG,JC,nB,pB,mB,MB,UA,KB,jA,UB,qA,mA,aop,sD,pC,rC,SB,sC,DB,tC,YG,YE,LD,amm,tD,IB,QB,SD,dC,ED,comma,nC,XE,QG,QE,ZE,SF,DD,GD,eC,RF,eqC,eqF,DE,cellsOf,JB,yD,KD,ID,dF,rd,rdI,wD,mk,iC,AV.cell,ea,eo,ep,dt,fe,ck,cr,am,Nat.reduceAdd,Nat.reduceSub,Nat.reduceMul,br,cm,bg,bh,bw,cg,ay,cj,dy,db,fg,cz,dj,dp,fh,eq,ew,fi,fj,ba,bl,dn,if_true,if_false,bx,and_self,true_and,and_true,Nat.reduceLeDiff,Nat.reduceLT,ah,Nat.reduceEqDiff,ite_true,ite_false,dw,beq_true,beq_false,dq,eu,fk,fo,mD,gC,TB,GC,RC,qC,zC,FB,KC,DC,IC,nD,zB,IH,nH,DH,HH,EE,ME,CE,LE,geI,gtI,AE,decide_true,decide_false,room,ai,aa,bu,bs,ia,ib]
     refine⟨(j+1,u+1),hjt,by simp only;omega,?_⟩
     have y6:List.take j (List.map eEv (List.take j ys))=(ys.take j).map eEv:=cv kT
     have hr3:=rP (f:=eEv) hjt
     simp only[eEv]at hr3
     rw[y6]
     simp only[eEv]
     rw[hr3]
     exact KA.round (by simp[Fgt]) rfl kL hR kL
    ·simp (disch:=omega) only[↓xB,↓tA,↓iB,↓rB,↓EB,↓SA,↓uB,↓CB,↓dB,↓UC,↓gA,↓RA,↓wB,↓yA,↓DA,↓yB,↓dA,↓FA,↓lB,↓nA,↓xA,↓sB,↓TA,↓MA,↓lA,↓LA,↓fA,↓vB,↓aA,↓AB,↓tB,↓OB,↓ZC,↓LC,↓VC,↓FC,↓EC,pA,uA,QD,eA,iA,MC,YC,XC,QC,eD,bD,jC,vC,rD,fD,nG,pG,JC,nB,pB,mB,MB,UA,KB,jA,UB,qA,mA,aop,sD,pC,rC,SB,sC,DB,tC,YG,YE,LD,amm,tD,IB,QB,SD,dC,ED,comma,nC,XE,QG,QE,ZE,SF,DD,GD,eC,RF,eqC,eqF,DE,cellsOf,JB,yD,KD,ID,dF,rd,rdI,wD,mk,iC,AV.cell,ea,eo,ep,dt,fe,ck,cr,am,Nat.reduceAdd,Nat.reduceSub,Nat.reduceMul,br,cm,bg,bh,bw,cg,ay,cj,dy,db,fg,cz,dj,dp,fh,eq,ew,fi,fj,ba,bl,dn,if_true,if_false,bx,and_self,true_and,and_true,Nat.reduceLeDiff,Nat.reduceLT,ah,Nat.reduceEqDiff,ite_true,ite_false,dw,beq_true,beq_false,dq,eu,fk,fo,mD,gC,TB,GC,RC,qC,zC,FB,KC,DC,IC,nD,zB,IH,nH,DH,HH,EE,ME,CE,LE,geI,gtI,AE,decide_true,decide_false,room,ai,aa,bu,bs,ia,ib]
     obtain rfl:j=ys.length:=by omega
     have hF:(VH t c)[k]=⟨t[k].name,t[k].vars,ys⟩:=by simp[VH,cutP,hys]
     have y6:List.take k (List.map ePr (List.take k (VH t c)))=((VH t c).take k).map ePr:=cv kT
     have hr3:=rP (f:=ePr) (l:=VH t c) (k:=k) oM
     rw[hF]at hr3
     simp only[ePr]at hr3
     refine⟨(k+1,v+1),bB,by simp only;omega,?_⟩
     rw[y6,cv (ah ys.length)]
     refine KA.roundFrz (i:=6) (ver:=u) (sz:=5) (rows:=ys.map eEv) (by simp[Fgt]) rfl (by simp[frz,QF]) ?_ kL hR kL
     simp only[dj,cz,ba,bl,qF,ci,ZGy,ck,cr,Nat.reduceAdd,ew,eq]
     have hh:QF (b'.length+6) u 5 (ys.map eEv) (.sl (b'.length+6) u 0 ys.length)=.v (.isl 5 (ys.map eEv)):=iM kS
     have hn3:QF (b'.length+6) u 5 (ys.map eEv) (.sl (b'.length+3) (v+1) 0 (k+1))=.sl (b'.length+3) (v+1) 0 (k+1):=by simp[QF]
     rw[hh,hn3]
     simp only[QF,FB,hr3]
  ·simp (disch:=omega) only[↓xB,↓tA,↓iB,↓rB,↓EB,↓SA,↓uB,↓CB,↓dB,↓UC,↓gA,↓RA,↓wB,↓yA,↓DA,↓yB,↓dA,↓FA,↓lB,↓nA,↓xA,↓sB,↓TA,↓MA,↓lA,↓LA,↓fA,↓vB,↓aA,↓AB,↓tB,↓OB,↓ZC,↓LC,↓VC,↓FC,↓EC,pA,uA,QD,eA,iA,MC,YC,XC,QC,eD,bD,jC,vC,rD,fD,nG,pG,JC,nB,pB,mB,MB,UA,KB,jA,UB,qA,mA,aop,sD,pC,rC,SB,sC,DB,tC,YG,YE,LD,amm,tD,IB,QB,SD,dC,ED,comma,nC,XE,QG,QE,ZE,SF,DD,GD,eC,RF,eqC,eqF,DE,cellsOf,JB,yD,KD,ID,dF,rd,rdI,wD,mk,iC,AV.cell,ea,eo,ep,dt,fe,ck,cr,am,Nat.reduceAdd,Nat.reduceSub,Nat.reduceMul,br,cm,bg,bh,bw,cg,ay,cj,dy,db,fg,cz,dj,dp,fh,eq,ew,fi,fj,ba,bl,dn,if_true,if_false,bx,and_self,true_and,and_true,Nat.reduceLeDiff,Nat.reduceLT,ah,Nat.reduceEqDiff,ite_true,ite_false,dw,beq_true,beq_false,dq,eu,fk,fo,mD,gC,TB,GC,RC,qC,zC,FB,KC,DC,IC,nD,zB,IH,nH,DH,HH,EE,ME,CE,LE,geI,gtI,AE,decide_true,decide_false,room,ai,aa,bu,bs,ia,ib]
   obtain rfl:k=t.length:=by omega
   refine O1 (i:=3) (n:=t.length) (.inr rfl) (by simp (disch:=omega) only[resVs,resV,↓xB,↓tA,↓iB,↓rB,↓EB,↓SA,↓uB,↓CB,↓dB,↓UC,↓gA,↓RA,↓wB,↓yA,↓DA,↓yB,↓dA,↓FA,↓lB,↓nA,↓xA,↓sB,↓TA,↓MA,↓lA,↓LA,↓fA,↓vB,↓aA,↓AB,↓tB,↓OB,↓ZC,↓LC,↓VC,↓FC,↓EC,pA,uA,QD,eA,iA,MC,YC,XC,QC,eD,bD,jC,vC,rD,fD,nG,pG,JC,nB,pB,mB,MB,UA,KB,jA,UB,qA,mA,aop,sD,pC,rC,SB,sC,DB,tC,YG,YE,LD,amm,tD,IB,QB,SD,dC,ED,comma,nC,XE,QG,QE,ZE,SF,DD,GD,eC,RF,eqC,eqF,DE,cellsOf,JB,yD,KD,ID,dF,rd,rdI,wD,mk,iC,AV.cell,ea,eo,ep,dt,fe,ck,cr,am,Nat.reduceAdd,Nat.reduceSub,Nat.reduceMul,br,cm,bg,bh,bw,cg,ay,cj,dy,db,fg,cz,dj,dp,fh,eq,ew,fi,fj,ba,bl,dn,if_true,if_false,bx,and_self,true_and,and_true,Nat.reduceLeDiff,Nat.reduceLT,ah,Nat.reduceEqDiff,ite_true,ite_false,dw,beq_true,beq_false,dq,eu,fk,fo,mD,gC,TB,GC,RC,qC,zC,FB,KC,DC,IC,nD,zB,IH,nH,DH,HH,EE,ME,CE,LE,geI,gtI,AE,decide_true,decide_false,room,ai,aa,bu,bs,ia,ib]) rfl (by simp[hfl]) hR hB ⟨?_,rfl,rfl⟩
   rw[cv oM]
end Go.Proofs.YtadnnjchehjbiaaGreatDoor
namespace Go.Proofs.YtadnnjchehjbiaaGreatDoor
open Go.RowKit
set_option linter.unusedVariables false
attribute [local go_sem] Oper.semAt_some

def RInt (w:World) (b o:Nat) (x:Int):Prop:=w.cell? ⟨b,o,none⟩=some (.int .i64 x)
theorem RInt.keeps:AT RInt:=fun _ _ _ _ _ he h=>he.cellAt h
def cAt (cs:List Int) (p:Nat):Int:=cs.getD p 0
def TM (t:Tr) (cs:List Int) (p:Nat):Bool:=inB (cAt cs p) 0 (sA t p).length
def kX (t:Tr) (cs:List Int) (x:Nat×Nat):Bool:=
 (rA t x).kind==3&&(!decide ((x.2:Int)>cAt cs x.1)&&decide (((VA t (ids t) 2 (rA t x).msg).2:Int)>cAt cs (VA t (ids t) 2 (rA t x).msg).1))
noncomputable def CH (t:Tr) (cs:List Int):Nat:=
 if pD t=false∨cs.length≠t.length then 1 else if (List.range cs.length).all (TM t cs)=false then 2 else if (ids t).any (kX t cs)=true then 18 else 0
def ZD2 (t:Tr) (cs:List Int) (F:Nat→Prop) (w:World) (e:Ending) (w':World):Prop:=Ext w w' ∧
 ∃v,e=.returned (.tuple #[v,.int .i64 (CH t cs)]) ∧
  ((CH t cs≠0∧∃s,v=.agg #[.slice s 0 0])∨(CH t cs=0∧∃F':Nat→Prop,(∀b,F b→F' b)∧(∀b,b<w.heap.size→F' b→F b)∧(∀b,F' b→b<w'.heap.size)∧RepA w' F' (fun _ _=>none) (.agg [.v (eT (VH t cs))]) v))

theorem O0 {w:World} {F:Nat→Prop} {L:LMap} {x:AV} {xs:List AV} {vs:List Value} (h:bA w F L (x::xs) vs):∃v us,vs=v::us∧RepA w F L x v∧bA w F L xs us:=by
 obtain⟨h1,h2⟩:=h
 cases vs with
 |nil=>simp at h1
 |cons v us=>exact⟨v,us,rfl,h2 0 x v rfl rfl,by simpa using h1,fun i a u ha hu=>h2 (i+1) a u ha hu⟩
theorem F8 {w:World} {F:Nat→Prop} {L:LMap} {vs:List Value} (h:bA w F L [] vs):vs=[]:=by
 have:=h.1
 exact cu (by simpa using this.symm)
structure ValidOk (t:Tr):Prop where
 lo:1≤t.length
 hi:t.length≤8
 head:∀p,p<t.length→gE t p=0
 form:∀x∈ids t,mE t x=0
 pair:∀x∈ids t,UF t x=0
 acyc:∀x∈ids t,¬Hb t x x
theorem lY {t:Tr} (h:pD t=true):ValidOk t:=by
 unfold pD DF at h
 split at h
 ·simp at h
 rename_i hl
 split at h
 ·rename_i p hp
  have:=gg hp
  simp at h this;exact absurd h this
 rename_i h1
 split at h
 ·rename_i p hp
  have:=gg hp
  simp at h this;exact absurd h this
 rename_i h2
 split at h
 ·rename_i p hp
  have:=gg hp
  simp at h this;exact absurd h this
 rename_i h3
 split at h
 ·simp at h
 rename_i h4
 rw[dg]at h1 h2 h3 h4
 refine⟨by omega,by omega,fun p hp=>?_,fun x hx=>?_,fun x hx=>?_,fun x hx=>?_⟩
 ·simpa using h1 p (bc.2 hp)
 ·simpa using h2 x hx
 ·simpa using h3 x hx
 ·simpa using h4 x hx
theorem rK {t:Tr} (h:pD t=true):∀x∈ids t,lC t.length x.1 (rA t x)=true:=fun x hx=>vH ((lY h).form x hx)
theorem ZQ {t:Tr} (h:pD t=true):(ids t).find? (fun x=>UF t x != 0)=none:=by
 rw[dg];intro x hx;simp[(lY h).pair x hx]

theorem F9 (t:Tr) (cs:List Int) (hC:CutOk t cs) (F:Nat→Prop) (w:World) (hF:∀b,F b→b<w.heap.size) {u uc:Value} (hu:RepI w F (eT t) u) (huc:RepI w F (.isl 1 (cs.map eI)) uc) :
  Calls Tryz.prog 56 #[.agg #[u],uc] w fun e w'=>∃v F1,e=.returned (.agg #[v])∧Ext w w'∧(∀b,F b→F1 b)∧(∀b,b<w.heap.size→F1 b→F b)∧(∀b,F1 b→b<w'.heap.size)∧RepA w' F1 (fun _ _=>none) (.agg [.v (eT (VH t cs))]) (.agg #[v])∧∃A n c,v=.slice A n c:=by
 refine Calls.mono ((S2 t cs hC [] []).2 F (fun _ _=>none) w _ (KR hF) (bA.cons (bA.agg (vs:=#[u]) (bA.cons (.v _ _ hu) bA.nil)) (bA.cons (.v _ _ huc) bA.nil))) ?_
 rintro en w' ⟨v,x,b',l',F',L',rfl,h2,h3,h4,h5,rfl,rfl,rfl⟩
 obtain⟨vs,rfl,hl⟩:=h2.aggL
 obtain⟨v,us,h6,h7,h8⟩:=O0 hl
 have:=F8 h8
 subst this
 have hvs:vs=#[v]:=gj.1 (by rw[h6])
 subst hvs
 refine⟨v,F',rfl,fL h4,h4.imm,fun b hb hf=>(h4.fnew b hb hf).elim id (fun ho=>?_),fun b hb=>(h3.imm b hb).1,h2.cut (m:=0) (.agg _ (by intro c hc;simp at hc;subst hc;exact .v _)) (fun _ _ h=>absurd h (gr _)),?_⟩
 case refine_2 =>
  obtain⟨A,c,hv,_⟩:=wI h7.vI
  exact⟨A,_,c,hv⟩
 obtain⟨i,v,s,e1,q,g1,g2,g3⟩:=ho
 cases g2
def PfI (t:Tr) (cs:List Int) (W0:World) (l:List (Nat×Nat)) (W:World):Prop:=Ext W0 W∧∀x∈l,kX t cs x=false
def lW (b:Nat) (p:Array Value→Prop) (W:World):Prop:=∃T c,JA W b T c∧p c
theorem zO {β:Type} (b n:Nat) (p:Array Value→Prop):OwnFrom n (fun (_:β) W=>lW b p W):=by
 rintro s X Y row ⟨T,c,h,hp⟩ hg RE
 exact⟨T,c,h.kept hg (fun e'=>by obtain⟨_,o,ho,hc⟩:=RE b e'.symm;rw[show X.heap[b]? = _ from h]at ho;cases ho;cases hc),hp⟩
def PfX (t:Tr) (cs:List Int) (w:World) (l:List (Nat×Nat)) (W:World):Prop:=
 (∃x,x∈l∧kX t cs x=true)∧lW (w.heap.size+1+1) (fun c=>∃s,c[0]? = some (.slice s 0 0)) W∧lW (w.heap.size+1+1+1) (fun c=>c[0]? = some (.int .i64 18)) W∧Ext w W
theorem RS (t:Tr) (cs:List Int) (W0:World) {n:Nat} (hn:W0.heap.size≤n):OwnFrom n (fun (pre:List (Idt t)) W=>PfI t cs W0 (pre.map (·.1)) W):=
 OwnFrom.and (dG hn) (ownFrom_pure _ _)
theorem ZBv (t:Tr) (cs:List Int) (w:World) {n:Nat} (hn:w.heap.size≤n):OwnFrom n (fun (pre:List (Idt t)) W=>PfX t cs w (pre.map (·.1)) W):=
 OwnFrom.and (ownFrom_pure _ _) (OwnFrom.and (zO _ _ _) (OwnFrom.and (zO _ _ _) (dG hn)))

theorem Z5 (u uc:Value) (t:Tr) (cs:List Int) (F:Nat→Prop) (w:World) (hS:Small t) (hc:cs.length≤1000000) (hN:Nm t) (hF:∀b,F b→b<w.heap.size) (hu:RepI w F (eT t) u) (huc:RepI w F (.isl 1 (cs.map eI)) uc) :
  Calls Tryz.prog 22 #[.agg #[u],uc] w fun e w'=>ZD2 t cs F w e w':=by
 have hs:SlR 3 RPr w u t:=ZGK hN hu
 have hsc:SlR 1 RInt w uc cs:=CI (fun b o x _ h=>RM (j:=0) h rfl) huc
 have HV:=zA (fun w' (he:Ext w w')=>callsIn_wide (n:=8).2 (aM u t w' hS.sm (hs.ext RPr.keeps he)))
 have HI:=zA (fun x lo hi w=>callsIn_wide (n:=8).2 (DJ x lo hi w))
 have HU:=zA hu
 have HUC:=zA huc
 refine callsIn_wide (n:=9).1 ?_
 refine callsIn_of_wp_marks Tryz.func22 rfl trivial ?_ rfl
 simp only[Tryz.ntmps22,eh,ck,cr,Nat.reduceAdd,Nat.reduceSub,ik,il,im,io,cg,bw]
 obtain⟨A,c,rfl,_,sM,_⟩:=hs.at_
 obtain⟨A2,c2,rfl,_,hcm2,_⟩:=hsc.at_
 gi_wp2_with fail
 refine⟨trivial,?_⟩
 have hx1:Ext w (((((w).alloc (.cells #[.slice A t.length c] 34)).alloc (.cells #[.slice A2 cs.length c2] 24)).alloc (.cells #[.slice none 0 0] 34)).alloc (.cells #[.int .i64 0] 50)):=((((Ext.refl w).alloc _).alloc _).alloc _).alloc _
 have bT:JA (((((w).alloc (.cells #[.slice A t.length c] 34)).alloc (.cells #[.slice A2 cs.length c2] 24)).alloc (.cells #[.slice none 0 0] 34)).alloc (.cells #[.int .i64 0] 50)) (w.heap.size) 34 #[.slice A t.length c]:=(((JA.new _ _ _).alloc _).alloc _).alloc _
 have bC:JA (((((w).alloc (.cells #[.slice A t.length c] 34)).alloc (.cells #[.slice A2 cs.length c2] 24)).alloc (.cells #[.slice none 0 0] 34)).alloc (.cells #[.int .i64 0] 50)) (w.heap.size+1) 24 #[.slice A2 cs.length c2]:=((JA.newAt _ _ kS).alloc _).alloc _
 have b3:JA (((((w).alloc (.cells #[.slice A t.length c] 34)).alloc (.cells #[.slice A2 cs.length c2] 24)).alloc (.cells #[.slice none 0 0] 34)).alloc (.cells #[.int .i64 0] 50)) (w.heap.size+1+1) 34 #[.slice none 0 0]:=(JA.newAt _ _ kS).alloc _
 have b4:JA (((((w).alloc (.cells #[.slice A t.length c] 34)).alloc (.cells #[.slice A2 cs.length c2] 24)).alloc (.cells #[.slice none 0 0] 34)).alloc (.cells #[.int .i64 0] 50)) (w.heap.size+1+1+1) 50 #[.int .i64 0]:=JA.newAt _ _ kS
 generalize ((((w).alloc (.cells #[.slice A t.length c] 34)).alloc (.cells #[.slice A2 cs.length c2] 24)).alloc (.cells #[.slice none 0 0] 34)).alloc (.cells #[.int .i64 0] 50)=W1 at *
 refine (HV.out _ hx1).mono ?_
 rintro e w2 ⟨rfl,QI⟩
 replace hx1:=hx1.trans QI
 replace b3:=b3.ext QI
 replace b4:=b4.ext QI
 replace bT:=bT.ext QI
 replace bC:=bC.ext QI
 clear QI
 have f3:=b3.frozen 0
 have f4:=b4.frozen 0
 have r3:w2.cell? ⟨w.heap.size+1+1,0,none⟩=some (.slice none 0 0):=b3.cell (j:=0) rfl
 have r4:w2.cell? ⟨w.heap.size+1+1+1,0,none⟩=some (.int .i64 0):=b4.cell (j:=0) rfl
 have t0:w2.cell? ⟨w.heap.size,0,none⟩=some (.slice A t.length c):=bT.cell (j:=0) rfl
 have tc:w2.cell? ⟨w.heap.size+1,0,none⟩=some (.slice A2 cs.length c2):=bC.cell (j:=0) rfl
 have FIN:∀(wr:World) (k:Nat),Ext w wr→JA wr (w.heap.size+1+1) 34 #[.slice none 0 0]→JA wr (w.heap.size+1+1+1) 50 #[.int .i64 k]→k≠0→CH t cs=k→ZD2 t cs F w (.returned (.tuple #[.agg #[.slice none 0 0],.int .i64 k])) wr:=by
  intro wr k h1 _ _ h2 h3
  exact⟨h1,_,by rw[h3],.inl ⟨by rw[h3];exact h2,_,rfl⟩⟩
 cases hv:pD t
 ·have HC:=zA (show CH t cs=1 by unfold CH;rw[if_pos (.inl hv)])
  clear hv
  gi_wp2_with fail
  obtain⟨Wr,dH⟩:∃Wr,(w2.setCell ⟨w.heap.size+1+1,0,none⟩ (Value.slice none 0 0)).setCell ⟨w.heap.size+1+1+1,0,none⟩ (Value.int .i64 1)=Wr:=⟨_,rfl⟩
  rw[dH]
  have s1:JA Wr (w.heap.size+1+1) 34 #[.slice none 0 0]:=by rw[←dH];exact kW1
  have s2:JA Wr (w.heap.size+1+1+1) 50 #[.int .i64 1]:=by rw[←dH];exact kW1
  have sx:Ext w Wr:=by rw[←dH];exact kW1
  clear dH
  exact⟨.tuple #[.agg #[.slice none 0 0],.int .i64 1],by simp[results,Tryz.f22,go_sem,s1.cell (j:=0) rfl,s2.cell (j:=0) rfl],FIN Wr 1 sx s1 s2 kE HC.out⟩
 ·have HVL:=zA hv
  clear hv
  by_cases jD:cs.length=t.length
  case neg =>
   have hd:((cs.length:Int) != (t.length:Int))=true:=by simp;omega
   have HC:=zA (show CH t cs=1 by unfold CH;rw[if_pos (.inr jD)])
   clear jD
   gi_wp2_with fail
   obtain⟨Wr,dH⟩:∃Wr,(w2.setCell ⟨w.heap.size+1+1,0,none⟩ (Value.slice none 0 0)).setCell ⟨w.heap.size+1+1+1,0,none⟩ (Value.int .i64 1)=Wr:=⟨_,rfl⟩
   rw[dH]
   have s1:JA Wr (w.heap.size+1+1) 34 #[.slice none 0 0]:=by rw[←dH];exact kW1
   have s2:JA Wr (w.heap.size+1+1+1) 50 #[.int .i64 1]:=by rw[←dH];exact kW1
   have sx:Ext w Wr:=by rw[←dH];exact kW1
   clear dH
   exact⟨.tuple #[.agg #[.slice none 0 0],.int .i64 1],by simp[results,Tryz.f22,go_sem,s1.cell (j:=0) rfl,s2.cell (j:=0) rfl],FIN Wr 1 sx s1 s2 kE HC.out⟩
  case pos =>
   have hd:((cs.length:Int) != (t.length:Int))=false:=by simp;omega
   have HLEN:=zA jD
   clear jD
   have hnp:=hS.np
   have ZJq:=hx1.size
   gi_wp2_with fail
   gi_loopw [28] (fun i wr=>∃k:Nat,k≤cs.length∧i=.int .i64 k∧(∀q,q<k→TM t cs q=true)∧wr=w2) (fun i _=>cs.length-(intOf i).toNat)
   case atStart=>exact⟨0,an _,rfl,fun q hq=>absurd hq (gr _),rfl⟩
   case round =>
    obtain⟨k,hk,rfl,h0,rfl⟩:=hrel
    have H0:=zA h0
    clear h0
    by_cases bB:k<cs.length
    ·have ZGD:k<t.length:=by rw[←HLEN.out];exact bB
     obtain⟨A',c',hA',_,_,hc'⟩:=(hs.ext RPr.keeps hx1).at_
     obtain⟨b',off',hb',vJ⟩:=hc' oM
     cases hA'
     subst hb'
     obtain⟨_,_,v2,d2,aZ⟩:=vJ k ZGD
     obtain⟨A3,c3,rfl,_,_,_⟩:=aZ.at_
     obtain⟨A'',c'',hA'',_,_,SQ⟩:=(hsc.ext RInt.keeps hx1).at_
     obtain⟨b'',off'',hb'',ZKA⟩:=SQ oM
     cases hA''
     subst hb''
     have hck:=ZKA k bB
     unfold RInt at hck
     rw[iw]at hck
     have hnk:=hS.ne _ (ap ZGD)
     have HRB:=zA (show TM t cs k=inB cs[k] 0 t[k].evs.length by unfold TM cAt sA;simp[List.getD,bB,ZGD])
     clear aZ vJ hc' SQ ZKA
     have HIk:=zA (HI.out cs[k] 0 t[k].evs.length)
     cases hr:inB cs[k] 0 t[k].evs.length
     ·rw[hr]at HIk
      have HC:=zA (show CH t cs=2 by
       unfold CH
       rw[if_neg (by rw[HVL.out,HLEN.out];simp),if_pos]
       rw[gy]
       exact⟨k,bc.2 bB,by rw[HRB.out,hr];simp⟩)
      clear hr
      gi_wp2_with (refine⟨trivial,?_⟩;gi_at_call 53;refine (HIk.out _).mono ?_;rintro e w' ⟨rfl,rfl⟩)
      obtain⟨Wr,dH⟩:∃Wr,(wr.setCell ⟨w.heap.size+1+1,0,none⟩ (Value.slice none 0 0)).setCell ⟨w.heap.size+1+1+1,0,none⟩ (Value.int .i64 2)=Wr:=⟨_,rfl⟩
      rw[dH]
      have s1:JA Wr (w.heap.size+1+1) 34 #[.slice none 0 0]:=by rw[←dH];exact kW1
      have s2:JA Wr (w.heap.size+1+1+1) 50 #[.int .i64 2]:=by rw[←dH];exact kW1
      have sx:Ext w Wr:=by rw[←dH];exact kW1
      clear dH
      exact⟨.tuple #[.agg #[.slice none 0 0],.int .i64 2],by simp[results,Tryz.f22,go_sem,s1.cell (j:=0) rfl,s2.cell (j:=0) rfl],FIN Wr 2 sx s1 s2 kE HC.out⟩
     ·rw[hr]at HIk
      have HRT:=zA (show TM t cs k=true by rw[HRB.out,hr])
      clear hr
      gi_wp2_with (refine⟨trivial,?_⟩;gi_at_call 53;refine (HIk.out _).mono ?_;rintro e w' ⟨rfl,rfl⟩)
      go_roundw
      case rel=>exact⟨k+1,bB,by go_num,fun q hq=>(jc.1 hq).elim (H0.out q) (fun e=>e▸HRT.out),by first|rfl|exact trivial⟩
      case measure=>simp[intOf];omega
    ·obtain rfl:k=cs.length:=by omega
     have HALL:=zA (show (List.range cs.length).all (TM t cs)=true from bo.2 (fun q hq=>H0.out q (bc.1 hq)))
     have VK:=(rK HVL.out)
     have HM:=zA (fun w' (he:Ext w w')=>callsIn_wide (n:=8).2 (lH (.slice A t.length c) t w' hnp hS.ne (hs.ext RPr.keeps he) VK))
     gi_wp2_with fail
     refine⟨trivial,?_⟩
     refine (HM.out _ hx1).mono ?_
     rintro e w3 ⟨z8,uU⟩
     have hlt4:=b4.lt
     rcases uU with ⟨x,hx,_⟩|⟨_,bL,ls,hbL,hL,hA,rfl⟩
     ·rw[ZQ HVL.out]at hx;cases hx
     replace hx1:=hx1.trans z8
     replace b3:=b3.ext z8
     replace b4:=b4.ext z8
     replace bT:=bT.ext z8
     replace bC:=bC.ext z8
     have hlt5:=b4.lt
     clear f3 f4 r3 r4 t0 tc z8
     have t0:w3.cell? ⟨w.heap.size,0,none⟩=some (.slice A t.length c):=bT.cell (j:=0) rfl
     have lt0:=bT.lt
     have HFORM:=zA VK
     clear VK
     have HA:=zA hA
     clear hA
     unfold RB
     gi_wp2_with (refine⟨trivial,?_⟩;gi_at_call 55;refine (callsIn_wide.2 (cH _ _)).mono ?_;rintro e w' ⟨rfl,rfl⟩)
     have bt:JA (((w3.alloc (.cells #[.pointer (some ⟨bL,0,none⟩)] 110)).alloc (.cells #[.int .i64 ((0:Nat):Int),.int .i64 ((0:Nat):Int)] 47)).alloc (.cells #[.slice A t.length c] 34)) (w3.heap.size+1+1) 34 #[.slice A t.length c]:=JA.newAt _ _ kS
     have b8:JA (((w3.alloc (.cells #[.pointer (some ⟨bL,0,none⟩)] 110)).alloc (.cells #[.int .i64 ((0:Nat):Int),.int .i64 ((0:Nat):Int)] 47)).alloc (.cells #[.slice A t.length c] 34)) (w3.heap.size) 110 #[.pointer (some ⟨bL,0,none⟩)]:=((JA.new _ _ _).alloc _).alloc _
     have hx0:Ext w (((w3.alloc (.cells #[.pointer (some ⟨bL,0,none⟩)] 110)).alloc (.cells #[.int .i64 ((0:Nat):Int),.int .i64 ((0:Nat):Int)] 47)).alloc (.cells #[.slice A t.length c] 34)):=((hx1.alloc _).alloc _).alloc _
     replace b3:=(((b3.alloc (.cells #[.pointer (some ⟨bL,0,none⟩)] 110)).alloc (.cells #[.int .i64 ((0:Nat):Int),.int .i64 ((0:Nat):Int)] 47)).alloc (.cells #[.slice A t.length c] 34))
     replace b4:=(((b4.alloc (.cells #[.pointer (some ⟨bL,0,none⟩)] 110)).alloc (.cells #[.int .i64 ((0:Nat):Int),.int .i64 ((0:Nat):Int)] 47)).alloc (.cells #[.slice A t.length c] 34))
     replace bC:=(((bC.alloc (.cells #[.pointer (some ⟨bL,0,none⟩)] 110)).alloc (.cells #[.int .i64 ((0:Nat):Int),.int .i64 ((0:Nat):Int)] 47)).alloc (.cells #[.slice A t.length c] 34))
     replace hL:=(((hL.alloc (.cells #[.pointer (some ⟨bL,0,none⟩)] 110)).alloc (.cells #[.int .i64 ((0:Nat):Int),.int .i64 ((0:Nat):Int)] 47)).alloc (.cells #[.slice A t.length c] 34))
     replace bT:=(((bT.alloc (.cells #[.pointer (some ⟨bL,0,none⟩)] 110)).alloc (.cells #[.int .i64 ((0:Nat):Int),.int .i64 ((0:Nat):Int)] 47)).alloc (.cells #[.slice A t.length c] 34))
     have kU:(((w3.alloc (.cells #[.pointer (some ⟨bL,0,none⟩)] 110)).alloc (.cells #[.int .i64 ((0:Nat):Int),.int .i64 ((0:Nat):Int)] 47)).alloc (.cells #[.slice A t.length c] 34)).heap.size=w3.heap.size+1+1+1:=by simp
     have hw3:=hx1.size
     generalize (((w3.alloc (.cells #[.pointer (some ⟨bL,0,none⟩)] 110)).alloc (.cells #[.int .i64 ((0:Nat):Int),.int .i64 ((0:Nat):Int)] 47)).alloc (.cells #[.slice A t.length c] 34))=W0 at *
     have JW:w.heap.size≤W0.heap.size:=by omega
     clear t0 lt0
     refine wpIn_rangeFunc_ownH rfl oM (gf:=94) (lb:=#[.pointer (some ⟨w3.heap.size+1+1,0,none⟩)]) rfl trivial (XD Tryz.func94 kE rfl)
      (gG 8 oM w (.slice A t.length c) t (w3.heap.size+1+1) W0 hnp hS.ne hs hx0 (bt.cell rfl) oM) belowK_t (belowK_b JW) (Below.refl _ _) (fun _=>rfl)
      (fun pre W=>PfI t cs W0 (pre.map (·.1)) W) (fun c pre W=>c=.ret∧PfX t cs w (pre.map (·.1)) W) (RS t cs W0 (ah _)) (fun c=>OwnFrom.and (ownFrom_pure _ _) (ZBv t cs w JW)) ⟨Ext.refl _,fun x hx=>by cases hx⟩
      (fun x a' W=>∃B6 B7 A4 n4 c4 v13 v14,(w3.heap.size<B6∧w3.heap.size<B7)∧JA W B6 47 #[.int .i64 x.1.1,.int .i64 x.1.2]∧JA W B7 45 #[.int .i64 (rA t x.1).kind,.int .i64 (rA t x.1).peer,.int .i64 (rA t x.1).msg,.int .i64 (rA t x.1).time,.slice A4 n4 c4] ∧
       a'={tmps:=#[.agg #[.slice A t.length c],.slice A2 cs.length c2,.pointer (some ⟨w.heap.size,0,none⟩),.pointer (some ⟨w.heap.size+1,0,none⟩),.pointer (some ⟨w.heap.size+1+1,0,none⟩),.pointer (some ⟨w.heap.size+1+1+1,0,none⟩),u6,u7,.pointer (some ⟨w3.heap.size,0,none⟩),.pointer (some ⟨w3.heap.size+1,0,none⟩),.int .i64 0,.pointer (some ⟨B6,0,none⟩),.pointer (some ⟨B7,0,none⟩),undef,.agg #[.slice A t.length c],.bool true,.bool false,.bool false,.slice A2 cs.length c2,.int .i64 cs.length,.pointer (some ⟨w.heap.size,0,none⟩),.slice A t.length c,.int .i64 t.length,.bool false,.bool false,undef,.slice A2 cs.length c2,.int .i64 cs.length,.int .i64 cs.length,.bool false,u30,u31,u32,u33,u34,u35,u36,u37,u38,u39,u40,u41,u42,u43,u44,.tuple #[.pointer (some ⟨bL,0,none⟩),.agg #[.int .i64 ((0:Nat):Int),.int .i64 ((0:Nat):Int)],.int .i64 0],.agg #[.slice A t.length c],.tuple #[.pointer (some ⟨bL,0,none⟩),.agg #[.int .i64 ((0:Nat):Int),.int .i64 ((0:Nat):Int)],.int .i64 0],.pointer (some ⟨bL,0,none⟩),.agg #[.int .i64 ((0:Nat):Int),.int .i64 ((0:Nat):Int)],.int .i64 0,.agg #[.slice A t.length c],.func (.func 94) #[] #[.pointer (some ⟨w3.heap.size+1+1,0,none⟩)],v13,v14,undef,undef,undef,undef,undef,undef,undef,undef,undef,undef,undef,undef,undef,undef,undef,undef,undef,undef,undef,undef,undef,undef,undef,undef,undef,undef,undef,undef,undef,undef,undef,undef],defers:=[]})
      ?hax ?assign ?body ?done ?stop
     case hax =>
      rintro x a' _ X Y row ⟨B6,B7,A4,n4,c4,v13,v14,hB,b6,b7,ha⟩ hg hr
      exact⟨B6,B7,A4,n4,c4,v13,v14,hB,GA B6 _ _ (fun (_:Unit)=>_) () X Y row b6 hg hr,GA B7 _ _ (fun (_:Unit)=>_) () X Y row b7 hg hr,ha⟩
     case assign =>
      rintro l pre x W K hI hK
      obtain⟨a,hv,hsa⟩:=fO hs x.2
      obtain⟨A4,c4,rfl,_,_,_⟩:=hsa.at_
      clear hsa
      simp only[hv]
      have hsW:=hI.1.size
      unfold RB
      gi_wp2
      exact hK _ _ (((KeepsOthers.alloc _ _).trans (KeepsOthers.alloc _ _)).from _) (((Below.refl _ W).alloc oM _).alloc kT _) ((RS t cs W0 (ah _)).alloc _ ((RS t cs W0 (ah _)).alloc _ hI))
       ⟨W.heap.size,W.heap.size+1,A4,_,c4,_,_,⟨by omega,by omega⟩,(JA.new _ _ _).alloc _,JA.newAt _ _ kS,rfl⟩
     case body =>
      rintro l pre x a' W hlW ⟨r,hr⟩ hI ⟨B6,B7,A4,n4,c4,v13,v14,⟨hB6,hB7⟩,b6,b7,rfl⟩ jD
      obtain⟨TQ,DO⟩:=hI
      have hsW:=TQ.size
      have hxw:=hx0.trans TQ
      replace b3:=b3.ext TQ
      replace b4:=b4.ext TQ
      replace bC:=bC.ext TQ
      replace hL:=hL.ext TQ
      replace b8:=b8.ext TQ
      obtain⟨ZLQ,hx1i,hx1l⟩:=VE.1 x.2
      have yJ:x.1.1<cs.length:=by rw[HLEN.out];exact ZLQ
      have ZI7:cAt cs x.1.1=cs[x.1.1]:=by unfold cAt;simp[List.getD,yJ]
      obtain⟨F',hF'⟩:∃F':Nat→Prop,F'=fun b=>F b∨b=w.heap.size+1∨b=w3.heap.size∨b=bL∨b=B6∨b=B7:=⟨_,rfl⟩
      have hFm:∀b,F b→F' b:=fun b hb=>by rw[hF'];exact .inl hb
      have mL:F' (w.heap.size+1):=by rw[hF'];exact .inr (.inl rfl)
      have hF2:F' w3.heap.size:=by rw[hF'];exact .inr (.inr (.inl rfl))
      have hF3:F' bL:=by rw[hF'];exact .inr (.inr (.inr (.inl rfl)))
      have hF4:F' B6:=by rw[hF'];exact .inr (.inr (.inr (.inr (.inl rfl))))
      have hF5:F' B7:=by rw[hF'];exact .inr (.inr (.inr (.inr (.inr rfl))))
      have g1:=bC.lt
      have g2:=b8.lt
      have g3:=hL.lt
      have g4:=b6.lt
      have g5:=b7.lt
      have hbig:=hx1.size
      have ZEN:∀b,F' b→b<W.heap.size∧b≠w.heap.size+1+1∧b≠w.heap.size+1+1+1:=by
       intro b hb
       rw[hF']at hb
       rcases hb with h|rfl|rfl|rfl|rfl|rfl
       ·have:=hF b h;exact⟨by omega,by omega,by omega⟩
       all_goals exact⟨by omega,by omega,by omega⟩
      have PN:RepI W F' (.isl 1 (cs.map eI)) (.slice A2 cs.length c2):=HUC.out.mono hFm (fun b hb=>hxw.block b (hF b hb))
      have p3:RepI W F' (.iptr [.isl 1 (cs.map eI)] 0) (.pointer (some ⟨w.heap.size+1,0,none⟩)):=FO bC mL (fun j a hj=>by
       cases j with
       |zero=>simp at hj;subst hj;exact⟨_,rfl,PN⟩
       |succ j=>simp at hj)
      have pL:RepI W F' (.iptr (zG t) 0) (.pointer (some ⟨bL,0,none⟩)):=XS hL HA.out hF3
      have p8:RepI W F' (.iptr [.iptr (zG t) 0] 0) (.pointer (some ⟨w3.heap.size,0,none⟩)):=FO b8 hF2 (fun j a hj=>by
       cases j with
       |zero=>simp at hj;subst hj;exact⟨_,rfl,pL⟩
       |succ j=>simp at hj)
      have p11:RepI W F' (.iptr [.int .i64 (x.1.1:Int),.int .i64 (x.1.2:Int)] 0) (.pointer (some ⟨B6,0,none⟩)):=FO b6 hF4 (fun j a hj=>by
       match j,hj with
       |0,hj=>cases hj;exact⟨_,rfl,.int _ _⟩
       |1,hj=>cases hj;exact⟨_,rfl,.int _ _⟩)
      have p12:RepI W F' (.iptr [.int .i64 (rA t x.1).kind,.int .i64 (rA t x.1).peer,.int .i64 (rA t x.1).msg] 0) (.pointer (some ⟨B7,0,none⟩)):=FO b7 hF5 (fun j a hj=>by
       match j,hj with
       |0,hj=>cases hj;exact⟨_,rfl,.int _ _⟩
       |1,hj=>cases hj;exact⟨_,rfl,.int _ _⟩
       |2,hj=>cases hj;exact⟨_,rfl,.int _ _⟩)
      have hE:∀(L:LMap) (x4 x5:AV),RepA W F' L x4 (.pointer (some ⟨w.heap.size+1+1,0,none⟩))→RepA W F' L x5 (.pointer (some ⟨w.heap.size+1+1+1,0,none⟩)) →
        PC W F' L (KU cs (zG t) x.1.1 x.1.2 (rA t x.1).kind (rA t x.1).peer (rA t x.1).msg x4 x5) {tmps:=#[.agg #[.slice A t.length c],.slice A2 cs.length c2,.pointer (some ⟨w.heap.size,0,none⟩),.pointer (some ⟨w.heap.size+1,0,none⟩),.pointer (some ⟨w.heap.size+1+1,0,none⟩),.pointer (some ⟨w.heap.size+1+1+1,0,none⟩),u6,u7,.pointer (some ⟨w3.heap.size,0,none⟩),.pointer (some ⟨w3.heap.size+1,0,none⟩),.int .i64 0,.pointer (some ⟨B6,0,none⟩),.pointer (some ⟨B7,0,none⟩),undef,.agg #[.slice A t.length c],.bool true,.bool false,.bool false,.slice A2 cs.length c2,.int .i64 cs.length,.pointer (some ⟨w.heap.size,0,none⟩),.slice A t.length c,.int .i64 t.length,.bool false,.bool false,undef,.slice A2 cs.length c2,.int .i64 cs.length,.int .i64 cs.length,.bool false,u30,u31,u32,u33,u34,u35,u36,u37,u38,u39,u40,u41,u42,u43,u44,.tuple #[.pointer (some ⟨bL,0,none⟩),.agg #[.int .i64 ((0:Nat):Int),.int .i64 ((0:Nat):Int)],.int .i64 0],.agg #[.slice A t.length c],.tuple #[.pointer (some ⟨bL,0,none⟩),.agg #[.int .i64 ((0:Nat):Int),.int .i64 ((0:Nat):Int)],.int .i64 0],.pointer (some ⟨bL,0,none⟩),.agg #[.int .i64 ((0:Nat):Int),.int .i64 ((0:Nat):Int)],.int .i64 0,.agg #[.slice A t.length c],.func (.func 94) #[] #[.pointer (some ⟨w3.heap.size+1+1,0,none⟩)],v13,v14,undef,undef,undef,undef,undef,undef,undef,undef,undef,undef,undef,undef,undef,undef,undef,undef,undef,undef,undef,undef,undef,undef,undef,undef,undef,undef,undef,undef,undef,undef,undef,undef],defers:=[]}:=by
       intro L x4 x5 h4 h5
       refine ZF8 ?_
       unfold KU
       repeat (first|exact bA.nil|refine bA.cons (.any _) ?_|refine bA.cons (.v _ _ p3) ?_|refine bA.cons h4 ?_|refine bA.cons h5 ?_|refine bA.cons (.v _ _ p8) ?_|refine bA.cons (.v _ _ p11) ?_|refine bA.cons (.v _ _ p12) ?_)
      have hv3:∀{b:Bool},((rA t x.1).kind != 3)=b→((rA t x.1).kind==3)=!b:=by
       intro b h;cases b<;>simp_all [bne]
      have uU:(kX t cs x.1=false∧run (ZA Tryz.prog) KA fF (KU cs (zG t) x.1.1 x.1.2 (rA t x.1).kind (rA t x.1).peer (rA t x.1).msg .any .any) [] [] (fun ax e b l'=>ax=.normal∧b=[])) ∨
        (kX t cs x.1=true∧run (ZA Tryz.prog) KA fF (KU cs (zG t) x.1.1 x.1.2 (rA t x.1).kind (rA t x.1).peer (rA t x.1).msg (.ptr 0 0 0 0) (.ptr 1 0 0 0)) [.live 0 1 [[.v .zsl]],.live 0 1 [[.v (.int .i64 0)]]] []
         (fun ax e b l'=>ax=.ret∧b=[.live 0 1 [[.v .zsl]],.live 0 1 [[.v (.int .i64 18)]]])):=by
       cases hk:((rA t x.1).kind != 3)
       ·have nY:=hv3 hk
        by_cases hi:(x.1.2:Int)>cs[x.1.1]
        ·refine .inl ⟨?_,qP AC (Y1 cs (zG t) x.1.1 x.1.2 _ _ _ .any .any [] [] hk yJ hi) (fun _ _ _ _ h=>⟨h.1,h.2.1⟩)⟩
         unfold kX;rw[ZI7,ag hi];simp
        ·obtain⟨m,q,hm,SW,_,_,_⟩:=sE (HFORM.out x.1 x.2) (by simp at nY;rw[nY];rfl)
         obtain⟨hf1,hf2⟩:(VA t (ids t) 2 m).1<cs.length∧cAt cs (VA t (ids t) 2 m).1=cAt cs (VA t (ids t) 2 m).1:=by
          refine⟨?_,rfl⟩
          unfold VA
          cases hf:(ids t).find? (ZG t 2 m) with
          |none=>simp;omega
          |some y=>simp;rw[HLEN.out];exact (VE.1 (ge hf)).1
         have hcf:cAt cs (VA t (ids t) 2 m).1=cs[(VA t (ids t) 2 m).1]:=by unfold cAt;simp[List.getD,hf1]
         by_cases hg:((VA t (ids t) 2 m).2:Int)>cs[(VA t (ids t) 2 m).1]
         ·refine .inr ⟨?_,J1 cs (zG t) x.1.1 x.1.2 _ _ _ m _ _ hk yJ hi hm SW (pK t) (VQ SW) hf1 hg⟩
          unfold kX;rw[ZI7,hm,hcf,ag hg,ak hi,nY];rfl
         ·refine .inl ⟨?_,Z9 cs (zG t) x.1.1 x.1.2 _ _ _ .any .any [] [] m _ _ hk yJ hi hm SW (pK t) (VQ SW) hf1 hg (by simpa using wE) rfl⟩
          unfold kX;rw[ZI7,hm,hcf,ak hg];simp
       ·have nY:=hv3 hk
        refine .inl ⟨?_,qP AC (cX cs (zG t) x.1.1 x.1.2 _ _ _ .any .any [] [] hk) (fun _ _ _ _ h=>⟨h.1,h.2.1⟩)⟩
        unfold kX;rw[nY];rfl
      rcases uU with ⟨hb,TD⟩|⟨hb,TD⟩
      ·refine wpIn_mono (SR (lp:=l) (fun _ _ _ _ _ h=>h) AC _ fF kK _ [] [] _ TD F' (fun _ _=>none) W _ (KR (fun b hb=>(ZEN b hb).1)) (hE _ _ _ (.any _) (.any _))) ?_
       rintro ex a1 w1 ⟨ax,e1,b1,l1,F1,L1,hex,s1,iH,st1,uI,rfl,_⟩
       cases ex<;>first|exact hex.elim|skip
       have he:=fL st1
       refine⟨KF.ext (KeepsFrom.refl _ _) he,BL.ext (Below.refl _ _) he oM,TQ.trans he,fun y hy=>?_⟩
       rw[mF]at hy
       rcases bn.1 hy with h|h
       ·exact DO y h
       ·simp at h;rw[h];exact hb
      ·refine wpIn_mono (SR (lp:=l) (fun _ _ _ _ _ h=>h) AC _ fF kK _ _ [] _ TD F' (L2 (w.heap.size+1+1) (w.heap.size+1+1+1)) W _ (ZEf b3 b4 oM rfl rfl (.v _ _ (.zsl _)) (.v _ _ (.int _ _)) ZEN) (hE _ _ _ (RepA.ptr 0 0 0 0 _ 0 1 1 rfl) (RepA.ptr 1 0 0 0 _ 0 1 1 rfl))) ?_
       rintro ex a1 w1 ⟨ax,e1,b1,l1,F1,L1,hex,s1,iH,st1,uI,rfl,rfl⟩
       cases ex<;>first|exact hex.elim|skip
       have tJ:∀b,b<W.heap.size→b≠w.heap.size+1+1→b≠w.heap.size+1+1+1→w1.heap[b]? = W.heap[b]?:=fun b hb h1 h2=>st1.block b hb (fun ho=>(J9 ho).elim h1 h2)
       have kf:KeepsFrom W0.heap.size W w1:=⟨st1.size,fun k o hB hk ho=>by
        refine (tJ k (bp.1 hk).1 oM oM).trans hk⟩
       have ex1:Ext w w1:=⟨st1.os.trans hxw.os,st1.tape.trans hxw.tape,st1.output.trans hxw.output,ee hxw.size st1.size,fun b hb=>(tJ b oM oM oM).trans (hxw.block b hb)⟩
       have hL0:L1 0 0=some (.pl (w.heap.size+1+1) 0 1 1):=st1.loc 0 0 _ kS rfl
       have hL1:L1 1 0=some (.pl (w.heap.size+1+1+1) 0 1 1):=st1.loc 1 0 _ kS rfl
       refine⟨kf,rfl,⟨x.1,by rw[mF];simp,hb⟩,?_,?_,ex1⟩
       ·obtain⟨q,q1,q2⟩:=s1.row 0 0 1 [[.v .zsl]] rfl
        rw[hL0]at q1;cases q1
        obtain⟨_,_,_,cur,T,k4,_,_,k7⟩:=q2
        obtain⟨_,v,k8,k9⟩:=k7 0 [.v .zsl] 0 (.v .zsl) rfl rfl
        refine⟨T,cur,k4,?_⟩
        cases k9.vI
        exact⟨_,k8⟩
       ·obtain⟨q,q1,q2⟩:=s1.row 1 0 1 [[.v (.int .i64 18)]] rfl
        rw[hL1]at q1;cases q1
        obtain⟨_,_,_,cur,T,k4,_,_,k7⟩:=q2
        obtain⟨_,v,k8,k9⟩:=k7 0 [.v (.int .i64 18)] 0 (.v (.int .i64 18)) rfl rfl
        refine⟨T,cur,k4,?_⟩
        cases k9.vI
        exact k8
     case done =>
      rintro D ys W hD hys ⟨TQ,DO⟩ hK
      rw[hys]at DO
      have hxw:=hx0.trans TQ
      have hsW:=TQ.size
      replace b3:=b3.ext TQ
      replace b4:=b4.ext TQ
      replace bC:=bC.ext TQ
      replace bT:=bT.ext TQ
      have HC0:=zA (show CH t cs=0 by
       unfold CH
       rw[if_neg (by rw[HVL.out,HLEN.out];simp),if_neg (by rw[HALL.out];simp),if_neg]
       rw[kz,gz]
       intro x hx;rw[DO x hx];simp)
      clear DO hys
      have hC:CutOk t cs:=⟨HLEN.out,hnp,hS.nv,hS.ne,hS.na,fun k h h2=>by
       have:=bo.1 HALL.out k (bc.2 h2)
       unfold TM cAt sA inB at this
       simp[List.getD,h,h2]at this
       exact⟨this.1,this.2⟩⟩
      have HFI:=zA (fun W' (he:Ext w W')=>callsIn_wide (n:=8).2 (F9 t cs hC F W' (fun b hb=>fu (hF b hb) he.size) (HU.out.mono (fun _ h=>h) (fun b hb=>he.block b (hF b hb))) (HUC.out.mono (fun _ h=>h) (fun b hb=>he.block b (hF b hb)))))
      clear hC
      have t0:=bT.cell (j:=0) rfl
      have tc:=bC.cell (j:=0) rfl
      have g0:=bT.lt
      gi_wp2_with fail
      refine⟨trivial,?_⟩
      refine (HFI.out _ hxw).mono ?_
      rintro e w5 ⟨u,F1,rfl,he5,k1,k2,k3,k4,A5,n5,c5,rfl⟩
      replace b3:=b3.ext he5
      replace b4:=b4.ext he5
      have hK5:w5.heap[D]? = some (.deferred (some [])):=(he5.block D (bp.1 hK).1).trans hK
      have hx5:=hxw.trans he5
      have hs5:=he5.size
      have f3:=b3.frozen 0
      have f4:=b4.frozen 0
      have r3:=b3.cell (j:=0) rfl
      have r4:=b4.cell (j:=0) rfl
      have HK4:=zA k4
      clear k4
      have HK1:=zA k1
      have HK2:=zA k2
      have HK3:=zA k3
      clear k1 k2 k3
      gi_wp2
      obtain⟨Wr,dH⟩:∃Wr,(w5.setCell ⟨w.heap.size+1+1,0,none⟩ (Value.slice A5 n5 c5)).setCell ⟨w.heap.size+1+1+1,0,none⟩ (Value.int .i64 0)=Wr:=⟨_,rfl⟩
      rw[dH]
      have s1:JA Wr (w.heap.size+1+1) 34 #[.slice A5 n5 c5]:=by rw[←dH];exact kW1
      have s2:JA Wr (w.heap.size+1+1+1) 50 #[.int .i64 0]:=by rw[←dH];exact kW1
      have sx:Ext w Wr:=by rw[←dH];exact kW1
      have hkf:KeepsFrom W0.heap.size w5 Wr:=by rw[←dH];exact kW1
      have BP:Wr.heap[D]? = some (.deferred (some [])):=hkf.same D _ hD hK5 rfl
      have hDlt:=(bp.1 hK).1
      have ZI8:∀b,F1 b→b<w5.heap.size∧b≠D∧b≠w.heap.size+1+1∧b≠w.heap.size+1+1+1:=by
       intro b hb
       by_cases hbW:b<W.heap.size
       ·have:=hF b (HK2.out b hbW hb)
        exact⟨HK3.out b hb,by omega,by omega,by omega⟩
       ·exact⟨HK3.out b hb,by omega,by omega,by omega⟩
      have wO:∀b,F1 b→Wr.heap[b]? = w5.heap[b]?:=by
       intro b hb
       obtain⟨_,_,h1,h2⟩:=ZI8 b hb
       rw[←dH]
       exact (Below.heap_setCell _ _ _ _ h2).trans (Below.heap_setCell _ _ _ _ h1)
      have hszr:Wr.heap.size=w5.heap.size:=by rw[←dH];simp
      clear dH
      have e2:=(s1.putObj BP rfl (.deferred none)).cell (j:=0) rfl
      have e3:=(s2.putObj BP rfl (.deferred none)).cell (j:=0) rfl
      refine⟨by simp,.inl ⟨_,_,rfl,run_takeDeferred BP,?_⟩⟩
      refine⟨.tuple #[.agg #[.slice A5 n5 c5],.int .i64 0],by simp[results,Tryz.f22,go_sem,e2,e3],sx.putObj oM BP _,_,by rw[HC0.out];rfl,.inr ⟨HC0.out,F1,HK1.out,fun b hb hf=>HK2.out b oM hf,fun b hb=>?_,?_⟩⟩
      ·have:=(ZI8 b hb).1
       rw[World.putObj_size];omega
      ·refine HK4.out.mono (fun _ h=>h) (fun b hb=>?_) (fun _ _ _ h=>h)
       obtain⟨h0,h1,_,_⟩:=ZI8 b hb
       exact ((grownBy_putObj' Wr D (.deferred none)).block b oM (by simpa using h1)).trans (wO b hb)
     case stop =>
      rintro D c' pre W hD pJ ⟨rfl,⟨x,hx,hb⟩,⟨T4,c4,s4,s,q4⟩,⟨T5,c5,s5,q5⟩,TQ⟩ hK
      have HC:=zA (show CH t cs=18 by
       unfold CH
       rw[if_neg (by rw[HVL.out,HLEN.out];simp),if_neg (by rw[HALL.out];simp),if_pos]
       exact ga.2 ⟨x,pJ.subset hx,hb⟩)
      clear hb hx pJ
      gi_wp2
      have e2:=(s4.putObj hK rfl (.deferred none)).cell q4
      have e3:=(s5.putObj hK rfl (.deferred none)).cell q5
      refine⟨by simp,.inl ⟨_,_,rfl,run_takeDeferred hK,?_⟩⟩
      refine⟨.tuple #[.agg #[.slice s 0 0],.int .i64 18],?_,TQ.putObj oM hK _,_,by rw[HC.out];rfl,.inl ⟨by rw[HC.out];decide,_,rfl⟩⟩
      simp[results,Tryz.f22,go_sem,e2,e3]
end Go.Proofs.YtadnnjchehjbiaaGreatDoor
namespace Go.Proofs.YtadnnjchehjbiaaGreatDoor
set_option linter.unusedVariables false

section
theorem YQ (t:Tr) (hS:Small t) (hN:Nm t) (b l:List Row) (m:Int):ZA Tryz.prog 10 [.agg [.v (eT t)],.v (.int .i64 m)] b l (fun r b' l'=>r=.tup [idA (vD t 2 m),.v (.bool (decide (0<(vD t 2 m).2)))]∧b'=b∧l'=l):=by
 refine ZA.of_ext ⟨_,Tryz.func10,by kernel_rfl,by kernel_rfl⟩ (fun F L w vs hr=>?_)
 obtain⟨u,us,rfl,hs,y6⟩:=PO hN hr
 obtain⟨v,us,rfl,h3,y6⟩:=fE y6
 obtain rfl:=uG y6
 cases h3.vI
 refine (O4 u t m w hS hs).mono ?_
 rintro e w' ⟨rfl,he⟩
 exact⟨he,_,_,rfl,bA.tup (bA.cons (gW _ _ _ _) (bA.cons (.v _ _ (.bool _)) bA.nil)),rfl,rfl,rfl⟩
theorem mT (t:Tr) (hS:Small t) (hN:Nm t) (b l:List Row) (m:Int):ZA Tryz.prog 112 [.agg [.v (eT t)],.v (.int .i64 m)] b l (fun r b' l'=>r=.tup [idA (vD t 3 m),.v (.bool (decide (0<(vD t 3 m).2)))]∧b'=b∧l'=l):=by
 refine ZA.of_ext ⟨_,Tryz.func112,by kernel_rfl,by kernel_rfl⟩ (fun F L w vs hr=>?_)
 obtain⟨u,us,rfl,hs,y6⟩:=PO hN hr
 obtain⟨v,us,rfl,h3,y6⟩:=fE y6
 obtain rfl:=uG y6
 cases h3.vI
 refine (OV u t m w hS hs).mono ?_
 rintro e w' ⟨rfl,he⟩
 exact⟨he,_,_,rfl,bA.tup (bA.cons (gW _ _ _ _) (bA.cons (.v _ _ (.bool _)) bA.nil)),rfl,rfl,rfl⟩
theorem GN (t:Tr) (hS:Small t) (hN:Nm t) (b l:List Row) (hM:(ids t).length≤1000000):ZA Tryz.prog 24 [.agg [.v (eT t)]] b l (fun r b' l'=>r=.v (.int .i64 (qG t))∧b'=b∧l'=l):=by
 refine ZA.of_ext ⟨_,Tryz.func24,by kernel_rfl,by kernel_rfl⟩ (fun F L w vs hr=>?_)
 obtain⟨u,us,rfl,hs,y6⟩:=PO hN hr
 obtain rfl:=uG y6
 refine (ZA3 u t w hS hM hs).mono ?_
 rintro e w' ⟨rfl,he⟩
 exact⟨he,_,_,rfl,.v _ _ (.int _ _),rfl,rfl,rfl⟩
end
set_option linter.unusedSimpArgs false
theorem ZA.frz {P:Program} {f i ver sz:Nat} {args:List AV} {rows:List (List IV)} {b l:List Row} {Q:AV→List Row→List Row→Prop} (hi:l[i]? = some (.live ver sz (vs rows))) (h:ZA P f (args.map (frz (b.length+i) ver sz rows)) b (l.set i (.dead ver)) Q):ZA P f args b l Q:=by
 refine⟨h.1,fun F L w us s hr=>?_⟩
 obtain⟨F',s1,iH,st1,_⟩:=ZI (e:=args) hi F L w {tmps:=us,defers:=[]} s ⟨rfl,by have:=hr.1;simpa using this.symm,fun j x v hx hv=>hr.2 j x v hx (by simpa using hv)⟩
 refine Calls.mono (h.2 F' L w us s1 ⟨by have:=hr.1;simpa using this,fun j x v hx hv=>iH.2.2 j x v hx (by simpa using hv)⟩) ?_
 rintro en w' ⟨v,x,b',l',F2,L2,h1,h2,h3,h4,h5,h6⟩
 have jD:(b++l.set i (.dead ver)).length=(b++l).length:=by simp
 have st:Step (b++l).length F L (b++l) w F' L (b++l.set i (.dead ver)) w:=by
  refine⟨st1.imm,fun _ _ _ _ hl=>hl,rfl,rfl,rfl,ah _,fun _ _ _=>rfl,st1.own,fun id hid v hv=>?_,st1.fnew⟩
  by_cases hj:id<b.length
  ·rw[aw hj]at hv⊢;exact hv
  ·rw[au oM]at hv⊢
   by_cases PI:i=id-b.length
   ·rw[←PI,hi]at hv;cases hv
   ·rw[bq PI];exact hv
 exact⟨v,x,b',l',F2,L2,h1,h2,h3,st.trans (jD▸h4),h5,h6⟩


theorem ZA.of_new {P:Program} {f:Nat} {args:List AV} {b l:List Row} {Q:AV→List Row→List Row→Prop} (hf:∃fn,P.funcs[f]? = some fn∧(fn.name == "runtime.NumGoroutine")=false∧fn.body.isSome=true)
  (h:∀F L w (vs:Array Value),(∀b,F b→b<w.heap.size)→bA w F L args vs.toList→Calls P f vs w fun en w'=>Ext w w'∧∃v x F',en=.returned v∧(∀b,F b→F' b)∧(∀b,b<w.heap.size→F' b→F b)∧(∀b,F' b→b<w'.heap.size)∧RepA w' F' (fun _ _=>none) x v∧Q x b l):ZA P f args b l Q:=by
 refine⟨hf,fun F L w vs s hr=>Calls.mono (h F L w vs (fun b hb=>(s.imm b hb).1) hr) ?_⟩
 rintro en w' ⟨he,v,x,F',h1,h2,h3,h4,h5,h6⟩
 have tJ:∀k,k<w.heap.size→w'.heap[k]? = w.heap[k]?:=he.block
 have VG:∀k,gD L (b++l) k→k<w.heap.size:=by
  rintro k ⟨id,ver,sz,els,q0,k1,k2,k3⟩
  obtain⟨q,q1,q2⟩:=s.row id ver sz els k1
  rw[k2]at q1;cases q1
  exact q2.lt k3
 refine⟨v,x,b,l,F',L,h1,h5.mono (fun _ h=>h) (fun _ _=>rfl) (fun _ _ _ h=>by cases h),⟨fun i v z els hi=>?_,s.born,s.apart,fun k hk=>⟨h4 k hk,fun ho=>(s.imm k (h3 k (VG k ho) hk)).2 ho⟩,s.glob.mono h2 (fun k hk=>tJ k (s.imm k hk).1)⟩,
  ⟨h2,fun _ _ _ _ h=>h,he.os,he.tape,he.output,he.size,fun k hk _=>tJ k hk,fun _ _ h=>h,fun _ _ _ h=>h,fun k hk hf=>.inl (h3 k hk hf)⟩,rfl,h6⟩
 obtain⟨q,g1,g2⟩:=s.row i v z els hi
 exact⟨q,g1,g2.mono (fun k hk=>tJ k (g2.lt hk)) (fun _ _ hx=>hx.mono h2 (fun k hk=>tJ k (s.imm k hk).1) (fun _ _ _ h=>h))⟩

noncomputable def fW (t:Tr) (cs:List Int):AV:=if CH t cs=0 then .agg [.v (eT (VH t cs))] else .agg [.v .zsl]
theorem fX (t:Tr) (hS:Small t) (hN:Nm t) (cs:List Int) (hc:cs.length≤1000000) (b l:List Row) :
  ZA Tryz.prog 22 [.agg [.v (eT t)],.v (.isl 1 (cs.map eI))] b l (fun r b' l'=>r=.tup [fW t cs,.v (.int .i64 (CH t cs))]∧b'=b∧l'=l):=by
 refine ZA.of_new ⟨_,Tryz.func22,by kernel_rfl,by kernel_rfl⟩ (fun F L w vs hF hr=>?_)
 obtain⟨v,us,h1,h2,h3⟩:=fE hr
 obtain⟨v2,us2,rfl,h4,h5⟩:=fE h3
 obtain rfl:=uG h5
 obtain⟨vs1,rfl,hl⟩:=h2.aggL
 obtain⟨u,us3,h6,h7,h8⟩:=fE hl
 obtain rfl:=uG h8
 have ZLR:vs1=#[u]:=gj.1 (by rw[h6])
 subst ZLR
 have hvs:vs=#[.agg #[u],v2]:=gj.1 (by rw[h1])
 subst hvs
 refine (Z5 u v2 t cs F w hS hc hN hF h7.vI h4.vI).mono ?_
 rintro e w' ⟨he,v,rfl,uU⟩
 refine⟨he,?_⟩
 rcases uU with ⟨YH,s,rfl⟩|⟨h0,F',g1,g2,g3,g4⟩
 ·refine⟨_,_,F,rfl,fun _ h=>h,fun _ _ h=>h,fun b hb=>fu (hF b hb) he.size,bA.tup (bA.cons (bA.agg (vs:=#[.slice s 0 0]) (bA.cons (.v _ _ (.zsl s)) bA.nil)) (bA.cons (.v _ _ (.int _ _)) bA.nil)),?_,rfl,rfl⟩
  unfold fW;rw[if_neg YH]
 ·refine⟨_,_,F',rfl,g1,g2,g3,bA.tup (bA.cons g4 (bA.cons (.v _ _ (.int _ _)) bA.nil)),?_,rfl,rfl⟩
  unfold fW;rw[if_pos h0]

def kB (n:Nat) (f:Nat→Row):List Row:=(List.range n).map f
def rUp (f:Nat→Row) (i:Nat) (r:Row):Nat→Row:=fun j=>if i=j then r else f j
theorem wH {f:Nat→Row} {i:Nat} {r:Row}:rUp f i r i=r:=by unfold rUp;rw[if_pos rfl]
theorem qB {f:Nat→Row} {i j:Nat} {r:Row} (h:i≠j):rUp f i r j=f j:=by unfold rUp;rw[if_neg h]
theorem GB {n:Nat} {f:Nat→Row}:(kB n f).length=n:=by simp[kB]
theorem eH {n i:Nat} {f:Nat→Row} (h:i<n):(kB n f)[i]? = some (f i):=by
 unfold kB;rw[ai,jv h];rfl
theorem ZHj {n i:Nat} {f:Nat→Row} {r:Row}:(kB n f).set i r=kB n (rUp f i r):=by
 apply ek
 intro j
 by_cases hj:j<n
 ·rw[eH hj]
  by_cases hij:i=j
  ·subst hij;rw[bf (by rw[GB];exact hj),wH]
  ·rw[bq hij,eH hj,qB hij]
 ·rw[ce (by rw[ec,GB];omega),ce (by rw[GB];omega)]
theorem VI {n i:Nat} {f:Nat→Row} {l:List Row} (h:i<n):hget (kB n f) l i=some (f i):=by
 unfold hget;rw[if_pos (by rw[GB];exact h),eH h]
theorem tO {n i:Nat} {f:Nat→Row} {l:List Row}:hget (kB n f) l (n+i)=l[i]?:=by
 unfold hget;rw[if_neg (by rw[GB];omega),GB,co]
theorem MS {n:Nat} {f:Nat→Row} {l:List Row}:hget (kB n f) l n=l[0]?:=tO (i:=0)
theorem AJ {n i:Nat} {f:Nat→Row} {r:Row} (h:i<n):pE (kB n f) i r=kB n (rUp f i r):=by
 unfold pE;rw[if_pos (by rw[GB];exact h),ZHj]
theorem CJ {n i:Nat} {f:Nat→Row} {l:List Row} {r:Row} (h:i<n):IE (kB n f) l i r=l:=by
 unfold IE;rw[if_pos (by rw[GB];exact h)]
theorem mM {n i:Nat} {f:Nat→Row} {r:Row}:pE (kB n f) (n+i) r=kB n f:=by
 unfold pE;rw[if_neg (by rw[GB];omega)]
theorem lP {n:Nat} {f:Nat→Row} {r:Row}:pE (kB n f) n r=kB n f:=mM (i:=0)
theorem pM {n i:Nat} {f:Nat→Row} {l:List Row} {r:Row}:IE (kB n f) l (n+i) r=l.set i r:=by
 unfold IE;rw[if_neg (by rw[GB];omega),GB,co]
theorem mP {n:Nat} {f:Nat→Row} {l:List Row} {r:Row}:IE (kB n f) l n r=l.set 0 r:=pM (i:=0)
theorem ZGQ (B:List Row):∃n f,n=B.length∧B=kB n f∧∀i r,B[i]? = some r→f i=r:=by
 refine⟨B.length,fun i=>B.getD i (.dead 0),rfl,?_,fun i r h=>by simp only[aq,h];rfl⟩
 apply ek
 intro j
 by_cases hj:j<B.length
 ·rw[eH hj,aq,ae hj];rfl
 ·rw[ce oM,ce (by rw[GB];omega)]
def aW (m:Nat) (r:Row):Prop:=∀ver sz els,r=.live ver sz els→∀row∈els,∀c∈row,AVlt m c
theorem aW.live {m ver sz:Nat} {els:List (List AV)} (h:∀row∈els,∀c∈row,AVlt m c):aW m (.live ver sz els):=fun v s e he=>by cases he;exact h
theorem aW.dead {m ver:Nat}:aW m (.dead ver):=fun v s e he=>by cases he
theorem aW.vs {m ver sz:Nat} {rows:List (List IV)}:aW m (.live ver sz (vs rows)):=.live (YL.2 trivial)
theorem xD {α:Type} (x:α):List.replicate 1 x=[x]:=rfl
attribute [local go_sem ↓] xB tA iB rB EB SA uB CB dB UC gA RA wB yA DA yB dA FA lB nA xA sB TA MA lA LA fA vB aA AB tB OB ZC LC VC FC EC OC VD
attribute [local go_sem] pA uA QD eA iA MC YC XC QC nG pG JC nB pB mB MB UA KB jA UB qA mA aop sD pC rC SB sC DB tC YG YE LD amm tD IB QB SD dC ED comma nC XE QG QE ZE SF DD GD eC RF eqC eqF DE cellsOf JB yD KD ID dF rd rdI wD mk iC AV.cell List.all_cons List.all_nil Bool.and_true Bool.true_and Bool.and_self List.length_cons List.length_nil List.length_append Nat.reduceAdd Nat.reduceSub Nat.reduceMul Nat.zero_add Nat.add_zero List.cons_append List.nil_append List.append_assoc List.append_nil List.getElem?_cons_zero List.getElem?_cons_succ List.getElem?_nil List.set_cons_zero List.set_cons_succ List.drop_zero List.drop_succ_cons List.take_zero List.take_succ_cons List.take_nil List.drop_nil List.map_cons List.map_nil Option.map_some if_true if_false Bool.false_eq_true and_self true_and and_true Nat.reduceLeDiff Nat.reduceLT Nat.le_refl Nat.reduceEqDiff ite_true ite_false beq_self_eq_true beq_true beq_false Bool.not_true Bool.not_false Bool.true_beq Bool.false_beq mD gC TB GC RC qC zC FB KC DC IC nD zB IH nH DH HH EE ME CE LE geI gtI AE decide_true decide_false room List.getElem?_map List.length_map List.length_take Int.toNat_natCast Nat.min_def Nat.min_self qE JE uE mC vE bG EA List.getElem_cons_zero List.getElem_cons_succ
def a_within:AFunc:=({c:=_}:CF Tryz.prog 46).c
theorem OX:CA Tryz.prog 46=some a_within:=by kernel_rfl
def a_wval:AFunc:=({c:=_}:CF Tryz.prog 69).c
theorem ZAK:CA Tryz.prog 69=some a_wval:=by kernel_rfl
def a_wclock:AFunc:=({c:=_}:CF Tryz.prog 57).c
theorem QY:CA Tryz.prog 57=some a_wclock:=by kernel_rfl
def a_wClock:AFunc:=({c:=_}:CF Tryz.prog 23).c
theorem KY:CA Tryz.prog 23=some a_wClock:=by kernel_rfl
def a_wright:AFunc:=({c:=_}:CF Tryz.prog 72).c
theorem AX:CA Tryz.prog 72=some a_wright:=by kernel_rfl
def a_wright1:AFunc:=({c:=_}:CF Tryz.prog 100).c
theorem FV:CA Tryz.prog 100=some a_wright1:=by kernel_rfl
def a_wright2:AFunc:=({c:=_}:CF Tryz.prog 101).c
theorem LV:CA Tryz.prog 101=some a_wright2:=by kernel_rfl

theorem AD (x lo hi:Int) (b l:List Row):ZA Tryz.prog 46 [.v (.int .i64 x),.v (.int .i64 lo),.v (.int .i64 hi)] b l (fun r b' l'=>r=.v (.bool (inZ x lo hi))∧b'=b∧l'=l):=by
 refine XA OX rfl kE ?_
 intro B g hB hR hE hA;simp only[EA]at hA
 by_cases h1:lo≤x
 ·have d1:decide (x≥lo)=true:=ag h1
  have d1':decide (lo≤x)=true:=ag h1
  simp (disch:=first|decide|omega) only[a_within,hA,d1,d1',go_sem]
  exact QA (xs:=[.v (.bool (decide (x≤hi)))]) ⟨by simp[inZ,h1,one],rfl,rfl⟩
 ·have d1:decide (x≥lo)=false:=ak h1
  have d1':decide (lo≤x)=false:=ak h1
  simp (disch:=first|decide|omega) only[a_within,hA,d1,d1',go_sem]
  exact QA (xs:=[.v (.bool false)]) ⟨by simp[inZ,h1,one],rfl,rfl⟩
theorem tM (x:Int) (b l:List Row):ZA Tryz.prog 69 [.v (.int .i64 x)] b l (fun r b' l'=>r=.v (.bool (vlB x))∧b'=b∧l'=l):=by
 refine XA ZAK rfl kE ?_
 intro B g hB hR hE hA;simp only[EA]at hA
 simp (disch:=first|decide|omega) only[a_wval,hA,go_sem]
 refine ZA.nxt (AD _ _ _ _ _) ?_
 simp (disch:=first|decide|omega) only[hA,go_sem]
 exact QA (xs:=[.v (.bool (inZ x (-1073741824) 1073741824))])
def LstC (x:AV):Prop:=(∃y,x=.v y)∨∃id ver o n,x=.sl id ver o n
theorem OP (y0 y1 y2:IV) (x3:AV) (off rate:Int) (b l:List Row) (h3:LstC x3):ZA Tryz.prog 57 [.agg [.v y0,.v y1,.v y2,x3,.v (.int .i64 off),.v (.int .i64 rate)]] b l (fun r b' l'=>r=.v (.bool (inZ off 0 1000000&&inZ rate 500 2000))∧b'=b∧l'=l):=by
 refine XA QY rfl kE ?_
 intro B g hB hR hE hA;simp only[EA]at hA
 rcases h3 with ⟨y,rfl⟩|⟨id,ver,o,n,rfl⟩
 all_goals
  simp (disch:=first|decide|omega) only[a_wclock,hA,go_sem]
  refine ZA.nxt (AD _ _ _ _ _) ?_
  cases h1:inZ off 0 1000000
  ·simp (disch:=first|decide|omega) only[hA,go_sem]
   exact QA (xs:=[.v (.bool false)]) ⟨by simp[one],rfl,rfl⟩
  ·simp (disch:=first|decide|omega) only[hA,go_sem]
   refine ZA.nxt (AD _ _ _ _ _) ?_
   simp (disch:=first|decide|omega) only[hA,go_sem]
   exact QA (xs:=[.v (.bool (inZ rate 500 2000))]) ⟨by simp[one],rfl,rfl⟩
theorem ZD0 {s:Sv} {now:Int} (h:AH s now=true):(0≤s.off∧s.off≤1000000)∧(500≤s.rate∧s.rate≤2000)∧(0≤now∧now≤1000000000)∧0≤now*s.rate∧now*s.rate≤2000000000000:=by
 unfold AH JM inZ at h
 simp only[ar,bj]at h
 obtain⟨⟨h1,h2⟩,h3⟩:=h
 refine⟨h1,h2,h3,Int.mul_nonneg h3.1 oM,?_⟩
 have:=Int.mul_le_mul h3.2 h2.2 oM oM
 omega
theorem RL (y0 y1 y2:IV) (x3:AV) (s:Sv) (now:Int) (b l:List Row) (h3:LstC x3):ZA Tryz.prog 23 [.agg [.v y0,.v y1,.v y2,x3,.v (.int .i64 s.off),.v (.int .i64 s.rate)],.v (.int .i64 now)] b l (fun r b' l'=>r=.tup [.v (.int .i64 (jJ s now)),.v (.int .i64 (if AH s now=true then 0 else 2))]∧b'=b∧l'=l):=by
 refine XA KY rfl kE ?_
 intro B g hB hR hE hA;simp only[EA]at hA
 have cC:=fun b l=>OP y0 y1 y2 x3 s.off s.rate b l h3
 have e1:(inZ s.off 0 1000000&&inZ s.rate 500 2000)=JM s:=rfl
 rw[e1]at cC
 rcases h3 with ⟨y,rfl⟩|⟨id,ver,o,n,rfl⟩
 all_goals
  simp (disch:=first|decide|omega) only[a_wClock,hA,go_sem]
  refine ZA.nxt (cC _ _) ?_
  cases h1:JM s
  ·have hk:AH s now=false:=by unfold AH;rw[h1];rfl
   simp (disch:=first|decide|omega) only[hA,go_sem]
   exact QA (xs:=[.v (.int .i64 0),.v (.int .i64 2)]) ⟨by unfold jJ;rw[hk];rfl,rfl,rfl⟩
  ·simp (disch:=first|decide|omega) only[hA,go_sem]
   refine ZA.nxt (AD _ _ _ _ _) ?_
   cases h2:inZ now 0 1000000000
   ·have hk:AH s now=false:=by unfold AH;rw[h1,h2];rfl
    simp (disch:=first|decide|omega) only[hA,go_sem]
    exact QA (xs:=[.v (.int .i64 0),.v (.int .i64 2)]) ⟨by unfold jJ;rw[hk];rfl,rfl,rfl⟩
   ·have hk:AH s now=true:=by unfold AH;rw[h1,h2];rfl
    obtain⟨g1,g2,g3,g4,g5⟩:=ZD0 hk
    have hd:Int.tdiv (now*s.rate) 1000=now*s.rate / 1000:=Int.tdiv_eq_ediv_of_nonneg g4
    have uF:IntKind.i64.wrap (now*s.rate)=now*s.rate:=zB oM oM
    have hw2:IntKind.i64.wrap (now*s.rate / 1000)=now*s.rate / 1000:=zB oM oM
    have hw3:IntKind.i64.wrap (s.off+now*s.rate / 1000)=s.off+now*s.rate / 1000:=zB oM oM
    have n0:((1000:Int)=0)=False:=by decide
    simp (disch:=first|decide|omega) only[hA,hd,uF,hw2,hw3,n0,go_sem]
    exact QA (xs:=[.v (.int .i64 (s.off+now*s.rate / 1000)),.v (.int .i64 0)]) ⟨by unfold jJ;rw[hk];rfl,rfl,rfl⟩
def VJ (s:Sv):Row:=.live 0 6 [[.v (.str s.name),.v (.isl 3 (s.code.map eIn)),.v (.int .i64 s.pc),.v (.isl 1 (s.vars.map eI)),.v (.int .i64 s.off),.v (.int .i64 s.rate)]]
theorem wG (s:Sv) (hS:SvS s) (x:Int) (id:Nat) (b l:List Row) (hg:hget b l id=some (VJ s)):ZA Tryz.prog 100 [.v (.int .i64 x),.ptr id 0 0 0] b l (fun r b' l'=>r=.v (.bool (inZ x 0 (s.vars.length-1)))∧b'=b∧l'=l):=by
 refine XA FV rfl kE ?_
 intro B g hB hR hE hA;simp only[EA]at hA
 have hv:=hS.vars
 have NI:∀l',hget B l' id=some (VJ s):=fun l'=>by
  rw[MD]at hg
  rw[MD,aw (by rw[hB];exact (aj.1 hg).1),hB];exact hg
 unfold VJ at NI
 simp (disch:=first|decide|omega) only[a_wright1,hA,NI,aa,go_sem]
 refine ZA.nxt (AD _ _ _ _ _) ?_
 simp (disch:=first|decide|omega) only[hA,go_sem]
 exact QA (xs:=[.v (.bool (inZ x 0 (s.vars.length-1)))])
theorem XO (s:Sv) (hS:SvS s) (x:Int) (id:Nat) (b l:List Row) (hg:hget b l id=some (VJ s)):ZA Tryz.prog 101 [.v (.int .i64 x),.ptr id 0 0 0] b l (fun r b' l'=>r=.v (.bool (inZ x 0 (s.code.length-1)))∧b'=b∧l'=l):=by
 refine XA LV rfl kE ?_
 intro B g hB hR hE hA;simp only[EA]at hA
 have hv:=hS.code
 have NI:∀l',hget B l' id=some (VJ s):=fun l'=>by
  rw[MD]at hg
  rw[MD,aw (by rw[hB];exact (aj.1 hg).1),hB];exact hg
 unfold VJ at NI
 simp (disch:=first|decide|omega) only[a_wright2,hA,NI,aa,go_sem]
 refine ZA.nxt (AD _ _ _ _ _) ?_
 simp (disch:=first|decide|omega) only[hA,go_sem]
 exact QA (xs:=[.v (.bool (inZ x 0 (s.code.length-1)))])
abbrev zSA (x:Sv):List AV:=[.v (.str x.name),.v (.isl 3 (x.code.map eIn)),.v (.int .i64 x.pc),.v (.isl 1 (x.vars.map eI)),.v (.int .i64 x.off),.v (.int .i64 x.rate)]
theorem uX (s:Sv) (hS:SvS s) (p n:Int) (hn:0≤n∧n≤1000000) (x:In) (b l:List Row):ZA Tryz.prog 72 [.agg (zSA s),.v (.int .i64 p),.v (.int .i64 n),.agg [.v (.int .i64 x.op),.v (.int .i64 x.a),.v (.int .i64 x.b)]] b l (fun r b' l'=>r=.v (.bool (xH s.vars.length s.code.length p n x))∧b'=b∧l'=l):=by
 refine XA AX rfl kE ?_
 intro B g hB hR hE hA;simp only[EA]at hA
 have hv:=hS.vars
 have hc:=hS.code
 have hwn:IntKind.i64.wrap (n-1)=n-1:=zB oM oM
 by_cases o:x.op=1
 ·have hr:xH s.vars.length s.code.length p n x=(inZ x.a 0 (s.vars.length-1)&&vlB x.b):=by unfold xH;rw[if_pos oM]
  rw[hr]
  have e1:(x.op==1)=true:=by simp[o]
  have e2:(x.op==2)=false:=by simp[o]
  have e3:(x.op==3)=false:=by simp[o]
  have e4:(x.op==4)=false:=by simp[o]
  have e5:(x.op==5)=false:=by simp[o]
  have e6:(x.op==6)=false:=by simp[o]
  have e7:(x.op==7)=false:=by simp[o]
  have e8:(x.op==8)=false:=by simp[o]
  simp (disch:=first|decide|omega) only[a_wright,hA,e1,e2,e3,e4,e5,e6,e7,e8,go_sem]
  refine ZA.nxt (wG s hS x.a B.length B _ (by rw[UA];rfl)) ?_
  cases h1:inZ x.a 0 (s.vars.length-1)
  ·simp (disch:=first|decide|omega) only[hA,go_sem]
   exact QA (xs:=[.v (.bool false)]) ⟨by simp[one],rfl,rfl⟩
  ·simp (disch:=first|decide|omega) only[hA,go_sem]
   refine ZA.nxt (tM _ _ _) ?_
   simp (disch:=first|decide|omega) only[hA,go_sem]
   exact QA (xs:=[.v (.bool (vlB x.b))]) ⟨by simp[one],rfl,rfl⟩
 have o1:=o
 clear o
 by_cases o:x.op=2
 ·have hr:xH s.vars.length s.code.length p n x=(inZ x.a 0 (s.vars.length-1)&&vlB x.b):=by unfold xH;rw[if_pos oM]
  rw[hr]
  have e1:(x.op==1)=false:=by simp[o]
  have e2:(x.op==2)=true:=by simp[o]
  have e3:(x.op==3)=false:=by simp[o]
  have e4:(x.op==4)=false:=by simp[o]
  have e5:(x.op==5)=false:=by simp[o]
  have e6:(x.op==6)=false:=by simp[o]
  have e7:(x.op==7)=false:=by simp[o]
  have e8:(x.op==8)=false:=by simp[o]
  simp (disch:=first|decide|omega) only[a_wright,hA,e1,e2,e3,e4,e5,e6,e7,e8,go_sem]
  refine ZA.nxt (wG s hS x.a B.length B _ (by rw[UA];rfl)) ?_
  cases h1:inZ x.a 0 (s.vars.length-1)
  ·simp (disch:=first|decide|omega) only[hA,go_sem]
   exact QA (xs:=[.v (.bool false)]) ⟨by simp[one],rfl,rfl⟩
  ·simp (disch:=first|decide|omega) only[hA,go_sem]
   refine ZA.nxt (tM _ _ _) ?_
   simp (disch:=first|decide|omega) only[hA,go_sem]
   exact QA (xs:=[.v (.bool (vlB x.b))]) ⟨by simp[one],rfl,rfl⟩
 have o2:=o
 clear o
 by_cases o:x.op=3
 ·have hr:xH s.vars.length s.code.length p n x=(inZ x.a 0 (s.vars.length-1)&&(inZ x.b 0 (n-1)&&decide (x.b≠p))):=by unfold xH;rw[if_neg oM,if_pos o]
  rw[hr]
  have e1:(x.op==1)=false:=by simp[o]
  have e2:(x.op==2)=false:=by simp[o]
  have e3:(x.op==3)=true:=by simp[o]
  have e4:(x.op==4)=false:=by simp[o]
  have e5:(x.op==5)=false:=by simp[o]
  have e6:(x.op==6)=false:=by simp[o]
  have e7:(x.op==7)=false:=by simp[o]
  have e8:(x.op==8)=false:=by simp[o]
  simp (disch:=first|decide|omega) only[a_wright,hA,e1,e2,e3,e4,e5,e6,e7,e8,go_sem]
  refine ZA.nxt (wG s hS x.a B.length B _ (by rw[UA];rfl)) ?_
  cases h1:inZ x.a 0 (s.vars.length-1)
  ·simp (disch:=first|decide|omega) only[hA,go_sem]
   exact QA (xs:=[.v (.bool false)]) ⟨by simp[one],rfl,rfl⟩
  ·simp (disch:=first|decide|omega) only[hA,hwn,go_sem]
   refine ZA.nxt (AD _ _ _ _ _) ?_
   cases h2:inZ x.b 0 (n-1)
   ·simp (disch:=first|decide|omega) only[hA,go_sem]
    exact QA (xs:=[.v (.bool false)]) ⟨by simp[one],rfl,rfl⟩
   ·have hb:(x.b != p)=decide (x.b≠p):=by by_cases h:x.b=p<;>simp[h]
    simp (disch:=first|decide|omega) only[hA,hb,go_sem]
    exact QA (xs:=[.v (.bool (decide (x.b≠p)))]) ⟨by simp[one],rfl,rfl⟩
 have o3:=o
 clear o
 by_cases o:x.op=4
 ·have hr:xH s.vars.length s.code.length p n x=inZ x.a 0 (s.vars.length-1):=by unfold xH;rw[if_neg oM,if_neg oM,if_pos o]
  rw[hr]
  have e1:(x.op==1)=false:=by simp[o]
  have e2:(x.op==2)=false:=by simp[o]
  have e3:(x.op==3)=false:=by simp[o]
  have e4:(x.op==4)=true:=by simp[o]
  have e5:(x.op==5)=false:=by simp[o]
  have e6:(x.op==6)=false:=by simp[o]
  have e7:(x.op==7)=false:=by simp[o]
  have e8:(x.op==8)=false:=by simp[o]
  simp (disch:=first|decide|omega) only[a_wright,hA,e1,e2,e3,e4,e5,e6,e7,e8,go_sem]
  refine ZA.nxt (wG s hS x.a B.length B _ (by rw[UA];rfl)) ?_
  simp (disch:=first|decide|omega) only[hA,go_sem]
  exact QA (xs:=[.v (.bool (inZ x.a 0 (s.vars.length-1)))])
 have o4:=o
 clear o
 by_cases o:x.op=5
 ·have hr:xH s.vars.length s.code.length p n x=(inZ x.a 0 (s.vars.length-1)&&inZ x.b 0 (s.code.length-1)):=by unfold xH;rw[if_neg oM,if_neg oM,if_neg oM,if_pos o]
  rw[hr]
  have e1:(x.op==1)=false:=by simp[o]
  have e2:(x.op==2)=false:=by simp[o]
  have e3:(x.op==3)=false:=by simp[o]
  have e4:(x.op==4)=false:=by simp[o]
  have e5:(x.op==5)=true:=by simp[o]
  have e6:(x.op==6)=false:=by simp[o]
  have e7:(x.op==7)=false:=by simp[o]
  have e8:(x.op==8)=false:=by simp[o]
  simp (disch:=first|decide|omega) only[a_wright,hA,e1,e2,e3,e4,e5,e6,e7,e8,go_sem]
  refine ZA.nxt (wG s hS x.a B.length B _ (by rw[UA];rfl)) ?_
  cases h1:inZ x.a 0 (s.vars.length-1)
  ·simp (disch:=first|decide|omega) only[hA,go_sem]
   exact QA (xs:=[.v (.bool false)]) ⟨by simp[one],rfl,rfl⟩
  ·simp (disch:=first|decide|omega) only[hA,go_sem]
   refine ZA.nxt (XO s hS x.b B.length B _ (by rw[UA];rfl)) ?_
   simp (disch:=first|decide|omega) only[hA,go_sem]
   exact QA (xs:=[.v (.bool (inZ x.b 0 (s.code.length-1)))]) ⟨by simp[one],rfl,rfl⟩
 have o5:=o
 clear o
 by_cases o:x.op=6
 ·have hr:xH s.vars.length s.code.length p n x=(inZ x.a 0 (s.code.length-1)&&inZ x.b 0 (s.vars.length-1)):=by unfold xH;rw[if_neg oM,if_neg oM,if_neg oM,if_neg oM,if_pos o]
  rw[hr]
  have e1:(x.op==1)=false:=by simp[o]
  have e2:(x.op==2)=false:=by simp[o]
  have e3:(x.op==3)=false:=by simp[o]
  have e4:(x.op==4)=false:=by simp[o]
  have e5:(x.op==5)=false:=by simp[o]
  have e6:(x.op==6)=true:=by simp[o]
  have e7:(x.op==7)=false:=by simp[o]
  have e8:(x.op==8)=false:=by simp[o]
  simp (disch:=first|decide|omega) only[a_wright,hA,e1,e2,e3,e4,e5,e6,e7,e8,go_sem]
  refine ZA.nxt (XO s hS x.a B.length B _ (by rw[UA];rfl)) ?_
  cases h1:inZ x.a 0 (s.code.length-1)
  ·simp (disch:=first|decide|omega) only[hA,go_sem]
   exact QA (xs:=[.v (.bool false)]) ⟨by simp[one],rfl,rfl⟩
  ·simp (disch:=first|decide|omega) only[hA,go_sem]
   refine ZA.nxt (wG s hS x.b B.length B _ (by rw[UA];rfl)) ?_
   simp (disch:=first|decide|omega) only[hA,go_sem]
   exact QA (xs:=[.v (.bool (inZ x.b 0 (s.vars.length-1)))]) ⟨by simp[one],rfl,rfl⟩
 have o6:=o
 clear o
 have hr:xH s.vars.length s.code.length p n x=decide (x.op=7∨x.op=8):=by unfold xH;rw[if_neg oM,if_neg oM,if_neg oM,if_neg oM,if_neg oM]
 rw[hr]
 have e1:(x.op==1)=false:=by simpa using o1
 have e2:(x.op==2)=false:=by simpa using o2
 have e3:(x.op==3)=false:=by simpa using o3
 have e4:(x.op==4)=false:=by simpa using o4
 have e5:(x.op==5)=false:=by simpa using o5
 have e6:(x.op==6)=false:=by simpa using o6
 by_cases o7:x.op=7
 ·have e7:(x.op==7)=true:=by simpa using o7
  simp (disch:=first|decide|omega) only[a_wright,hA,e1,e2,e3,e4,e5,e6,e7,go_sem]
  exact QA (xs:=[.v (.bool true)]) ⟨by simp[one,o7],rfl,rfl⟩
 ·have e7:(x.op==7)=false:=by simpa using o7
  by_cases o8:x.op=8
  ·have e8:(x.op==8)=true:=by simpa using o8
   simp (disch:=first|decide|omega) only[a_wright,hA,e1,e2,e3,e4,e5,e6,e7,e8,go_sem]
   exact QA (xs:=[.v (.bool true)]) ⟨by simp[one,o8],rfl,rfl⟩
  ·have e8:(x.op==8)=false:=by simpa using o8
   simp (disch:=first|decide|omega) only[a_wright,hA,e1,e2,e3,e4,e5,e6,e7,e8,go_sem]
   exact QA (xs:=[.v (.bool false)]) ⟨by simp[one,o7,o8],rfl,rfl⟩
def a_wname:AFunc:=({c:=_}:CF Tryz.prog 66).c
theorem E3:CA Tryz.prog 66=some a_wname:=by kernel_rfl
def a_wsvc1:AFunc:=({c:=_}:CF Tryz.prog 68).c
theorem P3:CA Tryz.prog 68=some a_wsvc1:=by kernel_rfl
def a_wsvc2:AFunc:=({c:=_}:CF Tryz.prog 71).c
theorem S3:CA Tryz.prog 71=some a_wsvc2:=by kernel_rfl
def a_wsvc3:AFunc:=({c:=_}:CF Tryz.prog 73).c
theorem D3:CA Tryz.prog 73=some a_wsvc3:=by kernel_rfl
def a_wsvcs:AFunc:=({c:=_}:CF Tryz.prog 39).c
theorem I3:CA Tryz.prog 39=some a_wsvcs:=by kernel_rfl
def RY:List (Nat×Nat):=[(2,4),(11,61)]

theorem GK:CA Tryz.prog 63=some (JJ 6):=by kernel_rfl
theorem IK:CA Tryz.prog 32=some (FG 63):=by kernel_rfl
theorem M4:CA Tryz.prog 99=some (JJ 3):=by kernel_rfl
theorem E4:CA Tryz.prog 70=some (FG 99):=by kernel_rfl
theorem ZH8 {s:ByteArray} (hs:s.size≤maxLen):Nm [⟨s,[],[]⟩]:=fun p hp=>by
 simp at hp;subst hp
 exact⟨hs,fun v hv=>by simp at hv⟩
theorem N8 (s:ByteArray):Small [⟨s,[],[]⟩]:=by
 refine⟨by simp,fun x hx=>?_,fun x hx=>?_,fun x hx e he=>?_⟩<;>simp at hx<;>subst hx<;>simp at *
theorem G0 (s:ByteArray) (hs:s.size≤maxLen) (b l:List Row):ZA Tryz.prog 66 [.v (.str s)] b l (fun r b' l'=>r=.v (.bool (GE s))∧b'=b∧l'=l):=by
 refine XA E3 rfl kE ?_
 intro B g hB hR hE hA;simp only[EA]at hA
 have cV:=fun b l=>tN [⟨s,[],[]⟩] (N8 s) (ZH8 hs) b l
 rw[D0]at cV
 simp (disch:=first|decide|omega) only[a_wname,hA,yD,KD,xD,go_sem]
 refine ZA.frzB (i:=0) (ver:=0) (sz:=3) (rows:=[[.str s,.zsl,.zsl]]) (args':=[.agg [.v (.isl 3 [[.str s,.zsl,.zsl]])]]) rfl (by simp[frz,QF]) ?_
 refine ZA.nxt ((cV _ _).le rfl (fun i x y hx hy=>?_)) ?_
 ·match i,hx,hy with
  |0,hx,hy =>
    cases hx;cases hy
    refine .agg _ _ rfl (fun j u v hu hv=>?_)
    match j,hu,hv with
    |0,hu,hv =>
      cases hu;cases hv
      refine .v _ _ (IVle.rows ⟨⟨rfl,fun k a c ha hc=>?_⟩,trivial⟩)
      match k,ha,hc with
      |0,ha,hc=>cases ha;cases hc;exact .refl _
      |1,ha,hc=>cases ha;cases hc;exact .zsl 2
      |2,ha,hc=>cases ha;cases hc;exact .zsl 5
 simp (disch:=first|decide|omega) only[hA,go_sem]
 exact QA (xs:=[.v (.bool (GE s))])
theorem K0 (x:Int) (b l:List Row):ZA Tryz.prog 68 [.v (.int .i64 x)] b l (fun r b' l'=>r=.v (.bool (!vlB x))∧b'=b∧l'=l):=by
 refine XA P3 rfl kE ?_
 intro B g hB hR hE hA;simp only[EA]at hA
 simp (disch:=first|decide|omega) only[a_wsvc1,hA,go_sem]
 refine ZA.nxt (tM _ _ _) ?_
 simp (disch:=first|decide|omega) only[hA,go_sem]
 exact QA (xs:=[.v (.bool (!vlB x))])
theorem U0 (s:Sv) (hS:SvS s) (p:Nat) (ls:List Sv) (hls:ls.length≤1000000) (x:In) (i0 i1 i2:Nat) (b l:List Row) (h0:hget b l i0=some (VJ s)) (h1:hget b l i1=some (.live 0 1 [[.v (.int .i64 p)]])) (h2:hget b l i2=some (.live 0 1 [[.v (.isl 6 (ls.map eSv))]])) :
  ZA Tryz.prog 71 [.agg [.v (.int .i64 x.op),.v (.int .i64 x.a),.v (.int .i64 x.b)],.ptr i0 0 0 0,.ptr i1 0 0 0,.ptr i2 0 0 0] b l (fun r b' l'=>r=.v (.bool (!xH s.vars.length s.code.length p ls.length x))∧b'=b∧l'=l):=by
 refine XA S3 rfl kE ?_
 intro B g hB hR hE hA;simp only[EA]at hA
 have up:∀{i:Nat} {r:Row},hget b l i=some r→∀l',hget B l' i=some r:=fun hg l'=>by
  rw[MD]at hg
  rw[MD,aw (by rw[hB];exact (aj.1 hg).1),hB];exact hg
 have g0:=up h0
 have g1:=up h1
 have g2:=up h2
 unfold VJ at g0
 simp (disch:=first|decide|omega) only[a_wsvc2,hA,g0,g1,g2,aa,go_sem]
 refine ZA.nxt (uX s hS _ _ oM x _ _) ?_
 simp (disch:=first|decide|omega) only[hA,go_sem]
 exact QA (xs:=[.v (.bool (!xH s.vars.length s.code.length p ls.length x))])
theorem V0 (s x:Sv) (i0:Nat) (b l:List Row) (h0:hget b l i0=some (VJ s)) :
  ZA Tryz.prog 73 [.agg ((eSv x).map .v),.ptr i0 0 0 0] b l (fun r b' l'=>r=.v (.bool (x.name==s.name))∧b'=b∧l'=l):=by
 refine XA D3 rfl kE ?_
 intro B g hB hR hE hA;simp only[EA]at hA
 have g0:∀l',hget B l' i0=some (VJ s):=fun l'=>by
  rw[MD]at h0
  rw[MD,aw (by rw[hB];exact (aj.1 h0).1),hB];exact h0
 unfold VJ at g0
 simp (disch:=first|decide|omega) only[a_wsvc3,hA,g0,eSv,go_sem]
 exact QA (xs:=[.v (.bool (x.name==s.name))])
theorem ZBk {l:List Sv} {i:Nat} (hi:i<l.length) (h:svB l i=false):ZH l=false:=by
 unfold ZH
 rw[Bool.and_eq_false_iff]
 right
 rw[gy]
 exact⟨i,bc.2 hi,by rw[h];simp⟩
theorem G8 {l:List Sv} (hl:inZ l.length 1 8=true) (h:∀i,i<l.length→svB l i=true):ZH l=true:=by
 unfold ZH
 rw[hl,dt,bo]
 exact fun i hi=>h i (bc.1 hi)
theorem rR {l:List Sv}:∀row∈l.map eSv,row.length=6:=by
 intro row h
 obtain⟨s,_,rfl⟩:=de.1 h
 rfl
theorem ZFd {l:List In}:∀row∈l.map eIn,row.length=3:=by
 intro row h
 obtain⟨s,_,rfl⟩:=de.1 h
 rfl
theorem lL (ls:List Sv) (hS:SvsS ls) (b l:List Row):ZA Tryz.prog 39 [.v (.isl 6 (ls.map eSv))] b l (fun r b' l'=>r=.v (.bool (ZH ls))∧b'=b∧l'=l):=by
 refine XA I3 rfl kE ?_
 intro B g hB hR hE hA;simp only[EA]at hA
 have hln:=hS.len
 simp (disch:=first|decide|omega) only[a_wsvcs,hA,aa,go_sem]
 refine ZA.nxt (AD _ _ _ _ _) ?_
 cases yF:inZ ls.length 1 8
 ·simp (disch:=first|decide|omega) only[hA,go_sem]
  exact QA (xs:=[.v (.bool false)]) ⟨by unfold ZH;rw[yF];rfl,rfl,rfl⟩
 simp (disch:=first|decide|omega) only[hA,aa,go_sem]
 refine ZB (ι:=Nat) RY (fun i=>[(11,.v (.int .i64 i))]) 1 (fun _=>[.live 0 1 [[.v (.isl 6 (ls.map eSv))]]])
  (fun i=>i≤ls.length∧∀j,j<i→svB ls j=true) (fun i=>ls.length-i) 0 ⟨an _,fun j hj=>by omega⟩ kM kA kF ?_
 rintro g1 aI bI aC i ⟨hi,h0⟩
 by_cases bB:i<ls.length
 case neg =>
  obtain rfl:i=ls.length:=by omega
  simp (disch:=first|decide|omega) only[hA,aC,go_sem]
  exact QA (xs:=[.v (.bool true)]) ⟨by rw[G8 yF h0];rfl,rfl,rfl⟩
 obtain⟨s,hs⟩:∃s,ls[i]=s:=⟨_,rfl⟩
 have lR:ls.getD i dfSv=s:=by rw[YA bB,hs]
 have hSs:=hS.all s (by rw[←hs];exact ap bB)
 have GZ:=ZL bB
 rw[hs]at GZ
 have x6:=hSs.name
 have hsc:=hSs.code
 have ST:=hSs.vars
 have hB1:svB ls i=(sv1 s i ls.length&&(ls.take i).all fun x=>!(x.name==s.name)):=by unfold svB;rw[lR]
 have bad:svB ls i=false→AV.v (.bool (ZH ls))=.v (.bool false):=fun h=>by rw[ZBk bB h]
 simp (disch:=first|decide|omega) only[hA,aC,GZ,aa,go_sem]
 refine ZA.nxt (G0 _ (by simp only[maxLen];omega) _ _) ?_
 cases t1:GE s.name
 ·simp (disch:=first|decide|omega) only[hA,aC,go_sem]
  exact QA (xs:=[.v (.bool false)]) ⟨by rw[bad (by rw[hB1];unfold sv1;rw[t1];rfl)];rfl,rfl,rfl⟩
 simp (disch:=first|decide|omega) only[hA,aC,aa,go_sem]
 refine ZA.nxt (AD _ _ _ _ _) ?_
 cases t2:inZ s.code.length 1 100
 ·simp (disch:=first|decide|omega) only[hA,aC,go_sem]
  exact QA (xs:=[.v (.bool false)]) ⟨by rw[bad (by rw[hB1];unfold sv1;rw[t1,t2];rfl)];rfl,rfl,rfl⟩
 by_cases t3:s.vars.length≤8
 case neg =>
  have d3:decide ((s.vars.length:Int)>8)=true:=ag oM
  have d3':decide ((8:Int)<(s.vars.length:Int))=true:=d3
  simp (disch:=first|decide|omega) only[hA,aC,d3,d3',aa,go_sem]
  exact QA (xs:=[.v (.bool false)]) ⟨by rw[bad (by rw[hB1];unfold sv1;rw[t1,t2,ak t3];rfl)];rfl,rfl,rfl⟩
 have d3:decide ((s.vars.length:Int)>8)=false:=ak oM
 have d3':decide ((8:Int)<(s.vars.length:Int))=false:=d3
 simp (disch:=first|decide|omega) only[hA,aC,d3,d3',aa,go_sem]
 refine ZA.nxt (AD _ _ _ _ _) ?_
 cases t4:inZ s.pc 0 s.code.length
 ·simp (disch:=first|decide|omega) only[hA,aC,go_sem]
  exact QA (xs:=[.v (.bool false)]) ⟨by rw[bad (by rw[hB1];unfold sv1;rw[t1,t2,ag t3,t4];rfl)];rfl,rfl,rfl⟩
 simp (disch:=first|decide|omega) only[hA,aC,aa,go_sem]
 refine ZA.nxt (OP _ _ _ _ _ _ _ _ (.inl ⟨_,rfl⟩)) ?_
 have hrt:(inZ s.off 0 1000000&&inZ s.rate 500 2000)=JM s:=rfl
 rw[hrt]
 cases t5:JM s
 ·simp (disch:=first|decide|omega) only[hA,aC,go_sem]
  exact QA (xs:=[.v (.bool false)]) ⟨by rw[bad (by rw[hB1];unfold sv1;rw[t1,t2,ag t3,t4,t5];rfl)];rfl,rfl,rfl⟩
 simp (disch:=first|decide|omega) only[hA,aC,aa,go_sem]
 refine ZA.nxt (GL s.vars _ [] (fun j=>!vlB (s.vars.getD j 0)) ST _ _ (fun j hj=>by
  simp only[YA hj]
  exact K0 _ _ _)) ?_
 rw[tG (p:=fun x=>!vlB x),AF]
 cases t6:s.vars.all vlB
 ·simp (disch:=first|decide|omega) only[hA,aC,go_sem]
  exact QA (xs:=[.v (.bool false)]) ⟨by rw[bad (by rw[hB1];unfold sv1;rw[t1,t2,ag t3,t4,t5,t6];rfl)];rfl,rfl,rfl⟩
 obtain⟨R,hR3⟩:∃R:List Row,R=[.live 0 1 [[.v (.isl 6 (ls.map eSv))]],.live 0 1 [[.v (.int .i64 i)]],VJ s]:=⟨_,rfl⟩
 have q0:hget (B++R) [] (B.length+2)=some (VJ s):=by rw[MD,cj,au oM,co,hR3];rfl
 have q1:hget (B++R) [] (B.length+1)=some (.live 0 1 [[.v (.int .i64 i)]]):=by rw[MD,cj,au oM,co,hR3];rfl
 have q2:hget (B++R) [] B.length=some (.live 0 1 [[.v (.isl 6 (ls.map eSv))]]):=by rw[MD,cj,au oM,fz,hR3];rfl
 have cK:=zE E4 M4 (s.code.map eIn) 71 [.ptr (B.length+2) 0 0 0,.ptr (B.length+1) 0 0 0,.ptr B.length 0 0 0] (fun j=>!xH s.vars.length s.code.length i ls.length (s.code.getD j zU)) ZFd (by rw[aa];exact hsc) B R (fun j row hj=>by
  have fG:j<s.code.length:=by have:=(aj.1 hj).1;rwa [aa]at this
  rw[LO fG]at hj
  cases hj
  simp only[YA fG]
  exact U0 s hSs i ls hln _ _ _ _ _ _ q0 q1 q2)
 rw[aa,tG (p:=fun x=>!xH s.vars.length s.code.length i ls.length x),AF]at cK
 have hnl:(ls.take i).length=i:=by rw[bu];omega
 have cN:=zE IK GK ((ls.take i).map eSv) 73 [.ptr (B.length+2) 0 0 0] (fun j=>(((ls.take i).getD j dfSv).name==s.name)) rR (by rw[aa];omega) B R (fun j row hj=>by
  have fG:j<(ls.take i).length:=by have:=(aj.1 hj).1;rwa [aa]at this
  rw[ai,ae fG]at hj
  cases hj
  simp only[YA fG]
  exact V0 s _ _ _ _ q0)
 rw[aa,tG (d:=dfSv) (p:=fun x:Sv=>x.name==s.name)]at cN
 rw[hR3]at cK cN
 unfold VJ at cK cN
 simp (disch:=first|decide|omega) only[hA,aC,aa,go_sem]
 refine ZA.nxt cK ?_
 cases t7:s.code.all (xH s.vars.length s.code.length i ls.length)
 ·simp (disch:=first|decide|omega) only[hA,aC,go_sem]
  exact QA (xs:=[.v (.bool false)]) ⟨by rw[bad (by rw[hB1];unfold sv1;rw[t1,t2,ag t3,t4,t5,t6,t7];rfl)];rfl,rfl,rfl⟩
 have LI:sv1 s i ls.length=true:=by unfold sv1;rw[t1,t2,ag t3,t4,t5,t6,t7];rfl
 rw[gx]at cN
 simp (disch:=first|decide|omega) only[hA,aC,aa,go_sem]
 refine ZA.nxt cN ?_
 have hna:(ls.take i).all (fun x=>!(x.name==s.name))=!(ls.take i).any (fun x=>x.name==s.name):=by
  rw[jd]
  simp[bo,gz]
 cases t8:(ls.take i).any (fun x=>x.name==s.name)
 ·simp (disch:=first|decide|omega) only[hA,aC,go_sem]
  refine⟨i+1,⟨bB,fun j hj=>?_⟩,by simp only;omega,?_⟩
  ·rcases cq j i with PI|PI
   ·exact h0 j PI
   ·obtain rfl:j=i:=by omega
    rw[hB1,LI,hna,t8];rfl
  ·exact KA.kround (p:=RY) (k:=1) kQ kA rfl aI kS kV hR kL
 ·simp (disch:=first|decide|omega) only[hA,aC,go_sem]
  exact QA (xs:=[.v (.bool false)]) ⟨by rw[bad (by rw[hB1,LI,hna,t8];rfl)];rfl,rfl,rfl⟩
end Go.Proofs.YtadnnjchehjbiaaGreatDoor
