/- Texts of one proof, laid together: NE, NF, NH, R3, NJ, NK, B1, WV, PB, WL, PF, WJ, WK, WY, B2, B3, B4. No condition. -/
import Derived.Test.YtmaokjojbjdpoaaGreatDoorWR4
import Derived.Test.YtmaokjojbjdpoaaGreatDoorWR3
import Derived.Test.YtmaokjojbjdpoaaGreatDoorWR2
import Derived.KernelRfl
import Derived.Test.YtmaokjojbjdpoaaGreatDoorProg
set_option linter.unusedSimpArgs false
set_option maxHeartbeats 8000000
set_option maxRecDepth 20000
namespace Go.Proofs.YtmaokjojbjdpoaaGreatDoor
set_option maxHeartbeats 16000000
set_option maxRecDepth 100000
set_option linter.unusedVariables false
set_option linter.unusedSimpArgs false
attribute [local go_sem ↓] xC UB iC rC wD fB uC gD dC mD LA lB wC MA mB kC QB GB lC KB FA sC eB bB vB aB yB JC nB xD tC uD iD eE pD bE aE TB ZC
attribute [local go_sem] zB EA YE wB ZB fE tD sD rD KL zL nD nC pC mC YD lA UC AA VC CA qB aop AE QE TD LC MD GC LD AJ XG GF amm zF aC MB sF SD IF comma ZD QG EJ ZG AF wJ dF uF vE yJ eqC eqF aG cellsOf rB bC RB iF NI rd rdI IE mk fD AV.cell List.all_cons List.all_nil Bool.and_true Bool.true_and Bool.and_self List.length_cons List.length_nil List.length_append Nat.reduceAdd Nat.reduceSub Nat.reduceMul Nat.zero_add Nat.add_zero List.cons_append List.nil_append List.append_assoc List.append_nil List.getElem?_cons_zero List.getElem?_cons_succ List.getElem?_nil List.set_cons_zero List.set_cons_succ List.drop_zero List.drop_succ_cons List.take_zero List.take_succ_cons List.take_nil List.drop_nil List.map_cons List.map_nil Option.map_some if_true if_false Bool.false_eq_true and_self true_and and_true Nat.reduceLeDiff Nat.reduceLT Nat.le_refl Nat.reduceEqDiff ite_true ite_false beq_self_eq_true beq_true beq_false Bool.not_true Bool.not_false Bool.true_beq Bool.false_beq lE SB iB jD kD yC vC jC qC yD vD mE pA YL sK JL XL rG iG sG dG geI gtI tG decide_true decide_false room List.getElem?_map List.length_map List.length_take Int.toNat_natCast Nat.min_def Nat.min_self dD XD ED pB GD lF zA List.getElem_cons_zero List.getElem_cons_succ
def a_nSend:AFunc:=({c:=_}:CF Tryz.prog 156).c
theorem z8:qA Tryz.prog 156=some a_nSend:=by kernel_rfl
def nM:List (Nat×Nat):=[(7,9),(44,72)]
def U2:List (Nat×Nat):=[(96,113)]

theorem VA.namedAll {N:Nat} {f:Nat→AV} {b l:List Row} (ov:List (Nat×AV)) (h:lF f ov):VA (kOf N f) b l (kOf N (kOv ov (fun _=>.any))) b l:=by
 intro F L w a s he
 refine⟨F,L,s,⟨he.1,by rw[he.2.1,mI,mI],fun i x v hx hv=>?_⟩,Step.refl _ _ _ _ _,rfl⟩
 rw[YF]at hx
 split at hx
 ·rename_i hi
  cases hx
  rcases kOv_get (ov:=ov) (f:=fun _=>AV.any) (i:=i) with hg|hg
  ·rw[hg];exact .any v
  ·rw[←h.mem hg]
   exact he.2.2 i _ v (by rw[YF,if_pos hi]) hv
 ·cases hx
def hdF (n:Nw):Int×Int:=n.fates.headD (1,0)
def I4 (n:Nw):Nat:=if n.fates=[] then 0 else 1
def sdX (n:Nw) (m:Ms) (k:Nat):Nat→List (Ms×Nat)
 |0=>(AB n).xs
 |c+1=>(sdX n m k c).take k++[(m,n.l.length+c)]++(sdX n m k c).drop k
def sdT (n:Nw) (a:Int) (k:Nat):Nat→List Int
 |0=>n.tm
 |c+1=>(sdT n a k c).take k++[a]++(sdT n a k c).drop k
theorem ZAi {α:Type} {l:List α} {x:α} {k:Nat}:(l.take k++[x]++l.drop k).length=l.length+1:=by
 simp only[ap,bg,co,ej,fq];omega
theorem GO {n:Nw} {m:Ms} {k:Nat}:∀c,(sdX n m k c).length=n.l.length+c
 |0=>xA
 |c+1=>by rw[sdX,ZAi,GO c];omega
theorem DO {n:Nw} {a:Int} {k:Nat}:∀c,(sdT n a k c).length=n.tm.length+c
 |0=>rfl
 |c+1=>by rw[sdT,ZAi,DO c];omega
theorem ZAh {α:Type} {l:List α} {x:α} {k c:Nat} (hk:k≤l.length):(l.take k++List.replicate c x++l.drop k).take k++[x]++(l.take k++List.replicate c x++l.drop k).drop k=l.take k++List.replicate (c+1) x++l.drop k:=by
 have hl:(l.take k).length=k:=by rw[bg];omega
 rw[bc (l.take k),List.take_append_of_le_length oM,List.drop_append_of_le_length oM,bo (l:=l.take k) oM,List.drop_of_length_le (l:=l.take k) oM,bq]
 simp
theorem ZAH {n:Nw} {m:Ms} {k:Nat} (hk:k≤n.l.length):∀c,(sdX n m k c).map (·.1)=n.l.take k++List.replicate c m++n.l.drop k
 |0=>by
   have:(AB n).xs.map (·.1)=n.l:=congrArg Nw.l (IP n)
   rw[sdX,this,bs,ct,iz]
 |c+1=>by
   rw[sdX,bh,bh,gh,fz,ZAH hk c]
   exact ZAh hk
theorem ZEz {n:Nw} {a:Int} {k:Nat} (hk:k≤n.tm.length):∀c,sdT n a k c=n.tm.take k++List.replicate c a++n.tm.drop k
 |0=>by simp[sdT]
 |c+1=>by rw[sdT,ZEz hk c,ZAh hk]
def sdB (n:Nw) (m:Ms) (j:Nat):List Int:=if j<n.l.length then (n.l.getD j dfMs).body else m.body
def H9 (n:Nw) (m:Ms) (c:Nat):Lv:=⟨n.now,n.fifo,1+c,1+c,I4 n,sdX n m (leN n.tm (gE n m)) c,sdT n (gE n m) (leN n.tm (gE n m)) c,n.fates,fl (n.l.length+c) (sdB n m)⟩
theorem xY {n:Nw} {m:Ms} {k:Nat}:∀c,∀x∈sdX n m k c,x.2<n.l.length+c∧sdB n m x.2=x.1.body
 |0,x,hx=>by
   obtain⟨i,hi,rfl⟩:=cr.1 hx
   have hi:=ba.1 hi
   refine⟨hi,?_⟩
   unfold sdB;rw[if_pos hi]
 |c+1,x,hx=>by
   rw[sdX]at hx
   simp only[bu,lx]at hx
   have ih:=xY (n:=n) (m:=m) (k:=k) c
   rcases hx with (hx|rfl)|hx
   ·have:=ih x (ec hx);exact⟨by omega,this.2⟩
   ·refine⟨by simp only;omega,?_⟩
    unfold sdB;rw[if_neg (by simp only;omega)]
   ·have:=ih x (ey hx);exact⟨by omega,this.2⟩
theorem ZHI {n:Nw}:I4 n≤n.fates.length:=by
 unfold I4
 split
 ·exact aj _
 ·rename_i h
  cases hf:n.fates with
  |nil=>exact absurd hf h
  |cons x r=>simp
theorem ZAI {n:Nw} {m:Ms} {c:Nat}:(H9 n m c).ok:=by
 refine⟨ZHI,fun x hx=>?_⟩
 obtain⟨h1,h2⟩:=xY c x hx
 show (fl (n.l.length+c) (sdB n m))[x.2]? = _
 rw[CB h1,h2]
def yR (n:Nw) (m:Ms):Int:=if nwB n=true then (if msB m=true then sdE n m else 1) else 1
def G9 (n:Nw) (m:Ms):Option Lv:=if yR n m=0 then some (H9 n m (wR n).toNat) else none
def ZFv (n:Nw) (m:Ms):Nw:=if yR n m=0 then KT n m (gE n m) (wR n).toNat else nw0
theorem ZGd {n:Nw} {m:Ms}:∀y,G9 n m=some y→y.ok:=by
 intro y h
 unfold G9 at h
 split at h
 ·cases h;exact ZAI
 ·cases h
theorem ZBc {n:Nw}:n.fates.drop (I4 n)=n.fates.drop 1:=by
 unfold I4
 split
 ·rename_i h;rw[h];rfl
 ·rfl
theorem ZGe {n:Nw} {m:Ms}:ZCn (G9 n m)=ZFv n m:=by
 unfold G9 ZFv
 split
 ·rename_i h
  have hv:NwV n:=by
   unfold yR at h
   split at h
   ·rename_i h1;exact VG.1 h1
   ·cases h
  have hl:=hv.len
  have LJ:=XR (l:=n.tm) (a:=gE n m)
  unfold ZCn Lv.nw H9 KT
  simp only
  rw[ZAH oM,ZEz LJ,ZBc]
 ·rfl
theorem qM {n:Nw} {base:Nat}:(AB n).rows base=.live 1 4 ((AB n).xs.map (lvE base))::.live 1 1 (vs (n.tm.map eI))::.live 1 2 (vs (n.fates.map eFt))::fl n.l.length (clB n):=by
 have h:(n.l.map (·.body)).map bdR=fl n.l.length (clB n):=by
  apply ea
  intro j
  by_cases hj:j<n.l.length
  ·rw[CB hj,List.map_map,an,ah hj]
   unfold clB;rw[YA hj];rfl
  ·rw[UH oM,cg (by simp;omega)]
 unfold Lv.rows
 show _::_::_::(n.l.map (·.body)).map bdR=_
 rw[h];rfl
theorem ZE4 {n:Nw} {base i:Nat} (h:i<n.l.length):((AB n).xs.map (lvE base))[i]? = some [.v (.int .i64 n.l[i].fr),.v (.int .i64 n.l[i].to),.v (.int .i64 n.l[i].nu),.sl (base+(3+i)) 1 0 n.l[i].body.length]:=by
 have hx:(AB n).xs=fl n.l.length (fun i=>(n.l.getD i dfMs,i)):=rfl
 rw[hx,an,CB h,YA h];rfl
def sdN (n:Nw) (B:Nat) (vL vA kL kA:Nat):Row:=.live 0 5 [[.v (.int .i64 n.now),.v (.bool n.fifo),.sl (B+3) vL 0 kL,.sl (B+4) vA 0 kA,.sl (B+5) 1 (I4 n) (n.fates.length-I4 n)]]
def sdM (m:Ms):Row:=.live 0 4 [[.v (.int .i64 m.fr),.v (.int .i64 m.to),.v (.int .i64 m.nu),.v (.isl 1 (m.body.map eI))]]
def sdO:Row:=.live 0 5 [[.v (.int .i64 0),.v (.bool false),.v .zsl,.v .zsl,.v .zsl]]
def sdF (n:Nw):Row:=.live 0 2 [[.v (.int .i64 (hdF n).1),.v (.int .i64 (hdF n).2)]]
theorem VA.ktrim {N:Nat} {f:Nat→AV} {b l l1 junk:List Row} (ov:List (Nat×AV)) (h:lF f ov) (hl:l=l1++junk) (ho:bH (b.length+l1.length) ov) (hb:gA b.length b) (h1:gA (b.length+l1.length) l1) :
  VA (kOf N f) b l (kOf N (kOv ov (fun _=>.any))) b l1:=by
 have hE:KLt (b.length+l1.length) (fun _=>AV.any):=fun _=>.any
 exact (VA.namedAll ov h).trans (VA.trim hl ((hE.ov ho).env) (hb.mono oM) h1)
theorem ZFN {xs:List (Ms×Nat)} {c base M:Nat} (h:∀x∈xs,x.2<c) (hM:base+(3+c)≤M):∀row∈xs.map (lvE base),∀a∈row,AVlt M a:=by
 intro row hr a ha
 obtain⟨x,hx,rfl⟩:=cr.1 hr
 have:=h x hx
 unfold lvE at ha
 simp only[cz,ie,or_false]at ha
 rcases ha with rfl|rfl|rfl|rfl
 ·exact .v _
 ·exact .v _
 ·exact .v _
 ·exact .sl _ _ _ _ oM
theorem pV {n:Nw} {m:Ms} {B vL vA kL kA M wL wA:Nat} {X:List (List AV)} {tv fv:List (List IV)} {T:List Row} (hM:B+6≤M) (hX:∀row∈X,∀c∈row,AVlt M c) (hT:gA M T) :
  gA M (sdN n B vL vA kL kA::sdM m::sdO::.live wL 4 X::.live wA 1 (vs tv)::.live 1 2 (vs fv)::T):=by
 unfold sdN sdM sdO
 refine SC.2 ⟨by simp (disch:=omega) only[lts.down,Nat.reduceLT,Nat.reduceAdd],SC.2 ⟨by simp (disch:=omega) only[lts.down,Nat.reduceLT,Nat.reduceAdd],SC.2 ⟨by simp (disch:=omega) only[lts.down,Nat.reduceLT,Nat.reduceAdd],SC.2 ⟨hX,SC.2 ⟨cJ.2 trivial,SC.2 ⟨cJ.2 trivial,hT⟩⟩⟩⟩⟩⟩
theorem gA.app {M:Nat} {a c:List Row} (h1:gA M a) (h2:gA M c):gA M (a++c):=by
 intro id ver sz els h
 by_cases hid:id<a.length
 ·rw[aw hid]at h;exact h1 id ver sz els h
 ·rw[aq oM]at h;exact h2 _ ver sz els h
theorem gA.flB {M k:Nat} {g:Nat→List Int}:gA M (fl k fun j=>bdR (g j)):=by
 intro id ver sz els h row hr c hc
 by_cases hid:id<k
 ·rw[CB hid]at h
  cases h
  obtain⟨r0,_,rfl⟩:=cr.1 hr
  obtain⟨x0,_,rfl⟩:=cr.1 hc
  exact .v _
 ·rw[UH oM]at h;cases h
theorem ZHb {n:Nw}:∀x∈(AB n).xs,x.2<n.l.length:=fun x hx=>(xY (n:=n) (m:=dfMs) (k:=0) 0 x hx).1
def wH (n:Nw) (m:Ms) (B c:Nat):List Row:=sdN n B (1+c) (1+c) (n.l.length+c) (n.tm.length+c)::sdM m::sdO::.live (1+c) 4 ((sdX n m (leN n.tm (gE n m)) c).map (lvE (B+3)))::.live (1+c) 1 (vs ((sdT n (gE n m) (leN n.tm (gE n m)) c).map eI))::.live 1 2 (vs (n.fates.map eFt))::fl (n.l.length+c) (fun j=>bdR (sdB n m j))
theorem GK {n:Nw} {m:Ms} {B c:Nat}:(wH n m B c).length=n.l.length+c+6:=by unfold wH;simp[xA]
theorem nV {n:Nw} {m:Ms} {B c:Nat}:gA (B+(wH n m B c).length) (wH n m B c):=by
 rw[GK]
 exact pV oM (ZFN (fun x hx=>(xY c x hx).1) oM) gA.flB
theorem YZ {n:Nw} {m:Ms} {B:Nat}:wH n m B 0=sdN n B 1 1 n.l.length n.tm.length::sdM m::sdO::.live 1 4 ((AB n).xs.map (lvE (B+3)))::.live 1 1 (vs (n.tm.map eI))::.live 1 2 (vs (n.fates.map eFt))::fl n.l.length (clB n):=by
 have h:fl (n.l.length+0) (fun j=>bdR (sdB n m j))=fl n.l.length (clB n):=by
  refine fM (fun i hi=>?_)
  unfold clB sdB
  rw[if_pos oM]
 unfold wH
 rw[h]
 rfl
theorem JZ {n:Nw} {m:Ms} {B c K:Nat} (hK:leN n.tm (gE n m)=K):wH n m B (c+1)=sdN n B (1+c+1) (1+c+1) (n.l.length+c+1) (n.tm.length+c+1)::sdM m::sdO ::
  .live (1+c+1) 4 (((sdX n m K c).map (lvE (B+3))).take K++[.v (.int .i64 m.fr),.v (.int .i64 m.to),.v (.int .i64 m.nu),.sl (B+(n.l.length+c+1+1+1+1+1+1)) 1 0 m.body.length]::((sdX n m K c).map (lvE (B+3))).drop K) ::
  .live (1+c+1) 1 (vs (((sdT n (gE n m) K c).map eI).take K++[[.int .i64 (gE n m)]])++vs (((sdT n (gE n m) K c).map eI).drop K))::.live 1 2 (vs (n.fates.map eFt))::(fl (n.l.length+c) (fun j=>bdR (sdB n m j))++[.live 1 1 (vs (m.body.map eI))]):=by
 have h1:fl (n.l.length+(c+1)) (fun j=>bdR (sdB n m j))=fl (n.l.length+c) (fun j=>bdR (sdB n m j))++[.live 1 1 (vs (m.body.map eI))]:=by
  unfold fl
  rw[←cw,fw,bh]
  simp only[bj,cd]
  have:sdB n m (n.l.length+c)=m.body:=if_neg oM
  rw[this];rfl
 have h2:(sdX n m K (c+1)).map (lvE (B+3))=((sdX n m K c).map (lvE (B+3))).take K++[.v (.int .i64 m.fr),.v (.int .i64 m.to),.v (.int .i64 m.nu),.sl (B+(n.l.length+c+1+1+1+1+1+1)) 1 0 m.body.length]::((sdX n m K c).map (lvE (B+3))).drop K:=by
  rw[sdX,bh,bh,gh,fz]
  have:lvE (B+3) (m,n.l.length+c)=[.v (.int .i64 m.fr),.v (.int .i64 m.to),.v (.int .i64 m.nu),.sl (B+(n.l.length+c+1+1+1+1+1+1)) 1 0 m.body.length]:=by
   unfold lvE
   rw[show B+3+(3+(m,n.l.length+c).2)=B+(n.l.length+c+1+1+1+1+1+1) by simp only;omega]
  simp only[bj,cd,this,bc,da,ee]
 have h3:vs ((sdT n (gE n m) K (c+1)).map eI)=vs (((sdT n (gE n m) K c).map eI).take K++[[.int .i64 (gE n m)]])++vs (((sdT n (gE n m) K c).map eI).drop K):=by
  rw[sdT,bh,bh,gh,fz,ZEu]
  rfl
 unfold wH
 rw[hK,h1,h2,h3]
 rfl
theorem ZBh (n:Nw) (m:Ms) (b l:List Row):QA Tryz.prog 156 [.agg ((eNw n).map .v),.agg (zMA m)] b l
  (fun r b' l'=>r=.tup [ZDR (b.length+l.length) (G9 n m),.v (.int .i64 (yR n m))]∧b'=b∧l'=l++pW (b.length+l.length) (G9 n m)):=by
 refine XA z8 rfl kE ?_
 intro B g hB hR hE hA;simp only[zA]at hA
 have hV:=xG n
 have hC:=UM n
 unfold eNw at hV hC
 simp only[bj,cd]at hV hC
 have bad:yR n m≠0→G9 n m=none:=fun h=>if_neg h
 simp (disch:=first|decide|omega) only[a_nSend,hA,eNw,go_sem]
 refine QA.nxt (hV _ _) ?_
 cases h1:nwB n
 ·have he:yR n m=1:=by unfold yR;rw[h1];rfl
  rw[bad (by rw[he];decide),he]
  simp (disch:=first|decide|omega) only[hA,cellsOf,go_sem]
  exact DA (.inr rfl) (xs:=[zNw,.v (.int .i64 1)]) (by simp (disch:=first|decide|omega) only[resVs,resV,hA,zNw,go_sem]) (by simp only[one,zNw,lts.down,Nat.reduceLT,Nat.reduceAdd]) hR hB ⟨rfl,rfl,by simp[pW]⟩
 simp (disch:=first|decide|omega) only[hA,go_sem]
 refine QA.nxt (FV m _ _) ?_
 cases h2:msB m
 ·have he:yR n m=1:=by unfold yR;rw[if_pos h1,h2];rfl
  rw[bad (by rw[he];decide),he]
  simp (disch:=first|decide|omega) only[hA,cellsOf,go_sem]
  exact DA (.inr rfl) (xs:=[zNw,.v (.int .i64 1)]) (by simp (disch:=first|decide|omega) only[resVs,resV,hA,zNw,go_sem]) (by simp only[one,zNw,lts.down,Nat.reduceLT,Nat.reduceAdd]) hR hB ⟨rfl,rfl,by simp[pW]⟩
 have hes:yR n m=sdE n m:=by unfold yR;rw[if_pos h1,if_pos h2]
 rw[hes]at bad⊢
 have hv:=VG.1 h1
 have ZIH:=hv.now
 have HU:=hv.l
 have IB:=hv.len
 have F9:=hv.fl
 have hhd:=UN hv
 have hbl:=Y3 h2
 simp (disch:=first|decide|omega) only[hA,go_sem]
 refine QA.nxt (hC hv.s _ _) ?_
 have hxl:(AB n).xs.length=n.l.length:=xA
 have hav:∀base,(AB n).av base=.agg [.v (.int .i64 n.now),.v (.bool n.fifo),.sl base 1 0 n.l.length,.sl (base+1) 1 0 n.tm.length,.sl (base+2) 1 0 n.fates.length]:=fun base=>by
  unfold Lv.av;rw[hxl];rfl
 have e1:B.length+3+1=B.length+4:=rfl
 have e2:B.length+3+2=B.length+5:=rfl
 have hrw:=qM (n:=n) (base:=B.length+3)
 have ha0:xE n m 0=n.now+(hdF n).2:=rfl
 have hdc:0≤(hdF n).1∧(hdF n).1≤3:=hhd.1
 have hda:0≤(hdF n).2∧(hdF n).2≤1000000:=hhd.2
 by_cases hf:n.fates=[]
 case' pos =>
  have d1:decide ((0:Int)<(n.fates.length:Int))=false:=by rw[hf];rfl
  have h1f:(hdF n).1=1:=by unfold hdF;rw[hf];rfl
  have h2f:(hdF n).2=0:=by unfold hdF;rw[hf];rfl
  have ho:I4 n=0:=if_pos hf
  have hff:Row.live 0 2 [[.v (.int .i64 1),.v (.int .i64 0)]]=sdF n:=by unfold sdF;rw[h1f,h2f]
  have hat:n.now+0=xE n m 0:=by rw[ha0,h2f]
  have hn0:Row.live 0 5 [[.v (.int .i64 n.now),.v (.bool n.fifo),.sl (B.length+3) 1 0 n.l.length,.sl (B.length+4) 1 0 n.tm.length,.sl (B.length+5) 1 0 n.fates.length]]=sdN n B.length 1 1 n.l.length n.tm.length:=by unfold sdN;rw[ho];rfl
  simp (disch:=first|decide|omega) only[hA,hav,hrw,e1,e2,xA,EC,MC,uB,tB,d1,cellsOf,go_sem]
 case' neg =>
  have qT:0<n.fates.length:=by
   cases hq:n.fates with
   |nil=>exact absurd hq hf
   |cons x r=>simp
  have d1:decide ((0:Int)<(n.fates.length:Int))=true:=ae oM
  have ho:I4 n=1:=if_neg hf
  have hg0:(n.fates.map eFt)[Int.toNat 0]? = some [.int .i64 (hdF n).1,.int .i64 (hdF n).2]:=by
   show (n.fates.map eFt)[0]? = _
   unfold hdF
   cases hq:n.fates with
   |nil=>exact absurd hq hf
   |cons x r=>rfl
  have hff:Row.live 0 2 [[.v (.int .i64 (hdF n).1),.v (.int .i64 (hdF n).2)]]=sdF n:=rfl
  have hn0:Row.live 0 5 [[.v (.int .i64 n.now),.v (.bool n.fifo),.sl (B.length+3) 1 0 n.l.length,.sl (B.length+4) 1 0 n.tm.length,.sl (B.length+5) 1 (Int.toNat 1) (n.fates.length-Int.toNat 1)]]=sdN n B.length 1 1 n.l.length n.tm.length:=by unfold sdN;rw[ho];rfl
  have hat:n.now+(hdF n).2=xE n m 0:=rfl
  simp (disch:=first|decide|omega) only[hA,hav,hrw,e1,e2,xA,EC,MC,uB,tB,d1,hg0,iB,cellsOf,go_sem]
 all_goals
  refine JA (ι:=Nat) nM (fun i=>[(7,.v (.int .i64 (xE n m i))),(44,.v (.int .i64 i))]) (n.l.length+7) (fun _=>sdN n B.length 1 1 n.l.length n.tm.length::sdM m::sdO::.live 1 4 ((AB n).xs.map (lvE (B.length+3)))::.live 1 1 (vs (n.tm.map eI))::.live 1 2 (vs (n.fates.map eFt))::(fl n.l.length (clB n)++[sdF n]))
   (fun i=>i≤n.l.length) (fun i=>n.l.length-i) 0 (aj _) kM (by ((try simp (disch:=decide) only[hA,hat,go_sem])<;>exact kH)) (fun e=>by rw[hn0,hff];exact VA.refl _ _ _) ?_
  intro g1 qF TE sA i hi
  have nR:gA (B.length+(sdN n B.length 1 1 n.l.length n.tm.length::sdM m::sdO::.live 1 4 ((AB n).xs.map (lvE (B.length+3)))::.live 1 1 (vs (n.tm.map eI))::.live 1 2 (vs (n.fates.map eFt))::(fl n.l.length (clB n)++[sdF n])).length) (sdN n B.length 1 1 n.l.length n.tm.length::sdM m::sdO::.live 1 4 ((AB n).xs.map (lvE (B.length+3)))::.live 1 1 (vs (n.tm.map eI))::.live 1 2 (vs (n.fates.map eFt))::(fl n.l.length (clB n)++[sdF n])):=by
   refine pV kS (ZFN ZHb (by simp[xA];omega)) (gA.app gA.flB ?_)
   unfold sdF
   simp (disch:=omega) only[lts.down,Nat.reduceLT,Nat.reduceAdd]
  by_cases yA:i<n.l.length
  ·have hxg:=ZE4 (n:=n) (base:=B.length+3) yA
   have htg:=IC (l:=n.tm) (i:=i) oM
   have H4:=dL hv (m:=m) i oM
   cases D8:(n.fifo==true)
   case false =>
    have hfb:(n.fifo=true)=False:=by simpa using D8
    have ZF:xE n m (i+1)=xE n m i:=by simp only[xE];rw[if_neg (fun h=>by rw[hfb]at h;exact h.1)]
    simp (disch:=first|decide|omega) only[hA,sA,hxg,htg,D8,hfb,xA,EC,MC,uB,tB,iB,sdN,sdM,sdO,sdF,cellsOf,go_sem]
    refine⟨i+1,yA,by simp only;omega,?_⟩
    exact VA.kround (p:=nM) (k:=n.l.length+7) (l1:=sdN n B.length 1 1 n.l.length n.tm.length::sdM m::sdO::.live 1 4 ((AB n).xs.map (lvE (B.length+3)))::.live 1 1 (vs (n.tm.map eI))::.live 1 2 (vs (n.fates.map eFt))::(fl n.l.length (clB n)++[sdF n])) (junk:=[_]) kQ (by ((try simp (disch:=decide) only[ZF,hA,go_sem])<;>exact kH)) (by simp only[sdN,sdM,sdO,sdF,da,bc,ee];rfl) qF (by simp[xA]) kV hR nR
   case true =>
    have hfb:(n.fifo=true)=True:=by simpa using D8
    by_cases Y5:n.l[i].fr=m.fr
    case neg =>
     have d1:(n.l[i].fr==m.fr)=false:=dr.2 Y5
     have ZF:xE n m (i+1)=xE n m i:=by simp only[xE];rw[if_neg (fun h=>Y5 (by have:=h.2.1;rwa [YA yA]at this))]
     simp (disch:=first|decide|omega) only[hA,sA,hxg,htg,D8,hfb,d1,xA,EC,MC,uB,tB,iB,sdN,sdM,sdO,sdF,cellsOf,go_sem]
     refine⟨i+1,yA,by simp only;omega,?_⟩
     exact VA.kround (p:=nM) (k:=n.l.length+7) (l1:=sdN n B.length 1 1 n.l.length n.tm.length::sdM m::sdO::.live 1 4 ((AB n).xs.map (lvE (B.length+3)))::.live 1 1 (vs (n.tm.map eI))::.live 1 2 (vs (n.fates.map eFt))::(fl n.l.length (clB n)++[sdF n])) (junk:=[_]) kQ (by ((try simp (disch:=decide) only[ZF,hA,go_sem])<;>exact kH)) (by simp only[sdN,sdM,sdO,sdF,da,bc,ee];rfl) qF (by simp[xA]) kV hR nR
    have d1:(n.l[i].fr==m.fr)=true:=by rw[Y5];simp
    by_cases hto:n.l[i].to=m.to
    case neg =>
     have d2:(n.l[i].to==m.to)=false:=dr.2 hto
     have ZF:xE n m (i+1)=xE n m i:=by simp only[xE];rw[if_neg (fun h=>hto (by have:=h.2.2;rwa [YA yA]at this))]
     simp (disch:=first|decide|omega) only[hA,sA,hxg,htg,D8,hfb,d1,d2,xA,EC,MC,uB,tB,iB,sdN,sdM,sdO,sdF,cellsOf,go_sem]
     refine⟨i+1,yA,by simp only;omega,?_⟩
     exact VA.kround (p:=nM) (k:=n.l.length+7) (l1:=sdN n B.length 1 1 n.l.length n.tm.length::sdM m::sdO::.live 1 4 ((AB n).xs.map (lvE (B.length+3)))::.live 1 1 (vs (n.tm.map eI))::.live 1 2 (vs (n.fates.map eFt))::(fl n.l.length (clB n)++[sdF n])) (junk:=[_]) kQ (by ((try simp (disch:=decide) only[ZF,hA,go_sem])<;>exact kH)) (by simp only[sdN,sdM,sdO,sdF,da,bc,ee];rfl) qF (by simp[xA]) kV hR nR
    have d2:(n.l[i].to==m.to)=true:=by rw[hto];simp
    have ZF:(if xE n m i<n.tm.getD i 0 then n.tm.getD i 0 else xE n m i)=xE n m (i+1):=by
     simp only[xE]
     rw[if_pos (show n.fifo=true∧_ from⟨by rw[hfb];trivial,by rw[YA yA];exact Y5,by rw[YA yA];exact hto⟩)]
     split<;>omega
    simp (disch:=first|decide|omega) only[hA,sA,hxg,htg,D8,hfb,d1,d2,xA,EC,MC,uB,tB,iB,sdN,sdM,sdO,sdF,cellsOf,go_sem]
    refine⟨i+1,yA,by simp only;omega,?_⟩
    exact VA.kround (p:=nM) (k:=n.l.length+7) (l1:=sdN n B.length 1 1 n.l.length n.tm.length::sdM m::sdO::.live 1 4 ((AB n).xs.map (lvE (B.length+3)))::.live 1 1 (vs (n.tm.map eI))::.live 1 2 (vs (n.fates.map eFt))::(fl n.l.length (clB n)++[sdF n])) (junk:=[_]) kQ (by ((try simp (disch:=decide) only[ZF,hA,go_sem])<;>exact kH)) (by simp only[sdN,sdM,sdO,sdF,da,bc,ee];rfl) qF (by simp[xA]) kV hR nR
  ·obtain rfl:i=n.l.length:=by omega
   have ZDV:xE n m n.l.length=gE n m:=rfl
   have H4:=dL hv (m:=m) n.l.length (ai _)
   rw[ZDV]at H4
   have d1:decide (1099512627776<gE n m)=false:=ag oM
   by_cases QQ:1000<(n.l.length:Int)+(hdF n).1
   ·have d2:=ae QQ
    have he:sdE n m=5:=by unfold sdE;rw[if_neg oM,if_pos (show (n.l.length:Int)+wR n>1000 from QQ)]
    rw[bad (by rw[he];decide),he]
    simp (disch:=first|decide|omega) only[hA,sA,ZDV,d1,d2,xA,EC,MC,uB,tB,iB,sdN,sdM,sdO,sdF,cellsOf,go_sem]
    exact DA (.inr rfl) (xs:=[zNw,.v (.int .i64 5)]) (by simp (disch:=first|decide|omega) only[resVs,resV,hA,sA,zNw,go_sem]) (by simp only[one,zNw,lts.down,Nat.reduceLT,Nat.reduceAdd]) hR hB ⟨rfl,rfl,by simp[pW]⟩
   have d2:=ag QQ
   have he:sdE n m=0:=by unfold sdE;rw[if_neg oM,if_neg (show ¬(n.l.length:Int)+wR n>1000 from QQ)]
   have hZ:G9 n m=some (H9 n m (wR n).toNat):=if_pos (by rw[hes,he])
   rw[hZ,he]
   simp (disch:=first|decide|omega) only[hA,sA,ZDV,d1,d2,xA,EC,MC,uB,tB,iB,sdN,sdM,sdO,sdF,cellsOf,go_sem]
   refine QA.nxt (ZCE n.tm oM hv.sorted (gE n m) (B.length+4) 1 _ _ (by rw[aq oM,cj];rfl)) ?_
   simp (disch:=first|decide|omega) only[hA,sA,ZDV,d1,d2,xA,EC,MC,uB,tB,iB,cellsOf,go_sem]
   have ZKR:=XR (l:=n.tm) (a:=gE n m)
   obtain⟨C,hC1⟩:∃C:Nat,(hdF n).1=(C:Int):=⟨(hdF n).1.toNat,by omega⟩
   have hCc:(wR n).toNat=C:=by show (hdF n).1.toNat=C;omega
   rw[hC1]
   refine CL (f':=kOv [(2,.ptr B.length 0 0 0),(3,.ptr (B.length+1) 0 0 0),(4,.ptr (B.length+2) 0 0 0),(5,.v (.int .i64 0)),(7,.v (.int .i64 (gE n m))),(10,.v (.int .i64 (leN n.tm (gE n m)))),(95,.v (.int .i64 C)),(96,.v (.int .i64 0))] (fun _=>.any)) (l':=wH n m B.length 0)
    (ι:=Nat) U2 (fun c=>[(96,.v (.int .i64 c))]) 6 (fun c=>wH n m B.length c) (fun c=>c≤C) (fun c=>C-c) 0 (aj _)
    (VA.ktrim (junk:=[sdF n]) _ kA (by rw[YZ,hC1.symm];rfl) (by rw[GK];simp (disch:=omega) only[bH,lts.down,Nat.reduceLT,Nat.reduceAdd]) hR nV) (KLt.ov (fun _=>.any) kV) kA kF ?_
   intro g2 RJ QO DD c hc
   by_cases hlc:c<C
   ·simp (disch:=first|decide|omega) only[hA,DD,xA,EC,MC,uB,tB,iB,wH,sdN,sdM,sdO,cellsOf,go_sem]
    refine QA.nxt (rP m oM _ _) ?_
    simp (disch:=first|decide|omega) only[hA,DD,xA,EC,MC,uB,tB,iB,bq,bs,go_sem]
    obtain⟨K,hK⟩:∃K,K=leN n.tm (gE n m):=⟨_,rfl⟩
    have hK2:leN n.tm (gE n m)=K:=hK.symm
    rw[←hK]at ZKR⊢
    have hM:=fun b l hid hv=>ZEI (B.length+3) (1+c) K (B.length+(n.l.length+c+1+1+1+1+1+1+1)) 0 ((sdX n m K c).map (lvE (B.length+3))) [.v (.int .i64 m.fr),.v (.int .i64 m.to),.v (.int .i64 m.nu),.sl (B.length+(n.l.length+c+1+1+1+1+1+1)) 1 0 m.body.length] b l hid hv oM (by rw[aa,GO];omega) (by rw[aa,GO];omega)
    simp only[aa,GO]at hM
    refine QA.nxt (hM _ _ (by rw[aq oM,cj];rfl) (by rw[aq oM,cj];simp only[fh];rw[MC];rfl)) ?_
    simp (disch:=first|decide|omega) only[hA,DD,xA,EC,MC,uB,tB,iB,bq,bs,go_sem]
    have hI:=fun b l hid hv=>ZEJ (B.length+4) (1+c) K (B.length+(n.l.length+c+2+1+1+1+1+1+1)) 0 (vs ((sdT n (gE n m) K c).map eI)) [.v (.int .i64 (gE n m))] b l hid hv oM (by rw[SB,aa,DO];omega) (by rw[SB,aa,DO];omega)
    simp only[SB,aa,DO]at hI
    rw[hK2]
    refine QA.nxt (hI _ _ (by rw[aq oM,cj];rfl) (by rw[aq oM,cj];simp only[fh];rw[MC];rfl)) ?_
    simp (disch:=first|decide|omega) only[hA,DD,xA,EC,MC,uB,tB,iB,bq,bs,go_sem]
    subst hK
    refine⟨c+1,hlc,by simp only;omega,?_⟩
    show VA _ B _ (kOf 115 (kOv [(96,.v (.int .i64 ((c+1:Nat):Int)))] g2)) B (wH n m B.length (c+1))
    exact VA.kround (p:=U2) (k:=6) (l1:=wH n m B.length (c+1)) (junk:=[_,_]) kQ kA (by rw[JZ hK2];simp only[sdN,sdM,sdO,da,bc,ee];rfl) RJ (by rw[GK];omega) (by rw[GK];simp (disch:=omega) only[bH,lts.down,Nat.reduceLT,Nat.reduceAdd]) hR nV
   ·obtain rfl:c=C:=by omega
    simp (disch:=first|decide|omega) only[hA,DD,xA,EC,MC,uB,tB,iB,wH,sdN,sdM,sdO,cellsOf,go_sem]
    rw[hCc]
    have hzx:(H9 n m c).xs.length=n.l.length+c:=GO c
    have hzt:(H9 n m c).tm.length=n.tm.length+c:=DO c
    refine j3 (.inr rfl) (z:=H9 n m c) ZAI (s:=3) (c:=.int .i64 0) (junk:=[]) (by simp (disch:=first|decide|omega) only[resVs,resV,hA,DD,Lv.av,hzx,hzt,go_sem];rfl) ?_ hR hB ⟨by rw[hB,ap];rfl,rfl,by rw[hB,ap];rfl⟩
    rw[ct]
    unfold Lv.rows
    rw[show (H9 n m c).bd.map bdR=fl (n.l.length+c) (fun j=>bdR (sdB n m j)) from ZFT]
    rfl
theorem c6 (n:Nw) (m:Ms) (b l:List Row):QA Tryz.prog 156 [.agg ((eNw n).map .v),.agg (zMA m)] b l
  (fun r b' l'=>r=.tup [nwA (ZFv n m),.v (.int .i64 (yR n m))]∧b'=b∧l'=l):=by
 rw[←ZGe]
 exact QA.ownV ZGd (ZBh n m b l)
def a_nRecv:AFunc:=({c:=_}:CF Tryz.prog 157).c
theorem j8:qA Tryz.prog 157=some a_nRecv:=by kernel_rfl
def G2:List (Nat×Nat):=[(6,8),(24,56)]

def rcE (n:Nw) (to:Int):Int:=if nwB n=true then (if ptB to=true then (if fiR n to<0 then 7 else 0) else 2) else 1
def GJ (n:Nw) (k:Nat):Lv:=⟨n.now,n.fifo,2,2,0,(AB n).xs.take k++(AB n).xs.drop (k+1),n.tm.take k++n.tm.drop (k+1),n.fates,n.l.map (·.body)⟩
def rcZ (n:Nw) (to:Int):Option Lv:=if rcE n to=0 then some (GJ n (fiR n to).toNat) else none
def rcN (n:Nw) (to:Int):Nw:=if rcE n to=0 then woN n (fiR n to).toNat else nw0
def rcM (n:Nw) (to:Int):Ms:=if rcE n to=0 then n.l.getD (fiR n to).toNat dfMs else dfMs
def ZCl (n:Nw) (to:Int) (base:Nat):AV:=if rcE n to=0 then .agg [.v (.int .i64 (rcM n to).fr),.v (.int .i64 (rcM n to).to),.v (.int .i64 (rcM n to).nu),.sl (base+(3+n.l.length)) 1 0 (rcM n to).body.length] else .agg [.v (.int .i64 0),.v (.int .i64 0),.v (.int .i64 0),.v .zsl]
def rcR (n:Nw) (to:Int) (base:Nat):List Row:=if rcE n to=0 then (GJ n (fiR n to).toNat).rows base++[bdR (rcM n to).body] else []
theorem ZAJ {n:Nw} {k:Nat}:(GJ n k).ok:=by
 refine⟨aj _,fun x hx=>?_⟩
 refine (GP n).bd x ?_
 rcases bu.1 hx with h|h
 ·exact ec h
 ·exact ey h
theorem ZGo {n:Nw} {k:Nat}:(GJ n k).nw=woN n k:=by
 have h:(AB n).xs.map (·.1)=n.l:=congrArg Nw.l (IP n)
 unfold Lv.nw GJ woN
 simp only[bh,gh,fz,h,gu]
theorem ZJV {n:Nw} {to:Int}:ZCn (rcZ n to)=rcN n to:=by
 unfold rcZ rcN
 split
 ·exact ZGo
 ·rfl
theorem ZBU {n:Nw} {k base:Nat}:(GJ n k).rows base=.live 2 4 (((AB n).xs.map (lvE base)).take k++((AB n).xs.map (lvE base)).drop (k+1))::.live 2 1 (vs ((n.tm.map eI).take k)++vs ((n.tm.map eI).drop (k+1)))::.live 1 2 (vs (n.fates.map eFt))::fl n.l.length (clB n):=by
 have h:=qM (n:=n) (base:=base)
 unfold Lv.rows at h⊢
 have h2:=(List.cons.inj (List.cons.inj (List.cons.inj h).2).2).2
 have h3:(GJ n k).bd.map bdR=fl n.l.length (clB n):=h2
 rw[h3]
 unfold GJ
 simp only[bh,gh,fz,ZEu]
theorem ZBi (n:Nw) (to:Int) (b l:List Row):QA Tryz.prog 157 [.agg ((eNw n).map .v),.v (.int .i64 to)] b l
  (fun r b' l'=>r=.tup [ZDR (b.length+l.length) (rcZ n to),ZCl n to (b.length+l.length),.v (.int .i64 (rcE n to))]∧b'=b∧l'=l++rcR n to (b.length+l.length)):=by
 refine XA j8 rfl kE ?_
 intro B g hB hR hE hA;simp only[zA]at hA
 have hV:=xG n
 have hC:=UM n
 unfold eNw at hV hC
 simp only[bj,cd]at hV hC
 have bad:rcE n to≠0→rcZ n to=none∧ZCl n to (b.length+l.length)=.agg [.v (.int .i64 0),.v (.int .i64 0),.v (.int .i64 0),.v .zsl]∧rcR n to (b.length+l.length)=[]:=fun h=>⟨if_neg h,if_neg h,if_neg h⟩
 simp (disch:=first|decide|omega) only[a_nRecv,hA,eNw,go_sem]
 refine QA.nxt (hV _ _) ?_
 cases h1:nwB n
 ·have he:rcE n to=1:=by unfold rcE;rw[h1];rfl
  obtain⟨b1,b2,b3⟩:=bad (by rw[he];decide)
  rw[b1,b2,b3,he]
  simp (disch:=first|decide|omega) only[hA,cellsOf,go_sem]
  exact DA (.inr rfl) (xs:=[zNw,.agg [.v (.int .i64 0),.v (.int .i64 0),.v (.int .i64 0),.v .zsl],.v (.int .i64 1)]) (by simp (disch:=first|decide|omega) only[resVs,resV,hA,zNw,go_sem]) (by simp only[one,zNw,lts.down,Nat.reduceLT,Nat.reduceAdd]) hR hB ⟨rfl,rfl,by simp⟩
 simp (disch:=first|decide|omega) only[hA,go_sem]
 refine QA.nxt (tJ to _ _) ?_
 cases h2:ptB to
 ·have he:rcE n to=2:=by unfold rcE;rw[if_pos h1,h2];rfl
  obtain⟨b1,b2,b3⟩:=bad (by rw[he];decide)
  rw[b1,b2,b3,he]
  simp (disch:=first|decide|omega) only[hA,cellsOf,go_sem]
  exact DA (.inr rfl) (xs:=[zNw,.agg [.v (.int .i64 0),.v (.int .i64 0),.v (.int .i64 0),.v .zsl],.v (.int .i64 2)]) (by simp (disch:=first|decide|omega) only[resVs,resV,hA,zNw,go_sem]) (by simp only[one,zNw,lts.down,Nat.reduceLT,Nat.reduceAdd]) hR hB ⟨rfl,rfl,by simp⟩
 have hv:=VG.1 h1
 have HU:=hv.l
 have IB:=hv.len
 simp (disch:=first|decide|omega) only[hA,go_sem]
 refine JA (ι:=Nat) G2 (fun i=>[(24,.v (.int .i64 i))]) 3 (fun _=>[.live 0 5 [(zNA n)],.live 0 5 [[.v (.int .i64 0),.v (.bool false),.v .zsl,.v .zsl,.v .zsl]],.live 0 4 [[.v (.int .i64 0),.v (.int .i64 0),.v (.int .i64 0),.v .zsl]]])
  (fun i=>i≤n.l.length∧∀j,j<i→arB n to j=false) (fun i=>n.l.length-i) 0 ⟨aj _,fun j hj=>by omega⟩ kM kA kF ?_
 rintro g1 qF TE sA k ⟨hk,h0⟩
 by_cases yA:k<n.l.length
 ·simp (disch:=first|decide|omega) only[hA,sA,aa,go_sem]
  refine QA.nxt (CV n k yA oM to _ _) ?_
  cases q:arB n to k
  ·simp (disch:=first|decide|omega) only[hA,sA,go_sem]
   refine⟨k+1,⟨yA,fun j hj=>?_⟩,by simp only;omega,?_⟩
   ·rcases bp j k with YG|YG
    ·exact h0 j YG
    ·obtain rfl:j=k:=by omega
     exact q
   ·exact VA.kround (p:=G2) (k:=3) kQ kA rfl qF kS kV hR kL
  have D8:fiR n to=k:=lX yA h0 q
  have he:rcE n to=0:=by unfold rcE;rw[if_pos h1,if_pos h2,D8,if_neg oM]
  have UP:(fiR n to).toNat=k:=by rw[D8];rfl
  have hZ:rcZ n to=some (GJ n k):=by unfold rcZ;rw[if_pos he,UP]
  have hM:rcM n to=n.l[k]:=by unfold rcM;rw[if_pos he,UP,YA yA]
  have hMA:ZCl n to (b.length+l.length)=.agg [.v (.int .i64 n.l[k].fr),.v (.int .i64 n.l[k].to),.v (.int .i64 n.l[k].nu),.sl (b.length+l.length+(3+n.l.length)) 1 0 n.l[k].body.length]:=by unfold ZCl;rw[if_pos he,hM]
  have hRR:rcR n to (b.length+l.length)=(GJ n k).rows (b.length+l.length)++[bdR n.l[k].body]:=by unfold rcR;rw[if_pos he,UP,hM]
  rw[hZ,hMA,hRR,he]
  have MY:=eG yA
  simp (disch:=first|decide|omega) only[hA,sA,MY,aa,go_sem]
  refine QA.nxt (rP n.l[k] (hv.s.body _ (ak yA)) _ _) ?_
  simp (disch:=first|decide|omega) only[hA,sA,cellsOf,go_sem]
  refine QA.nxt (hC hv.s _ _) ?_
  have hxl:(AB n).xs.length=n.l.length:=xA
  have hav:∀base,(AB n).av base=.agg [.v (.int .i64 n.now),.v (.bool n.fifo),.sl base 1 0 n.l.length,.sl (base+1) 1 0 n.tm.length,.sl (base+2) 1 0 n.fates.length]:=fun base=>by
   unfold Lv.av;rw[hxl];rfl
  have e1:B.length+5+1=B.length+6:=rfl
  have e2:B.length+5+2=B.length+7:=rfl
  have hrw:=qM (n:=n) (base:=B.length+5)
  simp (disch:=first|decide|omega) only[hA,sA,hav,hrw,e1,e2,cellsOf,go_sem]
  have hD:=fun b l hid=>ZE0 (B.length+5) 1 k ((AB n).xs.map (lvE (B.length+5))) b l hid (by rw[aa,hxl];exact yA)
  simp only[aa,hxl]at hD
  refine QA.nxt (hD _ _ (by rw[aq oM,cj];rfl)) ?_
  simp (disch:=first|decide|omega) only[hA,sA,cellsOf,go_sem]
  have hI:=fun b l hid=>ZE1 (B.length+6) 1 k (vs (n.tm.map eI)) b l hid (by rw[SB,aa];omega)
  simp only[aa,SB]at hI
  refine QA.nxt (hI _ _ (by rw[aq oM,cj];rfl)) ?_
  simp (disch:=first|decide|omega) only[hA,sA,cellsOf,go_sem]
  rw[←ZBU]
  obtain⟨σ,s1,s2⟩:∃σ:Nat→Nat,(∀j,j<n.l.length+3→σ j=j+5)∧σ (n.l.length+3)=3:=⟨fun j=>if j<n.l.length+3 then j+5 else 3,fun j h=>if_pos h,if_neg oM⟩
  have H4:(GJ n k).bd.length=n.l.length:=by unfold GJ;simp
  have nR:((GJ n k).rows B.length).length=n.l.length+3:=by unfold Lv.rows;simp[H4]
  have hzx:(GJ n k).xs.length=n.l.length-1:=by
   unfold GJ
   simp only[ap,bg,co,hxl];omega
  have hzt:(GJ n k).tm.length=n.tm.length-1:=by
   unfold GJ
   simp only[ap,bg,co];omega
  have hza:(GJ n k).av (B.length+5)=.agg [.v (.int .i64 n.now),.v (.bool n.fifo),.sl (B.length+5) 2 0 (n.l.length-1),.sl (B.length+6) 2 0 (n.tm.length-1),.sl (B.length+7) 1 0 n.fates.length]:=by
   unfold Lv.av
   rw[hzx,hzt]
   rfl
  refine nH (.inr rfl) (xs:=[(GJ n k).av (B.length+5),.agg [.v (.int .i64 n.l[k].fr),.v (.int .i64 n.l[k].to),.v (.int .i64 n.l[k].nu),.sl (B.length+3) 1 0 n.l[k].body.length],.v (.int .i64 0)]) (y:=.tup [(GJ n k).av B.length,.agg [.v (.int .i64 n.l[k].fr),.v (.int .i64 n.l[k].to),.v (.int .i64 n.l[k].nu),.sl (B.length+(3+n.l.length)) 1 0 n.l[k].body.length],.v (.int .i64 0)]) (l':=(GJ n k).rows B.length++[bdR n.l[k].body]) (by simp (disch:=first|decide|omega) only[resVs,resV,hA,sA,hza,go_sem]) (m:=n.l.length+4) (by rw[ap,nR];rfl) σ (fun a c ha hc h=>?_) (fun j r' h=>?_) ?_ hR hB ⟨by rw[hB,ap];rfl,rfl,by rw[hB,ap]⟩
  ·by_cases h1:a<n.l.length+3<;>by_cases h2:c<n.l.length+3
   ·rw[s1 a h1,s1 c h2]at h;omega
   ·rw[s1 a h1,show c=n.l.length+3 by omega,s2]at h;omega
   ·rw[s1 c h2,show a=n.l.length+3 by omega,s2]at h;omega
   ·omega
  ·by_cases hj:j<n.l.length+3
   ·rw[aw oM]at h
    have key:∀pre:List Row,pre.length=5→∃r,(pre++(GJ n k).rows (B.length+5))[σ j]? = some r∧RnR B.length (n.l.length+4) σ r r':=fun pre hp=>by
     have:=Lv.rnR (z:=GJ n k) ZAJ (n:=B.length) (s:=5) (m:=n.l.length+4) oM (σ:=σ) (fun j hj=>s1 j oM) (pre:=pre) (junk:=[]) hp j r' h
     rwa [ct]at this
    exact key [_,_,_,_,_] rfl
   ·have hl:=(am.1 h).1
    rw[ap,nR]at hl
    have hl:j<n.l.length+3+1:=hl
    obtain rfl:j=n.l.length+3:=by omega
    rw[aq oM,nR,dy]at h
    cases h
    rw[s2]
    exact⟨_,rfl,RnR.plain⟩
  ·refine Rn.tupL (.cons (Lv.rnA oM (fun j hj=>s1 j oM)) (.cons (Rn.aggL (.cons (.v _) (.cons (.v _) (.cons (.v _) (.cons ?_ .nil))))) (.cons (.v _) .nil)))
   exact Rn.slE (by rw[gz 3];exact s2) oM
 ·obtain rfl:k=n.l.length:=by omega
  have D8:fiR n to=-1:=jP h0
  have he:rcE n to=7:=by unfold rcE;rw[if_pos h1,if_pos h2,D8];rfl
  obtain⟨b1,b2,b3⟩:=bad (by rw[he];decide)
  rw[b1,b2,b3,he]
  simp (disch:=first|decide|omega) only[hA,sA,cellsOf,go_sem]
  exact DA (.inr rfl) (xs:=[zNw,.agg [.v (.int .i64 0),.v (.int .i64 0),.v (.int .i64 0),.v .zsl],.v (.int .i64 7)]) (by simp (disch:=first|decide|omega) only[resVs,resV,hA,sA,zNw,go_sem]) (by simp only[one,zNw,lts.down,Nat.reduceLT,Nat.reduceAdd]) hR hB ⟨rfl,rfl,by simp⟩
theorem ZGn {n:Nw} {to:Int} {base:Nat}:Dv base (rcR n to base) (ZCl n to base) (.agg ((eMs (rcM n to)).map .v)):=by
 by_cases he:rcE n to=0
 ·unfold ZCl rcR
  rw[if_pos he,if_pos he]
  unfold eMs
  refine Dv.aggL (.cons (.v _) (.cons (.v _) (.cons (.v _) (.cons ?_ .nil))))
  refine Dv.slV (rows:=(rcM n to).body.map eI) ?_ kS
  have nR:((GJ n (fiR n to).toNat).rows base).length=3+n.l.length:=by unfold Lv.rows GJ;simp;omega
  rw[aq oM,nR,dy]
  rfl
 ·unfold ZCl rcM
  rw[if_neg he,if_neg he]
  exact Dv.aggL (.cons (.v _) (.cons (.v _) (.cons (.v _) (.cons (.z 1) .nil))))
theorem ZJW {n:Nw} {to:Int} {base:Nat}:Dv base (rcR n to base) (ZDR base (rcZ n to)) (nwA (rcN n to)):=by
 rw[←ZJV]
 by_cases he:rcE n to=0
 ·unfold rcZ rcR
  rw[if_pos he,if_pos he]
  exact (Lv.dv ZAJ base).more _
 ·unfold rcZ
  rw[if_neg he]
  exact L8
theorem G6 (n:Nw) (to:Int) (b l:List Row):QA Tryz.prog 157 [.agg ((eNw n).map .v),.v (.int .i64 to)] b l
  (fun r b' l'=>r=.tup [nwA (rcN n to),.agg ((eMs (rcM n to)).map .v),.v (.int .i64 (rcE n to))]∧b'=b∧l'=l):=
 QA.deep (Dv.tupL (.cons ZJW (.cons ZGn (.cons (.v _) .nil)))) (ZBi n to b l)
def a_rin:AFunc:=({c:=_}:CF Tryz.prog 103).c
theorem ZEf:qA Tryz.prog 103=some a_rin:=by kernel_rfl
def a_rparty:AFunc:=({c:=_}:CF Tryz.prog 148).c
theorem MZ:qA Tryz.prog 148=some a_rparty:=by kernel_rfl
def a_rmsg:AFunc:=({c:=_}:CF Tryz.prog 105).c
theorem ZCP:qA Tryz.prog 105=some a_rmsg:=by kernel_rfl
def ZAQ:List (Nat×Nat):=[(2,3),(33,46)]
def a_rfate:AFunc:=({c:=_}:CF Tryz.prog 147).c
theorem N7:qA Tryz.prog 147=some a_rfate:=by kernel_rfl
def a_rfates:AFunc:=({c:=_}:CF Tryz.prog 104).c
theorem LZ:qA Tryz.prog 104=some a_rfates:=by kernel_rfl
def fV:List (Nat×Nat):=[(2,15)]
def a_rnValid:AFunc:=({c:=_}:CF Tryz.prog 53).c
theorem kX:qA Tryz.prog 53=some a_rnValid:=by kernel_rfl
def rS:List (Nat×Nat):=[(2,4),(36,64)]
def a_rTime:AFunc:=({c:=_}:CF Tryz.prog 128).c
theorem P7:qA Tryz.prog 128=some a_rTime:=by kernel_rfl
def tM:List (Nat×Nat):=[(5,6),(24,64)]
def a_rFirst:AFunc:=({c:=_}:CF Tryz.prog 130).c
theorem CZ:qA Tryz.prog 130=some a_rFirst:=by kernel_rfl
def bV:List (Nat×Nat):=[(4,31)]
def a_rWaiting:AFunc:=({c:=_}:CF Tryz.prog 61).c
theorem rU:qA Tryz.prog 61=some a_rWaiting:=by kernel_rfl
def vQ:List (Nat×Nat):=[(5,33)]

def inZ (x lo hi:Int):Bool:=decide (lo≤x∧x≤hi)
theorem ZBT (x lo hi:Int) (b l:List Row):QA Tryz.prog 103 [.v (.int .i64 x),.v (.int .i64 lo),.v (.int .i64 hi)] b l (fun r b' l'=>r=.v (.bool (inZ x lo hi))∧b'=b∧l'=l):=by
 refine XA ZEf rfl kE ?_
 intro B g hB hR hE hA;simp only[zA]at hA
 by_cases h1:lo≤x
 ·have d1:=ae h1
  by_cases h2:x≤hi
  ·have d2:=ae h2
   simp (disch:=first|decide|omega) only[a_rin,hA,d1,d2,go_sem]
   exact ZA (xs:=[.v (.bool true)]) ⟨by unfold inZ;rw[ae (show lo≤x∧x≤hi from⟨h1,h2⟩)];rfl,rfl,rfl⟩
  ·have d2:=ag h2
   simp (disch:=first|decide|omega) only[a_rin,hA,d1,d2,go_sem]
   exact ZA (xs:=[.v (.bool false)]) ⟨by unfold inZ;rw[ag (show ¬(lo≤x∧x≤hi) from fun h=>h2 h.2)];rfl,rfl,rfl⟩
 ·have d1:=ag h1
  simp (disch:=first|decide|omega) only[a_rin,hA,d1,go_sem]
  exact ZA (xs:=[.v (.bool false)]) ⟨by unfold inZ;rw[ag (show ¬(lo≤x∧x≤hi) from fun h=>h1 h.1)];rfl,rfl,rfl⟩
theorem CI (x lo hi:Int) (b l:List Row):QA Tryz.prog 103 [.v (.int .i64 x),.v (.int .i64 lo),.v (.int .i64 hi)] b l (fun r b' l'=>r=.v (.bool (decide (lo≤x∧x≤hi)))∧b'=b∧l'=l):=ZBT x lo hi b l
theorem qQ (p:Int) (b l:List Row):QA Tryz.prog 148 [.v (.int .i64 p)] b l (fun r b' l'=>r=.v (.bool (ptB p))∧b'=b∧l'=l):=by
 refine XA MZ rfl kE ?_
 intro B g hB hR hE hA;simp only[zA]at hA
 simp (disch:=first|decide|omega) only[a_rparty,hA,go_sem]
 refine QA.nxt (CI p 0 7 _ _) ?_
 simp (disch:=first|decide|omega) only[hA,go_sem]
 exact ZA (xs:=[.v (.bool (decide (0≤p∧p≤7)))])
theorem ZBS (m:Ms) (b l:List Row):QA Tryz.prog 105 [.agg (zMA m)] b l (fun r b' l'=>r=.v (.bool (msB m))∧b'=b∧l'=l):=by
 refine XA ZCP rfl kE ?_
 intro B g hB hR hE hA;simp only[zA]at hA
 simp (disch:=first|decide|omega) only[a_rmsg,hA,go_sem]
 refine QA.nxt (qQ m.fr _ _) ?_
 cases h1:ptB m.fr
 ·simp (disch:=first|decide|omega) only[hA,go_sem]
  exact ZA (xs:=[.v (.bool false)]) ⟨by unfold msB;rw[h1];rfl,rfl,rfl⟩
 simp (disch:=first|decide|omega) only[hA,go_sem]
 refine QA.nxt (qQ m.to _ _) ?_
 cases h2:ptB m.to
 ·simp (disch:=first|decide|omega) only[hA,go_sem]
  exact ZA (xs:=[.v (.bool false)]) ⟨by unfold msB;rw[h1,h2];rfl,rfl,rfl⟩
 by_cases h3:m.fr=m.to
 ·have d3:(m.fr==m.to)=true:=by rw[h3];simp
  simp (disch:=first|decide|omega) only[hA,d3,go_sem]
  exact ZA (xs:=[.v (.bool false)]) ⟨by unfold msB;rw[h1,h2,ag oM];rfl,rfl,rfl⟩
 have d3:(m.fr==m.to)=false:=dr.2 h3
 simp (disch:=first|decide|omega) only[hA,d3,go_sem]
 refine QA.nxt (CI m.nu 0 199 _ _) ?_
 by_cases h4:0≤m.nu∧m.nu≤199
 case neg =>
  rw[ag h4]
  simp (disch:=first|decide|omega) only[hA,go_sem]
  exact ZA (xs:=[.v (.bool false)]) ⟨by unfold msB;rw[h1,h2,ae h3,ag h4];rfl,rfl,rfl⟩
 rw[ae h4]
 by_cases h6:20<m.body.length
 ·have d6:decide ((20:Int)<(m.body.length:Int))=true:=ae oM
  simp (disch:=first|decide|omega) only[hA,d6,aa,go_sem]
  exact ZA (xs:=[.v (.bool false)]) ⟨by unfold msB;rw[h1,h2,ae h3,ae h4,ag (show ¬m.body.length≤20 by omega)];rfl,rfl,rfl⟩
 have d6:decide ((20:Int)<(m.body.length:Int))=false:=ag oM
 have hms:msB m=m.body.all vlB:=by unfold msB;rw[h1,h2,ae h3,ae h4,ae (show m.body.length≤20 by omega)];rfl
 simp (disch:=first|decide|omega) only[hA,d6,aa,go_sem]
 refine JA (ι:=Nat) ZAQ (fun i=>[(3,.v (.int .i64 i))]) 1 (fun _=>[.live 0 4 [(zMA m)]])
  (fun i=>i≤m.body.length∧∀j (h:j<m.body.length),j<i→vlB m.body[j]=true) (fun i=>m.body.length-i) 0 ⟨aj _,fun j _ hj=>by omega⟩ kM kA kF ?_
 rintro g1 qF TE sA i ⟨hi,h0⟩
 by_cases yA:i<m.body.length
 ·have hg:=IC yA
  rw[YA yA]at hg
  simp (disch:=first|decide|omega) only[hA,sA,hg,aa,go_sem]
  refine QA.nxt (CI m.body[i] (-1073741824) 1073741824 _ _) ?_
  cases q:decide (-1073741824≤m.body[i]∧m.body[i]≤1073741824)
  ·simp (disch:=first|decide|omega) only[hA,sA,go_sem]
   exact ZA (xs:=[.v (.bool false)]) ⟨by rw[hms,ew.2 ⟨m.body[i],ak yA,by unfold vlB;rw[q];simp⟩];rfl,rfl,rfl⟩
  ·simp (disch:=first|decide|omega) only[hA,sA,go_sem]
   refine⟨i+1,⟨yA,fun j hj YG=>?_⟩,by simp only;omega,?_⟩
   ·rcases bp j i with h|h
    ·exact h0 j hj h
    ·obtain rfl:j=i:=by omega
     exact q
   ·exact VA.kround (p:=ZAQ) (k:=1) kQ kA rfl qF kS kV hR kL
 ·obtain rfl:i=m.body.length:=by omega
  simp (disch:=first|decide|omega) only[hA,sA,aa,go_sem]
  exact ZA (xs:=[.v (.bool true)]) ⟨by rw[hms,bn.2 (fun x hx=>by obtain⟨j,hj,rfl⟩:=cu hx;exact h0 j hj hj)];rfl,rfl,rfl⟩
theorem F5 (f:Int×Int) (b l:List Row):QA Tryz.prog 147 [.agg [.v (.int .i64 f.1),.v (.int .i64 f.2)]] b l (fun r b' l'=>r=.v (.bool (ftB f))∧b'=b∧l'=l):=by
 refine XA N7 rfl kE ?_
 intro B g hB hR hE hA;simp only[zA]at hA
 simp (disch:=first|decide|omega) only[a_rfate,hA,go_sem]
 refine QA.nxt (CI f.1 0 3 _ _) ?_
 cases q:decide (0≤f.1∧f.1≤3)
 ·simp (disch:=first|decide|omega) only[hA,go_sem]
  exact ZA (xs:=[.v (.bool false)]) ⟨by unfold ftB;rw[ag (fun h=>by rw[ly]at q;exact q h.1)];rfl,rfl,rfl⟩
 ·simp (disch:=first|decide|omega) only[hA,go_sem]
  refine QA.nxt (CI f.2 0 1000000 _ _) ?_
  simp (disch:=first|decide|omega) only[hA,go_sem]
  exact ZA (xs:=[.v (.bool (decide (0≤f.2∧f.2≤1000000)))]) ⟨by unfold ftB;rw[decide_eq_true_iff]at q;simp only[q,true_and,one],rfl,rfl⟩
theorem KZ (v:List (Int×Int)) (hn:v.length≤1000000) (b l:List Row):QA Tryz.prog 104 [.v (.isl 2 (v.map eFt))] b l (fun r b' l'=>r=.v (.bool (D4 v))∧b'=b∧l'=l):=by
 refine XA LZ rfl kE ?_
 intro B g hB hR hE hA;simp only[zA]at hA
 simp (disch:=first|decide|omega) only[a_rfates,hA,go_sem]
 refine JA (ι:=Nat) fV (fun i=>[(3,.v (.int .i64 i))]) 0 (fun _=>[])
  (fun i=>i≤v.length∧∀j (h:j<v.length),j<i→ftB v[j]=true) (fun i=>v.length-i) 0 ⟨aj _,fun j _ hj=>by omega⟩ kM kA kF ?_
 rintro g1 qF TE sA i ⟨hi,h0⟩
 by_cases yA:i<v.length
 ·have hg:(v.map eFt)[i]? = some [.int .i64 v[i].1,.int .i64 v[i].2]:=by rw[an,ah yA];rfl
  simp (disch:=first|decide|omega) only[hA,sA,hg,aa,go_sem]
  refine QA.nxt (F5 v[i] _ _) ?_
  cases q:ftB v[i]
  ·simp (disch:=first|decide|omega) only[hA,sA,go_sem]
   exact ZA (xs:=[.v (.bool false)]) ⟨by unfold D4;rw[ew.2 ⟨v[i],ak yA,by rw[q];simp⟩];rfl,rfl,rfl⟩
  ·simp (disch:=first|decide|omega) only[hA,sA,go_sem]
   refine⟨i+1,⟨yA,fun j hj YG=>?_⟩,by simp only;omega,?_⟩
   ·rcases bp j i with h|h
    ·exact h0 j hj h
    ·obtain rfl:j=i:=by omega
     exact q
   ·exact VA.kround (p:=fV) (k:=0) kQ kA rfl qF kS kV hR kL
 ·obtain rfl:i=v.length:=by omega
  simp (disch:=first|decide|omega) only[hA,sA,aa,go_sem]
  exact ZA (xs:=[.v (.bool true)]) ⟨by unfold D4;rw[bn.2 (fun x hx=>by obtain⟨j,hj,rfl⟩:=cu hx;exact h0 j hj hj)];rfl,rfl,rfl⟩
def TU (n:Nw) (i:Nat):Int:=if i=0 then 0 else n.tm.getD (i-1) 0
theorem ZJ8 {n:Nw} {i:Nat} (hp:∀j,j<i→mtB n j=true):mtB n i=(msB (n.l.getD i dfMs)&&decide (TU n i≤n.tm.getD i 0∧n.tm.getD i 0≤1099512627776)):=by
 unfold mtB TU
 congr 1
 by_cases h:i=0
 ·subst h
  rw[if_pos rfl]
  rw[decide_eq_decide]
  omega
 ·rw[if_neg h]
  have h1:=hp (i-1) oM
  unfold mtB at h1
  simp only[ar,bf]at h1
  rw[decide_eq_decide]
  have:=h1.2.1
  constructor
  ·rintro⟨a1,a2,a3⟩;exact⟨a3 oM,a2⟩
  ·rintro⟨a1,a2⟩;exact⟨by omega,a2,fun _=>a1⟩
theorem EW (n:Nw) (b l:List Row):QA Tryz.prog 53 [.agg ((eNw n).map .v)] b l (fun r b' l'=>r=.v (.bool (nwB n))∧b'=b∧l'=l):=by
 refine XA kX rfl kE ?_
 intro B g hB hR hE hA;simp only[zA]at hA
 have F:∀{p:Prop} [Decidable p],¬p→decide p=false:=fun h=>ag h
 simp (disch:=first|decide|omega) only[a_rnValid,hA,eNw,go_sem]
 refine QA.nxt (CI n.now 0 1099511627776 _ _) ?_
 cases e1:decide (0≤n.now∧n.now≤1099511627776)
 ·simp (disch:=first|decide|omega) only[hA,go_sem]
  exact ZA (xs:=[.v (.bool false)]) ⟨by unfold nwB;rw[e1];rfl,rfl,rfl⟩
 by_cases h3:n.l.length=n.tm.length
 case neg =>
  have d3:((n.l.length:Int) != (n.tm.length:Int))=true:=by simp;omega
  simp (disch:=first|decide|omega) only[hA,d3,aa,go_sem]
  exact ZA (xs:=[.v (.bool false)]) ⟨by unfold nwB;rw[e1,F h3];rfl,rfl,rfl⟩
 have d3:((n.l.length:Int) != (n.tm.length:Int))=false:=by simp;omega
 have e3:decide (n.l.length=n.tm.length)=true:=ae h3
 by_cases h4:1000<n.l.length
 ·have d4:decide ((1000:Int)<(n.l.length:Int))=true:=ae oM
  simp (disch:=first|decide|omega) only[hA,d3,d4,aa,go_sem]
  exact ZA (xs:=[.v (.bool false)]) ⟨by unfold nwB;rw[e1,e3,F (show ¬n.l.length≤1000 by omega)];rfl,rfl,rfl⟩
 have d4:decide ((1000:Int)<(n.l.length:Int))=false:=ag oM
 have e4:decide (n.l.length≤1000)=true:=ae oM
 by_cases h5:1000<n.fates.length
 ·have d5:decide ((1000:Int)<(n.fates.length:Int))=true:=ae oM
  simp (disch:=first|decide|omega) only[hA,d3,d4,d5,aa,go_sem]
  exact ZA (xs:=[.v (.bool false)]) ⟨by unfold nwB;rw[e1,e3,e4,F (show ¬n.fates.length≤1000 by omega)];rfl,rfl,rfl⟩
 have d5:decide ((1000:Int)<(n.fates.length:Int))=false:=ag oM
 have e5:decide (n.fates.length≤1000)=true:=ae oM
 simp (disch:=first|decide|omega) only[hA,d3,d4,d5,aa,go_sem]
 refine QA.nxt (KZ n.fates oM _ _) ?_
 cases h6:D4 n.fates
 ·simp (disch:=first|decide|omega) only[hA,go_sem]
  exact ZA (xs:=[.v (.bool false)]) ⟨by unfold nwB;rw[e1,e3,e4,e5,h6];rfl,rfl,rfl⟩
 have xF:=ZFM (n:=n) (by rw[e1,e3,e4,e5,h6];rfl)
 have l0:TU n 0=0:=rfl
 simp (disch:=first|decide|omega) only[hA,aa,go_sem]
 refine JA (ι:=Nat) rS (fun i=>[(3,.v (.int .i64 (TU n i))),(4,.v (.int .i64 i))]) 1 (fun _=>[.live 0 5 [(zNA n)]])
  (fun i=>i≤n.l.length∧∀j,j<i→mtB n j=true) (fun i=>n.l.length-i) 0 ⟨aj _,fun j hj=>by omega⟩ kM (by ((try simp (disch:=decide) only[hA,l0,go_sem])<;>exact kH)) kF ?_
 rintro g1 qF TE sA i ⟨hi,h0⟩
 by_cases yA:i<n.l.length
 ·have hm:=eG yA
  have ht:=IC (show i<n.tm.length by omega)
  have hmt:=ZJ8 h0
  rw[YA yA]at hmt
  have ZCy:mtB n i=false→nwB n=false:=fun h=>by
   rw[xF,ew]
   exact⟨i,ba.2 yA,by rw[h];simp⟩
  simp (disch:=first|decide|omega) only[hA,sA,hm,aa,go_sem]
  refine QA.nxt (ZBS n.l[i] _ _) ?_
  cases q1:msB n.l[i]
  ·simp (disch:=first|decide|omega) only[hA,sA,go_sem]
   exact ZA (xs:=[.v (.bool false)]) ⟨by rw[ZCy (by rw[hmt,q1];rfl)];rfl,rfl,rfl⟩
  simp (disch:=first|decide|omega) only[hA,sA,ht,go_sem]
  refine QA.nxt (CI (n.tm.getD i 0) (TU n i) 1099512627776 _ _) ?_
  cases q2:decide (TU n i≤n.tm.getD i 0∧n.tm.getD i 0≤1099512627776)
  ·simp (disch:=first|decide|omega) only[hA,sA,go_sem]
   exact ZA (xs:=[.v (.bool false)]) ⟨by rw[ZCy (by rw[hmt,q1,q2];rfl)];rfl,rfl,rfl⟩
  have hla:TU n (i+1)=n.tm.getD i 0:=rfl
  simp (disch:=first|decide|omega) only[hA,sA,ht,go_sem]
  refine⟨i+1,⟨yA,fun j hj=>?_⟩,by simp only;omega,?_⟩
  ·rcases bp j i with YG|YG
   ·exact h0 j YG
   ·obtain rfl:j=i:=by omega
    rw[hmt,q1,q2];rfl
  ·exact VA.kround (p:=rS) (k:=1) kQ (by ((try simp (disch:=decide) only[hA,hla,go_sem])<;>exact kH)) rfl qF kS kV hR kL
 ·obtain rfl:i=n.l.length:=by omega
  simp (disch:=first|decide|omega) only[hA,sA,aa,go_sem]
  exact ZA (xs:=[.v (.bool true)]) ⟨by rw[xF,bn.2 (fun j hj=>h0 j (ba.1 hj))];rfl,rfl,rfl⟩
theorem A5 (n:Nw) (hv:NwV n) (m:Ms) (b l:List Row):QA Tryz.prog 128 [.agg (zNA n),.agg (zMA m)] b l (fun r b' l'=>r=.v (.int .i64 (gE n m))∧b'=b∧l'=l):=by
 refine XA P7 rfl kE ?_
 intro B g hB hR hE hA;simp only[zA]at hA
 have ZIH:=hv.now
 have HU:=hv.l
 have IB:=hv.len
 have hhd:=UN hv
 have hda:0≤(hdF n).2∧(hdF n).2≤1000000:=hhd.2
 have hat:n.now+(hdF n).2=xE n m 0:=rfl
 have hnf:(n.fifo=true)=False→∀i,xE n m i=xE n m 0:=by
  intro h i
  induction i with
  |zero=>rfl
  |succ i ih=>simp only[xE];rw[if_neg (fun q=>by rw[h]at q;exact q.1)];exact ih
 by_cases hf:n.fates=[]
 case' pos =>
  have d1:decide ((0:Int)<(n.fates.length:Int))=false:=by rw[hf];rfl
  have h2f:(hdF n).2=0:=by unfold hdF;rw[hf];rfl
  have ZKW:n.now=xE n m 0:=by rw[←hat,h2f];omega
  simp (disch:=first|decide|omega) only[a_rTime,hA,d1,aa,go_sem]
 case' neg =>
  have qT:0<n.fates.length:=by
   cases hq:n.fates with
   |nil=>exact absurd hq hf
   |cons x r=>simp
  have d1:decide ((0:Int)<(n.fates.length:Int))=true:=ae oM
  have hg0:(n.fates.map eFt)[Int.toNat 0]? = some [.int .i64 (hdF n).1,.int .i64 (hdF n).2]:=by
   show (n.fates.map eFt)[0]? = _
   unfold hdF
   cases hq:n.fates with
   |nil=>exact absurd hq hf
   |cons x r=>rfl
  have ZKW:n.now+(hdF n).2=xE n m 0:=rfl
  simp (disch:=first|decide|omega) only[a_rTime,hA,d1,hg0,aa,go_sem]
 all_goals
  cases D8:(n.fifo==true)
  case false =>
   have hfb:(n.fifo=true)=False:=by simpa using D8
   have hfn:(!n.fifo)=true:=by cases hq:n.fifo with
    |true=>rw[hq]at D8;cases D8
    |false=>rfl
   simp (disch:=first|decide|omega) only[hA,hfn,go_sem]
   exact DA (xs:=[.v (.int .i64 (gE n m))]) (.inr rfl) (by simp (disch:=first|decide|omega) only[resVs,resV,go_sem,hA,ZKW,show xE n m 0=gE n m from (hnf hfb _).symm]) kO hR hB ⟨rfl,rfl,rfl⟩
  have hfn:(!n.fifo)=false:=by cases hq:n.fifo with
   |true=>rfl
   |false=>rw[hq]at D8;cases D8
  have hfb:n.fifo=true:=by simpa using D8
  simp (disch:=first|decide|omega) only[hA,hfn,go_sem]
  refine JA (ι:=Nat) tM (fun i=>[(5,.v (.int .i64 (xE n m i))),(6,.v (.int .i64 i))]) 2 (fun _=>[.live 0 5 [(zNA n)],.live 0 4 [(zMA m)]])
   (fun i=>i≤n.l.length) (fun i=>n.l.length-i) 0 (aj _) kM (by ((try simp (disch:=decide) only[hA,ZKW,go_sem])<;>exact kH)) kF ?_
  intro g1 qF TE sA i hi
  by_cases yA:i<n.l.length
  ·have hm:=eG yA
   have ht:=IC (show i<n.tm.length by omega)
   have H4:=dL hv (m:=m) i oM
   by_cases Y5:n.l[i].fr=m.fr
   case neg =>
    have d1:(n.l[i].fr==m.fr)=false:=dr.2 Y5
    have ZF:xE n m (i+1)=xE n m i:=by simp only[xE];rw[if_neg (fun h=>Y5 (by have:=h.2.1;rwa [YA yA]at this))]
    simp (disch:=first|decide|omega) only[hA,sA,hm,ht,d1,aa,go_sem]
    refine⟨i+1,yA,by simp only;omega,?_⟩
    exact VA.kround (p:=tM) (k:=2) kQ (by ((try simp (disch:=decide) only[hA,ZF,go_sem])<;>exact kH)) rfl qF kS kV hR kL
   have d1:(n.l[i].fr==m.fr)=true:=by rw[Y5];simp
   by_cases hto:n.l[i].to=m.to
   case neg =>
    have d2:(n.l[i].to==m.to)=false:=dr.2 hto
    have ZF:xE n m (i+1)=xE n m i:=by simp only[xE];rw[if_neg (fun h=>hto (by have:=h.2.2;rwa [YA yA]at this))]
    simp (disch:=first|decide|omega) only[hA,sA,hm,ht,d1,d2,aa,go_sem]
    refine⟨i+1,yA,by simp only;omega,?_⟩
    exact VA.kround (p:=tM) (k:=2) kQ (by ((try simp (disch:=decide) only[hA,ZF,go_sem])<;>exact kH)) rfl qF kS kV hR kL
   have d2:(n.l[i].to==m.to)=true:=by rw[hto];simp
   have ZDW:xE n m (i+1)=max (xE n m i) (n.tm.getD i 0):=by
    simp only[xE]
    rw[if_pos (show n.fifo=true∧_ from⟨hfb,by rw[YA yA];exact Y5,by rw[YA yA];exact hto⟩)]
   by_cases hgt:xE n m i<n.tm.getD i 0
   ·have d3:=ae hgt
    have ZF:xE n m (i+1)=n.tm.getD i 0:=by omega
    simp (disch:=first|decide|omega) only[hA,sA,hm,ht,d1,d2,d3,aa,go_sem]
    refine⟨i+1,yA,by simp only;omega,?_⟩
    exact VA.kround (p:=tM) (k:=2) kQ (by ((try simp (disch:=decide) only[hA,ZF,go_sem])<;>exact kH)) rfl qF kS kV hR kL
   ·have d3:=ag hgt
    have ZF:xE n m (i+1)=xE n m i:=by omega
    simp (disch:=first|decide|omega) only[hA,sA,hm,ht,d1,d2,d3,aa,go_sem]
    refine⟨i+1,yA,by simp only;omega,?_⟩
    exact VA.kround (p:=tM) (k:=2) kQ (by ((try simp (disch:=decide) only[hA,ZF,go_sem])<;>exact kH)) rfl qF kS kV hR kL
  ·obtain rfl:i=n.l.length:=by omega
   simp (disch:=first|decide|omega) only[hA,sA,aa,go_sem]
   exact ZA (xs:=[.v (.int .i64 (xE n m n.l.length))])
theorem qZ (n:Nw) (to:Int) (hl:n.l.length≤1000000) (ht:n.l.length=n.tm.length) (b l:List Row):QA Tryz.prog 130 [.agg (zNA n),.v (.int .i64 to)] b l (fun r b' l'=>r=.v (.int .i64 (fiR n to))∧b'=b∧l'=l):=by
 refine XA CZ rfl kE ?_
 intro B g hB hR hE hA;simp only[zA]at hA
 simp (disch:=first|decide|omega) only[a_rFirst,hA,go_sem]
 refine JA (ι:=Nat) bV (fun i=>[(5,.v (.int .i64 i))]) 1 (fun _=>[.live 0 5 [(zNA n)]])
  (fun i=>i≤n.l.length∧∀j,j<i→arB n to j=false) (fun i=>n.l.length-i) 0 ⟨aj _,fun j hj=>by omega⟩ kM kA kF ?_
 rintro g1 qF TE sA i ⟨hi,h0⟩
 by_cases yA:i<n.l.length
 ·have hm:=eG yA
  have htg:=IC (show i<n.tm.length by omega)
  have fJ:n.l.getD i dfMs=n.l[i]:=YA yA
  cases q1:(n.l[i].to==to)
  case' false =>
   have q:arB n to i=false:=by unfold arB;rw[fJ,ag (by simpa using q1)];rfl
   simp (disch:=first|decide|omega) only[hA,sA,hm,htg,q1,aa,go_sem]
  case' true =>
   cases q2:decide (n.tm.getD i 0≤n.now)
   case' false =>
    have q:arB n to i=false:=by unfold arB;rw[q2];simp
    simp (disch:=first|decide|omega) only[hA,sA,hm,htg,q1,q2,aa,go_sem]
   case' true =>
    have q:arB n to i=true:=by unfold arB;rw[q2,fJ,ae (by simpa using q1)];rfl
    simp (disch:=first|decide|omega) only[hA,sA,hm,htg,q1,q2,aa,go_sem]
    exact ZA (xs:=[.v (.int .i64 i)]) ⟨by rw[show fiR n to=i from lX yA h0 q];rfl,rfl,rfl⟩
  all_goals
   refine⟨i+1,⟨yA,fun j hj=>?_⟩,by simp only;omega,?_⟩
   ·rcases bp j i with YG|YG
    ·exact h0 j YG
    ·obtain rfl:j=i:=by omega
     exact q
   ·exact VA.kround (p:=bV) (k:=1) kQ kA rfl qF kS kV hR kL
 ·obtain rfl:i=n.l.length:=by omega
  simp (disch:=first|decide|omega) only[hA,sA,aa,go_sem]
  exact ZA (xs:=[.v (.int .i64 (-1))]) ⟨by rw[show fiR n to=-1 from jP h0];rfl,rfl,rfl⟩
theorem vU (n:Nw) (to:Int) (hl:n.l.length≤1000000) (ht:n.l.length=n.tm.length) (b l:List Row):QA Tryz.prog 61 [.agg (zNA n),.v (.int .i64 to)] b l (fun r b' l'=>r=.v (.int .i64 (wtN n to n.l.length))∧b'=b∧l'=l):=by
 refine XA rU rfl kE ?_
 intro B g hB hR hE hA;simp only[zA]at hA
 have z0:wtN n to 0=0:=rfl
 simp (disch:=first|decide|omega) only[a_rWaiting,hA,go_sem]
 refine JA (ι:=Nat) vQ (fun i=>[(5,.v (.int .i64 (wtN n to i))),(6,.v (.int .i64 i))]) 1 (fun _=>[.live 0 5 [(zNA n)]])
  (fun i=>i≤n.l.length) (fun i=>n.l.length-i) 0 (aj _) kM (by ((try simp (disch:=decide) only[hA,z0,go_sem])<;>exact kH)) kF ?_
 rintro g1 qF TE sA i hi
 by_cases yA:i<n.l.length
 ·have hm:=eG yA
  have htg:=IC (show i<n.tm.length by omega)
  have fJ:n.l.getD i dfMs=n.l[i]:=YA yA
  have hwl:=F8 (n:=n) (to:=to) i
  cases q1:(n.l[i].to==to)
  case' false =>
   have hs:wtN n to (i+1)=wtN n to i:=by simp only[wtN];rw[if_neg];unfold arB;rw[fJ,ag (by simpa using q1)];simp
   simp (disch:=first|decide|omega) only[hA,sA,hm,htg,q1,aa,go_sem]
  case' true =>
   cases q2:decide (n.tm.getD i 0≤n.now)
   case' false =>
    have hs:wtN n to (i+1)=wtN n to i:=by simp only[wtN];rw[if_neg];unfold arB;rw[q2];simp
    simp (disch:=first|decide|omega) only[hA,sA,hm,htg,q1,q2,aa,go_sem]
   case' true =>
    have hs:wtN n to (i+1)=wtN n to i+1:=by simp only[wtN];rw[if_pos];unfold arB;rw[q2,fJ,ae (by simpa using q1)];rfl
    simp (disch:=first|decide|omega) only[hA,sA,hm,htg,q1,q2,aa,go_sem]
  all_goals
   refine⟨i+1,yA,by simp only;omega,?_⟩
   exact VA.kround (p:=vQ) (k:=1) kQ (by ((try simp (disch:=decide) only[hA,hs,go_sem])<;>exact kH)) rfl qF kS kV hR kL
 ·obtain rfl:i=n.l.length:=by omega
  simp (disch:=first|decide|omega) only[hA,sA,aa,go_sem]
  exact ZA (xs:=[.v (.int .i64 (wtN n to n.l.length))])
def a_sMs:AFunc:=({c:=_}:CF Tryz.prog 110).c
theorem ZEd:qA Tryz.prog 110=some a_sMs:=by kernel_rfl
def ZFI:List (Nat×Nat):=[(4,5),(34,51)]
abbrev oG:List AOper:=[⟨some 4,.mv (.c (.v (.bool false))),none⟩]
def a_sNw:AFunc:=⟨2,102,[.tmp 4],(.seq (.region [⟨some 2,.box (.t 0),none⟩,⟨some 3,.box (.t 1),none⟩,⟨some 4,.mv (.c (.v (.bool false))),none⟩]) (.seq (.seq (.region [oB 8 0 2,oC 9 8,oB 10 0 3,oC 11 10,oD 12 9 11,oA 13 12,oB 14 1 2 (some (13,false)),oC 15 14 (some (13,false)),oB 16 1 3 (some (13,false)),oC 17 16 (some (13,false)),⟨some 18,.binB .neq (.t 15) (.t 17),some (13,false)⟩,⟨some 19,.pick (.t 13) (.c (.v (.bool true))) (.t 18),none⟩,oA 20 19,oB 21 2 2 (some (20,false)),oC 22 21 (some (20,false)),oF 23 22 (some (20,false)),oB 24 2 3 (some (20,false)),oC 25 24 (some (20,false)),oF 26 25 (some (20,false)),oD 27 23 26 (some (20,false)),⟨some 28,.pick (.t 20) (.c (.v (.bool true))) (.t 27),none⟩,oA 29 28,oB 30 3 2 (some (29,false)),oC 31 30 (some (29,false)),oF 32 31 (some (29,false)),oB 33 3 3 (some (29,false)),oC 34 33 (some (29,false)),oF 35 34 (some (29,false)),oD 36 32 35 (some (29,false)),⟨some 37,.pick (.t 29) (.c (.v (.bool true))) (.t 36),none⟩,oA 38 37,oB 39 4 2 (some (38,false)),oC 40 39 (some (38,false)),oF 41 40 (some (38,false)),oB 42 4 3 (some (38,false)),oC 43 42 (some (38,false)),oF 44 43 (some (38,false)),oD 45 41 44 (some (38,false)),⟨some 46,.pick (.t 38) (.c (.v (.bool true))) (.t 45),none⟩]) (.cond (.t 46) (.seq (.region oG) .ret) .skip)) (.seq (.seq (.region [⟨some 5,.mv (.c (.v (.int .i64 0))),none⟩]) (.block 0 (.loop (.seq (.seq (.region [oA 47 5,oB 48 2 2,oC 49 48,oF 50 49,⟨some 51,.bin .lss (.t 47) (.t 50),none⟩]) (.cond (.t 51) .skip (.exit 0))) (.seq (.block 1 (.seq (.draw [⟨0,oB 54 2 2,[]⟩,⟨1,oC 55 54,[]⟩,⟨2,oA 56 5,[]⟩,⟨3,oE 57 4 55 56,[]⟩,⟨4,⟨some 58,.load (some 4) (.t 57),none⟩,[]⟩,⟨5,oB 59 2 3,[]⟩,⟨6,oC 60 59,[]⟩,⟨7,oA 61 5,[]⟩,⟨8,oE 62 4 60 61,[]⟩,⟨9,⟨some 63,.load (some 4) (.t 62),none⟩,[]⟩,⟨10,⟨some 64,.call (.c (.fn 110 [])) [(.t 58),(.t 63)],none⟩,[]⟩,⟨11,⟨some 65,.not (.t 64),none⟩,[]⟩]) (.cond (.t 65) (.seq (.region oG) .ret) .skip))) (.region [oA 52 5,⟨some 53,.bin .add (.t 52) (.c (.v (.int .i64 1))),none⟩,oA 5 53])))))) (.seq (.seq (.region [⟨some 6,.mv (.c (.v (.int .i64 0))),none⟩]) (.block 2 (.loop (.seq (.seq (.region [oA 66 6,oB 67 3 2,oC 68 67,oF 69 68,⟨some 70,.bin .lss (.t 66) (.t 69),none⟩]) (.cond (.t 70) .skip (.exit 2))) (.seq (.block 3 (.seq (.draw [⟨0,oB 73 3 2,[]⟩,⟨1,oC 74 73,[]⟩,⟨2,oA 75 6,[]⟩,⟨3,oE 76 1 74 75,[]⟩,⟨4,oC 77 76,[]⟩,⟨5,oB 78 3 3,[]⟩,⟨6,oC 79 78,[]⟩,⟨7,oA 80 6,[]⟩,⟨8,oE 81 1 79 80,[]⟩,⟨9,oC 82 81,[]⟩,⟨10,oD 83 77 82,[]⟩]) (.cond (.t 83) (.seq (.region oG) .ret) .skip))) (.region [oA 71 6,⟨some 72,.bin .add (.t 71) (.c (.v (.int .i64 1))),none⟩,oA 6 72])))))) (.seq (.seq (.region [⟨some 7,.mv (.c (.v (.int .i64 0))),none⟩]) (.block 4 (.loop (.seq (.seq (.region [oA 84 7,oB 85 4 2,oC 86 85,oF 87 86,⟨some 88,.bin .lss (.t 84) (.t 87),none⟩]) (.cond (.t 88) .skip (.exit 4))) (.seq (.block 5 (.seq (.draw [⟨0,oB 91 4 2,[]⟩,⟨1,oC 92 91,[]⟩,⟨2,oA 93 7,[]⟩,⟨3,oE 94 2 92 93,[]⟩,⟨4,⟨some 95,.load (some 2) (.t 94),none⟩,[]⟩,⟨5,oB 96 4 3,[]⟩,⟨6,oC 97 96,[]⟩,⟨7,oA 98 7,[]⟩,⟨8,oE 99 2 97 98,[]⟩,⟨9,⟨some 100,.load (some 2) (.t 99),none⟩,[]⟩,⟨10,⟨some 101,.eqs true [.i,.i] (.t 95) (.t 100),none⟩,[]⟩]) (.cond (.t 101) (.seq (.region oG) .ret) .skip))) (.region [oA 89 7,⟨some 90,.bin .add (.t 89) (.c (.v (.int .i64 1))),none⟩,oA 7 90])))))) (.seq (.region [⟨some 4,.mv (.c (.v (.bool true))),none⟩]) .ret))))))⟩
theorem ZEc:qA Tryz.prog 58=some a_sNw:=by kernel_rfl
def ZFH:List (Nat×Nat):=[(4,5),(47,65)]
def ZFG:List (Nat×Nat):=[(4,4),(6,6),(66,83)]
def ZFF:List (Nat×Nat):=[(4,4),(7,7),(84,101)]

theorem neI (n:Int):(n != n)=false:=by simp
theorem neB (n:Bool):(!(n==n))=false:=by simp
theorem eqIr (n:Int):(n==n)=true:=by simp
def msR (a:Ms):Row:=.live 0 4 [[.v (.int .i64 a.fr),.v (.int .i64 a.to),.v (.int .i64 a.nu),.v (.isl 1 (a.body.map eI))]]
def nwR (a:Nw):Row:=.live 0 5 [[.v (.int .i64 a.now),.v (.bool a.fifo),.v (.isl 4 (a.l.map eMs)),.v (.isl 1 (a.tm.map eI)),.v (.isl 2 (a.fates.map eFt))]]
theorem ZDc (a:Ms) (hn:a.body.length≤1000000) (b l:List Row):QA Tryz.prog 110 [.agg (zMA a),.agg (zMA a)] b l (fun r b' l'=>r=.v (.bool true)∧b'=b∧l'=l):=by
 refine XA ZEd rfl kE ?_
 intro B g hB hR hE hA;simp only[zA]at hA
 simp (disch:=first|decide|omega) only[a_sMs,hA,neI,aa,go_sem]
 refine JA (ι:=Nat) ZFI (fun i=>[(5,.v (.int .i64 i))]) 2 (fun _=>[msR a,msR a]) (fun i=>i≤a.body.length) (fun i=>a.body.length-i) 0 (aj _) kM kA kF ?_
 intro g1 qF TE sA i hi
 unfold msR
 by_cases yA:i<a.body.length
 ·have ha:=IC yA
  simp (disch:=first|decide|omega) only[hA,sA,ha,neI,aa,go_sem]
  refine⟨i+1,yA,by simp only;omega,?_⟩
  exact VA.kround (p:=ZFI) (k:=2) kQ kA rfl qF kS kV hR kL
 ·simp (disch:=first|decide|omega) only[hA,sA,aa,go_sem]
  exact ZA (xs:=[.v (.bool true)])
theorem ZJi {l:List (Int×Int)} {i:Nat} (h:i<l.length):(l.map eFt)[i]? = some [.int .i64 l[i].1,.int .i64 l[i].2]:=by
 rw[an,ah h];rfl
theorem ZDb (a:Nw) (hS:NwS a) (b l:List Row):QA Tryz.prog 58 [.agg ((eNw a).map .v),.agg ((eNw a).map .v)] b l (fun r b' l'=>r=.v (.bool true)∧b'=b∧l'=l):=by
 refine XA ZEc rfl kE ?_
 intro B g hB hR hE hA;simp only[zA]at hA
 have hal:=hS.l
 have hat:=hS.tm
 have haf:=hS.fates
 simp (disch:=first|decide|omega) only[a_sNw,hA,eNw,neI,neB,aa,go_sem]
 refine JA (ι:=Nat) ZFH (fun i=>[(5,.v (.int .i64 i))]) 2 (fun _=>[nwR a,nwR a]) (fun i=>i≤a.l.length) (fun i=>a.l.length-i) 0 (aj _) kM kA kF ?_
 intro g1 qF TE sA i hi
 unfold nwR
 by_cases yA:i<a.l.length
 ·have ha:=eG yA
  simp (disch:=first|decide|omega) only[hA,sA,ha,aa,go_sem]
  refine QA.nxt (ZDc a.l[i] (hS.body _ (ak yA)) _ _) ?_
  simp (disch:=first|decide|omega) only[hA,sA,go_sem]
  refine⟨i+1,yA,by simp only;omega,?_⟩
  exact VA.kround (p:=ZFH) (k:=2) kQ kA rfl qF kS kV hR kL
 simp (disch:=first|decide|omega) only[hA,sA,aa,go_sem]
 refine JA (ι:=Nat) ZFG (fun i=>[(6,.v (.int .i64 i))]) 2 (fun _=>[nwR a,nwR a]) (fun i=>i≤a.tm.length) (fun i=>a.tm.length-i) 0 (aj _) kM kA kF ?_
 intro g2 RJ QO DD i hi
 unfold nwR
 by_cases yA:i<a.tm.length
 ·have ha:=IC yA
  simp (disch:=first|decide|omega) only[hA,sA,DD,ha,neI,aa,go_sem]
  refine⟨i+1,yA,by simp only;omega,?_⟩
  exact VA.kround (p:=ZFG) (k:=2) kQ kA rfl RJ kS kV hR kL
 simp (disch:=first|decide|omega) only[hA,sA,DD,aa,go_sem]
 refine JA (ι:=Nat) ZFF (fun i=>[(7,.v (.int .i64 i))]) 2 (fun _=>[nwR a,nwR a]) (fun i=>i≤a.fates.length) (fun i=>a.fates.length-i) 0 (aj _) kM kA kF ?_
 intro g3 bW xR QH i hi
 unfold nwR
 by_cases yA:i<a.fates.length
 ·have ha:=ZJi yA
  simp (disch:=first|decide|omega) only[hA,sA,DD,QH,ha,eqIr,aa,go_sem]
  refine⟨i+1,yA,by simp only;omega,?_⟩
  exact VA.kround (p:=ZFF) (k:=2) kQ kA rfl bW kS kV hR kL
 simp (disch:=first|decide|omega) only[hA,sA,DD,QH,aa,go_sem]
 exact ZA (xs:=[.v (.bool true)])
def a_rSend:AFunc:=({c:=_}:CF Tryz.prog 75).c
theorem L7:qA Tryz.prog 75=some a_rSend:=by kernel_rfl
def C1:List (Nat×Nat):=[(9,9),(49,84)]
def E1:List (Nat×Nat):=[(10,10),(85,101)]
def M1:List (Nat×Nat):=[(9,9),(102,128)]

theorem gO {r:List (List IV)} {a c d f:IV}:vs r++[[.v a,.v c,.v d,.v f]]=vs (r++[[a,c,d,f]]):=by simp[vs]
def vM (n:Nw):Row:=.live 0 5 [[.v (.int .i64 n.now),.v (.bool n.fifo),.v (.isl 4 (n.l.map eMs)),.v (.isl 1 (n.tm.map eI)),.v (.isl 2 (n.fates.map eFt))]]
def JG (n:Nw) (m:Ms) (B v:Nat) (X:List Ms) (T:List Int):List Row:=[vM n,sdM m,sdO,.live 0 5 [[.v (.int .i64 n.now),.v (.bool n.fifo),.sl (B+5) v 0 X.length,.sl (B+6) v 0 T.length,.sl (B+4) 0 0 (n.fates.drop 1).length]],.live 0 2 (vs ((n.fates.drop 1).map eFt)),.live v 4 (vs (X.map eMs)),.live v 1 (vs (T.map eI))]
theorem yP {n:Nw} {m:Ms} {B v:Nat} {X:List Ms} {T:List Int}:gA (B+7) (JG n m B v X T):=by
 unfold JG vM sdM sdO
 simp (disch:=omega) only[lts.down,Nat.reduceLT,Nat.reduceAdd]
def I9 (n:Nw) (m:Ms) (B i:Nat):List Row:=JG n m B i (n.l.take i) (n.tm.take i)
def lY (n:Nw) (m:Ms) (B K c:Nat):List Row:=JG n m B (K+c) (n.l.take K++List.replicate c m) (n.tm.take K++List.replicate c (gE n m))
def ZCk (n:Nw) (m:Ms) (B K C i:Nat):List Row:=JG n m B (i+C) (n.l.take K++List.replicate C m++(n.l.drop K).take (i-K)) (n.tm.take K++List.replicate C (gE n m)++(n.tm.drop K).take (i-K))
theorem OT {n:Nw} {m:Ms} {B v:Nat} {X:List Ms} {T:List Int}:JG n m B v X T=[.live 0 5 [(zNA n)],.live 0 4 [(zMA m)],.live 0 5 [[.v (.int .i64 0),.v (.bool false),.v .zsl,.v .zsl,.v .zsl]],
  .live 0 5 [[.v (.int .i64 n.now),.v (.bool n.fifo),.sl (B+5) v 0 X.length,.sl (B+6) v 0 T.length,.sl (B+4) 0 0 (n.fates.drop 1).length]],.live 0 2 (vs ((n.fates.drop 1).map eFt)),.live v 4 (vs (X.map eMs)),.live v 1 (vs (T.map eI))]:=rfl
theorem C8 {n:Nw} {m x:Ms} {B v:Nat} {X:List Ms} {T:List Int} {t:Int}:JG n m B (v+1) (X++[x]) (T++[t])=[vM n,sdM m,sdO,.live 0 5 [[.v (.int .i64 n.now),.v (.bool n.fifo),.sl (B+5) (v+1) 0 (X.length+1),.sl (B+6) (v+1) 0 (T.length+1),.sl (B+4) 0 0 (n.fates.drop 1).length]],.live 0 2 (vs ((n.fates.drop 1).map eFt)),.live (v+1) 4 (vs (X.map eMs++[[.int .i64 x.fr,.int .i64 x.to,.int .i64 x.nu,.isl 1 (x.body.map eI)]])),.live (v+1) 1 (vs (T.map eI++[[.int .i64 t]]))]:=by
 unfold JG
 rw[ap,ap,bh,bh]
 rfl
theorem O5 (n:Nw) (hv:NwV n) (m:Ms) (hb:m.body.length≤1000000) (b l:List Row):QA Tryz.prog 75 [.agg ((eNw n).map .v),.agg (zMA m)] b l
  (fun r b' l'=>r=.tup [nwA (sdR n m),.v (.int .i64 (sdE n m))]∧b'=b∧l'=l):=by
 refine XA L7 rfl kE ?_
 intro B g hB hR hE hA;simp only[zA]at hA
 have ZIH:=hv.now
 have HU:=hv.l
 have IB:=hv.len
 have F9:=hv.fl
 have hhd:=UN hv
 have hdc:0≤(hdF n).1∧(hdF n).1≤3:=hhd.1
 have H4:=dL hv (m:=m) n.l.length (ai _)
 have ZDV:xE n m n.l.length=gE n m:=rfl
 rw[ZDV]at H4
 have d1:decide (1099512627776<gE n m)=false:=ag oM
 have ZKR:=XR (l:=n.tm) (a:=gE n m)
 obtain⟨C,hC1⟩:∃C:Nat,(hdF n).1=(C:Int):=⟨(hdF n).1.toNat,by omega⟩
 have hCc:(wR n).toNat=C:=by show (hdF n).1.toNat=C;omega
 have ZLs:wR n=(C:Int):=hC1
 simp (disch:=first|decide|omega) only[a_rSend,hA,eNw,go_sem]
 refine QA.nxt (A5 n hv m _ _) ?_
 have hg0:0<n.fates.length→(n.fates.map eFt)[Int.toNat 0]? = some [.int .i64 (C:Int),.int .i64 (hdF n).2]:=fun qT=>by
  show (n.fates.map eFt)[0]? = _
  rw[←hC1]
  unfold hdF
  cases hq:n.fates with
  |nil=>rw[hq]at qT;cases qT
  |cons x r=>rfl
 have hC0:n.fates.length=0→(C:Int)=1:=fun h=>by rw[←hC1];unfold hdF;rw[cq h];rfl
 by_cases QQ:1000<(n.l.length:Int)+(C:Int)
 ·have he:sdE n m=5:=by unfold sdE;rw[if_neg oM,if_pos (by rw[ZLs];exact QQ)]
  have hR5:sdR n m=nw0:=by unfold sdR;rw[if_neg (by rw[he];decide)]
  rw[he,hR5]
  have d3:=ae QQ
  by_cases hf:n.fates.length=0
  case' pos =>
   have d2:decide ((0:Int)<(n.fates.length:Int))=false:=by rw[hf];rfl
   rw[hC0 hf]at d3
   simp (disch:=first|decide|omega) only[hA,d1,d2,d3,cellsOf,go_sem]
  case' neg =>
   have d2:decide ((0:Int)<(n.fates.length:Int))=true:=ae oM
   have hg0:=hg0 oM
   simp (disch:=first|decide|omega) only[hA,d1,d2,d3,hg0,cellsOf,go_sem]
  all_goals
   exact iA (.inr rfl) (xs:=[zNw,.v (.int .i64 5)]) (by simp (disch:=first|decide|omega) only[resVs,resV,hA,zNw,go_sem]) (Dv.tupL (.cons L8 (.cons (.v _) .nil))) hR hB ⟨rfl,rfl,rfl⟩
 have d3:=ag QQ
 have he:sdE n m=0:=by unfold sdE;rw[if_neg oM,if_neg (by rw[ZLs];exact QQ)]
 rw[he]
 obtain⟨rz,hrz⟩:∃rz:List Row,rz=[vM n,sdM m,sdO,.live 0 5 [[.v (.int .i64 n.now),.v (.bool n.fifo),.v .zsl,.v .zsl,.v .zsl]]]:=⟨_,rfl⟩
 have hz0:n.fates.drop 1=[]→∀e,VA e B [vM n,sdM m,sdO,.live 0 5 [[.v (.int .i64 n.now),.v (.bool n.fifo),.v .zsl,.v .zsl,.v .zsl]]] e B (JG n m B.length 0 [] []):=fun h e=>by
  unfold JG
  rw[h]
  refine (VA.nilcell (i:=3) (k:=0) (j:=4) (sz:=2) rfl rfl rfl).trans ?_
  refine (VA.nilcell (i:=3) (k:=0) (j:=2) (sz:=4) rfl rfl rfl).trans ?_
  refine (VA.nilcell (i:=3) (k:=0) (j:=3) (sz:=1) rfl rfl rfl).trans ?_
  exact VA.refl _ _ _
 have hz1:∀e,VA e B [vM n,sdM m,sdO,.live 0 5 [[.v (.int .i64 n.now),.v (.bool n.fifo),.v .zsl,.v .zsl,.sl (B.length+4) 0 0 (n.fates.drop 1).length]],.live 0 2 (vs ((n.fates.drop 1).map eFt))] e B (JG n m B.length 0 [] []):=fun e=>by
  unfold JG
  refine (VA.nilcell (i:=3) (k:=0) (j:=2) (sz:=4) rfl rfl rfl).trans ?_
  refine (VA.nilcell (i:=3) (k:=0) (j:=3) (sz:=1) rfl rfl rfl).trans ?_
  exact VA.refl _ _ _
 unfold vM sdM sdO at hz0 hz1
 by_cases hf:n.fates.length=0
 case' pos =>
  have d2:decide ((0:Int)<(n.fates.length:Int))=false:=by rw[hf];rfl
  have hC2:=hC0 hf
  rw[hC2]at d3
  have hz:=hz0 (by rw[cq hf];rfl)
  simp (disch:=first|decide|omega) only[hA,d1,d2,d3,cellsOf,go_sem]
 case' neg =>
  have d2:decide ((0:Int)<(n.fates.length:Int))=true:=ae oM
  have hg0:=hg0 oM
  have hC2:(C:Int)=C:=rfl
  have zP:List.drop (Int.toNat 1) (List.take n.fates.length (n.fates.map eFt))=(n.fates.drop 1).map eFt:=by
   show List.drop 1 _=_
   rw[bo kS,fz]
  have ZNL:List.drop (Int.toNat 1) (n.fates.map eFt)=(n.fates.drop 1).map eFt:=by
   show List.drop 1 _=_
   rw[fz]
  by_cases hf1:n.fates.length=1
  case' pos =>
   have hdn:n.fates.drop 1=[]:=kh oM
   have hz:=hz0 hdn
   have ZNM:List.drop (Int.toNat 1) (List.take n.fates.length (n.fates.map eFt))=[]:=by rw[zP,hdn];rfl
   simp (disch:=first|decide|omega) only[hA,d1,d2,d3,hg0,ZNM,ZJE,cellsOf,go_sem]
  case' neg =>
   have hdl:(n.fates.drop 1).length=n.fates.length-1:=co
   have qG:(vs ((n.fates.drop 1).map eFt)=[])=False:=by
    rw[eq_iff_iff,iff_false]
    intro h
    have:=congrArg List.length h
    rw[SB,aa,hdl]at this
    simp at this;omega
   have hz:=hz1
   simp (disch:=first|decide|omega) only[hA,d1,d2,d3,hg0,zP,ZNL,qG,cellsOf,go_sem]
 all_goals
  refine JA (ι:=Nat) ((7,7)::C1) (fun i=>[(7,.v (.int .i64 C)),(9,.v (.int .i64 i))]) 7 (fun i=>I9 n m B.length i)
   (fun i=>i≤n.l.length∧∀j,j<i→n.tm.getD j 0≤gE n m) (fun i=>n.l.length-i) 0 ⟨aj _,fun j hj=>by omega⟩ kM kA (fun e=>hz e) ?_
  clear hz hz0 hz1
  rintro g1 qF TE sA i ⟨hi,h0⟩
  have L9:(n.l.take i).length=i:=by rw[bg];omega
  have hTl:(n.tm.take i).length=i:=by rw[bg];omega
  obtain⟨X,hX⟩:∃X,X=n.l.take i:=⟨_,rfl⟩
  obtain⟨T,hT⟩:∃T,T=n.tm.take i:=⟨_,rfl⟩
  rw[←hX]at L9
  rw[←hT]at hTl
  have ZF:I9 n m B.length i=_:=(show I9 n m B.length i=JG n m B.length i X T by rw[hX,hT];rfl).trans OT
  have ZDW:JG n m B.length i X T=I9 n m B.length i:=by rw[hX,hT];rfl
  have hXt:List.take X.length (X.map eMs)=X.map eMs:=bo kS
  have hTt:List.take T.length (T.map eI)=T.map eI:=bo kS
  by_cases G4:i<n.l.length∧n.tm.getD i 0≤gE n m
  ·obtain⟨yA,LJ⟩:=G4
   have MY:=eG yA
   have htg:=IC (show i<n.tm.length by omega)
   have dl:=ae LJ
   have hx1:n.l.take (i+1)=n.l.take i++[n.l[i]]:=jF yA
   have ht1:n.tm.take (i+1)=n.tm.take i++[n.tm.getD i 0]:=by rw[jF oM,YA oM]
   simp (disch:=first|decide|omega) only[ZF,hA,sA,MY,htg,dl,hXt,hTt,gO,bq,bs,go_sem]
   refine⟨i+1,⟨yA,fun j hj=>?_⟩,by simp only;omega,?_⟩
   ·rcases bp j i with YG|YG
    ·exact h0 j YG
    ·obtain rfl:j=i:=by omega
     exact LJ
   ·show VA _ B _ (kOf 130 (kOv [(7,.v (.int .i64 C)),(9,.v (.int .i64 ((i+1:Nat):Int)))] g1)) B (I9 n m B.length (i+1))
    exact VA.kround (p:=(7,7)::C1) (k:=7) (junk:=[_,_]) kQ kA (by unfold I9;rw[hx1,ht1,C8,←hX,←hT];rfl) qF (ai _) kV hR yP
  ·have hK:leN n.tm (gE n m)=i:=ZFO oM h0 (fun h=>by
    by_cases hl:n.tm.getD i 0≤gE n m
    ·exact absurd ⟨by omega,hl⟩ G4
    ·omega)
   have h11:lY n m B.length i 0=I9 n m B.length i:=by unfold lY I9;rw[bs,bs,ct,ct];rfl
   by_cases yA:i<n.l.length
   case' pos =>
    have htg:=IC (show i<n.tm.length by omega)
    have dl:decide (n.tm.getD i 0≤gE n m)=false:=ag (fun h=>G4 ⟨yA,h⟩)
    simp (disch:=first|decide|omega) only[ZF,hA,sA,htg,dl,aa,go_sem]
   case' neg =>
    simp (disch:=first|decide|omega) only[ZF,hA,sA,aa,go_sem]
   all_goals
    have hKt:i≤n.tm.length:=by omega
    refine JA (ι:=Nat) E1 (fun c=>[(10,.v (.int .i64 c))]) 7 (fun c=>lY n m B.length i c)
     (fun c=>c≤C) (fun c=>C-c) 0 (aj _) kM kA (fun e=>by rw[h11,←ZDW,OT];exact VA.refl _ _ _) ?_
    clear hX hT ZF ZDW hXt hTt
    rintro g2 RJ QO DD c hc
    obtain⟨X,hX⟩:∃X,X=n.l.take i++List.replicate c m:=⟨_,rfl⟩
    obtain⟨T,hT⟩:∃T,T=n.tm.take i++List.replicate c (gE n m):=⟨_,rfl⟩
    have L9:X.length=i+c:=by rw[hX,ap,bg,ia];omega
    have hTl:T.length=i+c:=by rw[hT,ap,bg,ia];omega
    have ZF:lY n m B.length i c=_:=(show lY n m B.length i c=JG n m B.length (i+c) X T by rw[hX,hT];rfl).trans OT
    have ZDW:JG n m B.length (i+c) X T=lY n m B.length i c:=by rw[hX,hT];rfl
    have hXt:List.take X.length (X.map eMs)=X.map eMs:=bo kS
    have hTt:List.take T.length (T.map eI)=T.map eI:=bo kS
    by_cases WM:c<C
    ·have dc:decide ((c:Int)<(C:Int))=true:=ae oM
     have dc1:(C:Int)=1→decide ((c:Int)<1)=true:=fun h=>by rw[h]at dc;exact dc
     have hx1:n.l.take i++List.replicate (c+1) m=X++[m]:=by rw[hX,List.replicate_succ',bc]
     have ht1:n.tm.take i++List.replicate (c+1) (gE n m)=T++[gE n m]:=by rw[hT,List.replicate_succ',bc]
     simp (disch:=first|decide|omega) only[ZF,hA,sA,DD,dc,hXt,hTt,gO,bq,bs,go_sem]
     refine⟨c+1,WM,by simp only;omega,?_⟩
     show VA _ B _ (kOf 130 (kOv [(10,.v (.int .i64 ((c+1:Nat):Int)))] g2)) B (lY n m B.length i (c+1))
     exact VA.kround (p:=E1) (k:=7) (junk:=[_,_]) kQ (by ((try simp (disch:=decide) only[hA,DD,go_sem])<;>exact kH)) (by unfold lY;rw[hx1,ht1,←cw,C8];rfl) RJ (ai _) kV hR yP
    ·obtain rfl:c=C:=by omega
     have dc:decide ((c:Int)<(c:Int))=false:=by simp
     simp (disch:=first|decide|omega) only[ZF,hA,sA,DD,dc,aa,go_sem]
     have h22:ZCk n m B.length i c i=lY n m B.length i c:=by unfold ZCk lY;rw[dy,kj,kj,ct,ct]
     refine JA (ι:=Nat) M1 (fun j=>[(9,.v (.int .i64 j))]) 7 (fun j=>ZCk n m B.length i c j)
      (fun j=>i≤j∧j≤n.l.length) (fun j=>n.l.length-j) i ⟨ai _,by omega⟩ kM kA (fun e=>by rw[h22,←ZDW,OT];exact VA.refl _ _ _) ?_
     clear hX hT ZF ZDW hXt hTt L9 hTl
     rintro g3 bW xR QH j ⟨J5,hj⟩
     obtain⟨X,hX⟩:∃X,X=n.l.take i++List.replicate c m++(n.l.drop i).take (j-i):=⟨_,rfl⟩
     obtain⟨T,hT⟩:∃T,T=n.tm.take i++List.replicate c (gE n m)++(n.tm.drop i).take (j-i):=⟨_,rfl⟩
     have L9:X.length=j+c:=by rw[hX,ap,ap,bg,ia,bg,co];omega
     have hTl:T.length=j+c:=by rw[hT,ap,ap,bg,ia,bg,co];omega
     have ZF:ZCk n m B.length i c j=_:=(show ZCk n m B.length i c j=JG n m B.length (j+c) X T by rw[hX,hT];rfl).trans OT
     have hXt:List.take X.length (X.map eMs)=X.map eMs:=bo kS
     have hTt:List.take T.length (T.map eI)=T.map eI:=bo kS
     by_cases wG:j<n.l.length
     ·first
      |exact absurd (show i<n.l.length by omega) yA
      | (have MY := eG wG
         have htg:=IC (show j<n.tm.length by omega)
         have hx1:n.l.take i++List.replicate c m++(n.l.drop i).take (j+1-i)=X++[n.l[j]]:=by
          rw[hX,show j+1-i=(j-i)+1 by omega,jF (l:=n.l.drop i) (by rw[co];omega),kb,bc _ _ [n.l[j]]]
          congr 3
          congr 1
          omega
         have ht1:n.tm.take i++List.replicate c (gE n m)++(n.tm.drop i).take (j+1-i)=T++[n.tm.getD j 0]:=by
          rw[hT,show j+1-i=(j-i)+1 by omega,jF (l:=n.tm.drop i) (by rw[co];omega),kb,bc _ _ [n.tm.getD j 0],YA oM]
          congr 3
          congr 1
          omega
         simp (disch:=first|decide|omega) only[ZF,hA,sA,DD,QH,MY,htg,hXt,hTt,gO,bq,bs,go_sem]
         refine⟨j+1,⟨by omega,wG⟩,by simp only;omega,?_⟩
         show VA _ B _ (kOf 130 (kOv [(9,.v (.int .i64 ((j+1:Nat):Int)))] g3)) B (ZCk n m B.length i c (j+1))
         exact VA.kround (p:=M1) (k:=7) (junk:=[_,_]) kQ (by ((try simp (disch:=decide) only[hA,QH,go_sem])<;>exact kH)) (by unfold ZCk;rw[hx1,ht1,show j+1+c=j+c+1 by omega,C8];rfl) bW (ai _) kV hR yP)
     ·obtain rfl:j=n.l.length:=by omega
      have hXe:X=n.l.take i++List.replicate c m++n.l.drop i:=by rw[hX,bo (l:=n.l.drop i) (by rw[co];exact ai _)]
      have hTe:T=n.tm.take i++List.replicate c (gE n m)++n.tm.drop i:=by rw[hT,bo (l:=n.tm.drop i) (by rw[co];omega)]
      have IG:sdR n m=⟨n.now,n.fifo,X,T,n.fates.drop 1⟩:=by
       unfold sdR KT
       rw[if_pos he,hCc,hK,hXe,hTe]
      rw[IG]
      simp (disch:=first|decide|omega) only[ZF,hA,sA,DD,QH,cellsOf,go_sem]
      refine iA (.inr rfl) (xs:=[.agg [.v (.int .i64 n.now),.v (.bool n.fifo),.sl (B.length+5) (n.l.length+c) 0 X.length,.sl (B.length+6) (n.l.length+c) 0 T.length,.sl (B.length+4) 0 0 (n.fates.drop 1).length],.v (.int .i64 0)]) kR (Dv.tupL (.cons (Dv.aggL (.cons (.v _) (.cons (.v _) (.cons (Dv.slV (i:=5) rfl kS) (.cons (Dv.slV (i:=6) rfl kS) (.cons (Dv.slV (i:=4) rfl kS) .nil)))))) (.cons (.v _) .nil))) hR hB ⟨rfl,rfl,rfl⟩
def a_rWO:AFunc:=({c:=_}:CF Tryz.prog 131).c
theorem ZEg:qA Tryz.prog 131=some a_rWO:=by kernel_rfl
def Z9:List (Nat×Nat):=[(6,6),(16,45)]

def OJ (n:Nw) (B v:Nat) (X:List Ms) (T:List Int):List Row:=[vM n,sdO,.live 1 2 (vs (n.fates.map eFt)),.live 0 5 [[.v (.int .i64 n.now),.v (.bool n.fifo),.sl (B+4) v 0 X.length,.sl (B+5) v 0 T.length,.sl (B+2) 1 0 n.fates.length]],.live v 4 (vs (X.map eMs)),.live v 1 (vs (T.map eI))]
theorem xV {n:Nw} {B v:Nat} {X:List Ms} {T:List Int}:gA (B+6) (OJ n B v X T):=by
 unfold OJ vM sdO
 simp (disch:=omega) only[lts.down,Nat.reduceLT,Nat.reduceAdd]
def ML {α:Type} (l:List α) (k i:Nat):List α:=if i≤k then l.take i else l.take k++(l.drop (k+1)).take (i-k-1)
def woL (n:Nw) (B k i:Nat):List Row:=OJ n B (ML n.l k i).length (ML n.l k i) (ML n.tm k i)
theorem ZJB {n:Nw} {B v:Nat} {X:List Ms} {T:List Int}:OJ n B v X T=[.live 0 5 [(zNA n)],.live 0 5 [[.v (.int .i64 0),.v (.bool false),.v .zsl,.v .zsl,.v .zsl]],.live 1 2 (vs (n.fates.map eFt)),
  .live 0 5 [[.v (.int .i64 n.now),.v (.bool n.fifo),.sl (B+4) v 0 X.length,.sl (B+5) v 0 T.length,.sl (B+2) 1 0 n.fates.length]],.live v 4 (vs (X.map eMs)),.live v 1 (vs (T.map eI))]:=rfl
theorem ZJC {n:Nw} {x:Ms} {B v:Nat} {X:List Ms} {T:List Int} {t:Int}:OJ n B (v+1) (X++[x]) (T++[t])=[vM n,sdO,.live 1 2 (vs (n.fates.map eFt)),.live 0 5 [[.v (.int .i64 n.now),.v (.bool n.fifo),.sl (B+4) (v+1) 0 (X.length+1),.sl (B+5) (v+1) 0 (T.length+1),.sl (B+2) 1 0 n.fates.length]],.live (v+1) 4 (vs (X.map eMs++[[.int .i64 x.fr,.int .i64 x.to,.int .i64 x.nu,.isl 1 (x.body.map eI)]])),.live (v+1) 1 (vs (T.map eI++[[.int .i64 t]]))]:=by
 unfold OJ
 rw[ap,ap,bh,bh]
 rfl
theorem MV {α:Type} {l:List α} {k i:Nat} (hi:i<l.length) (hk:i≠k):ML l k (i+1)=ML l k i++[l[i]]:=by
 unfold ML
 by_cases h:i<k
 ·rw[if_pos oM,if_pos oM,jF hi]
 ·rw[if_neg oM,if_neg oM,show i+1-k-1=(i-k-1)+1 by omega,jF (l:=l.drop (k+1)) (by rw[co];omega),kb,bc]
  congr 3
  congr 1
  omega
theorem PV {α:Type} {l:List α} {k:Nat}:ML l k (k+1)=ML l k k:=by
 unfold ML
 rw[if_neg oM,if_pos (ai _),show k+1-k-1=0 by omega,kj,ct]
theorem ZDm {α β:Type} {l:List α} {r:List β} {k i:Nat} (h:l.length=r.length):(ML l k i).length=(ML r k i).length:=by
 unfold ML
 split
 ·rw[bg,bg,h]
 ·simp only[ap,bg,co,h]
theorem ZGq {α:Type} {l:List α} {k i:Nat} (h:i≤l.length):(ML l k i).length≤i:=by
 unfold ML
 split
 ·rw[bg];omega
 ·simp only[ap,bg,co];omega
theorem E2 {α:Type} {l:List α} {k i:Nat} (hk:k<l.length) (hi:l.length≤i):ML l k i=l.take k++l.drop (k+1):=by
 unfold ML
 rw[if_neg oM,bo (l:=l.drop (k+1)) (by rw[co];omega)]
theorem jU (n:Nw) (hv:NwV n) (k:Nat) (hk:k<n.l.length) (b l:List Row):QA Tryz.prog 131 [.agg ((eNw n).map .v),.v (.int .i64 k)] b l (fun r b' l'=>r=nwA (woN n k)∧b'=b∧l'=l):=by
 refine XA ZEg rfl kE ?_
 intro B g hB hR hE hA;simp only[zA]at hA
 have HU:=hv.l
 have IB:=hv.len
 have F9:=hv.fl
 have hz1:∀e,VA e B [vM n,sdO,.live 1 2 (vs (n.fates.map eFt)),.live 0 5 [[.v (.int .i64 n.now),.v (.bool n.fifo),.v .zsl,.v .zsl,.sl (B.length+2) 1 0 n.fates.length]]] e B (OJ n B.length 0 [] []):=fun e=>by
  unfold OJ
  refine (VA.nilcell (i:=3) (k:=0) (j:=2) (sz:=4) rfl rfl rfl).trans ?_
  refine (VA.nilcell (i:=3) (k:=0) (j:=3) (sz:=1) rfl rfl rfl).trans ?_
  exact VA.refl _ _ _
 unfold vM sdO at hz1
 have P9:woL n B.length k 0=OJ n B.length 0 [] []:=by
  unfold woL ML
  rw[if_pos (aj _)];rfl
 simp (disch:=first|decide|omega) only[a_rWO,hA,eNw,ZBy,cellsOf,go_sem]
 refine JA (ι:=Nat) Z9 (fun i=>[(6,.v (.int .i64 i))]) 6 (fun i=>woL n B.length k i)
  (fun i=>i≤n.l.length) (fun i=>n.l.length-i) 0 (aj _) kM kA (fun e=>by rw[P9];exact hz1 e) ?_
 clear hz1 P9
 rintro g1 qF TE sA i hi
 obtain⟨X,hX⟩:∃X,X=ML n.l k i:=⟨_,rfl⟩
 obtain⟨T,hT⟩:∃T,T=ML n.tm k i:=⟨_,rfl⟩
 have hTX:T.length=X.length:=by rw[hX,hT,ZDm IB]
 have hXb:X.length≤i:=by rw[hX];exact ZGq hi
 have ZF:woL n B.length k i=_:=(show woL n B.length k i=OJ n B.length X.length X T by rw[hX,hT];rfl).trans ZJB
 have hXt:List.take X.length (X.map eMs)=X.map eMs:=bo kS
 have hTt:List.take T.length (T.map eI)=T.map eI:=bo kS
 by_cases yA:i<n.l.length
 ·by_cases b8:i=k
  ·have d1:((i:Int) != (k:Int))=false:=by rw[b8];simp
   have OH:ML n.l k (i+1)=X:=by rw[hX,b8];exact PV
   have aO:ML n.tm k (i+1)=T:=by rw[hT,b8];exact PV
   simp (disch:=first|decide|omega) only[ZF,hA,sA,d1,aa,go_sem]
   refine⟨i+1,yA,by simp only;omega,?_⟩
   show VA _ B _ (kOf 47 (kOv [(6,.v (.int .i64 ((i+1:Nat):Int)))] g1)) B (woL n B.length k (i+1))
   exact VA.kround (p:=Z9) (k:=6) (junk:=[]) kQ kA (by unfold woL;rw[OH,aO,ct];rfl) qF (ai _) kV hR xV
  ·have d1:((i:Int) != (k:Int))=true:=bne_iff_ne.2 oM
   have MY:=eG yA
   have htg:=IC (show i<n.tm.length by omega)
   have hx1:=MV (l:=n.l) yA b8
   have ht1:=MV (l:=n.tm) oM b8
   rw[←YA (d:=0)]at ht1
   simp (disch:=first|decide|omega) only[ZF,hA,sA,d1,MY,htg,hXt,hTt,gO,bq,bs,go_sem]
   refine⟨i+1,yA,by simp only;omega,?_⟩
   show VA _ B _ (kOf 47 (kOv [(6,.v (.int .i64 ((i+1:Nat):Int)))] g1)) B (woL n B.length k (i+1))
   exact VA.kround (p:=Z9) (k:=6) (junk:=[_,_]) kQ kA (by unfold woL;rw[hx1,ht1,ap,←hX,←hT];exact congrArg (· ++ _) ZJC.symm) qF (ai _) kV hR xV
 ·obtain rfl:i=n.l.length:=by omega
  have IG:woN n k=⟨n.now,n.fifo,X,T,n.fates⟩:=by
   unfold woN
   rw[hX,hT,E2 hk (ai _),E2 oM oM]
  rw[IG]
  simp (disch:=first|decide|omega) only[ZF,hA,sA,cellsOf,go_sem]
  refine iA (.inr rfl) (xs:=[.agg [.v (.int .i64 n.now),.v (.bool n.fifo),.sl (B.length+4) X.length 0 X.length,.sl (B.length+5) X.length 0 T.length,.sl (B.length+2) 1 0 n.fates.length]]) kR (Dv.aggL (.cons (.v _) (.cons (.v _) (.cons (Dv.slV (i:=4) rfl kS) (.cons (Dv.slV (i:=5) rfl kS) (.cons (Dv.slV (i:=2) rfl kS) .nil)))))) hR hB ⟨rfl,rfl,rfl⟩
structure In where
 op:Int
 a:Int
 b:Int
structure Sv where
 name:ByteArray
 code:List In
 pc:Int
 vars:List Int
 off:Int
 rate:Int
structure Wd where
 sv:List Sv
 net:Nw
 now:Int
 sent:Int
 tr:Tr
def eIn (x:In):List IV:=[.int .i64 x.op,.int .i64 x.a,.int .i64 x.b]
def eSv (s:Sv):List IV:=[.str s.name,.isl 3 (s.code.map eIn),.int .i64 s.pc,.isl 1 (s.vars.map eI),.int .i64 s.off,.int .i64 s.rate]
def eWd (w:Wd):List IV:=[.isl 6 (w.sv.map eSv),.int .i64 w.net.now,.bool w.net.fifo,.isl 4 (w.net.l.map eMs),.isl 1 (w.net.tm.map eI),.isl 2 (w.net.fates.map eFt),.int .i64 w.now,.int .i64 w.sent,.isl 3 (w.tr.map ePr)]
def fN:In:=⟨0,0,0⟩
def dfSv:Sv:=⟨⟨#[]⟩,[],0,[],0,0⟩
def wd0:Wd:=⟨[],nw0,0,0,[]⟩
def JE (k c p n:Int) (x:In):Bool:=
 if x.op=1∨x.op=2 then inZ x.a 0 (k-1)&&vlB x.b
 else if x.op=3 then inZ x.a 0 (k-1)&&(inZ x.b 0 (n-1)&&decide (x.b≠p))
 else if x.op=4 then inZ x.a 0 (k-1)
 else if x.op=5 then inZ x.a 0 (k-1)&&inZ x.b 0 (c-1)
 else if x.op=6 then inZ x.a 0 (c-1)&&inZ x.b 0 (k-1)
 else decide (x.op=7∨x.op=8)
def JJ (s:Sv):Bool:=inZ s.off 0 1000000&&inZ s.rate 500 2000
def eH (s:Sv) (now:Int):Bool:=JJ s&&inZ now 0 1000000000
def CH (s:Sv) (now:Int):Int:=if eH s now=true then s.off+now*s.rate / 1000 else 0
def sv1 (s:Sv) (p n:Int):Bool:=eD s.name&&(inZ s.code.length 1 100&&(decide (s.vars.length≤8)&&(inZ s.pc 0 s.code.length&&(JJ s&&(s.vars.all vlB&&s.code.all (JE s.vars.length s.code.length p n))))))
def svB (l:List Sv) (p:Nat):Bool:=sv1 (l.getD p dfSv) p l.length&&(l.take p).all fun x=>!(x.name==(l.getD p dfSv).name)
def FF (l:List Sv):Bool:=inZ l.length 1 8&&(List.range l.length).all (svB l)
structure SvS (s:Sv):Prop where
 name:s.name.size≤1000000
 code:s.code.length≤1000000
 vars:s.vars.length≤1000000
structure SvsS (l:List Sv):Prop where
 len:l.length≤1000000
 all:∀s∈l,SvS s
theorem fG {l:List Sv} {i:Nat} (h:i<l.length):(l.map eSv)[i]? = some [.str l[i].name,.isl 3 (l[i].code.map eIn),.int .i64 l[i].pc,.isl 1 (l[i].vars.map eI),.int .i64 l[i].off,.int .i64 l[i].rate]:=by
 rw[an,ah h];rfl
theorem fI {l:List In} {i:Nat} (h:i<l.length):(l.map eIn)[i]? = some [.int .i64 l[i].op,.int .i64 l[i].a,.int .i64 l[i].b]:=by
 rw[an,ah h];rfl
theorem H5 (s:ByteArray):ID [⟨s,[],[]⟩]=eD s:=by
 have h1:CC [⟨s,[],[]⟩] 0=if eD s=true then 0 else 13:=by
  unfold CC
  cases h:eD s<;>simp[h,sB]
 have h2:ids [⟨s,[],[]⟩]=[]:=by simp[ids,pN,nA]
 unfold ID RE
 rw[h2,if_neg kS]
 cases h:eD s
 ·rw[h]at h1
  simp[h1]
 ·rw[h]at h1
  simp[h1]

def idA (x:Nat×Nat):AV:=.agg [.v (.int .i64 x.1),.v (.int .i64 x.2)]
theorem LX (w:World) (F:Nat→Prop) (L:LMap) (x:Nat×Nat):RepA w F L (idA x) (SA x):=by
 refine GA.agg (vs:=#[.int .i64 x.1,.int .i64 x.2]) ?_
 exact GA.cons (.v _ _ (.int _ _)) (GA.cons (.v _ _ (.int _ _)) GA.nil)
theorem VE {w:World} {F:Nat→Prop} {L:LMap} {x:AV} {xs:List AV} {vs:List Value} (h:GA w F L (x::xs) vs):∃v us,vs=v::us∧RepA w F L x v∧GA w F L xs us:=by
 obtain⟨h1,h2⟩:=h
 cases vs with
 |nil=>simp at h1
 |cons v us=>exact⟨v,us,rfl,h2 0 x v rfl rfl,by simpa using h1,fun i a u ha hu=>h2 (i+1) a u ha hu⟩
theorem yG {w:World} {F:Nat→Prop} {L:LMap} {vs:List Value} (h:GA w F L [] vs):vs=[]:=by
 have:=h.1
 exact cq (by simpa using this.symm)
theorem RO {w:World} {F:Nat→Prop} {L:LMap} {t:Tr} {xs:List AV} {vs:Array Value} (hn:Nm t) (h:GA w F L (.agg [.v (eT t)]::xs) vs.toList):∃u us,vs=(.agg #[u]::us).toArray∧SlR 3 RPr w u t∧GA w F L xs us:=by
 obtain⟨v,us,h1,h2,h3⟩:=VE h
 obtain⟨cs,rfl,h4⟩:=h2.aggL
 obtain⟨u,rest,h5,h6,h7⟩:=VE h4
 have:=yG h7
 subst this
 have TY:cs=#[u]:=gj.1 (by rw[h5])
 subst TY
 exact⟨u,us,gj.1 (by rw[h1]),tr_in hn h6.vI,h3⟩

section
theorem VQ (t:Tr) (hS:Sm t) (hN:Nm t) (b l:List Row):QA Tryz.prog 35 [.agg [.v (eT t)]] b l (fun r b' l'=>r=.v (.bool (ID t))∧b'=b∧l'=l):=by
 refine QA.of_ext ⟨_,Tryz.func35,by kernel_rfl,by kernel_rfl⟩ (fun F L w vs hr=>?_)
 obtain⟨u,us,rfl,hs,PY⟩:=RO hN hr
 obtain rfl:=yG PY
 refine (TP u t w hS hs).mono ?_
 rintro e w' ⟨rfl,he⟩
 exact⟨he,_,_,rfl,.v _ _ (.bool _),rfl,rfl,rfl⟩
theorem yS (t:Tr) (hS:Small t) (hN:Nm t) (b l:List Row):QA Tryz.prog 35 [.agg [.v (eT t)]] b l (fun r b' l'=>r=.v (.bool (ID t))∧b'=b∧l'=l):=VQ t hS.sm hN b l
end
section
variable (cs:List Int) (lr:List IV) (p i:Nat) (kd pr mg:Int) (x4 x5:AV) (B l:List Row)
end

theorem ZAF {F:Nat→Prop} {W:World} (hF:∀b,F b→b<W.heap.size) (hG:ZDT W F:=by intro _ _ h;cases h):Sim F (fun _ _=>none) ([]++[]) W:=
 ⟨fun i v z els hi=>by simp at hi,fun i v q hq=>(by cases hq),fun i i' v v' z z' e1 e2 bb q q' h1=>by simp at h1,fun b hb=>⟨hF b hb,by rintro⟨i,v,s,e1,q,h1,h2,h3⟩;cases h2⟩,hG⟩
def L2 (b4 b5:Nat):LMap:=fun id ver=>if id=0∧ver=0 then some (.pl b4 0 1 1) else if id=1∧ver=0 then some (.pl b5 0 1 1) else none
structure CutOk (t:Tr) (c:List Int):Prop where
 len:c.length=t.length
 np:t.length≤1000000
 nv:∀x∈t,x.vars.length≤1000000
 ne:∀x∈t,x.evs.length≤1000000
 na:∀x∈t,∀e∈x.evs,e.asg.length≤1000000
 le:∀(k:Nat) (h:k<t.length) (h2:k<c.length),0≤c[k]∧c[k]≤t[k].evs.length
end Go.Proofs.YtmaokjojbjdpoaaGreatDoor
namespace Go.Proofs.YtmaokjojbjdpoaaGreatDoor
open Go.RowKit
set_option linter.unusedVariables false
attribute [local go_sem] Oper.semAt_some

def RInt (w:World) (b o:Nat) (x:Int):Prop:=w.cell? ⟨b,o,none⟩=some (.int .i64 x)
theorem RInt.keeps:EU RInt:=fun _ _ _ _ _ he h=>he.cellAt h
def cAt (cs:List Int) (p:Nat):Int:=cs.getD p 0
end Go.Proofs.YtmaokjojbjdpoaaGreatDoor
namespace Go.Proofs.YtmaokjojbjdpoaaGreatDoor
set_option linter.unusedVariables false

section
theorem XZ (t:Tr) (hS:Small t) (hN:Nm t) (b l:List Row) (m:Int):QA Tryz.prog 31 [.agg [.v (eT t)],.v (.int .i64 m)] b l (fun r b' l'=>r=.tup [idA (QC t 2 m),.v (.bool (decide (0<(QC t 2 m).2)))]∧b'=b∧l'=l):=by
 refine QA.of_ext ⟨_,Tryz.func31,by kernel_rfl,by kernel_rfl⟩ (fun F L w vs hr=>?_)
 obtain⟨u,us,rfl,hs,PY⟩:=RO hN hr
 obtain⟨v,us,rfl,h3,PY⟩:=VE PY
 obtain rfl:=yG PY
 cases h3.vI
 refine (p8 u t m w hS hs).mono ?_
 rintro e w' ⟨rfl,he⟩
 exact⟨he,_,_,rfl,GA.tup (GA.cons (LX _ _ _ _) (GA.cons (.v _ _ (.bool _)) GA.nil)),rfl,rfl,rfl⟩
theorem qU (t:Tr) (hS:Small t) (hN:Nm t) (b l:List Row) (m:Int):QA Tryz.prog 158 [.agg [.v (eT t)],.v (.int .i64 m)] b l (fun r b' l'=>r=.tup [idA (QC t 3 m),.v (.bool (decide (0<(QC t 3 m).2)))]∧b'=b∧l'=l):=by
 refine QA.of_ext ⟨_,Tryz.func158,by kernel_rfl,by kernel_rfl⟩ (fun F L w vs hr=>?_)
 obtain⟨u,us,rfl,hs,PY⟩:=RO hN hr
 obtain⟨v,us,rfl,h3,PY⟩:=VE PY
 obtain rfl:=yG PY
 cases h3.vI
 refine (rX u t m w hS hs).mono ?_
 rintro e w' ⟨rfl,he⟩
 exact⟨he,_,_,rfl,GA.tup (GA.cons (LX _ _ _ _) (GA.cons (.v _ _ (.bool _)) GA.nil)),rfl,rfl,rfl⟩
theorem K7 (t:Tr) (hS:Small t) (hN:Nm t) (b l:List Row) (hM:(ids t).length≤1000000):QA Tryz.prog 39 [.agg [.v (eT t)]] b l (fun r b' l'=>r=.v (.int .i64 (ZN t))∧b'=b∧l'=l):=by
 refine QA.of_ext ⟨_,Tryz.func39,by kernel_rfl,by kernel_rfl⟩ (fun F L w vs hr=>?_)
 obtain⟨u,us,rfl,hs,PY⟩:=RO hN hr
 obtain rfl:=yG PY
 refine (ZC8 u t w hS hM hs).mono ?_
 rintro e w' ⟨rfl,he⟩
 exact⟨he,_,_,rfl,.v _ _ (.int _ _),rfl,rfl,rfl⟩
end
set_option linter.unusedSimpArgs false
theorem QA.frz {P:Program} {f i ver sz:Nat} {args:List AV} {rows:List (List IV)} {b l:List Row} {Q:AV→List Row→List Row→Prop} (hi:l[i]? = some (.live ver sz (vs rows))) (h:QA P f (args.map (frz (b.length+i) ver sz rows)) b (l.set i (.dead ver)) Q):QA P f args b l Q:=by
 refine⟨h.1,fun F L w us s hr=>?_⟩
 obtain⟨F',s1,ZI,st1,_⟩:=nJ (e:=args) hi F L w {tmps:=us,defers:=[]} s ⟨rfl,by have:=hr.1;simpa using this.symm,fun j x v hx hv=>hr.2 j x v hx (by simpa using hv)⟩
 refine Calls.mono (h.2 F' L w us s1 ⟨by have:=hr.1;simpa using this,fun j x v hx hv=>ZI.2.2 j x v hx (by simpa using hv)⟩) ?_
 rintro en w' ⟨v,x,b',l',F2,L2,h1,h2,h3,h4,h5,h6⟩
 have IB:(b++l.set i (.dead ver)).length=(b++l).length:=by simp
 have st:Step (b++l).length F L (b++l) w F' L (b++l.set i (.dead ver)) w:=by
  refine⟨st1.imm,fun _ _ _ _ hl=>hl,rfl,rfl,rfl,ai _,fun _ _ _=>rfl,st1.own,fun id hid v hv=>?_,st1.fnew⟩
  by_cases hj:id<b.length
  ·rw[aw hj]at hv⊢;exact hv
  ·rw[aq oM]at hv⊢
   by_cases YG:i=id-b.length
   ·rw[←YG,hi]at hv;cases hv
   ·rw[bl YG];exact hv
 exact⟨v,x,b',l',F2,L2,h1,h2,h3,st.trans (IB▸h4),h5,h6⟩

def kB (n:Nat) (f:Nat→Row):List Row:=(List.range n).map f
def rUp (f:Nat→Row) (i:Nat) (r:Row):Nat→Row:=fun j=>if i=j then r else f j
theorem XH {f:Nat→Row} {i:Nat} {r:Row}:rUp f i r i=r:=by unfold rUp;rw[if_pos rfl]
theorem mA {f:Nat→Row} {i j:Nat} {r:Row} (h:i≠j):rUp f i r j=f j:=by unfold rUp;rw[if_neg h]
theorem RA {n:Nat} {f:Nat→Row}:(kB n f).length=n:=by simp[kB]
theorem xH {n i:Nat} {f:Nat→Row} (h:i<n):(kB n f)[i]? = some (f i):=by
 unfold kB;rw[an,jm h];rfl
theorem ZJc {n i:Nat} {f:Nat→Row} {r:Row}:(kB n f).set i r=kB n (rUp f i r):=by
 apply ea
 intro j
 by_cases hj:j<n
 ·rw[xH hj]
  by_cases J5:i=j
  ·subst J5;rw[ay (by rw[RA];exact hj),XH]
  ·rw[bl J5,xH hj,mA J5]
 ·rw[cg (by rw[dh,RA];omega),cg (by rw[RA];omega)]
theorem DH {n i:Nat} {f:Nat→Row} {l:List Row} (h:i<n):hget (kB n f) l i=some (f i):=by
 unfold hget;rw[if_pos (by rw[RA];exact h),xH h]
theorem sO {n i:Nat} {f:Nat→Row} {l:List Row}:hget (kB n f) l (n+i)=l[i]?:=by
 unfold hget;rw[if_neg (by rw[RA];omega),RA,cj]
theorem mT {n:Nat} {f:Nat→Row} {l:List Row}:hget (kB n f) l n=l[0]?:=sO (i:=0)
theorem vK {n i:Nat} {f:Nat→Row} {r:Row} (h:i<n):iE (kB n f) i r=kB n (rUp f i r):=by
 unfold iE;rw[if_pos (by rw[RA];exact h),ZJc]
theorem jK {n i:Nat} {f:Nat→Row} {l:List Row} {r:Row} (h:i<n):GE (kB n f) l i r=l:=by
 unfold GE;rw[if_pos (by rw[RA];exact h)]
theorem TM {n i:Nat} {f:Nat→Row} {r:Row}:iE (kB n f) (n+i) r=kB n f:=by
 unfold iE;rw[if_neg (by rw[RA];omega)]
theorem fP {n:Nat} {f:Nat→Row} {r:Row}:iE (kB n f) n r=kB n f:=TM (i:=0)
theorem SM {n i:Nat} {f:Nat→Row} {l:List Row} {r:Row}:GE (kB n f) l (n+i) r=l.set i r:=by
 unfold GE;rw[if_neg (by rw[RA];omega),RA,cj]
theorem lP {n:Nat} {f:Nat→Row} {l:List Row} {r:Row}:GE (kB n f) l n r=l.set 0 r:=SM (i:=0)
theorem ZIQ (B:List Row):∃n f,n=B.length∧B=kB n f∧∀i r,B[i]? = some r→f i=r:=by
 refine⟨B.length,fun i=>B.getD i (.dead 0),rfl,?_,fun i r h=>by simp only[au,h];rfl⟩
 apply ea
 intro j
 by_cases hj:j<B.length
 ·rw[xH hj,au,ah hj];rfl
 ·rw[cg oM,cg (by rw[RA];omega)]
def zY (m:Nat) (r:Row):Prop:=∀ver sz els,r=.live ver sz els→∀row∈els,∀c∈row,AVlt m c
theorem zY.live {m ver sz:Nat} {els:List (List AV)} (h:∀row∈els,∀c∈row,AVlt m c):zY m (.live ver sz els):=fun v s e he=>by cases he;exact h
theorem zY.dead {m ver:Nat}:zY m (.dead ver):=fun v s e he=>by cases he
theorem zY.vs {m ver sz:Nat} {rows:List (List IV)}:zY m (.live ver sz (vs rows)):=.live (cJ.2 trivial)
theorem dB {α:Type} (x:α):List.replicate 1 x=[x]:=rfl
attribute [local go_sem ↓] xC UB iC rC wD fB uC gD dC mD LA lB wC MA mB kC QB GB lC KB FA sC eB bB vB aB yB JC nB xD tC uD iD eE pD bE aE TB ZC
attribute [local go_sem] zB EA YE wB ZB fE tD sD rD KL zL nD nC pC mC YD lA UC AA VC CA qB aop AE QE TD LC MD GC LD AJ XG GF amm zF aC MB sF SD IF comma ZD QG EJ ZG AF wJ dF uF vE yJ eqC eqF aG cellsOf rB bC RB iF NI rd rdI IE mk fD AV.cell List.all_cons List.all_nil Bool.and_true Bool.true_and Bool.and_self List.length_cons List.length_nil List.length_append Nat.reduceAdd Nat.reduceSub Nat.reduceMul Nat.zero_add Nat.add_zero List.cons_append List.nil_append List.append_assoc List.append_nil List.getElem?_cons_zero List.getElem?_cons_succ List.getElem?_nil List.set_cons_zero List.set_cons_succ List.drop_zero List.drop_succ_cons List.take_zero List.take_succ_cons List.take_nil List.drop_nil List.map_cons List.map_nil Option.map_some if_true if_false Bool.false_eq_true and_self true_and and_true Nat.reduceLeDiff Nat.reduceLT Nat.le_refl Nat.reduceEqDiff ite_true ite_false beq_self_eq_true beq_true beq_false Bool.not_true Bool.not_false Bool.true_beq Bool.false_beq lE SB iB jD kD yC vC jC qC yD vD mE pA YL sK JL XL rG iG sG dG geI gtI tG decide_true decide_false room List.getElem?_map List.length_map List.length_take Int.toNat_natCast Nat.min_def Nat.min_self dD XD ED pB GD lF zA List.getElem_cons_zero List.getElem_cons_succ
def a_within:AFunc:=({c:=_}:CF Tryz.prog 48).c
theorem fZ:qA Tryz.prog 48=some a_within:=by kernel_rfl
def a_wval:AFunc:=({c:=_}:CF Tryz.prog 120).c
theorem ZCJ:qA Tryz.prog 120=some a_wval:=by kernel_rfl
def a_wclock:AFunc:=({c:=_}:CF Tryz.prog 90).c
theorem bZ:qA Tryz.prog 90=some a_wclock:=by kernel_rfl
def a_wClock:AFunc:=({c:=_}:CF Tryz.prog 38).c
theorem TZ:qA Tryz.prog 38=some a_wClock:=by kernel_rfl
def a_wright:AFunc:=({c:=_}:CF Tryz.prog 123).c
theorem lZ:qA Tryz.prog 123=some a_wright:=by kernel_rfl
def a_wright1:AFunc:=({c:=_}:CF Tryz.prog 161).c
theorem jX:qA Tryz.prog 161=some a_wright1:=by kernel_rfl
def a_wright2:AFunc:=({c:=_}:CF Tryz.prog 162).c
theorem qX:qA Tryz.prog 162=some a_wright2:=by kernel_rfl
def a_r54in:AFunc:=({c:=_}:CF Tryz.prog 52).c
theorem O7:qA Tryz.prog 52=some a_r54in:=by kernel_rfl
def a_r54val:AFunc:=({c:=_}:CF Tryz.prog 74).c
theorem BZ:qA Tryz.prog 74=some a_r54val:=by kernel_rfl
def a_r54rates:AFunc:=({c:=_}:CF Tryz.prog 145).c
theorem sU:qA Tryz.prog 145=some a_r54rates:=by kernel_rfl
def a_r54Clock:AFunc:=({c:=_}:CF Tryz.prog 109).c
theorem fU:qA Tryz.prog 109=some a_r54Clock:=by kernel_rfl
def a_r54Instr:AFunc:=({c:=_}:CF Tryz.prog 146).c
theorem lU:qA Tryz.prog 146=some a_r54Instr:=by kernel_rfl

theorem QD (x lo hi:Int) (b l:List Row):QA Tryz.prog 48 [.v (.int .i64 x),.v (.int .i64 lo),.v (.int .i64 hi)] b l (fun r b' l'=>r=.v (.bool (inZ x lo hi))∧b'=b∧l'=l):=by
 refine XA fZ rfl kE ?_
 intro B g hB hR hE hA;simp only[zA]at hA
 by_cases h1:lo≤x
 ·have d1:decide (x≥lo)=true:=ae h1
  have d1':decide (lo≤x)=true:=ae h1
  simp (disch:=first|decide|omega) only[a_within,hA,d1,d1',go_sem]
  exact ZA (xs:=[.v (.bool (decide (x≤hi)))]) ⟨by simp[inZ,h1,one],rfl,rfl⟩
 ·have d1:decide (x≥lo)=false:=ag h1
  have d1':decide (lo≤x)=false:=ag h1
  simp (disch:=first|decide|omega) only[a_within,hA,d1,d1',go_sem]
  exact ZA (xs:=[.v (.bool false)]) ⟨by simp[inZ,h1,one],rfl,rfl⟩
theorem LB (x lo hi:Int) (b l:List Row):QA Tryz.prog 52 [.v (.int .i64 x),.v (.int .i64 lo),.v (.int .i64 hi)] b l (fun r b' l'=>r=.v (.bool (inZ x lo hi))∧b'=b∧l'=l):=by
 refine XA O7 rfl kE ?_
 intro B g hB hR hE hA;simp only[zA]at hA
 by_cases h1:lo≤x
 ·have d1:decide (x≥lo)=true:=ae h1
  have d1':decide (lo≤x)=true:=ae h1
  simp (disch:=first|decide|omega) only[a_r54in,hA,d1,d1',go_sem]
  exact ZA (xs:=[.v (.bool (decide (x≤hi)))]) ⟨by simp[inZ,h1,one],rfl,rfl⟩
 ·have d1:decide (x≥lo)=false:=ag h1
  have d1':decide (lo≤x)=false:=ag h1
  simp (disch:=first|decide|omega) only[a_r54in,hA,d1,d1',go_sem]
  exact ZA (xs:=[.v (.bool false)]) ⟨by simp[inZ,h1,one],rfl,rfl⟩
theorem GM (x:Int) (b l:List Row):QA Tryz.prog 120 [.v (.int .i64 x)] b l (fun r b' l'=>r=.v (.bool (vlB x))∧b'=b∧l'=l):=by
 refine XA ZCJ rfl kE ?_
 intro B g hB hR hE hA;simp only[zA]at hA
 simp (disch:=first|decide|omega) only[a_wval,hA,go_sem]
 refine QA.nxt (QD _ _ _ _ _) ?_
 simp (disch:=first|decide|omega) only[hA,go_sem]
 exact ZA (xs:=[.v (.bool (inZ x (-1073741824) 1073741824))])
theorem rJ (x:Int) (b l:List Row):QA Tryz.prog 74 [.v (.int .i64 x)] b l (fun r b' l'=>r=.v (.bool (vlB x))∧b'=b∧l'=l):=by
 refine XA BZ rfl kE ?_
 intro B g hB hR hE hA;simp only[zA]at hA
 simp (disch:=first|decide|omega) only[a_r54val,hA,go_sem]
 refine QA.nxt (LB _ _ _ _ _) ?_
 simp (disch:=first|decide|omega) only[hA,go_sem]
 exact ZA (xs:=[.v (.bool (inZ x (-1073741824) 1073741824))])
def LstC (x:AV):Prop:=(∃y,x=.v y)∨∃id ver o n,x=.sl id ver o n
theorem YQ (y0 y1 y2:IV) (x3:AV) (off rate:Int) (b l:List Row) (h3:LstC x3):QA Tryz.prog 90 [.agg [.v y0,.v y1,.v y2,x3,.v (.int .i64 off),.v (.int .i64 rate)]] b l (fun r b' l'=>r=.v (.bool (inZ off 0 1000000&&inZ rate 500 2000))∧b'=b∧l'=l):=by
 refine XA bZ rfl kE ?_
 intro B g hB hR hE hA;simp only[zA]at hA
 rcases h3 with ⟨y,rfl⟩|⟨id,ver,o,n,rfl⟩
 all_goals
  simp (disch:=first|decide|omega) only[a_wclock,hA,go_sem]
  refine QA.nxt (QD _ _ _ _ _) ?_
  cases h1:inZ off 0 1000000
  ·simp (disch:=first|decide|omega) only[hA,go_sem]
   exact ZA (xs:=[.v (.bool false)]) ⟨by simp[one],rfl,rfl⟩
  ·simp (disch:=first|decide|omega) only[hA,go_sem]
   refine QA.nxt (QD _ _ _ _ _) ?_
   simp (disch:=first|decide|omega) only[hA,go_sem]
   exact ZA (xs:=[.v (.bool (inZ rate 500 2000))]) ⟨by simp[one],rfl,rfl⟩
theorem l9 {s:Sv} {now:Int} (h:eH s now=true):(0≤s.off∧s.off≤1000000)∧(500≤s.rate∧s.rate≤2000)∧(0≤now∧now≤1000000000)∧0≤now*s.rate∧now*s.rate≤2000000000000:=by
 unfold eH JJ inZ at h
 simp only[ar,bf]at h
 obtain⟨⟨h1,h2⟩,h3⟩:=h
 refine⟨h1,h2,h3,Int.mul_nonneg h3.1 oM,?_⟩
 have:=Int.mul_le_mul h3.2 h2.2 oM oM
 omega
theorem JQ (y0 y1 y2:IV) (x3:AV) (s:Sv) (now:Int) (b l:List Row) (h3:LstC x3):QA Tryz.prog 38 [.agg [.v y0,.v y1,.v y2,x3,.v (.int .i64 s.off),.v (.int .i64 s.rate)],.v (.int .i64 now)] b l (fun r b' l'=>r=.tup [.v (.int .i64 (CH s now)),.v (.int .i64 (if eH s now=true then 0 else 2))]∧b'=b∧l'=l):=by
 refine XA TZ rfl kE ?_
 intro B g hB hR hE hA;simp only[zA]at hA
 have cC:=fun b l=>YQ y0 y1 y2 x3 s.off s.rate b l h3
 have e1:(inZ s.off 0 1000000&&inZ s.rate 500 2000)=JJ s:=rfl
 rw[e1]at cC
 rcases h3 with ⟨y,rfl⟩|⟨id,ver,o,n,rfl⟩
 all_goals
  simp (disch:=first|decide|omega) only[a_wClock,hA,go_sem]
  refine QA.nxt (cC _ _) ?_
  cases h1:JJ s
  ·have hk:eH s now=false:=by unfold eH;rw[h1];rfl
   simp (disch:=first|decide|omega) only[hA,go_sem]
   exact ZA (xs:=[.v (.int .i64 0),.v (.int .i64 2)]) ⟨by unfold CH;rw[hk];rfl,rfl,rfl⟩
  ·simp (disch:=first|decide|omega) only[hA,go_sem]
   refine QA.nxt (QD _ _ _ _ _) ?_
   cases h2:inZ now 0 1000000000
   ·have hk:eH s now=false:=by unfold eH;rw[h1,h2];rfl
    simp (disch:=first|decide|omega) only[hA,go_sem]
    exact ZA (xs:=[.v (.int .i64 0),.v (.int .i64 2)]) ⟨by unfold CH;rw[hk];rfl,rfl,rfl⟩
   ·have hk:eH s now=true:=by unfold eH;rw[h1,h2];rfl
    obtain⟨g1,g2,g3,g4,g5⟩:=l9 hk
    have hd:Int.tdiv (now*s.rate) 1000=now*s.rate / 1000:=Int.tdiv_eq_ediv_of_nonneg g4
    have LE:IntKind.i64.wrap (now*s.rate)=now*s.rate:=pA oM oM
    have hw2:IntKind.i64.wrap (now*s.rate / 1000)=now*s.rate / 1000:=pA oM oM
    have hw3:IntKind.i64.wrap (s.off+now*s.rate / 1000)=s.off+now*s.rate / 1000:=pA oM oM
    have n0:((1000:Int)=0)=False:=by decide
    simp (disch:=first|decide|omega) only[hA,hd,LE,hw2,hw3,n0,go_sem]
    exact ZA (xs:=[.v (.int .i64 (s.off+now*s.rate / 1000)),.v (.int .i64 0)]) ⟨by unfold CH;rw[hk];rfl,rfl,rfl⟩
theorem dN (y0 y1 y2 y3:IV) (s:Sv) (b l:List Row):QA Tryz.prog 145 [.agg [.v y0,.v y1,.v y2,.v y3,.v (.int .i64 s.off),.v (.int .i64 s.rate)]] b l (fun r b' l'=>r=.v (.bool (JJ s))∧b'=b∧l'=l):=by
 refine XA sU rfl kE ?_
 intro B g hB hR hE hA;simp only[zA]at hA
 simp (disch:=first|decide|omega) only[a_r54rates,hA,go_sem]
 refine QA.nxt (LB _ _ _ _ _) ?_
 cases h1:inZ s.off 0 1000000
 ·simp (disch:=first|decide|omega) only[hA,go_sem]
  exact ZA (xs:=[.v (.bool false)]) ⟨by simp[one,JJ,h1],rfl,rfl⟩
 ·simp (disch:=first|decide|omega) only[hA,go_sem]
  refine QA.nxt (LB _ _ _ _ _) ?_
  simp (disch:=first|decide|omega) only[hA,go_sem]
  exact ZA (xs:=[.v (.bool (inZ s.rate 500 2000))]) ⟨by simp[one,JJ,h1],rfl,rfl⟩
theorem rN (y0 y1 y2 y3:IV) (s:Sv) (now:Int) (b l:List Row):QA Tryz.prog 109 [.agg [.v y0,.v y1,.v y2,.v y3,.v (.int .i64 s.off),.v (.int .i64 s.rate)],.v (.int .i64 now)] b l (fun r b' l'=>r=.tup [.v (.int .i64 (CH s now)),.v (.bool (eH s now))]∧b'=b∧l'=l):=by
 refine XA fU rfl kE ?_
 intro B g hB hR hE hA;simp only[zA]at hA
 have cC:=fun b l=>dN y0 y1 y2 y3 s b l
 simp (disch:=first|decide|omega) only[a_r54Clock,hA,go_sem]
 refine QA.nxt (cC _ _) ?_
 cases h1:JJ s
 ·have hk:eH s now=false:=by unfold eH;rw[h1];rfl
  simp (disch:=first|decide|omega) only[hA,go_sem]
  exact ZA (xs:=[.v (.int .i64 0),.v (.bool false)]) ⟨by unfold CH;rw[hk];rfl,rfl,rfl⟩
 ·simp (disch:=first|decide|omega) only[hA,go_sem]
  refine QA.nxt (LB _ _ _ _ _) ?_
  cases h2:inZ now 0 1000000000
  ·have hk:eH s now=false:=by unfold eH;rw[h1,h2];rfl
   simp (disch:=first|decide|omega) only[hA,go_sem]
   exact ZA (xs:=[.v (.int .i64 0),.v (.bool false)]) ⟨by unfold CH;rw[hk];rfl,rfl,rfl⟩
  ·have hk:eH s now=true:=by unfold eH;rw[h1,h2];rfl
   obtain⟨g1,g2,g3,g4,g5⟩:=l9 hk
   have hd:Int.tdiv (now*s.rate) 1000=now*s.rate / 1000:=Int.tdiv_eq_ediv_of_nonneg g4
   have LE:IntKind.i64.wrap (now*s.rate)=now*s.rate:=pA oM oM
   have hw2:IntKind.i64.wrap (now*s.rate / 1000)=now*s.rate / 1000:=pA oM oM
   have hw3:IntKind.i64.wrap (s.off+now*s.rate / 1000)=s.off+now*s.rate / 1000:=pA oM oM
   have n0:((1000:Int)=0)=False:=by decide
   simp (disch:=first|decide|omega) only[hA,hd,LE,hw2,hw3,n0,go_sem]
   exact ZA (xs:=[.v (.int .i64 (s.off+now*s.rate / 1000)),.v (.bool true)]) ⟨by unfold CH;rw[hk];rfl,rfl,rfl⟩
def uG (s:Sv):Row:=.live 0 6 [[.v (.str s.name),.v (.isl 3 (s.code.map eIn)),.v (.int .i64 s.pc),.v (.isl 1 (s.vars.map eI)),.v (.int .i64 s.off),.v (.int .i64 s.rate)]]
theorem SF (s:Sv) (hS:SvS s) (x:Int) (id:Nat) (b l:List Row) (hg:hget b l id=some (uG s)):QA Tryz.prog 161 [.v (.int .i64 x),.ptr id 0 0 0] b l (fun r b' l'=>r=.v (.bool (inZ x 0 (s.vars.length-1)))∧b'=b∧l'=l):=by
 refine XA jX rfl kE ?_
 intro B g hB hR hE hA;simp only[zA]at hA
 have hv:=hS.vars
 have DD:∀l',hget B l' id=some (uG s):=fun l'=>by
  rw[OC]at hg
  rw[OC,aw (by rw[hB];exact (am.1 hg).1),hB];exact hg
 unfold uG at DD
 simp (disch:=first|decide|omega) only[a_wright1,hA,DD,aa,go_sem]
 refine QA.nxt (QD _ _ _ _ _) ?_
 simp (disch:=first|decide|omega) only[hA,go_sem]
 exact ZA (xs:=[.v (.bool (inZ x 0 (s.vars.length-1)))])
theorem YO (s:Sv) (hS:SvS s) (x:Int) (id:Nat) (b l:List Row) (hg:hget b l id=some (uG s)):QA Tryz.prog 162 [.v (.int .i64 x),.ptr id 0 0 0] b l (fun r b' l'=>r=.v (.bool (inZ x 0 (s.code.length-1)))∧b'=b∧l'=l):=by
 refine XA qX rfl kE ?_
 intro B g hB hR hE hA;simp only[zA]at hA
 have hv:=hS.code
 have DD:∀l',hget B l' id=some (uG s):=fun l'=>by
  rw[OC]at hg
  rw[OC,aw (by rw[hB];exact (am.1 hg).1),hB];exact hg
 unfold uG at DD
 simp (disch:=first|decide|omega) only[a_wright2,hA,DD,aa,go_sem]
 refine QA.nxt (QD _ _ _ _ _) ?_
 simp (disch:=first|decide|omega) only[hA,go_sem]
 exact ZA (xs:=[.v (.bool (inZ x 0 (s.code.length-1)))])
abbrev zSA (x:Sv):List AV:=[.v (.str x.name),.v (.isl 3 (x.code.map eIn)),.v (.int .i64 x.pc),.v (.isl 1 (x.vars.map eI)),.v (.int .i64 x.off),.v (.int .i64 x.rate)]
theorem LY (s:Sv) (hS:SvS s) (p n:Int) (hn:0≤n∧n≤1000000) (x:In) (b l:List Row):QA Tryz.prog 123 [.agg (zSA s),.v (.int .i64 p),.v (.int .i64 n),.agg [.v (.int .i64 x.op),.v (.int .i64 x.a),.v (.int .i64 x.b)]] b l (fun r b' l'=>r=.v (.bool (JE s.vars.length s.code.length p n x))∧b'=b∧l'=l):=by
 refine XA lZ rfl kE ?_
 intro B g hB hR hE hA;simp only[zA]at hA
 have hv:=hS.vars
 have hc:=hS.code
 have hwn:IntKind.i64.wrap (n-1)=n-1:=pA oM oM
 by_cases o:x.op=1
 ·have hr:JE s.vars.length s.code.length p n x=(inZ x.a 0 (s.vars.length-1)&&vlB x.b):=by unfold JE;rw[if_pos oM]
  rw[hr]
  have e1:(x.op==1)=true:=by simp[o]
  have e2:(x.op==2)=false:=by simp[o]
  have e3:(x.op==3)=false:=by simp[o]
  have e4:(x.op==4)=false:=by simp[o]
  have e5:(x.op==5)=false:=by simp[o]
  have e6:(x.op==6)=false:=by simp[o]
  have e7:(x.op==7)=false:=by simp[o]
  have e8:(x.op==8)=false:=by simp[o]
  simp (disch:=first|decide|omega) only[a_wright,hA,e1,e2,e3,e4,e5,e6,e7,e8,go_sem]
  refine QA.nxt (SF s hS x.a B.length B _ (by rw[lA];rfl)) ?_
  cases h1:inZ x.a 0 (s.vars.length-1)
  ·simp (disch:=first|decide|omega) only[hA,go_sem]
   exact ZA (xs:=[.v (.bool false)]) ⟨by simp[one],rfl,rfl⟩
  ·simp (disch:=first|decide|omega) only[hA,go_sem]
   refine QA.nxt (GM _ _ _) ?_
   simp (disch:=first|decide|omega) only[hA,go_sem]
   exact ZA (xs:=[.v (.bool (vlB x.b))]) ⟨by simp[one],rfl,rfl⟩
 have o1:=o
 clear o
 by_cases o:x.op=2
 ·have hr:JE s.vars.length s.code.length p n x=(inZ x.a 0 (s.vars.length-1)&&vlB x.b):=by unfold JE;rw[if_pos oM]
  rw[hr]
  have e1:(x.op==1)=false:=by simp[o]
  have e2:(x.op==2)=true:=by simp[o]
  have e3:(x.op==3)=false:=by simp[o]
  have e4:(x.op==4)=false:=by simp[o]
  have e5:(x.op==5)=false:=by simp[o]
  have e6:(x.op==6)=false:=by simp[o]
  have e7:(x.op==7)=false:=by simp[o]
  have e8:(x.op==8)=false:=by simp[o]
  simp (disch:=first|decide|omega) only[a_wright,hA,e1,e2,e3,e4,e5,e6,e7,e8,go_sem]
  refine QA.nxt (SF s hS x.a B.length B _ (by rw[lA];rfl)) ?_
  cases h1:inZ x.a 0 (s.vars.length-1)
  ·simp (disch:=first|decide|omega) only[hA,go_sem]
   exact ZA (xs:=[.v (.bool false)]) ⟨by simp[one],rfl,rfl⟩
  ·simp (disch:=first|decide|omega) only[hA,go_sem]
   refine QA.nxt (GM _ _ _) ?_
   simp (disch:=first|decide|omega) only[hA,go_sem]
   exact ZA (xs:=[.v (.bool (vlB x.b))]) ⟨by simp[one],rfl,rfl⟩
 have o2:=o
 clear o
 by_cases o:x.op=3
 ·have hr:JE s.vars.length s.code.length p n x=(inZ x.a 0 (s.vars.length-1)&&(inZ x.b 0 (n-1)&&decide (x.b≠p))):=by unfold JE;rw[if_neg oM,if_pos o]
  rw[hr]
  have e1:(x.op==1)=false:=by simp[o]
  have e2:(x.op==2)=false:=by simp[o]
  have e3:(x.op==3)=true:=by simp[o]
  have e4:(x.op==4)=false:=by simp[o]
  have e5:(x.op==5)=false:=by simp[o]
  have e6:(x.op==6)=false:=by simp[o]
  have e7:(x.op==7)=false:=by simp[o]
  have e8:(x.op==8)=false:=by simp[o]
  simp (disch:=first|decide|omega) only[a_wright,hA,e1,e2,e3,e4,e5,e6,e7,e8,go_sem]
  refine QA.nxt (SF s hS x.a B.length B _ (by rw[lA];rfl)) ?_
  cases h1:inZ x.a 0 (s.vars.length-1)
  ·simp (disch:=first|decide|omega) only[hA,go_sem]
   exact ZA (xs:=[.v (.bool false)]) ⟨by simp[one],rfl,rfl⟩
  ·simp (disch:=first|decide|omega) only[hA,hwn,go_sem]
   refine QA.nxt (QD _ _ _ _ _) ?_
   cases h2:inZ x.b 0 (n-1)
   ·simp (disch:=first|decide|omega) only[hA,go_sem]
    exact ZA (xs:=[.v (.bool false)]) ⟨by simp[one],rfl,rfl⟩
   ·have hb:(x.b != p)=decide (x.b≠p):=by by_cases h:x.b=p<;>simp[h]
    simp (disch:=first|decide|omega) only[hA,hb,go_sem]
    exact ZA (xs:=[.v (.bool (decide (x.b≠p)))]) ⟨by simp[one],rfl,rfl⟩
 have o3:=o
 clear o
 by_cases o:x.op=4
 ·have hr:JE s.vars.length s.code.length p n x=inZ x.a 0 (s.vars.length-1):=by unfold JE;rw[if_neg oM,if_neg oM,if_pos o]
  rw[hr]
  have e1:(x.op==1)=false:=by simp[o]
  have e2:(x.op==2)=false:=by simp[o]
  have e3:(x.op==3)=false:=by simp[o]
  have e4:(x.op==4)=true:=by simp[o]
  have e5:(x.op==5)=false:=by simp[o]
  have e6:(x.op==6)=false:=by simp[o]
  have e7:(x.op==7)=false:=by simp[o]
  have e8:(x.op==8)=false:=by simp[o]
  simp (disch:=first|decide|omega) only[a_wright,hA,e1,e2,e3,e4,e5,e6,e7,e8,go_sem]
  refine QA.nxt (SF s hS x.a B.length B _ (by rw[lA];rfl)) ?_
  simp (disch:=first|decide|omega) only[hA,go_sem]
  exact ZA (xs:=[.v (.bool (inZ x.a 0 (s.vars.length-1)))])
 have o4:=o
 clear o
 by_cases o:x.op=5
 ·have hr:JE s.vars.length s.code.length p n x=(inZ x.a 0 (s.vars.length-1)&&inZ x.b 0 (s.code.length-1)):=by unfold JE;rw[if_neg oM,if_neg oM,if_neg oM,if_pos o]
  rw[hr]
  have e1:(x.op==1)=false:=by simp[o]
  have e2:(x.op==2)=false:=by simp[o]
  have e3:(x.op==3)=false:=by simp[o]
  have e4:(x.op==4)=false:=by simp[o]
  have e5:(x.op==5)=true:=by simp[o]
  have e6:(x.op==6)=false:=by simp[o]
  have e7:(x.op==7)=false:=by simp[o]
  have e8:(x.op==8)=false:=by simp[o]
  simp (disch:=first|decide|omega) only[a_wright,hA,e1,e2,e3,e4,e5,e6,e7,e8,go_sem]
  refine QA.nxt (SF s hS x.a B.length B _ (by rw[lA];rfl)) ?_
  cases h1:inZ x.a 0 (s.vars.length-1)
  ·simp (disch:=first|decide|omega) only[hA,go_sem]
   exact ZA (xs:=[.v (.bool false)]) ⟨by simp[one],rfl,rfl⟩
  ·simp (disch:=first|decide|omega) only[hA,go_sem]
   refine QA.nxt (YO s hS x.b B.length B _ (by rw[lA];rfl)) ?_
   simp (disch:=first|decide|omega) only[hA,go_sem]
   exact ZA (xs:=[.v (.bool (inZ x.b 0 (s.code.length-1)))]) ⟨by simp[one],rfl,rfl⟩
 have o5:=o
 clear o
 by_cases o:x.op=6
 ·have hr:JE s.vars.length s.code.length p n x=(inZ x.a 0 (s.code.length-1)&&inZ x.b 0 (s.vars.length-1)):=by unfold JE;rw[if_neg oM,if_neg oM,if_neg oM,if_neg oM,if_pos o]
  rw[hr]
  have e1:(x.op==1)=false:=by simp[o]
  have e2:(x.op==2)=false:=by simp[o]
  have e3:(x.op==3)=false:=by simp[o]
  have e4:(x.op==4)=false:=by simp[o]
  have e5:(x.op==5)=false:=by simp[o]
  have e6:(x.op==6)=true:=by simp[o]
  have e7:(x.op==7)=false:=by simp[o]
  have e8:(x.op==8)=false:=by simp[o]
  simp (disch:=first|decide|omega) only[a_wright,hA,e1,e2,e3,e4,e5,e6,e7,e8,go_sem]
  refine QA.nxt (YO s hS x.a B.length B _ (by rw[lA];rfl)) ?_
  cases h1:inZ x.a 0 (s.code.length-1)
  ·simp (disch:=first|decide|omega) only[hA,go_sem]
   exact ZA (xs:=[.v (.bool false)]) ⟨by simp[one],rfl,rfl⟩
  ·simp (disch:=first|decide|omega) only[hA,go_sem]
   refine QA.nxt (SF s hS x.b B.length B _ (by rw[lA];rfl)) ?_
   simp (disch:=first|decide|omega) only[hA,go_sem]
   exact ZA (xs:=[.v (.bool (inZ x.b 0 (s.vars.length-1)))]) ⟨by simp[one],rfl,rfl⟩
 have o6:=o
 clear o
 have hr:JE s.vars.length s.code.length p n x=decide (x.op=7∨x.op=8):=by unfold JE;rw[if_neg oM,if_neg oM,if_neg oM,if_neg oM,if_neg oM]
 rw[hr]
 have e1:(x.op==1)=false:=by simpa using o1
 have e2:(x.op==2)=false:=by simpa using o2
 have e3:(x.op==3)=false:=by simpa using o3
 have e4:(x.op==4)=false:=by simpa using o4
 have e5:(x.op==5)=false:=by simpa using o5
 have e6:(x.op==6)=false:=by simpa using o6
 by_cases o7:x.op=7
 ·have e7:(x.op==7)=true:=by simpa using o7
  simp (disch:=first|decide|omega) only[a_wright,hA,e1,e2,e3,e4,e5,e6,e7,go_sem]
  exact ZA (xs:=[.v (.bool true)]) ⟨by simp[one,o7],rfl,rfl⟩
 ·have e7:(x.op==7)=false:=by simpa using o7
  by_cases o8:x.op=8
  ·have e8:(x.op==8)=true:=by simpa using o8
   simp (disch:=first|decide|omega) only[a_wright,hA,e1,e2,e3,e4,e5,e6,e7,e8,go_sem]
   exact ZA (xs:=[.v (.bool true)]) ⟨by simp[one,o8],rfl,rfl⟩
  ·have e8:(x.op==8)=false:=by simpa using o8
   simp (disch:=first|decide|omega) only[a_wright,hA,e1,e2,e3,e4,e5,e6,e7,e8,go_sem]
   exact ZA (xs:=[.v (.bool false)]) ⟨by simp[one,o7,o8],rfl,rfl⟩
def a_wname:AFunc:=({c:=_}:CF Tryz.prog 117).c
theorem G7:qA Tryz.prog 117=some a_wname:=by kernel_rfl
def a_wsvc1:AFunc:=({c:=_}:CF Tryz.prog 119).c
theorem p7:qA Tryz.prog 119=some a_wsvc1:=by kernel_rfl
def a_wsvc2:AFunc:=({c:=_}:CF Tryz.prog 122).c
theorem n7:qA Tryz.prog 122=some a_wsvc2:=by kernel_rfl
def a_wsvc3:AFunc:=({c:=_}:CF Tryz.prog 124).c
theorem r7:qA Tryz.prog 124=some a_wsvc3:=by kernel_rfl
def a_wsvcs:AFunc:=({c:=_}:CF Tryz.prog 64).c
theorem i7:qA Tryz.prog 64=some a_wsvcs:=by kernel_rfl
def I1:List (Nat×Nat):=[(2,4),(11,61)]

theorem MK:qA Tryz.prog 127=some (wK 6):=by kernel_rfl
theorem LK:qA Tryz.prog 69=some (GH 127):=by kernel_rfl
theorem i8:qA Tryz.prog 160=some (wK 3):=by kernel_rfl
theorem s8:qA Tryz.prog 121=some (GH 160):=by kernel_rfl
theorem WI (s:ByteArray) (hs:s.size≤maxLen) (b l:List Row):QA Tryz.prog 144 [.v (.str s)] b l (fun r b' l'=>r=.v (.bool (eD s))∧b'=b∧l'=l):=by
 refine QA.of_ext ⟨_,Tryz.func144,by kernel_rfl,by kernel_rfl⟩ (fun F L w vs hr=>?_)
 obtain⟨u,us,h1,h2,h3⟩:=VE hr
 have:=yG h3
 subst this
 obtain rfl:vs=#[u]:=gj.1 (by rw[h1])
 cases h2.vI
 refine (ZBX s w hs).mono ?_
 rintro e w' ⟨rfl,rfl⟩
 exact⟨Ext.refl _,_,_,rfl,.v _ _ (.bool _),rfl,rfl,rfl⟩
theorem ZJ6 {s:ByteArray} (hs:s.size≤maxLen):Nm [⟨s,[],[]⟩]:=fun p hp=>by
 simp at hp;subst hp
 exact⟨hs,fun v hv=>by simp at hv⟩
theorem ZBN (s:ByteArray):Small [⟨s,[],[]⟩]:=by
 refine⟨by simp,fun x hx=>?_,fun x hx=>?_,fun x hx e he=>?_⟩<;>simp at hx<;>subst hx<;>simp at *
theorem n5 (s:ByteArray) (hs:s.size≤maxLen) (b l:List Row):QA Tryz.prog 117 [.v (.str s)] b l (fun r b' l'=>r=.v (.bool (eD s))∧b'=b∧l'=l):=by
 refine XA G7 rfl kE ?_
 intro B g hB hR hE hA;simp only[zA]at hA
 have cV:=fun b l=>yS [⟨s,[],[]⟩] (ZBN s) (ZJ6 hs) b l
 rw[H5]at cV
 simp (disch:=first|decide|omega) only[a_wname,hA,bC,RB,dB,go_sem]
 refine QA.frzB (i:=0) (ver:=0) (sz:=3) (rows:=[[.str s,.zsl,.zsl]]) (args':=[.agg [.v (.isl 3 [[.str s,.zsl,.zsl]])]]) rfl (by simp[frz,ZE]) ?_
 refine QA.nxt ((cV _ _).le rfl (fun i x y hx hy=>?_)) ?_
 ·match i,hx,hy with
  |0,hx,hy =>
    cases hx;cases hy
    refine .agg _ _ rfl (fun j u v hu hv=>?_)
    match j,hu,hv with
    |0,hu,hv =>
      cases hu;cases hv
      refine .v _ _ (IVle.rows ⟨⟨rfl,fun k a c ha hc=>?_⟩,trivial⟩)
      match k,ha,hc with
      |0,ha,hc=>cases ha;cases hc;exact .refl _
      |1,ha,hc=>cases ha;cases hc;exact .zsl 2
      |2,ha,hc=>cases ha;cases hc;exact .zsl 5
 simp (disch:=first|decide|omega) only[hA,go_sem]
 exact ZA (xs:=[.v (.bool (eD s))])
theorem i5 (x:Int) (b l:List Row):QA Tryz.prog 119 [.v (.int .i64 x)] b l (fun r b' l'=>r=.v (.bool (!vlB x))∧b'=b∧l'=l):=by
 refine XA p7 rfl kE ?_
 intro B g hB hR hE hA;simp only[zA]at hA
 simp (disch:=first|decide|omega) only[a_wsvc1,hA,go_sem]
 refine QA.nxt (GM _ _ _) ?_
 simp (disch:=first|decide|omega) only[hA,go_sem]
 exact ZA (xs:=[.v (.bool (!vlB x))])
theorem y5 (s:Sv) (hS:SvS s) (p:Nat) (ls:List Sv) (hls:ls.length≤1000000) (x:In) (i0 i1 i2:Nat) (b l:List Row) (h0:hget b l i0=some (uG s)) (h1:hget b l i1=some (.live 0 1 [[.v (.int .i64 p)]])) (h2:hget b l i2=some (.live 0 1 [[.v (.isl 6 (ls.map eSv))]])) :
  QA Tryz.prog 122 [.agg [.v (.int .i64 x.op),.v (.int .i64 x.a),.v (.int .i64 x.b)],.ptr i0 0 0 0,.ptr i1 0 0 0,.ptr i2 0 0 0] b l (fun r b' l'=>r=.v (.bool (!JE s.vars.length s.code.length p ls.length x))∧b'=b∧l'=l):=by
 refine XA n7 rfl kE ?_
 intro B g hB hR hE hA;simp only[zA]at hA
 have up:∀{i:Nat} {r:Row},hget b l i=some r→∀l',hget B l' i=some r:=fun hg l'=>by
  rw[OC]at hg
  rw[OC,aw (by rw[hB];exact (am.1 hg).1),hB];exact hg
 have g0:=up h0
 have g1:=up h1
 have g2:=up h2
 unfold uG at g0
 simp (disch:=first|decide|omega) only[a_wsvc2,hA,g0,g1,g2,aa,go_sem]
 refine QA.nxt (LY s hS _ _ oM x _ _) ?_
 simp (disch:=first|decide|omega) only[hA,go_sem]
 exact ZA (xs:=[.v (.bool (!JE s.vars.length s.code.length p ls.length x))])
theorem j5 (s x:Sv) (i0:Nat) (b l:List Row) (h0:hget b l i0=some (uG s)) :
  QA Tryz.prog 124 [.agg ((eSv x).map .v),.ptr i0 0 0 0] b l (fun r b' l'=>r=.v (.bool (x.name==s.name))∧b'=b∧l'=l):=by
 refine XA r7 rfl kE ?_
 intro B g hB hR hE hA;simp only[zA]at hA
 have g0:∀l',hget B l' i0=some (uG s):=fun l'=>by
  rw[OC]at h0
  rw[OC,aw (by rw[hB];exact (am.1 h0).1),hB];exact h0
 unfold uG at g0
 simp (disch:=first|decide|omega) only[a_wsvc3,hA,g0,eSv,go_sem]
 exact ZA (xs:=[.v (.bool (x.name==s.name))])
theorem Q1 {l:List Sv} {i:Nat} (hi:i<l.length) (h:svB l i=false):FF l=false:=by
 unfold FF
 rw[Bool.and_eq_false_iff]
 right
 rw[ew]
 exact⟨i,ba.2 hi,by rw[h];simp⟩
theorem rV {l:List Sv} (hl:inZ l.length 1 8=true) (h:∀i,i<l.length→svB l i=true):FF l=true:=by
 unfold FF
 rw[hl,ib,bn]
 exact fun i hi=>h i (ba.1 hi)
theorem QS {l:List Sv}:∀row∈l.map eSv,row.length=6:=by
 intro row h
 obtain⟨s,_,rfl⟩:=cr.1 h
 rfl
theorem ZH7 {l:List In}:∀row∈l.map eIn,row.length=3:=by
 intro row h
 obtain⟨s,_,rfl⟩:=cr.1 h
 rfl
theorem FL (ls:List Sv) (hS:SvsS ls) (b l:List Row):QA Tryz.prog 64 [.v (.isl 6 (ls.map eSv))] b l (fun r b' l'=>r=.v (.bool (FF ls))∧b'=b∧l'=l):=by
 refine XA i7 rfl kE ?_
 intro B g hB hR hE hA;simp only[zA]at hA
 have hln:=hS.len
 simp (disch:=first|decide|omega) only[a_wsvcs,hA,aa,go_sem]
 refine QA.nxt (QD _ _ _ _ _) ?_
 cases zE:inZ ls.length 1 8
 ·simp (disch:=first|decide|omega) only[hA,go_sem]
  exact ZA (xs:=[.v (.bool false)]) ⟨by unfold FF;rw[zE];rfl,rfl,rfl⟩
 simp (disch:=first|decide|omega) only[hA,aa,go_sem]
 refine JA (ι:=Nat) I1 (fun i=>[(11,.v (.int .i64 i))]) 1 (fun _=>[.live 0 1 [[.v (.isl 6 (ls.map eSv))]]])
  (fun i=>i≤ls.length∧∀j,j<i→svB ls j=true) (fun i=>ls.length-i) 0 ⟨aj _,fun j hj=>by omega⟩ kM kA kF ?_
 rintro g1 qF TE sA i ⟨hi,h0⟩
 by_cases yA:i<ls.length
 case neg =>
  obtain rfl:i=ls.length:=by omega
  simp (disch:=first|decide|omega) only[hA,sA,go_sem]
  exact ZA (xs:=[.v (.bool true)]) ⟨by rw[rV zE h0];rfl,rfl,rfl⟩
 obtain⟨s,hs⟩:∃s,ls[i]=s:=⟨_,rfl⟩
 have fJ:ls.getD i dfSv=s:=by rw[YA yA,hs]
 have I0:=hS.all s (by rw[←hs];exact ak yA)
 have sL:=fG yA
 rw[hs]at sL
 have S0:=I0.name
 have hsc:=I0.code
 have UU:=I0.vars
 have M8:svB ls i=(sv1 s i ls.length&&(ls.take i).all fun x=>!(x.name==s.name)):=by unfold svB;rw[fJ]
 have bad:svB ls i=false→AV.v (.bool (FF ls))=.v (.bool false):=fun h=>by rw[Q1 yA h]
 simp (disch:=first|decide|omega) only[hA,sA,sL,aa,go_sem]
 refine QA.nxt (n5 _ (by simp only[maxLen];omega) _ _) ?_
 cases t1:eD s.name
 ·simp (disch:=first|decide|omega) only[hA,sA,go_sem]
  exact ZA (xs:=[.v (.bool false)]) ⟨by rw[bad (by rw[M8];unfold sv1;rw[t1];rfl)];rfl,rfl,rfl⟩
 simp (disch:=first|decide|omega) only[hA,sA,aa,go_sem]
 refine QA.nxt (QD _ _ _ _ _) ?_
 cases t2:inZ s.code.length 1 100
 ·simp (disch:=first|decide|omega) only[hA,sA,go_sem]
  exact ZA (xs:=[.v (.bool false)]) ⟨by rw[bad (by rw[M8];unfold sv1;rw[t1,t2];rfl)];rfl,rfl,rfl⟩
 by_cases t3:s.vars.length≤8
 case neg =>
  have d3:decide ((s.vars.length:Int)>8)=true:=ae oM
  have d3':decide ((8:Int)<(s.vars.length:Int))=true:=d3
  simp (disch:=first|decide|omega) only[hA,sA,d3,d3',aa,go_sem]
  exact ZA (xs:=[.v (.bool false)]) ⟨by rw[bad (by rw[M8];unfold sv1;rw[t1,t2,ag t3];rfl)];rfl,rfl,rfl⟩
 have d3:decide ((s.vars.length:Int)>8)=false:=ag oM
 have d3':decide ((8:Int)<(s.vars.length:Int))=false:=d3
 simp (disch:=first|decide|omega) only[hA,sA,d3,d3',aa,go_sem]
 refine QA.nxt (QD _ _ _ _ _) ?_
 cases t4:inZ s.pc 0 s.code.length
 ·simp (disch:=first|decide|omega) only[hA,sA,go_sem]
  exact ZA (xs:=[.v (.bool false)]) ⟨by rw[bad (by rw[M8];unfold sv1;rw[t1,t2,ae t3,t4];rfl)];rfl,rfl,rfl⟩
 simp (disch:=first|decide|omega) only[hA,sA,aa,go_sem]
 refine QA.nxt (YQ _ _ _ _ _ _ _ _ (.inl ⟨_,rfl⟩)) ?_
 have hrt:(inZ s.off 0 1000000&&inZ s.rate 500 2000)=JJ s:=rfl
 rw[hrt]
 cases t5:JJ s
 ·simp (disch:=first|decide|omega) only[hA,sA,go_sem]
  exact ZA (xs:=[.v (.bool false)]) ⟨by rw[bad (by rw[M8];unfold sv1;rw[t1,t2,ae t3,t4,t5];rfl)];rfl,rfl,rfl⟩
 simp (disch:=first|decide|omega) only[hA,sA,aa,go_sem]
 refine QA.nxt (AL s.vars _ [] (fun j=>!vlB (s.vars.getD j 0)) UU _ _ (fun j hj=>by
  simp only[YA hj]
  exact i5 _ _ _)) ?_
 rw[bG (p:=fun x=>!vlB x),mF]
 cases t6:s.vars.all vlB
 ·simp (disch:=first|decide|omega) only[hA,sA,go_sem]
  exact ZA (xs:=[.v (.bool false)]) ⟨by rw[bad (by rw[M8];unfold sv1;rw[t1,t2,ae t3,t4,t5,t6];rfl)];rfl,rfl,rfl⟩
 obtain⟨R,hR3⟩:∃R:List Row,R=[.live 0 1 [[.v (.isl 6 (ls.map eSv))]],.live 0 1 [[.v (.int .i64 i)]],uG s]:=⟨_,rfl⟩
 have q0:hget (B++R) [] (B.length+2)=some (uG s):=by rw[OC,ct,aq oM,cj,hR3];rfl
 have q1:hget (B++R) [] (B.length+1)=some (.live 0 1 [[.v (.int .i64 i)]]):=by rw[OC,ct,aq oM,cj,hR3];rfl
 have q2:hget (B++R) [] B.length=some (.live 0 1 [[.v (.isl 6 (ls.map eSv))]]):=by rw[OC,ct,aq oM,dy,hR3];rfl
 have cK:=qD s8 i8 (s.code.map eIn) 122 [.ptr (B.length+2) 0 0 0,.ptr (B.length+1) 0 0 0,.ptr B.length 0 0 0] (fun j=>!JE s.vars.length s.code.length i ls.length (s.code.getD j fN)) ZH7 (by rw[aa];exact hsc) B R (fun j row hj=>by
  have wG:j<s.code.length:=by have:=(am.1 hj).1;rwa [aa]at this
  rw[fI wG]at hj
  cases hj
  simp only[YA wG]
  exact y5 s I0 i ls hln _ _ _ _ _ _ q0 q1 q2)
 rw[aa,bG (p:=fun x=>!JE s.vars.length s.code.length i ls.length x),mF]at cK
 have NY:(ls.take i).length=i:=by rw[bg];omega
 have cN:=qD LK MK ((ls.take i).map eSv) 124 [.ptr (B.length+2) 0 0 0] (fun j=>(((ls.take i).getD j dfSv).name==s.name)) QS (by rw[aa];omega) B R (fun j row hj=>by
  have wG:j<(ls.take i).length:=by have:=(am.1 hj).1;rwa [aa]at this
  rw[an,ah wG]at hj
  cases hj
  simp only[YA wG]
  exact j5 s _ _ _ _ q0)
 rw[aa,bG (d:=dfSv) (p:=fun x:Sv=>x.name==s.name)]at cN
 rw[hR3]at cK cN
 unfold uG at cK cN
 simp (disch:=first|decide|omega) only[hA,sA,aa,go_sem]
 refine QA.nxt cK ?_
 cases t7:s.code.all (JE s.vars.length s.code.length i ls.length)
 ·simp (disch:=first|decide|omega) only[hA,sA,go_sem]
  exact ZA (xs:=[.v (.bool false)]) ⟨by rw[bad (by rw[M8];unfold sv1;rw[t1,t2,ae t3,t4,t5,t6,t7];rfl)];rfl,rfl,rfl⟩
 have OH:sv1 s i ls.length=true:=by unfold sv1;rw[t1,t2,ae t3,t4,t5,t6,t7];rfl
 rw[gh]at cN
 simp (disch:=first|decide|omega) only[hA,sA,aa,go_sem]
 refine QA.nxt cN ?_
 have hna:(ls.take i).all (fun x=>!(x.name==s.name))=!(ls.take i).any (fun x=>x.name==s.name):=by
  rw[eh]
  simp[bn,ga]
 cases t8:(ls.take i).any (fun x=>x.name==s.name)
 ·simp (disch:=first|decide|omega) only[hA,sA,go_sem]
  refine⟨i+1,⟨yA,fun j hj=>?_⟩,by simp only;omega,?_⟩
  ·rcases bp j i with YG|YG
   ·exact h0 j YG
   ·obtain rfl:j=i:=by omega
    rw[M8,OH,hna,t8];rfl
  ·exact VA.kround (p:=I1) (k:=1) kQ kA rfl qF kS kV hR kL
 ·simp (disch:=first|decide|omega) only[hA,sA,go_sem]
  exact ZA (xs:=[.v (.bool false)]) ⟨by rw[bad (by rw[M8,OH,hna,t8];rfl)];rfl,rfl,rfl⟩
def a_r54Serv:AFunc:=({c:=_}:CF Tryz.prog 102).c
theorem dX:qA Tryz.prog 102=some a_r54Serv:=by kernel_rfl
def pS:List (Nat×Nat):=[(6,7),(40,53)]
def nS:List (Nat×Nat):=[(6,6),(8,8),(54,70)]
def a_r54Servs:AFunc:=({c:=_}:CF Tryz.prog 51).c
theorem mU:qA Tryz.prog 51=some a_r54Servs:=by kernel_rfl
def dQ:List (Nat×Nat):=[(2,4),(9,39)]
def iQ:List (Nat×Nat):=[(2,2),(4,4),(24,39)]

theorem iU (s:Sv) (hS:SvS s) (p n:Int) (hn:0≤n∧n≤1000000) (x:In) (b l:List Row):QA Tryz.prog 146 [.agg (zSA s),.agg [.v (.int .i64 x.op),.v (.int .i64 x.a),.v (.int .i64 x.b)],.v (.int .i64 p),.v (.int .i64 n)] b l (fun r b' l'=>r=.v (.bool (JE s.vars.length s.code.length p n x))∧b'=b∧l'=l):=by
 refine XA lU rfl kE ?_
 intro B g hB hR hE hA;simp only[zA]at hA
 have hv:=hS.vars
 have hc:=hS.code
 have hwn:IntKind.i64.wrap (n-1)=n-1:=pA oM oM
 have hwv:IntKind.i64.wrap ((s.vars.length:Int)-1)=(s.vars.length:Int)-1:=pA oM oM
 have hwc:IntKind.i64.wrap ((s.code.length:Int)-1)=(s.code.length:Int)-1:=pA oM oM
 by_cases o:x.op=1
 ·have hr:JE s.vars.length s.code.length p n x=(inZ x.a 0 (s.vars.length-1)&&vlB x.b):=by unfold JE;rw[if_pos oM]
  rw[hr]
  have e1:(x.op==1)=true:=by simp[o]
  have e2:(x.op==2)=false:=by simp[o]
  have e3:(x.op==3)=false:=by simp[o]
  have e4:(x.op==4)=false:=by simp[o]
  have e5:(x.op==5)=false:=by simp[o]
  have e6:(x.op==6)=false:=by simp[o]
  have e7:(x.op==7)=false:=by simp[o]
  have e8:(x.op==8)=false:=by simp[o]
  have dl:decide (x.op<1)=false:=ag oM
  have dg:decide (x.op>8)=false:=ag oM
  have dg':decide (8<x.op)=false:=dg
  simp (disch:=first|decide|omega) only[a_r54Instr,hA,e1,e2,e3,e4,e5,e6,e7,e8,dl,dg,dg',hwn,hwv,hwc,aa,go_sem]
  refine QA.nxt (LB _ _ _ _ _) ?_
  cases h1:inZ x.a 0 (s.vars.length-1)
  ·simp (disch:=first|decide|omega) only[hA,go_sem]
   exact ZA (xs:=[.v (.bool false)]) ⟨by simp[one],rfl,rfl⟩
  ·simp (disch:=first|decide|omega) only[hA,go_sem]
   refine QA.nxt (rJ _ _ _) ?_
   simp (disch:=first|decide|omega) only[hA,go_sem]
   exact ZA (xs:=[.v (.bool (vlB x.b))]) ⟨by simp[one],rfl,rfl⟩
 have o1:=o
 clear o
 by_cases o:x.op=2
 ·have hr:JE s.vars.length s.code.length p n x=(inZ x.a 0 (s.vars.length-1)&&vlB x.b):=by unfold JE;rw[if_pos oM]
  rw[hr]
  have e1:(x.op==1)=false:=by simp[o]
  have e2:(x.op==2)=true:=by simp[o]
  have e3:(x.op==3)=false:=by simp[o]
  have e4:(x.op==4)=false:=by simp[o]
  have e5:(x.op==5)=false:=by simp[o]
  have e6:(x.op==6)=false:=by simp[o]
  have e7:(x.op==7)=false:=by simp[o]
  have e8:(x.op==8)=false:=by simp[o]
  have dl:decide (x.op<1)=false:=ag oM
  have dg:decide (x.op>8)=false:=ag oM
  have dg':decide (8<x.op)=false:=dg
  simp (disch:=first|decide|omega) only[a_r54Instr,hA,e1,e2,e3,e4,e5,e6,e7,e8,dl,dg,dg',hwn,hwv,hwc,aa,go_sem]
  refine QA.nxt (LB _ _ _ _ _) ?_
  cases h1:inZ x.a 0 (s.vars.length-1)
  ·simp (disch:=first|decide|omega) only[hA,go_sem]
   exact ZA (xs:=[.v (.bool false)]) ⟨by simp[one],rfl,rfl⟩
  ·simp (disch:=first|decide|omega) only[hA,go_sem]
   refine QA.nxt (rJ _ _ _) ?_
   simp (disch:=first|decide|omega) only[hA,go_sem]
   exact ZA (xs:=[.v (.bool (vlB x.b))]) ⟨by simp[one],rfl,rfl⟩
 have o2:=o
 clear o
 by_cases o:x.op=3
 ·have hr:JE s.vars.length s.code.length p n x=(inZ x.a 0 (s.vars.length-1)&&(inZ x.b 0 (n-1)&&decide (x.b≠p))):=by unfold JE;rw[if_neg oM,if_pos o]
  rw[hr]
  have e1:(x.op==1)=false:=by simp[o]
  have e2:(x.op==2)=false:=by simp[o]
  have e3:(x.op==3)=true:=by simp[o]
  have e4:(x.op==4)=false:=by simp[o]
  have e5:(x.op==5)=false:=by simp[o]
  have e6:(x.op==6)=false:=by simp[o]
  have e7:(x.op==7)=false:=by simp[o]
  have e8:(x.op==8)=false:=by simp[o]
  have dl:decide (x.op<1)=false:=ag oM
  have dg:decide (x.op>8)=false:=ag oM
  have dg':decide (8<x.op)=false:=dg
  simp (disch:=first|decide|omega) only[a_r54Instr,hA,e1,e2,e3,e4,e5,e6,e7,e8,dl,dg,dg',hwn,hwv,hwc,aa,go_sem]
  refine QA.nxt (LB _ _ _ _ _) ?_
  cases h1:inZ x.a 0 (s.vars.length-1)
  ·simp (disch:=first|decide|omega) only[hA,go_sem]
   exact ZA (xs:=[.v (.bool false)]) ⟨by simp[one],rfl,rfl⟩
  ·simp (disch:=first|decide|omega) only[hA,hwn,go_sem]
   refine QA.nxt (LB _ _ _ _ _) ?_
   cases h2:inZ x.b 0 (n-1)
   ·simp (disch:=first|decide|omega) only[hA,go_sem]
    exact ZA (xs:=[.v (.bool false)]) ⟨by simp[one],rfl,rfl⟩
   ·have hb:(x.b != p)=decide (x.b≠p):=by by_cases h:x.b=p<;>simp[h]
    simp (disch:=first|decide|omega) only[hA,hb,go_sem]
    exact ZA (xs:=[.v (.bool (decide (x.b≠p)))]) ⟨by simp[one],rfl,rfl⟩
 have o3:=o
 clear o
 by_cases o:x.op=4
 ·have hr:JE s.vars.length s.code.length p n x=inZ x.a 0 (s.vars.length-1):=by unfold JE;rw[if_neg oM,if_neg oM,if_pos o]
  rw[hr]
  have e1:(x.op==1)=false:=by simp[o]
  have e2:(x.op==2)=false:=by simp[o]
  have e3:(x.op==3)=false:=by simp[o]
  have e4:(x.op==4)=true:=by simp[o]
  have e5:(x.op==5)=false:=by simp[o]
  have e6:(x.op==6)=false:=by simp[o]
  have e7:(x.op==7)=false:=by simp[o]
  have e8:(x.op==8)=false:=by simp[o]
  have dl:decide (x.op<1)=false:=ag oM
  have dg:decide (x.op>8)=false:=ag oM
  have dg':decide (8<x.op)=false:=dg
  simp (disch:=first|decide|omega) only[a_r54Instr,hA,e1,e2,e3,e4,e5,e6,e7,e8,dl,dg,dg',hwn,hwv,hwc,aa,go_sem]
  refine QA.nxt (LB _ _ _ _ _) ?_
  simp (disch:=first|decide|omega) only[hA,go_sem]
  exact ZA (xs:=[.v (.bool (inZ x.a 0 (s.vars.length-1)))])
 have o4:=o
 clear o
 by_cases o:x.op=5
 ·have hr:JE s.vars.length s.code.length p n x=(inZ x.a 0 (s.vars.length-1)&&inZ x.b 0 (s.code.length-1)):=by unfold JE;rw[if_neg oM,if_neg oM,if_neg oM,if_pos o]
  rw[hr]
  have e1:(x.op==1)=false:=by simp[o]
  have e2:(x.op==2)=false:=by simp[o]
  have e3:(x.op==3)=false:=by simp[o]
  have e4:(x.op==4)=false:=by simp[o]
  have e5:(x.op==5)=true:=by simp[o]
  have e6:(x.op==6)=false:=by simp[o]
  have e7:(x.op==7)=false:=by simp[o]
  have e8:(x.op==8)=false:=by simp[o]
  have dl:decide (x.op<1)=false:=ag oM
  have dg:decide (x.op>8)=false:=ag oM
  have dg':decide (8<x.op)=false:=dg
  simp (disch:=first|decide|omega) only[a_r54Instr,hA,e1,e2,e3,e4,e5,e6,e7,e8,dl,dg,dg',hwn,hwv,hwc,aa,go_sem]
  refine QA.nxt (LB _ _ _ _ _) ?_
  cases h1:inZ x.a 0 (s.vars.length-1)
  ·simp (disch:=first|decide|omega) only[hA,go_sem]
   exact ZA (xs:=[.v (.bool false)]) ⟨by simp[one],rfl,rfl⟩
  ·simp (disch:=first|decide|omega) only[hA,hwv,hwc,go_sem]
   refine QA.nxt (LB _ _ _ _ _) ?_
   simp (disch:=first|decide|omega) only[hA,go_sem]
   exact ZA (xs:=[.v (.bool (inZ x.b 0 (s.code.length-1)))]) ⟨by simp[one],rfl,rfl⟩
 have o5:=o
 clear o
 by_cases o:x.op=6
 ·have hr:JE s.vars.length s.code.length p n x=(inZ x.a 0 (s.code.length-1)&&inZ x.b 0 (s.vars.length-1)):=by unfold JE;rw[if_neg oM,if_neg oM,if_neg oM,if_neg oM,if_pos o]
  rw[hr]
  have e1:(x.op==1)=false:=by simp[o]
  have e2:(x.op==2)=false:=by simp[o]
  have e3:(x.op==3)=false:=by simp[o]
  have e4:(x.op==4)=false:=by simp[o]
  have e5:(x.op==5)=false:=by simp[o]
  have e6:(x.op==6)=true:=by simp[o]
  have e7:(x.op==7)=false:=by simp[o]
  have e8:(x.op==8)=false:=by simp[o]
  have dl:decide (x.op<1)=false:=ag oM
  have dg:decide (x.op>8)=false:=ag oM
  have dg':decide (8<x.op)=false:=dg
  simp (disch:=first|decide|omega) only[a_r54Instr,hA,e1,e2,e3,e4,e5,e6,e7,e8,dl,dg,dg',hwn,hwv,hwc,aa,go_sem]
  refine QA.nxt (LB _ _ _ _ _) ?_
  cases h1:inZ x.a 0 (s.code.length-1)
  ·simp (disch:=first|decide|omega) only[hA,go_sem]
   exact ZA (xs:=[.v (.bool false)]) ⟨by simp[one],rfl,rfl⟩
  ·simp (disch:=first|decide|omega) only[hA,hwv,hwc,go_sem]
   refine QA.nxt (LB _ _ _ _ _) ?_
   simp (disch:=first|decide|omega) only[hA,go_sem]
   exact ZA (xs:=[.v (.bool (inZ x.b 0 (s.vars.length-1)))]) ⟨by simp[one],rfl,rfl⟩
 have o6:=o
 clear o
 have hr:JE s.vars.length s.code.length p n x=decide (x.op=7∨x.op=8):=by unfold JE;rw[if_neg oM,if_neg oM,if_neg oM,if_neg oM,if_neg oM]
 rw[hr]
 have e1:(x.op==1)=false:=by simpa using o1
 have e2:(x.op==2)=false:=by simpa using o2
 have e3:(x.op==3)=false:=by simpa using o3
 have e4:(x.op==4)=false:=by simpa using o4
 have e5:(x.op==5)=false:=by simpa using o5
 have e6:(x.op==6)=false:=by simpa using o6
 by_cases hl:x.op<1
 ·have dl:=ae hl
  simp (disch:=first|decide|omega) only[a_r54Instr,hA,dl,aa,go_sem]
  exact ZA (xs:=[.v (.bool false)]) ⟨by rw[ag oM];rfl,rfl,rfl⟩
 have dl:=ag hl
 by_cases hg:8<x.op
 ·have dg:=ae hg
  simp (disch:=first|decide|omega) only[a_r54Instr,hA,dl,dg,aa,go_sem]
  exact ZA (xs:=[.v (.bool false)]) ⟨by rw[ag oM];rfl,rfl,rfl⟩
 have dg:=ag hg
 simp (disch:=first|decide|omega) only[a_r54Instr,hA,dl,dg,e1,e2,e3,e4,e5,e6,aa,go_sem]
 exact ZA (xs:=[.v (.bool true)]) ⟨by rw[ae oM];rfl,rfl,rfl⟩
theorem XX (s:Sv) (hS:SvS s) (p n:Int) (hn:0≤n∧n≤1000000) (b l:List Row):QA Tryz.prog 102 [.agg (zSA s),.v (.int .i64 p),.v (.int .i64 n)] b l (fun r b' l'=>r=.v (.bool (sv1 s p n))∧b'=b∧l'=l):=by
 refine XA dX rfl kE ?_
 intro B g hB hR hE hA;simp only[zA]at hA
 have S0:=hS.name
 have UU:=hS.vars
 have hsc:=hS.code
 simp (disch:=first|decide|omega) only[a_r54Serv,hA,go_sem]
 refine QA.nxt (WI _ (by simp only[maxLen];omega) _ _) ?_
 cases t1:eD s.name
 ·simp (disch:=first|decide|omega) only[hA,go_sem]
  exact ZA (xs:=[.v (.bool false)]) ⟨by unfold sv1;rw[t1];rfl,rfl,rfl⟩
 simp (disch:=first|decide|omega) only[hA,aa,go_sem]
 refine QA.nxt (LB _ _ _ _ _) ?_
 cases t2:inZ s.code.length 1 100
 ·simp (disch:=first|decide|omega) only[hA,go_sem]
  exact ZA (xs:=[.v (.bool false)]) ⟨by unfold sv1;rw[t1,t2];rfl,rfl,rfl⟩
 by_cases t3:s.vars.length≤8
 case neg =>
  have d3:decide ((s.vars.length:Int)>8)=true:=ae oM
  have d3':decide ((8:Int)<(s.vars.length:Int))=true:=d3
  simp (disch:=first|decide|omega) only[hA,d3,d3',aa,go_sem]
  exact ZA (xs:=[.v (.bool false)]) ⟨by unfold sv1;rw[t1,t2,ag t3];rfl,rfl,rfl⟩
 have d3:decide ((s.vars.length:Int)>8)=false:=ag oM
 have d3':decide ((8:Int)<(s.vars.length:Int))=false:=d3
 simp (disch:=first|decide|omega) only[hA,d3,d3',aa,go_sem]
 refine QA.nxt (LB _ _ _ _ _) ?_
 cases t4:inZ s.pc 0 s.code.length
 ·simp (disch:=first|decide|omega) only[hA,go_sem]
  exact ZA (xs:=[.v (.bool false)]) ⟨by unfold sv1;rw[t1,t2,ae t3,t4];rfl,rfl,rfl⟩
 simp (disch:=first|decide|omega) only[hA,go_sem]
 refine QA.nxt (dN _ _ _ _ s _ _) ?_
 cases t5:JJ s
 ·simp (disch:=first|decide|omega) only[hA,go_sem]
  exact ZA (xs:=[.v (.bool false)]) ⟨by unfold sv1;rw[t1,t2,ae t3,t4,t5];rfl,rfl,rfl⟩
 simp (disch:=first|decide|omega) only[hA,aa,go_sem]
 refine JA (ι:=Nat) pS (fun i=>[(7,.v (.int .i64 i))]) 1 (fun _=>[uG s])
  (fun i=>i≤s.vars.length∧∀j,j<i→vlB (s.vars.getD j 0)=true) (fun i=>s.vars.length-i) 0 ⟨aj _,fun j hj=>by omega⟩ kM kA kF ?_
 rintro g1 qF TE sA i ⟨hi,h0⟩
 unfold uG
 by_cases yA:i<s.vars.length
 ·have QI:=IC yA
  simp (disch:=first|decide|omega) only[hA,sA,QI,aa,go_sem]
  refine QA.nxt (rJ _ _ _) ?_
  cases q:vlB (s.vars.getD i 0)
  ·simp (disch:=first|decide|omega) only[hA,sA,go_sem]
   exact ZA (xs:=[.v (.bool false)]) ⟨by unfold sv1;rw[t1,t2,ae t3,t4,t5,show s.vars.all vlB=false from ew.2 ⟨s.vars.getD i 0,by rw[YA yA];exact ak yA,by rw[q];simp⟩];rfl,rfl,rfl⟩
  ·simp (disch:=first|decide|omega) only[hA,sA,go_sem]
   refine⟨i+1,⟨yA,fun j hj=>?_⟩,by simp only;omega,?_⟩
   ·rcases bp j i with YG|YG
    ·exact h0 j YG
    ·obtain rfl:j=i:=by omega
     exact q
   ·exact VA.kround (p:=pS) (k:=1) kQ kA rfl qF kS kV hR kL
 obtain rfl:i=s.vars.length:=by omega
 have t6:s.vars.all vlB=true:=by
  rw[bn]
  intro x hx
  obtain⟨j,hj,rfl⟩:=cu hx
  rw[←YA (d:=0) hj]
  exact h0 j hj
 simp (disch:=first|decide|omega) only[hA,sA,aa,go_sem]
 refine JA (ι:=Nat) nS (fun i=>[(8,.v (.int .i64 i))]) 1 (fun _=>[uG s])
  (fun i=>i≤s.code.length∧∀j,j<i→JE s.vars.length s.code.length p n (s.code.getD j fN)=true) (fun i=>s.code.length-i) 0 ⟨aj _,fun j hj=>by omega⟩ kM kA kF ?_
 rintro g2 RJ QO DD i ⟨hi2,h02⟩
 unfold uG
 by_cases yA:i<s.code.length
 ·have QI:=fI yA
  simp (disch:=first|decide|omega) only[hA,sA,DD,QI,aa,go_sem]
  refine QA.nxt (iU s hS p n hn s.code[i] _ _) ?_
  rw[←YA (d:=fN) yA]
  cases q:JE s.vars.length s.code.length p n (s.code.getD i fN)
  ·simp (disch:=first|decide|omega) only[hA,sA,DD,go_sem]
   exact ZA (xs:=[.v (.bool false)]) ⟨by unfold sv1;rw[t1,t2,ae t3,t4,t5,t6,show s.code.all (JE s.vars.length s.code.length p n)=false from ew.2 ⟨s.code.getD i fN,by rw[YA yA];exact ak yA,by rw[q];simp⟩];rfl,rfl,rfl⟩
  ·simp (disch:=first|decide|omega) only[hA,sA,DD,go_sem]
   refine⟨i+1,⟨yA,fun j hj=>?_⟩,by simp only;omega,?_⟩
   ·rcases bp j i with YG|YG
    ·exact h02 j YG
    ·obtain rfl:j=i:=by omega
     exact q
   ·exact VA.kround (p:=nS) (k:=1) kQ kA rfl RJ kS kV hR kL
 obtain rfl:i=s.code.length:=by omega
 have t7:s.code.all (JE s.vars.length s.code.length p n)=true:=by
  rw[bn]
  intro x hx
  obtain⟨j,hj,rfl⟩:=cu hx
  rw[←YA (d:=fN) hj]
  exact h02 j hj
 simp (disch:=first|decide|omega) only[hA,sA,DD,aa,go_sem]
 exact ZA (xs:=[.v (.bool true)]) ⟨by unfold sv1;rw[t1,t2,ae t3,t4,t5,t6,t7];rfl,rfl,rfl⟩
theorem uU (ls:List Sv) (hS:SvsS ls) (b l:List Row):QA Tryz.prog 51 [.v (.isl 6 (ls.map eSv))] b l (fun r b' l'=>r=.v (.bool (FF ls))∧b'=b∧l'=l):=by
 refine XA mU rfl kE ?_
 intro B g hB hR hE hA;simp only[zA]at hA
 have hln:=hS.len
 simp (disch:=first|decide|omega) only[a_r54Servs,hA,aa,go_sem]
 refine QA.nxt (LB _ _ _ _ _) ?_
 cases zE:inZ ls.length 1 8
 ·simp (disch:=first|decide|omega) only[hA,go_sem]
  exact ZA (xs:=[.v (.bool false)]) ⟨by unfold FF;rw[zE];rfl,rfl,rfl⟩
 simp (disch:=first|decide|omega) only[hA,aa,go_sem]
 refine JA (ι:=Nat) dQ (fun i=>[(3,.v (.int .i64 i))]) 0 (fun _=>[])
  (fun i=>i≤ls.length∧∀j,j<i→svB ls j=true) (fun i=>ls.length-i) 0 ⟨aj _,fun j hj=>by omega⟩ kM kA kF ?_
 rintro g1 qF TE sA i ⟨hi,h0⟩
 by_cases yA:i<ls.length
 case neg =>
  obtain rfl:i=ls.length:=by omega
  simp (disch:=first|decide|omega) only[hA,sA,aa,go_sem]
  exact ZA (xs:=[.v (.bool true)]) ⟨by rw[rV zE h0];rfl,rfl,rfl⟩
 obtain⟨s,hs⟩:∃s,ls[i]=s:=⟨_,rfl⟩
 have fJ:ls.getD i dfSv=s:=by rw[YA yA,hs]
 have I0:=hS.all s (by rw[←hs];exact ak yA)
 have sL:=fG yA
 rw[hs]at sL
 have M8:svB ls i=(sv1 s i ls.length&&(ls.take i).all fun x=>!(x.name==s.name)):=by unfold svB;rw[fJ]
 have bad:svB ls i=false→AV.v (.bool (FF ls))=.v (.bool false):=fun h=>by rw[Q1 yA h]
 simp (disch:=first|decide|omega) only[hA,sA,sL,aa,go_sem]
 refine QA.nxt (XX s I0 _ _ oM _ _) ?_
 cases t1:sv1 s i ls.length
 ·simp (disch:=first|decide|omega) only[hA,sA,go_sem]
  exact ZA (xs:=[.v (.bool false)]) ⟨by rw[bad (by rw[M8,t1];rfl)];rfl,rfl,rfl⟩
 simp (disch:=first|decide|omega) only[hA,sA,aa,go_sem]
 refine JA (ι:=Nat) iQ (fun k=>[(4,.v (.int .i64 k))]) 0 (fun _=>[])
  (fun k=>k≤i∧∀j,j<k→((ls.getD j dfSv).name==s.name)=false) (fun k=>i-k) 0 ⟨aj _,fun j hj=>by omega⟩ kM kA kF ?_
 rintro g2 RJ QO DD k ⟨hk,h02⟩
 by_cases OK:k<i
 ·have hgk:=fG (show k<ls.length by omega)
  have ZNN:ls.getD k dfSv=ls[k]:=YA oM
  cases q:(ls[k].name==s.name)
  ·simp (disch:=first|decide|omega) only[hA,sA,DD,sL,hgk,q,aa,go_sem]
   refine⟨k+1,⟨OK,fun j hj=>?_⟩,by simp only;omega,?_⟩
   ·rcases bp j k with YG|YG
    ·exact h02 j YG
    ·obtain rfl:j=k:=by omega
     rw[ZNN];exact q
   ·exact VA.kround (p:=iQ) (k:=0) kQ kA rfl RJ kS kV hR kL
  ·simp (disch:=first|decide|omega) only[hA,sA,DD,sL,hgk,q,aa,go_sem]
   exact ZA (xs:=[.v (.bool false)]) ⟨by rw[bad (by rw[M8,t1,ib,ew];exact⟨ls[k],ek.2 ⟨k,by rw[de,if_pos OK,ah oM]⟩,by rw[q];simp⟩)];rfl,rfl,rfl⟩
 ·obtain rfl:k=i:=by omega
  have xF:(ls.take k).all (fun x=>!(x.name==s.name))=true:=by
   rw[bn]
   intro x hx
   obtain⟨j,hj,rfl⟩:=cu hx
   have hj2:j<k:=by rw[bg]at hj;omega
   have:=h02 j hj2
   rw[YA oM]at this
   rw[List.getElem_take,this];rfl
  simp (disch:=first|decide|omega) only[hA,sA,DD,aa,go_sem]
  refine⟨k+1,⟨yA,fun j hj=>?_⟩,by simp only;omega,?_⟩
  ·rcases bp j k with YG|YG
   ·exact h0 j YG
   ·obtain rfl:j=k:=by omega
    rw[M8,t1,xF];rfl
  ·exact VA.kround (p:=dQ) (k:=0) kQ kA rfl qF kS kV hR kL
end Go.Proofs.YtmaokjojbjdpoaaGreatDoor
