/- Texts of one proof, laid together: NE, NF, NH, R3, NJ, NK, B1, WV, PB, WL, PF, WJ, WK, WY, B2, B3, B4. No condition. -/
import Derived.Test.YtmaokjojbjdpoaaGreatDoorWS4
import Derived.Test.YtmaokjojbjdpoaaGreatDoorWS3
import Derived.Test.YtmaokjojbjdpoaaGreatDoorWS2
import Derived.KernelRfl
import Derived.Test.YtmaokjojbjdpoaaGreatDoorProg
set_option linter.unusedSimpArgs false
set_option maxHeartbeats 8000000
set_option maxRecDepth 20000
namespace Go.Proofs.YtmaokjojbjdpoaaGreatDoor
set_option maxHeartbeats 16000000
set_option maxRecDepth 100000
set_option linter.unusedVariables false
set_option linter.unusedSimpArgs false
attribute [local go_sem ↓] kC JB xC iC yD mB wC kD uC nD TA pB yC SA nB vC AA bB pC VB MA dC lB fB qB eB jB XC sB wD rC gD xD lE tD fE eE RB AB
attribute [local go_sem] UB LA QE vB CA mE rD dD iD UL KL sD sC tC nC XD nA JC EA YC FA KB aop AE AD DD MC SD bC TD OJ QG WF amm UF eC TB dF ID GF comma OC ZG CJ AF EF yJ uF gF qE vJ eqC eqF eG cellsOf iB fC IB xF DI rd rdI IE mk mD AV.cell List.all_cons List.all_nil Bool.and_true Bool.true_and Bool.and_self List.length_cons List.length_nil List.length_append Nat.reduceAdd Nat.reduceSub Nat.reduceMul Nat.zero_add Nat.add_zero List.cons_append List.nil_append List.append_assoc List.append_nil List.getElem?_cons_zero List.getElem?_cons_succ List.getElem?_nil List.set_cons_zero List.set_cons_succ List.drop_zero List.drop_succ_cons List.take_zero List.take_succ_cons List.take_nil List.drop_nil List.map_cons List.map_nil Option.map_some if_true if_false Bool.false_eq_true and_self true_and and_true Nat.reduceLeDiff Nat.reduceLT Nat.le_refl Nat.reduceEqDiff ite_true ite_false beq_self_eq_true beq_true beq_false Bool.not_true Bool.not_false Bool.true_beq Bool.false_beq pE DB xB zD vD jC qC zC KC jD qD nE pA XL sK YL QL dG uG rG iG geI gtI sG decide_true decide_false room List.getElem?_map List.length_map List.length_take Int.toNat_natCast Nat.min_def Nat.min_self uD QD MD tB bD mF KA List.getElem_cons_zero List.getElem_cons_succ
def a_nSend:AFunc:=({c:=_}:CF Tryz.prog 156).c
theorem i8:qA Tryz.prog 156=some a_nSend:=by kernel_rfl
def sM:List (Nat×Nat):=[(7,9),(44,72)]
def P2:List (Nat×Nat):=[(96,113)]

theorem VA.namedAll {N:Nat} {f:Nat→AV} {b l:List Row} (ov:List (Nat×AV)) (h:mF f ov):VA (kOf N f) b l (kOf N (kOv ov (fun _=>.any))) b l:=by
 intro F L w a s he
 refine⟨F,L,s,⟨he.1,by rw[he.2.1,tI,tI],fun i x v hx hv=>?_⟩,Step.refl _ _ _ _ _,rfl⟩
 rw[XF]at hx
 split at hx
 ·rename_i hi
  cases hx
  rcases kOv_get (ov:=ov) (f:=fun _=>AV.any) (i:=i) with hg|hg
  ·rw[hg];exact .any v
  ·rw[←h.mem hg]
   exact he.2.2 i _ v (by rw[XF,if_pos hi]) hv
 ·cases hx
def hdF (n:Nw):Int×Int:=n.fates.headD (1,0)
def M4 (n:Nw):Nat:=if n.fates=[] then 0 else 1
def sdX (n:Nw) (m:Ms) (k:Nat):Nat→List (Ms×Nat)
 |0=>(EB n).xs
 |c+1=>(sdX n m k c).take k++[(m,n.l.length+c)]++(sdX n m k c).drop k
def sdT (n:Nw) (a:Int) (k:Nat):Nat→List Int
 |0=>n.tm
 |c+1=>(sdT n a k c).take k++[a]++(sdT n a k c).drop k
theorem ZAi {α:Type} {l:List α} {x:α} {k:Nat}:(l.take k++[x]++l.drop k).length=l.length+1:=by
 simp only[ap,bg,cr,ej,fq];omega
theorem DO {n:Nw} {m:Ms} {k:Nat}:∀c,(sdX n m k c).length=n.l.length+c
 |0=>xA
 |c+1=>by rw[sdX,ZAi,DO c];omega
theorem RO {n:Nw} {a:Int} {k:Nat}:∀c,(sdT n a k c).length=n.tm.length+c
 |0=>rfl
 |c+1=>by rw[sdT,ZAi,RO c];omega
theorem ZAh {α:Type} {l:List α} {x:α} {k c:Nat} (hk:k≤l.length):(l.take k++List.replicate c x++l.drop k).take k++[x]++(l.take k++List.replicate c x++l.drop k).drop k=l.take k++List.replicate (c+1) x++l.drop k:=by
 have hl:(l.take k).length=k:=by rw[bg];omega
 rw[bf (l.take k),List.take_append_of_le_length oM,List.drop_append_of_le_length oM,bn (l:=l.take k) oM,List.drop_of_length_le (l:=l.take k) oM,bq]
 simp
theorem ZAG {n:Nw} {m:Ms} {k:Nat} (hk:k≤n.l.length):∀c,(sdX n m k c).map (·.1)=n.l.take k++List.replicate c m++n.l.drop k
 |0=>by
   have:(EB n).xs.map (·.1)=n.l:=congrArg Nw.l (TP n)
   rw[sdX,this,bs,cu,iy]
 |c+1=>by
   rw[sdX,bj,bj,ge,fy,ZAG hk c]
   exact ZAh hk
theorem ZEy {n:Nw} {a:Int} {k:Nat} (hk:k≤n.tm.length):∀c,sdT n a k c=n.tm.take k++List.replicate c a++n.tm.drop k
 |0=>by simp[sdT]
 |c+1=>by rw[sdT,ZEy hk c,ZAh hk]
def sdB (n:Nw) (m:Ms) (j:Nat):List Int:=if j<n.l.length then (n.l.getD j dfMs).body else m.body
def I9 (n:Nw) (m:Ms) (c:Nat):Lv:=⟨n.now,n.fifo,1+c,1+c,M4 n,sdX n m (leN n.tm (yE n m)) c,sdT n (yE n m) (leN n.tm (yE n m)) c,n.fates,fl (n.l.length+c) (sdB n m)⟩
theorem dY {n:Nw} {m:Ms} {k:Nat}:∀c,∀x∈sdX n m k c,x.2<n.l.length+c∧sdB n m x.2=x.1.body
 |0,x,hx=>by
   obtain⟨i,hi,rfl⟩:=co.1 hx
   have hi:=ay.1 hi
   refine⟨hi,?_⟩
   unfold sdB;rw[if_pos hi]
 |c+1,x,hx=>by
   rw[sdX]at hx
   simp only[bu,ly]at hx
   have ih:=dY (n:=n) (m:=m) (k:=k) c
   rcases hx with (hx|rfl)|hx
   ·have:=ih x (ee hx);exact⟨by omega,this.2⟩
   ·refine⟨by simp only;omega,?_⟩
    unfold sdB;rw[if_neg (by simp only;omega)]
   ·have:=ih x (ey hx);exact⟨by omega,this.2⟩
theorem ZHH {n:Nw}:M4 n≤n.fates.length:=by
 unfold M4
 split
 ·exact aj _
 ·rename_i h
  cases hf:n.fates with
  |nil=>exact absurd hf h
  |cons x r=>simp
theorem ZAH {n:Nw} {m:Ms} {c:Nat}:(I9 n m c).ok:=by
 refine⟨ZHH,fun x hx=>?_⟩
 obtain⟨h1,h2⟩:=dY c x hx
 show (fl (n.l.length+c) (sdB n m))[x.2]? = _
 rw[FB h1,h2]
def xR (n:Nw) (m:Ms):Int:=if nwB n=true then (if msB m=true then sdE n m else 1) else 1
def H9 (n:Nw) (m:Ms):Option Lv:=if xR n m=0 then some (I9 n m (uR n).toNat) else none
def ZFv (n:Nw) (m:Ms):Nw:=if xR n m=0 then jT n m (yE n m) (uR n).toNat else nw0
theorem ZGc {n:Nw} {m:Ms}:∀y,H9 n m=some y→y.ok:=by
 intro y h
 unfold H9 at h
 split at h
 ·cases h;exact ZAH
 ·cases h
theorem ZBe {n:Nw}:n.fates.drop (M4 n)=n.fates.drop 1:=by
 unfold M4
 split
 ·rename_i h;rw[h];rfl
 ·rfl
theorem ZGd {n:Nw} {m:Ms}:ZCp (H9 n m)=ZFv n m:=by
 unfold H9 ZFv
 split
 ·rename_i h
  have hv:NwV n:=by
   unfold xR at h
   split at h
   ·rename_i h1;exact YG.1 h1
   ·cases h
  have hl:=hv.len
  have PJ:=UR (l:=n.tm) (a:=yE n m)
  unfold ZCp Lv.nw I9 jT
  simp only
  rw[ZAG oM,ZEy PJ,ZBe]
 ·rfl
theorem zM {n:Nw} {base:Nat}:(EB n).rows base=.live 1 4 ((EB n).xs.map (lvE base))::.live 1 1 (vs (n.tm.map eI))::.live 1 2 (vs (n.fates.map eFt))::fl n.l.length (clB n):=by
 have h:(n.l.map (·.body)).map bdR=fl n.l.length (clB n):=by
  apply ec
  intro j
  by_cases hj:j<n.l.length
  ·rw[FB hj,km,an,ah hj]
   unfold clB;rw[YA hj];rfl
  ·rw[VH oM,cg (by simp;omega)]
 unfold Lv.rows
 show _::_::_::(n.l.map (·.body)).map bdR=_
 rw[h];rfl
theorem ZE3 {n:Nw} {base i:Nat} (h:i<n.l.length):((EB n).xs.map (lvE base))[i]? = some [.v (.int .i64 n.l[i].fr),.v (.int .i64 n.l[i].to),.v (.int .i64 n.l[i].nu),.sl (base+(3+i)) 1 0 n.l[i].body.length]:=by
 have hx:(EB n).xs=fl n.l.length (fun i=>(n.l.getD i dfMs,i)):=rfl
 rw[hx,an,FB h,YA h];rfl
def sdN (n:Nw) (B:Nat) (vL vA kL kA:Nat):Row:=.live 0 5 [[.v (.int .i64 n.now),.v (.bool n.fifo),.sl (B+3) vL 0 kL,.sl (B+4) vA 0 kA,.sl (B+5) 1 (M4 n) (n.fates.length-M4 n)]]
def sdM (m:Ms):Row:=.live 0 4 [[.v (.int .i64 m.fr),.v (.int .i64 m.to),.v (.int .i64 m.nu),.v (.isl 1 (m.body.map eI))]]
def sdO:Row:=.live 0 5 [[.v (.int .i64 0),.v (.bool false),.v .zsl,.v .zsl,.v .zsl]]
def sdF (n:Nw):Row:=.live 0 2 [[.v (.int .i64 (hdF n).1),.v (.int .i64 (hdF n).2)]]
theorem VA.ktrim {N:Nat} {f:Nat→AV} {b l l1 junk:List Row} (ov:List (Nat×AV)) (h:mF f ov) (hl:l=l1++junk) (ho:bH (b.length+l1.length) ov) (hb:gA b.length b) (h1:gA (b.length+l1.length) l1) :
  VA (kOf N f) b l (kOf N (kOv ov (fun _=>.any))) b l1:=by
 have hE:KLt (b.length+l1.length) (fun _=>AV.any):=fun _=>.any
 exact (VA.namedAll ov h).trans (VA.trim hl ((hE.ov ho).env) (hb.mono oM) h1)
theorem ZFM {xs:List (Ms×Nat)} {c base M:Nat} (h:∀x∈xs,x.2<c) (hM:base+(3+c)≤M):∀row∈xs.map (lvE base),∀a∈row,AVlt M a:=by
 intro row hr a ha
 obtain⟨x,hx,rfl⟩:=co.1 hr
 have:=h x hx
 unfold lvE at ha
 simp only[cz,ic,or_false]at ha
 rcases ha with rfl|rfl|rfl|rfl
 ·exact .v _
 ·exact .v _
 ·exact .v _
 ·exact .sl _ _ _ _ oM
theorem eV {n:Nw} {m:Ms} {B vL vA kL kA M wL wA:Nat} {X:List (List AV)} {tv fv:List (List IV)} {T:List Row} (hM:B+6≤M) (hX:∀row∈X,∀c∈row,AVlt M c) (hT:gA M T) :
  gA M (sdN n B vL vA kL kA::sdM m::sdO::.live wL 4 X::.live wA 1 (vs tv)::.live 1 2 (vs fv)::T):=by
 unfold sdN sdM sdO
 refine DC.2 ⟨by simp (disch:=omega) only[lts.down,Nat.reduceLT,Nat.reduceAdd],DC.2 ⟨by simp (disch:=omega) only[lts.down,Nat.reduceLT,Nat.reduceAdd],DC.2 ⟨by simp (disch:=omega) only[lts.down,Nat.reduceLT,Nat.reduceAdd],DC.2 ⟨hX,DC.2 ⟨fJ.2 trivial,DC.2 ⟨fJ.2 trivial,hT⟩⟩⟩⟩⟩⟩
theorem gA.app {M:Nat} {a c:List Row} (h1:gA M a) (h2:gA M c):gA M (a++c):=by
 intro id ver sz els h
 by_cases hid:id<a.length
 ·rw[aw hid]at h;exact h1 id ver sz els h
 ·rw[aq oM]at h;exact h2 _ ver sz els h
theorem gA.flB {M k:Nat} {g:Nat→List Int}:gA M (fl k fun j=>bdR (g j)):=by
 intro id ver sz els h row hr c hc
 by_cases hid:id<k
 ·rw[FB hid]at h
  cases h
  obtain⟨r0,_,rfl⟩:=co.1 hr
  obtain⟨x0,_,rfl⟩:=co.1 hc
  exact .v _
 ·rw[VH oM]at h;cases h
theorem ZHa {n:Nw}:∀x∈(EB n).xs,x.2<n.l.length:=fun x hx=>(dY (n:=n) (m:=dfMs) (k:=0) 0 x hx).1
def wH (n:Nw) (m:Ms) (B c:Nat):List Row:=sdN n B (1+c) (1+c) (n.l.length+c) (n.tm.length+c)::sdM m::sdO::.live (1+c) 4 ((sdX n m (leN n.tm (yE n m)) c).map (lvE (B+3)))::.live (1+c) 1 (vs ((sdT n (yE n m) (leN n.tm (yE n m)) c).map eI))::.live 1 2 (vs (n.fates.map eFt))::fl (n.l.length+c) (fun j=>bdR (sdB n m j))
theorem IK {n:Nw} {m:Ms} {B c:Nat}:(wH n m B c).length=n.l.length+c+6:=by unfold wH;simp[xA]
theorem fV {n:Nw} {m:Ms} {B c:Nat}:gA (B+(wH n m B c).length) (wH n m B c):=by
 rw[IK]
 exact eV oM (ZFM (fun x hx=>(dY c x hx).1) oM) gA.flB
theorem zZ {n:Nw} {m:Ms} {B:Nat}:wH n m B 0=sdN n B 1 1 n.l.length n.tm.length::sdM m::sdO::.live 1 4 ((EB n).xs.map (lvE (B+3)))::.live 1 1 (vs (n.tm.map eI))::.live 1 2 (vs (n.fates.map eFt))::fl n.l.length (clB n):=by
 have h:fl (n.l.length+0) (fun j=>bdR (sdB n m j))=fl n.l.length (clB n):=by
  refine mM (fun i hi=>?_)
  unfold clB sdB
  rw[if_pos oM]
 unfold wH
 rw[h]
 rfl
theorem qZ {n:Nw} {m:Ms} {B c K:Nat} (hK:leN n.tm (yE n m)=K):wH n m B (c+1)=sdN n B (1+c+1) (1+c+1) (n.l.length+c+1) (n.tm.length+c+1)::sdM m::sdO ::
  .live (1+c+1) 4 (((sdX n m K c).map (lvE (B+3))).take K++[.v (.int .i64 m.fr),.v (.int .i64 m.to),.v (.int .i64 m.nu),.sl (B+(n.l.length+c+1+1+1+1+1+1)) 1 0 m.body.length]::((sdX n m K c).map (lvE (B+3))).drop K) ::
  .live (1+c+1) 1 (vs (((sdT n (yE n m) K c).map eI).take K++[[.int .i64 (yE n m)]])++vs (((sdT n (yE n m) K c).map eI).drop K))::.live 1 2 (vs (n.fates.map eFt))::(fl (n.l.length+c) (fun j=>bdR (sdB n m j))++[.live 1 1 (vs (m.body.map eI))]):=by
 have h1:fl (n.l.length+(c+1)) (fun j=>bdR (sdB n m j))=fl (n.l.length+c) (fun j=>bdR (sdB n m j))++[.live 1 1 (vs (m.body.map eI))]:=by
  unfold fl
  rw[←cw,fw,bj]
  simp only[bh,cd]
  have:sdB n m (n.l.length+c)=m.body:=if_neg oM
  rw[this];rfl
 have h2:(sdX n m K (c+1)).map (lvE (B+3))=((sdX n m K c).map (lvE (B+3))).take K++[.v (.int .i64 m.fr),.v (.int .i64 m.to),.v (.int .i64 m.nu),.sl (B+(n.l.length+c+1+1+1+1+1+1)) 1 0 m.body.length]::((sdX n m K c).map (lvE (B+3))).drop K:=by
  rw[sdX,bj,bj,ge,fy]
  have:lvE (B+3) (m,n.l.length+c)=[.v (.int .i64 m.fr),.v (.int .i64 m.to),.v (.int .i64 m.nu),.sl (B+(n.l.length+c+1+1+1+1+1+1)) 1 0 m.body.length]:=by
   unfold lvE
   rw[show B+3+(3+(m,n.l.length+c).2)=B+(n.l.length+c+1+1+1+1+1+1) by simp only;omega]
  simp only[bh,cd,this,bf,da,eh]
 have h3:vs ((sdT n (yE n m) K (c+1)).map eI)=vs (((sdT n (yE n m) K c).map eI).take K++[[.int .i64 (yE n m)]])++vs (((sdT n (yE n m) K c).map eI).drop K):=by
  rw[sdT,bj,bj,ge,fy,ZEt]
  rfl
 unfold wH
 rw[hK,h1,h2,h3]
 rfl
theorem ZBj (n:Nw) (m:Ms) (b l:List Row):QA Tryz.prog 156 [.agg ((eNw n).map .v),.agg (zMA m)] b l
  (fun r b' l'=>r=.tup [ZDT (b.length+l.length) (H9 n m),.v (.int .i64 (xR n m))]∧b'=b∧l'=l++fW (b.length+l.length) (H9 n m)):=by
 refine XA i8 rfl kE ?_
 intro B g hB hR hE hA;simp only[KA]at hA
 have hV:=gG n
 have hC:=YM n
 unfold eNw at hV hC
 simp only[bh,cd]at hV hC
 have bad:xR n m≠0→H9 n m=none:=fun h=>if_neg h
 simp (disch:=first|decide|omega) only[a_nSend,hA,eNw,go_sem]
 refine QA.nxt (hV _ _) ?_
 cases h1:nwB n
 ·have he:xR n m=1:=by unfold xR;rw[h1];rfl
  rw[bad (by rw[he];decide),he]
  simp (disch:=first|decide|omega) only[hA,cellsOf,go_sem]
  exact aA (.inr rfl) (xs:=[zNw,.v (.int .i64 1)]) (by simp (disch:=first|decide|omega) only[resVs,resV,hA,zNw,go_sem]) (by simp only[one,zNw,lts.down,Nat.reduceLT,Nat.reduceAdd]) hR hB ⟨rfl,rfl,by simp[fW]⟩
 simp (disch:=first|decide|omega) only[hA,go_sem]
 refine QA.nxt (YW m _ _) ?_
 cases h2:msB m
 ·have he:xR n m=1:=by unfold xR;rw[if_pos h1,h2];rfl
  rw[bad (by rw[he];decide),he]
  simp (disch:=first|decide|omega) only[hA,cellsOf,go_sem]
  exact aA (.inr rfl) (xs:=[zNw,.v (.int .i64 1)]) (by simp (disch:=first|decide|omega) only[resVs,resV,hA,zNw,go_sem]) (by simp only[one,zNw,lts.down,Nat.reduceLT,Nat.reduceAdd]) hR hB ⟨rfl,rfl,by simp[fW]⟩
 have hes:xR n m=sdE n m:=by unfold xR;rw[if_pos h1,if_pos h2]
 rw[hes]at bad⊢
 have hv:=YG.1 h1
 have ZII:=hv.now
 have RU:=hv.l
 have aB:=hv.len
 have F9:=hv.fl
 have hhd:=JN hv
 have hbl:=j3 h2
 simp (disch:=first|decide|omega) only[hA,go_sem]
 refine QA.nxt (hC hv.s _ _) ?_
 have hxl:(EB n).xs.length=n.l.length:=xA
 have hav:∀base,(EB n).av base=.agg [.v (.int .i64 n.now),.v (.bool n.fifo),.sl base 1 0 n.l.length,.sl (base+1) 1 0 n.tm.length,.sl (base+2) 1 0 n.fates.length]:=fun base=>by
  unfold Lv.av;rw[hxl];rfl
 have e1:B.length+3+1=B.length+4:=rfl
 have e2:B.length+3+2=B.length+5:=rfl
 have hrw:=zM (n:=n) (base:=B.length+3)
 have ha0:wE n m 0=n.now+(hdF n).2:=rfl
 have hdc:0≤(hdF n).1∧(hdF n).1≤3:=hhd.1
 have hda:0≤(hdF n).2∧(hdF n).2≤1000000:=hhd.2
 by_cases hf:n.fates=[]
 case' pos =>
  have d1:decide ((0:Int)<(n.fates.length:Int))=false:=by rw[hf];rfl
  have h1f:(hdF n).1=1:=by unfold hdF;rw[hf];rfl
  have h2f:(hdF n).2=0:=by unfold hdF;rw[hf];rfl
  have ho:M4 n=0:=if_pos hf
  have hff:Row.live 0 2 [[.v (.int .i64 1),.v (.int .i64 0)]]=sdF n:=by unfold sdF;rw[h1f,h2f]
  have hat:n.now+0=wE n m 0:=by rw[ha0,h2f]
  have hn0:Row.live 0 5 [[.v (.int .i64 n.now),.v (.bool n.fifo),.sl (B.length+3) 1 0 n.l.length,.sl (B.length+4) 1 0 n.tm.length,.sl (B.length+5) 1 0 n.fates.length]]=sdN n B.length 1 1 n.l.length n.tm.length:=by unfold sdN;rw[ho];rfl
  simp (disch:=first|decide|omega) only[hA,hav,hrw,e1,e2,xA,FC,TC,wB,rB,d1,cellsOf,go_sem]
 case' neg =>
  have yT:0<n.fates.length:=by
   cases hq:n.fates with
   |nil=>exact absurd hq hf
   |cons x r=>simp
  have d1:decide ((0:Int)<(n.fates.length:Int))=true:=ae oM
  have ho:M4 n=1:=if_neg hf
  have hg0:(n.fates.map eFt)[Int.toNat 0]? = some [.int .i64 (hdF n).1,.int .i64 (hdF n).2]:=by
   show (n.fates.map eFt)[0]? = _
   unfold hdF
   cases hq:n.fates with
   |nil=>exact absurd hq hf
   |cons x r=>rfl
  have hff:Row.live 0 2 [[.v (.int .i64 (hdF n).1),.v (.int .i64 (hdF n).2)]]=sdF n:=rfl
  have hn0:Row.live 0 5 [[.v (.int .i64 n.now),.v (.bool n.fifo),.sl (B.length+3) 1 0 n.l.length,.sl (B.length+4) 1 0 n.tm.length,.sl (B.length+5) 1 (Int.toNat 1) (n.fates.length-Int.toNat 1)]]=sdN n B.length 1 1 n.l.length n.tm.length:=by unfold sdN;rw[ho];rfl
  have hat:n.now+(hdF n).2=wE n m 0:=rfl
  simp (disch:=first|decide|omega) only[hA,hav,hrw,e1,e2,xA,FC,TC,wB,rB,d1,hg0,xB,cellsOf,go_sem]
 all_goals
  refine JA (ι:=Nat) sM (fun i=>[(7,.v (.int .i64 (wE n m i))),(44,.v (.int .i64 i))]) (n.l.length+7) (fun _=>sdN n B.length 1 1 n.l.length n.tm.length::sdM m::sdO::.live 1 4 ((EB n).xs.map (lvE (B.length+3)))::.live 1 1 (vs (n.tm.map eI))::.live 1 2 (vs (n.fates.map eFt))::(fl n.l.length (clB n)++[sdF n]))
   (fun i=>i≤n.l.length) (fun i=>n.l.length-i) 0 (aj _) kM (by ((try simp (disch:=decide) only[hA,hat,go_sem])<;>exact kH)) (fun e=>by rw[hn0,hff];exact VA.refl _ _ _) ?_
  intro g1 ZF bE iA i hi
  have WW:gA (B.length+(sdN n B.length 1 1 n.l.length n.tm.length::sdM m::sdO::.live 1 4 ((EB n).xs.map (lvE (B.length+3)))::.live 1 1 (vs (n.tm.map eI))::.live 1 2 (vs (n.fates.map eFt))::(fl n.l.length (clB n)++[sdF n])).length) (sdN n B.length 1 1 n.l.length n.tm.length::sdM m::sdO::.live 1 4 ((EB n).xs.map (lvE (B.length+3)))::.live 1 1 (vs (n.tm.map eI))::.live 1 2 (vs (n.fates.map eFt))::(fl n.l.length (clB n)++[sdF n])):=by
   refine eV kS (ZFM ZHa (by simp[xA];omega)) (gA.app gA.flB ?_)
   unfold sdF
   simp (disch:=omega) only[lts.down,Nat.reduceLT,Nat.reduceAdd]
  by_cases yA:i<n.l.length
  ·have hxg:=ZE3 (n:=n) (base:=B.length+3) yA
   have htg:=aC (l:=n.tm) (i:=i) oM
   have S4:=iL hv (m:=m) i oM
   cases S8:(n.fifo==true)
   case false =>
    have hfb:(n.fifo=true)=False:=by simpa using S8
    have DE:wE n m (i+1)=wE n m i:=by simp only[wE];rw[if_neg (fun h=>by rw[hfb]at h;exact h.1)]
    simp (disch:=first|decide|omega) only[hA,iA,hxg,htg,S8,hfb,xA,FC,TC,wB,rB,xB,sdN,sdM,sdO,sdF,cellsOf,go_sem]
    refine⟨i+1,yA,by simp only;omega,?_⟩
    exact VA.kround (p:=sM) (k:=n.l.length+7) (l1:=sdN n B.length 1 1 n.l.length n.tm.length::sdM m::sdO::.live 1 4 ((EB n).xs.map (lvE (B.length+3)))::.live 1 1 (vs (n.tm.map eI))::.live 1 2 (vs (n.fates.map eFt))::(fl n.l.length (clB n)++[sdF n])) (junk:=[_]) kQ (by ((try simp (disch:=decide) only[DE,hA,go_sem])<;>exact kH)) (by simp only[sdN,sdM,sdO,sdF,da,bf,eh];rfl) ZF (by simp[xA]) kV hR WW
   case true =>
    have hfb:(n.fifo=true)=True:=by simpa using S8
    by_cases z5:n.l[i].fr=m.fr
    case neg =>
     have d1:(n.l[i].fr==m.fr)=false:=dt.2 z5
     have DE:wE n m (i+1)=wE n m i:=by simp only[wE];rw[if_neg (fun h=>z5 (by have:=h.2.1;rwa [YA yA]at this))]
     simp (disch:=first|decide|omega) only[hA,iA,hxg,htg,S8,hfb,d1,xA,FC,TC,wB,rB,xB,sdN,sdM,sdO,sdF,cellsOf,go_sem]
     refine⟨i+1,yA,by simp only;omega,?_⟩
     exact VA.kround (p:=sM) (k:=n.l.length+7) (l1:=sdN n B.length 1 1 n.l.length n.tm.length::sdM m::sdO::.live 1 4 ((EB n).xs.map (lvE (B.length+3)))::.live 1 1 (vs (n.tm.map eI))::.live 1 2 (vs (n.fates.map eFt))::(fl n.l.length (clB n)++[sdF n])) (junk:=[_]) kQ (by ((try simp (disch:=decide) only[DE,hA,go_sem])<;>exact kH)) (by simp only[sdN,sdM,sdO,sdF,da,bf,eh];rfl) ZF (by simp[xA]) kV hR WW
    have d1:(n.l[i].fr==m.fr)=true:=by rw[z5];simp
    by_cases hto:n.l[i].to=m.to
    case neg =>
     have d2:(n.l[i].to==m.to)=false:=dt.2 hto
     have DE:wE n m (i+1)=wE n m i:=by simp only[wE];rw[if_neg (fun h=>hto (by have:=h.2.2;rwa [YA yA]at this))]
     simp (disch:=first|decide|omega) only[hA,iA,hxg,htg,S8,hfb,d1,d2,xA,FC,TC,wB,rB,xB,sdN,sdM,sdO,sdF,cellsOf,go_sem]
     refine⟨i+1,yA,by simp only;omega,?_⟩
     exact VA.kround (p:=sM) (k:=n.l.length+7) (l1:=sdN n B.length 1 1 n.l.length n.tm.length::sdM m::sdO::.live 1 4 ((EB n).xs.map (lvE (B.length+3)))::.live 1 1 (vs (n.tm.map eI))::.live 1 2 (vs (n.fates.map eFt))::(fl n.l.length (clB n)++[sdF n])) (junk:=[_]) kQ (by ((try simp (disch:=decide) only[DE,hA,go_sem])<;>exact kH)) (by simp only[sdN,sdM,sdO,sdF,da,bf,eh];rfl) ZF (by simp[xA]) kV hR WW
    have d2:(n.l[i].to==m.to)=true:=by rw[hto];simp
    have DE:(if wE n m i<n.tm.getD i 0 then n.tm.getD i 0 else wE n m i)=wE n m (i+1):=by
     simp only[wE]
     rw[if_pos (show n.fifo=true∧_ from⟨by rw[hfb];trivial,by rw[YA yA];exact z5,by rw[YA yA];exact hto⟩)]
     split<;>omega
    simp (disch:=first|decide|omega) only[hA,iA,hxg,htg,S8,hfb,d1,d2,xA,FC,TC,wB,rB,xB,sdN,sdM,sdO,sdF,cellsOf,go_sem]
    refine⟨i+1,yA,by simp only;omega,?_⟩
    exact VA.kround (p:=sM) (k:=n.l.length+7) (l1:=sdN n B.length 1 1 n.l.length n.tm.length::sdM m::sdO::.live 1 4 ((EB n).xs.map (lvE (B.length+3)))::.live 1 1 (vs (n.tm.map eI))::.live 1 2 (vs (n.fates.map eFt))::(fl n.l.length (clB n)++[sdF n])) (junk:=[_]) kQ (by ((try simp (disch:=decide) only[DE,hA,go_sem])<;>exact kH)) (by simp only[sdN,sdM,sdO,sdF,da,bf,eh];rfl) ZF (by simp[xA]) kV hR WW
  ·obtain rfl:i=n.l.length:=by omega
   have ZDX:wE n m n.l.length=yE n m:=rfl
   have S4:=iL hv (m:=m) n.l.length (ai _)
   rw[ZDX]at S4
   have d1:decide (1099512627776<yE n m)=false:=ag oM
   by_cases YQ:1000<(n.l.length:Int)+(hdF n).1
   ·have d2:=ae YQ
    have he:sdE n m=5:=by unfold sdE;rw[if_neg oM,if_pos (show (n.l.length:Int)+uR n>1000 from YQ)]
    rw[bad (by rw[he];decide),he]
    simp (disch:=first|decide|omega) only[hA,iA,ZDX,d1,d2,xA,FC,TC,wB,rB,xB,sdN,sdM,sdO,sdF,cellsOf,go_sem]
    exact aA (.inr rfl) (xs:=[zNw,.v (.int .i64 5)]) (by simp (disch:=first|decide|omega) only[resVs,resV,hA,iA,zNw,go_sem]) (by simp only[one,zNw,lts.down,Nat.reduceLT,Nat.reduceAdd]) hR hB ⟨rfl,rfl,by simp[fW]⟩
   have d2:=ag YQ
   have he:sdE n m=0:=by unfold sdE;rw[if_neg oM,if_neg (show ¬(n.l.length:Int)+uR n>1000 from YQ)]
   have hZ:H9 n m=some (I9 n m (uR n).toNat):=if_pos (by rw[hes,he])
   rw[hZ,he]
   simp (disch:=first|decide|omega) only[hA,iA,ZDX,d1,d2,xA,FC,TC,wB,rB,xB,sdN,sdM,sdO,sdF,cellsOf,go_sem]
   refine QA.nxt (ZCH n.tm oM hv.sorted (yE n m) (B.length+4) 1 _ _ (by rw[aq oM,cj];rfl)) ?_
   simp (disch:=first|decide|omega) only[hA,iA,ZDX,d1,d2,xA,FC,TC,wB,rB,xB,cellsOf,go_sem]
   have ZKQ:=UR (l:=n.tm) (a:=yE n m)
   obtain⟨C,hC1⟩:∃C:Nat,(hdF n).1=(C:Int):=⟨(hdF n).1.toNat,by omega⟩
   have hCc:(uR n).toNat=C:=by show (hdF n).1.toNat=C;omega
   rw[hC1]
   refine LL (f':=kOv [(2,.ptr B.length 0 0 0),(3,.ptr (B.length+1) 0 0 0),(4,.ptr (B.length+2) 0 0 0),(5,.v (.int .i64 0)),(7,.v (.int .i64 (yE n m))),(10,.v (.int .i64 (leN n.tm (yE n m)))),(95,.v (.int .i64 C)),(96,.v (.int .i64 0))] (fun _=>.any)) (l':=wH n m B.length 0)
    (ι:=Nat) P2 (fun c=>[(96,.v (.int .i64 c))]) 6 (fun c=>wH n m B.length c) (fun c=>c≤C) (fun c=>C-c) 0 (aj _)
    (VA.ktrim (junk:=[sdF n]) _ kA (by rw[zZ,hC1.symm];rfl) (by rw[IK];simp (disch:=omega) only[bH,lts.down,Nat.reduceLT,Nat.reduceAdd]) hR fV) (KLt.ov (fun _=>.any) kV) kA kF ?_
   intro g2 IJ ZO GD c hc
   by_cases hlc:c<C
   ·simp (disch:=first|decide|omega) only[hA,GD,xA,FC,TC,wB,rB,xB,wH,sdN,sdM,sdO,cellsOf,go_sem]
    refine QA.nxt (rP m oM _ _) ?_
    simp (disch:=first|decide|omega) only[hA,GD,xA,FC,TC,wB,rB,xB,bq,bs,go_sem]
    obtain⟨K,hK⟩:∃K,K=leN n.tm (yE n m):=⟨_,rfl⟩
    have hK2:leN n.tm (yE n m)=K:=hK.symm
    rw[←hK]at ZKQ⊢
    have hM:=fun b l hid hv=>ZEJ (B.length+3) (1+c) K (B.length+(n.l.length+c+1+1+1+1+1+1+1)) 0 ((sdX n m K c).map (lvE (B.length+3))) [.v (.int .i64 m.fr),.v (.int .i64 m.to),.v (.int .i64 m.nu),.sl (B.length+(n.l.length+c+1+1+1+1+1+1)) 1 0 m.body.length] b l hid hv oM (by rw[aa,DO];omega) (by rw[aa,DO];omega)
    simp only[aa,DO]at hM
    refine QA.nxt (hM _ _ (by rw[aq oM,cj];rfl) (by rw[aq oM,cj];simp only[fj];rw[TC];rfl)) ?_
    simp (disch:=first|decide|omega) only[hA,GD,xA,FC,TC,wB,rB,xB,bq,bs,go_sem]
    have hI:=fun b l hid hv=>ZEK (B.length+4) (1+c) K (B.length+(n.l.length+c+2+1+1+1+1+1+1)) 0 (vs ((sdT n (yE n m) K c).map eI)) [.v (.int .i64 (yE n m))] b l hid hv oM (by rw[DB,aa,RO];omega) (by rw[DB,aa,RO];omega)
    simp only[DB,aa,RO]at hI
    rw[hK2]
    refine QA.nxt (hI _ _ (by rw[aq oM,cj];rfl) (by rw[aq oM,cj];simp only[fj];rw[TC];rfl)) ?_
    simp (disch:=first|decide|omega) only[hA,GD,xA,FC,TC,wB,rB,xB,bq,bs,go_sem]
    subst hK
    refine⟨c+1,hlc,by simp only;omega,?_⟩
    show VA _ B _ (kOf 115 (kOv [(96,.v (.int .i64 ((c+1:Nat):Int)))] g2)) B (wH n m B.length (c+1))
    exact VA.kround (p:=P2) (k:=6) (l1:=wH n m B.length (c+1)) (junk:=[_,_]) kQ kA (by rw[qZ hK2];simp only[sdN,sdM,sdO,da,bf,eh];rfl) IJ (by rw[IK];omega) (by rw[IK];simp (disch:=omega) only[bH,lts.down,Nat.reduceLT,Nat.reduceAdd]) hR fV
   ·obtain rfl:c=C:=by omega
    simp (disch:=first|decide|omega) only[hA,GD,xA,FC,TC,wB,rB,xB,wH,sdN,sdM,sdO,cellsOf,go_sem]
    rw[hCc]
    have hzx:(I9 n m c).xs.length=n.l.length+c:=DO c
    have hzt:(I9 n m c).tm.length=n.tm.length+c:=RO c
    refine I3 (.inr rfl) (z:=I9 n m c) ZAH (s:=3) (c:=.int .i64 0) (junk:=[]) (by simp (disch:=first|decide|omega) only[resVs,resV,hA,GD,Lv.av,hzx,hzt,go_sem];rfl) ?_ hR hB ⟨by rw[hB,ap];rfl,rfl,by rw[hB,ap];rfl⟩
    rw[cu]
    unfold Lv.rows
    rw[show (I9 n m c).bd.map bdR=fl (n.l.length+c) (fun j=>bdR (sdB n m j)) from ZFS]
    rfl
theorem R6 (n:Nw) (m:Ms) (b l:List Row):QA Tryz.prog 156 [.agg ((eNw n).map .v),.agg (zMA m)] b l
  (fun r b' l'=>r=.tup [nwA (ZFv n m),.v (.int .i64 (xR n m))]∧b'=b∧l'=l):=by
 rw[←ZGd]
 exact QA.ownV ZGc (ZBj n m b l)
def a_nRecv:AFunc:=({c:=_}:CF Tryz.prog 157).c
theorem r8:qA Tryz.prog 157=some a_nRecv:=by kernel_rfl
def M2:List (Nat×Nat):=[(6,8),(24,56)]

def rcE (n:Nw) (to:Int):Int:=if nwB n=true then (if ptB to=true then (if fiR n to<0 then 7 else 0) else 2) else 1
def cJ (n:Nw) (k:Nat):Lv:=⟨n.now,n.fifo,2,2,0,(EB n).xs.take k++(EB n).xs.drop (k+1),n.tm.take k++n.tm.drop (k+1),n.fates,n.l.map (·.body)⟩
def rcZ (n:Nw) (to:Int):Option Lv:=if rcE n to=0 then some (cJ n (fiR n to).toNat) else none
def rcN (n:Nw) (to:Int):Nw:=if rcE n to=0 then woN n (fiR n to).toNat else nw0
def rcM (n:Nw) (to:Int):Ms:=if rcE n to=0 then n.l.getD (fiR n to).toNat dfMs else dfMs
def ZCn (n:Nw) (to:Int) (base:Nat):AV:=if rcE n to=0 then .agg [.v (.int .i64 (rcM n to).fr),.v (.int .i64 (rcM n to).to),.v (.int .i64 (rcM n to).nu),.sl (base+(3+n.l.length)) 1 0 (rcM n to).body.length] else .agg [.v (.int .i64 0),.v (.int .i64 0),.v (.int .i64 0),.v .zsl]
def rcR (n:Nw) (to:Int) (base:Nat):List Row:=if rcE n to=0 then (cJ n (fiR n to).toNat).rows base++[bdR (rcM n to).body] else []
theorem ZAI {n:Nw} {k:Nat}:(cJ n k).ok:=by
 refine⟨aj _,fun x hx=>?_⟩
 refine (SP n).bd x ?_
 rcases bu.1 hx with h|h
 ·exact ee h
 ·exact ey h
theorem ZGn {n:Nw} {k:Nat}:(cJ n k).nw=woN n k:=by
 have h:(EB n).xs.map (·.1)=n.l:=congrArg Nw.l (TP n)
 unfold Lv.nw cJ woN
 simp only[bj,ge,fy,h,gz]
theorem ZJW {n:Nw} {to:Int}:ZCp (rcZ n to)=rcN n to:=by
 unfold rcZ rcN
 split
 ·exact ZGn
 ·rfl
theorem ZBX {n:Nw} {k base:Nat}:(cJ n k).rows base=.live 2 4 (((EB n).xs.map (lvE base)).take k++((EB n).xs.map (lvE base)).drop (k+1))::.live 2 1 (vs ((n.tm.map eI).take k)++vs ((n.tm.map eI).drop (k+1)))::.live 1 2 (vs (n.fates.map eFt))::fl n.l.length (clB n):=by
 have h:=zM (n:=n) (base:=base)
 unfold Lv.rows at h⊢
 have h2:=(List.cons.inj (List.cons.inj (List.cons.inj h).2).2).2
 have h3:(cJ n k).bd.map bdR=fl n.l.length (clB n):=h2
 rw[h3]
 unfold cJ
 simp only[bj,ge,fy,ZEt]
theorem ZBk (n:Nw) (to:Int) (b l:List Row):QA Tryz.prog 157 [.agg ((eNw n).map .v),.v (.int .i64 to)] b l
  (fun r b' l'=>r=.tup [ZDT (b.length+l.length) (rcZ n to),ZCn n to (b.length+l.length),.v (.int .i64 (rcE n to))]∧b'=b∧l'=l++rcR n to (b.length+l.length)):=by
 refine XA r8 rfl kE ?_
 intro B g hB hR hE hA;simp only[KA]at hA
 have hV:=gG n
 have hC:=YM n
 unfold eNw at hV hC
 simp only[bh,cd]at hV hC
 have bad:rcE n to≠0→rcZ n to=none∧ZCn n to (b.length+l.length)=.agg [.v (.int .i64 0),.v (.int .i64 0),.v (.int .i64 0),.v .zsl]∧rcR n to (b.length+l.length)=[]:=fun h=>⟨if_neg h,if_neg h,if_neg h⟩
 simp (disch:=first|decide|omega) only[a_nRecv,hA,eNw,go_sem]
 refine QA.nxt (hV _ _) ?_
 cases h1:nwB n
 ·have he:rcE n to=1:=by unfold rcE;rw[h1];rfl
  obtain⟨b1,b2,b3⟩:=bad (by rw[he];decide)
  rw[b1,b2,b3,he]
  simp (disch:=first|decide|omega) only[hA,cellsOf,go_sem]
  exact aA (.inr rfl) (xs:=[zNw,.agg [.v (.int .i64 0),.v (.int .i64 0),.v (.int .i64 0),.v .zsl],.v (.int .i64 1)]) (by simp (disch:=first|decide|omega) only[resVs,resV,hA,zNw,go_sem]) (by simp only[one,zNw,lts.down,Nat.reduceLT,Nat.reduceAdd]) hR hB ⟨rfl,rfl,by simp⟩
 simp (disch:=first|decide|omega) only[hA,go_sem]
 refine QA.nxt (rJ to _ _) ?_
 cases h2:ptB to
 ·have he:rcE n to=2:=by unfold rcE;rw[if_pos h1,h2];rfl
  obtain⟨b1,b2,b3⟩:=bad (by rw[he];decide)
  rw[b1,b2,b3,he]
  simp (disch:=first|decide|omega) only[hA,cellsOf,go_sem]
  exact aA (.inr rfl) (xs:=[zNw,.agg [.v (.int .i64 0),.v (.int .i64 0),.v (.int .i64 0),.v .zsl],.v (.int .i64 2)]) (by simp (disch:=first|decide|omega) only[resVs,resV,hA,zNw,go_sem]) (by simp only[one,zNw,lts.down,Nat.reduceLT,Nat.reduceAdd]) hR hB ⟨rfl,rfl,by simp⟩
 have hv:=YG.1 h1
 have RU:=hv.l
 have aB:=hv.len
 simp (disch:=first|decide|omega) only[hA,go_sem]
 refine JA (ι:=Nat) M2 (fun i=>[(24,.v (.int .i64 i))]) 3 (fun _=>[.live 0 5 [(zNA n)],.live 0 5 [[.v (.int .i64 0),.v (.bool false),.v .zsl,.v .zsl,.v .zsl]],.live 0 4 [[.v (.int .i64 0),.v (.int .i64 0),.v (.int .i64 0),.v .zsl]]])
  (fun i=>i≤n.l.length∧∀j,j<i→arB n to j=false) (fun i=>n.l.length-i) 0 ⟨aj _,fun j hj=>by omega⟩ kM kA kF ?_
 rintro g1 ZF bE iA k ⟨hk,h0⟩
 by_cases yA:k<n.l.length
 ·simp (disch:=first|decide|omega) only[hA,iA,aa,go_sem]
  refine QA.nxt (JW n k yA oM to _ _) ?_
  cases q:arB n to k
  ·simp (disch:=first|decide|omega) only[hA,iA,go_sem]
   refine⟨k+1,⟨yA,fun j hj=>?_⟩,by simp only;omega,?_⟩
   ·rcases bp j k with fF|fF
    ·exact h0 j fF
    ·obtain rfl:j=k:=by omega
     exact q
   ·exact VA.kround (p:=M2) (k:=3) kQ kA rfl ZF kS kV hR kL
  have S8:fiR n to=k:=bX yA h0 q
  have he:rcE n to=0:=by unfold rcE;rw[if_pos h1,if_pos h2,S8,if_neg oM]
  have zP:(fiR n to).toNat=k:=by rw[S8];rfl
  have hZ:rcZ n to=some (cJ n k):=by unfold rcZ;rw[if_pos he,zP]
  have hM:rcM n to=n.l[k]:=by unfold rcM;rw[if_pos he,zP,YA yA]
  have hMA:ZCn n to (b.length+l.length)=.agg [.v (.int .i64 n.l[k].fr),.v (.int .i64 n.l[k].to),.v (.int .i64 n.l[k].nu),.sl (b.length+l.length+(3+n.l.length)) 1 0 n.l[k].body.length]:=by unfold ZCn;rw[if_pos he,hM]
  have hRR:rcR n to (b.length+l.length)=(cJ n k).rows (b.length+l.length)++[bdR n.l[k].body]:=by unfold rcR;rw[if_pos he,zP,hM]
  rw[hZ,hMA,hRR,he]
  have QZ:=lG yA
  simp (disch:=first|decide|omega) only[hA,iA,QZ,aa,go_sem]
  refine QA.nxt (rP n.l[k] (hv.s.body _ (ak yA)) _ _) ?_
  simp (disch:=first|decide|omega) only[hA,iA,cellsOf,go_sem]
  refine QA.nxt (hC hv.s _ _) ?_
  have hxl:(EB n).xs.length=n.l.length:=xA
  have hav:∀base,(EB n).av base=.agg [.v (.int .i64 n.now),.v (.bool n.fifo),.sl base 1 0 n.l.length,.sl (base+1) 1 0 n.tm.length,.sl (base+2) 1 0 n.fates.length]:=fun base=>by
   unfold Lv.av;rw[hxl];rfl
  have e1:B.length+5+1=B.length+6:=rfl
  have e2:B.length+5+2=B.length+7:=rfl
  have hrw:=zM (n:=n) (base:=B.length+5)
  simp (disch:=first|decide|omega) only[hA,iA,hav,hrw,e1,e2,cellsOf,go_sem]
  have hD:=fun b l hid=>ZEZ (B.length+5) 1 k ((EB n).xs.map (lvE (B.length+5))) b l hid (by rw[aa,hxl];exact yA)
  simp only[aa,hxl]at hD
  refine QA.nxt (hD _ _ (by rw[aq oM,cj];rfl)) ?_
  simp (disch:=first|decide|omega) only[hA,iA,cellsOf,go_sem]
  have hI:=fun b l hid=>ZE0 (B.length+6) 1 k (vs (n.tm.map eI)) b l hid (by rw[DB,aa];omega)
  simp only[aa,DB]at hI
  refine QA.nxt (hI _ _ (by rw[aq oM,cj];rfl)) ?_
  simp (disch:=first|decide|omega) only[hA,iA,cellsOf,go_sem]
  rw[←ZBX]
  obtain⟨σ,s1,s2⟩:∃σ:Nat→Nat,(∀j,j<n.l.length+3→σ j=j+5)∧σ (n.l.length+3)=3:=⟨fun j=>if j<n.l.length+3 then j+5 else 3,fun j h=>if_pos h,if_neg oM⟩
  have S4:(cJ n k).bd.length=n.l.length:=by unfold cJ;simp
  have WW:((cJ n k).rows B.length).length=n.l.length+3:=by unfold Lv.rows;simp[S4]
  have hzx:(cJ n k).xs.length=n.l.length-1:=by
   unfold cJ
   simp only[ap,bg,cr,hxl];omega
  have hzt:(cJ n k).tm.length=n.tm.length-1:=by
   unfold cJ
   simp only[ap,bg,cr];omega
  have hza:(cJ n k).av (B.length+5)=.agg [.v (.int .i64 n.now),.v (.bool n.fifo),.sl (B.length+5) 2 0 (n.l.length-1),.sl (B.length+6) 2 0 (n.tm.length-1),.sl (B.length+7) 1 0 n.fates.length]:=by
   unfold Lv.av
   rw[hzx,hzt]
   rfl
  refine nH (.inr rfl) (xs:=[(cJ n k).av (B.length+5),.agg [.v (.int .i64 n.l[k].fr),.v (.int .i64 n.l[k].to),.v (.int .i64 n.l[k].nu),.sl (B.length+3) 1 0 n.l[k].body.length],.v (.int .i64 0)]) (y:=.tup [(cJ n k).av B.length,.agg [.v (.int .i64 n.l[k].fr),.v (.int .i64 n.l[k].to),.v (.int .i64 n.l[k].nu),.sl (B.length+(3+n.l.length)) 1 0 n.l[k].body.length],.v (.int .i64 0)]) (l':=(cJ n k).rows B.length++[bdR n.l[k].body]) (by simp (disch:=first|decide|omega) only[resVs,resV,hA,iA,hza,go_sem]) (m:=n.l.length+4) (by rw[ap,WW];rfl) σ (fun a c ha hc h=>?_) (fun j r' h=>?_) ?_ hR hB ⟨by rw[hB,ap];rfl,rfl,by rw[hB,ap]⟩
  ·by_cases h1:a<n.l.length+3<;>by_cases h2:c<n.l.length+3
   ·rw[s1 a h1,s1 c h2]at h;omega
   ·rw[s1 a h1,show c=n.l.length+3 by omega,s2]at h;omega
   ·rw[s1 c h2,show a=n.l.length+3 by omega,s2]at h;omega
   ·omega
  ·by_cases hj:j<n.l.length+3
   ·rw[aw oM]at h
    have key:∀pre:List Row,pre.length=5→∃r,(pre++(cJ n k).rows (B.length+5))[σ j]? = some r∧RnR B.length (n.l.length+4) σ r r':=fun pre hp=>by
     have:=Lv.rnR (z:=cJ n k) ZAI (n:=B.length) (s:=5) (m:=n.l.length+4) oM (σ:=σ) (fun j hj=>s1 j oM) (pre:=pre) (junk:=[]) hp j r' h
     rwa [cu]at this
    exact key [_,_,_,_,_] rfl
   ·have hl:=(am.1 h).1
    rw[ap,WW]at hl
    have hl:j<n.l.length+3+1:=hl
    obtain rfl:j=n.l.length+3:=by omega
    rw[aq oM,WW,ea]at h
    cases h
    rw[s2]
    exact⟨_,rfl,RnR.plain⟩
  ·refine Rn.tupL (.cons (Lv.rnA oM (fun j hj=>s1 j oM)) (.cons (Rn.aggL (.cons (.v _) (.cons (.v _) (.cons (.v _) (.cons ?_ .nil))))) (.cons (.v _) .nil)))
   exact Rn.slE (by rw[gx 3];exact s2) oM
 ·obtain rfl:k=n.l.length:=by omega
  have S8:fiR n to=-1:=vP h0
  have he:rcE n to=7:=by unfold rcE;rw[if_pos h1,if_pos h2,S8];rfl
  obtain⟨b1,b2,b3⟩:=bad (by rw[he];decide)
  rw[b1,b2,b3,he]
  simp (disch:=first|decide|omega) only[hA,iA,cellsOf,go_sem]
  exact aA (.inr rfl) (xs:=[zNw,.agg [.v (.int .i64 0),.v (.int .i64 0),.v (.int .i64 0),.v .zsl],.v (.int .i64 7)]) (by simp (disch:=first|decide|omega) only[resVs,resV,hA,iA,zNw,go_sem]) (by simp only[one,zNw,lts.down,Nat.reduceLT,Nat.reduceAdd]) hR hB ⟨rfl,rfl,by simp⟩
theorem ZGm {n:Nw} {to:Int} {base:Nat}:Dv base (rcR n to base) (ZCn n to base) (.agg ((eMs (rcM n to)).map .v)):=by
 by_cases he:rcE n to=0
 ·unfold ZCn rcR
  rw[if_pos he,if_pos he]
  unfold eMs
  refine Dv.aggL (.cons (.v _) (.cons (.v _) (.cons (.v _) (.cons ?_ .nil))))
  refine Dv.slV (rows:=(rcM n to).body.map eI) ?_ kS
  have WW:((cJ n (fiR n to).toNat).rows base).length=3+n.l.length:=by unfold Lv.rows cJ;simp;omega
  rw[aq oM,WW,ea]
  rfl
 ·unfold ZCn rcM
  rw[if_neg he,if_neg he]
  exact Dv.aggL (.cons (.v _) (.cons (.v _) (.cons (.v _) (.cons (.z 1) .nil))))
theorem ZJX {n:Nw} {to:Int} {base:Nat}:Dv base (rcR n to base) (ZDT base (rcZ n to)) (nwA (rcN n to)):=by
 rw[←ZJW]
 by_cases he:rcE n to=0
 ·unfold rcZ rcR
  rw[if_pos he,if_pos he]
  exact (Lv.dv ZAI base).more _
 ·unfold rcZ
  rw[if_neg he]
  exact E8
theorem S6 (n:Nw) (to:Int) (b l:List Row):QA Tryz.prog 157 [.agg ((eNw n).map .v),.v (.int .i64 to)] b l
  (fun r b' l'=>r=.tup [nwA (rcN n to),.agg ((eMs (rcM n to)).map .v),.v (.int .i64 (rcE n to))]∧b'=b∧l'=l):=
 QA.deep (Dv.tupL (.cons ZJX (.cons ZGm (.cons (.v _) .nil)))) (ZBk n to b l)
def a_rin:AFunc:=({c:=_}:CF Tryz.prog 103).c
theorem ZEe:qA Tryz.prog 103=some a_rin:=by kernel_rfl
def a_rparty:AFunc:=({c:=_}:CF Tryz.prog 148).c
theorem AZ:qA Tryz.prog 148=some a_rparty:=by kernel_rfl
def a_rmsg:AFunc:=({c:=_}:CF Tryz.prog 105).c
theorem ZCS:qA Tryz.prog 105=some a_rmsg:=by kernel_rfl
def ZAP:List (Nat×Nat):=[(2,3),(33,46)]
def a_rfate:AFunc:=({c:=_}:CF Tryz.prog 147).c
theorem E7:qA Tryz.prog 147=some a_rfate:=by kernel_rfl
def a_rfates:AFunc:=({c:=_}:CF Tryz.prog 104).c
theorem OZ:qA Tryz.prog 104=some a_rfates:=by kernel_rfl
def GV:List (Nat×Nat):=[(2,15)]
def a_rnValid:AFunc:=({c:=_}:CF Tryz.prog 53).c
theorem uX:qA Tryz.prog 53=some a_rnValid:=by kernel_rfl
def mS:List (Nat×Nat):=[(2,4),(36,64)]
def a_rTime:AFunc:=({c:=_}:CF Tryz.prog 128).c
theorem C7:qA Tryz.prog 128=some a_rTime:=by kernel_rfl
def rM:List (Nat×Nat):=[(5,6),(24,64)]
def a_rFirst:AFunc:=({c:=_}:CF Tryz.prog 130).c
theorem X0:qA Tryz.prog 130=some a_rFirst:=by kernel_rfl
def NV:List (Nat×Nat):=[(4,31)]
def a_rWaiting:AFunc:=({c:=_}:CF Tryz.prog 61).c
theorem pU:qA Tryz.prog 61=some a_rWaiting:=by kernel_rfl
def xQ:List (Nat×Nat):=[(5,33)]

def inZ (x lo hi:Int):Bool:=decide (lo≤x∧x≤hi)
theorem ZBW (x lo hi:Int) (b l:List Row):QA Tryz.prog 103 [.v (.int .i64 x),.v (.int .i64 lo),.v (.int .i64 hi)] b l (fun r b' l'=>r=.v (.bool (inZ x lo hi))∧b'=b∧l'=l):=by
 refine XA ZEe rfl kE ?_
 intro B g hB hR hE hA;simp only[KA]at hA
 by_cases h1:lo≤x
 ·have d1:=ae h1
  by_cases h2:x≤hi
  ·have d2:=ae h2
   simp (disch:=first|decide|omega) only[a_rin,hA,d1,d2,go_sem]
   exact ZA (xs:=[.v (.bool true)]) ⟨by unfold inZ;rw[ae (show lo≤x∧x≤hi from⟨h1,h2⟩)];rfl,rfl,rfl⟩
  ·have d2:=ag h2
   simp (disch:=first|decide|omega) only[a_rin,hA,d1,d2,go_sem]
   exact ZA (xs:=[.v (.bool false)]) ⟨by unfold inZ;rw[ag (show ¬(lo≤x∧x≤hi) from fun h=>h2 h.2)];rfl,rfl,rfl⟩
 ·have d1:=ag h1
  simp (disch:=first|decide|omega) only[a_rin,hA,d1,go_sem]
  exact ZA (xs:=[.v (.bool false)]) ⟨by unfold inZ;rw[ag (show ¬(lo≤x∧x≤hi) from fun h=>h1 h.1)];rfl,rfl,rfl⟩
theorem PI (x lo hi:Int) (b l:List Row):QA Tryz.prog 103 [.v (.int .i64 x),.v (.int .i64 lo),.v (.int .i64 hi)] b l (fun r b' l'=>r=.v (.bool (decide (lo≤x∧x≤hi)))∧b'=b∧l'=l):=ZBW x lo hi b l
theorem wQ (p:Int) (b l:List Row):QA Tryz.prog 148 [.v (.int .i64 p)] b l (fun r b' l'=>r=.v (.bool (ptB p))∧b'=b∧l'=l):=by
 refine XA AZ rfl kE ?_
 intro B g hB hR hE hA;simp only[KA]at hA
 simp (disch:=first|decide|omega) only[a_rparty,hA,go_sem]
 refine QA.nxt (PI p 0 7 _ _) ?_
 simp (disch:=first|decide|omega) only[hA,go_sem]
 exact ZA (xs:=[.v (.bool (decide (0≤p∧p≤7)))])
theorem ZBV (m:Ms) (b l:List Row):QA Tryz.prog 105 [.agg (zMA m)] b l (fun r b' l'=>r=.v (.bool (msB m))∧b'=b∧l'=l):=by
 refine XA ZCS rfl kE ?_
 intro B g hB hR hE hA;simp only[KA]at hA
 simp (disch:=first|decide|omega) only[a_rmsg,hA,go_sem]
 refine QA.nxt (wQ m.fr _ _) ?_
 cases h1:ptB m.fr
 ·simp (disch:=first|decide|omega) only[hA,go_sem]
  exact ZA (xs:=[.v (.bool false)]) ⟨by unfold msB;rw[h1];rfl,rfl,rfl⟩
 simp (disch:=first|decide|omega) only[hA,go_sem]
 refine QA.nxt (wQ m.to _ _) ?_
 cases h2:ptB m.to
 ·simp (disch:=first|decide|omega) only[hA,go_sem]
  exact ZA (xs:=[.v (.bool false)]) ⟨by unfold msB;rw[h1,h2];rfl,rfl,rfl⟩
 by_cases h3:m.fr=m.to
 ·have d3:(m.fr==m.to)=true:=by rw[h3];simp
  simp (disch:=first|decide|omega) only[hA,d3,go_sem]
  exact ZA (xs:=[.v (.bool false)]) ⟨by unfold msB;rw[h1,h2,ag oM];rfl,rfl,rfl⟩
 have d3:(m.fr==m.to)=false:=dt.2 h3
 simp (disch:=first|decide|omega) only[hA,d3,go_sem]
 refine QA.nxt (PI m.nu 0 199 _ _) ?_
 by_cases h4:0≤m.nu∧m.nu≤199
 case neg =>
  rw[ag h4]
  simp (disch:=first|decide|omega) only[hA,go_sem]
  exact ZA (xs:=[.v (.bool false)]) ⟨by unfold msB;rw[h1,h2,ae h3,ag h4];rfl,rfl,rfl⟩
 rw[ae h4]
 by_cases h6:20<m.body.length
 ·have d6:decide ((20:Int)<(m.body.length:Int))=true:=ae oM
  simp (disch:=first|decide|omega) only[hA,d6,aa,go_sem]
  exact ZA (xs:=[.v (.bool false)]) ⟨by unfold msB;rw[h1,h2,ae h3,ae h4,ag (show ¬m.body.length≤20 by omega)];rfl,rfl,rfl⟩
 have d6:decide ((20:Int)<(m.body.length:Int))=false:=ag oM
 have hms:msB m=m.body.all vlB:=by unfold msB;rw[h1,h2,ae h3,ae h4,ae (show m.body.length≤20 by omega)];rfl
 simp (disch:=first|decide|omega) only[hA,d6,aa,go_sem]
 refine JA (ι:=Nat) ZAP (fun i=>[(3,.v (.int .i64 i))]) 1 (fun _=>[.live 0 4 [(zMA m)]])
  (fun i=>i≤m.body.length∧∀j (h:j<m.body.length),j<i→vlB m.body[j]=true) (fun i=>m.body.length-i) 0 ⟨aj _,fun j _ hj=>by omega⟩ kM kA kF ?_
 rintro g1 ZF bE iA i ⟨hi,h0⟩
 by_cases yA:i<m.body.length
 ·have hg:=aC yA
  rw[YA yA]at hg
  simp (disch:=first|decide|omega) only[hA,iA,hg,aa,go_sem]
  refine QA.nxt (PI m.body[i] (-1073741824) 1073741824 _ _) ?_
  cases q:decide (-1073741824≤m.body[i]∧m.body[i]≤1073741824)
  ·simp (disch:=first|decide|omega) only[hA,iA,go_sem]
   exact ZA (xs:=[.v (.bool false)]) ⟨by rw[hms,ep.2 ⟨m.body[i],ak yA,by unfold vlB;rw[q];simp⟩];rfl,rfl,rfl⟩
  ·simp (disch:=first|decide|omega) only[hA,iA,go_sem]
   refine⟨i+1,⟨yA,fun j hj fF=>?_⟩,by simp only;omega,?_⟩
   ·rcases bp j i with h|h
    ·exact h0 j hj h
    ·obtain rfl:j=i:=by omega
     exact q
   ·exact VA.kround (p:=ZAP) (k:=1) kQ kA rfl ZF kS kV hR kL
 ·obtain rfl:i=m.body.length:=by omega
  simp (disch:=first|decide|omega) only[hA,iA,aa,go_sem]
  exact ZA (xs:=[.v (.bool true)]) ⟨by rw[hms,bl.2 (fun x hx=>by obtain⟨j,hj,rfl⟩:=cq hx;exact h0 j hj hj)];rfl,rfl,rfl⟩
theorem Z6 (f:Int×Int) (b l:List Row):QA Tryz.prog 147 [.agg [.v (.int .i64 f.1),.v (.int .i64 f.2)]] b l (fun r b' l'=>r=.v (.bool (ftB f))∧b'=b∧l'=l):=by
 refine XA E7 rfl kE ?_
 intro B g hB hR hE hA;simp only[KA]at hA
 simp (disch:=first|decide|omega) only[a_rfate,hA,go_sem]
 refine QA.nxt (PI f.1 0 3 _ _) ?_
 cases q:decide (0≤f.1∧f.1≤3)
 ·simp (disch:=first|decide|omega) only[hA,go_sem]
  exact ZA (xs:=[.v (.bool false)]) ⟨by unfold ftB;rw[ag (fun h=>by rw[lz]at q;exact q h.1)];rfl,rfl,rfl⟩
 ·simp (disch:=first|decide|omega) only[hA,go_sem]
  refine QA.nxt (PI f.2 0 1000000 _ _) ?_
  simp (disch:=first|decide|omega) only[hA,go_sem]
  exact ZA (xs:=[.v (.bool (decide (0≤f.2∧f.2≤1000000)))]) ⟨by unfold ftB;rw[decide_eq_true_iff]at q;simp only[q,true_and,one],rfl,rfl⟩
theorem yZ (v:List (Int×Int)) (hn:v.length≤1000000) (b l:List Row):QA Tryz.prog 104 [.v (.isl 2 (v.map eFt))] b l (fun r b' l'=>r=.v (.bool (L4 v))∧b'=b∧l'=l):=by
 refine XA OZ rfl kE ?_
 intro B g hB hR hE hA;simp only[KA]at hA
 simp (disch:=first|decide|omega) only[a_rfates,hA,go_sem]
 refine JA (ι:=Nat) GV (fun i=>[(3,.v (.int .i64 i))]) 0 (fun _=>[])
  (fun i=>i≤v.length∧∀j (h:j<v.length),j<i→ftB v[j]=true) (fun i=>v.length-i) 0 ⟨aj _,fun j _ hj=>by omega⟩ kM kA kF ?_
 rintro g1 ZF bE iA i ⟨hi,h0⟩
 by_cases yA:i<v.length
 ·have hg:(v.map eFt)[i]? = some [.int .i64 v[i].1,.int .i64 v[i].2]:=by rw[an,ah yA];rfl
  simp (disch:=first|decide|omega) only[hA,iA,hg,aa,go_sem]
  refine QA.nxt (Z6 v[i] _ _) ?_
  cases q:ftB v[i]
  ·simp (disch:=first|decide|omega) only[hA,iA,go_sem]
   exact ZA (xs:=[.v (.bool false)]) ⟨by unfold L4;rw[ep.2 ⟨v[i],ak yA,by rw[q];simp⟩];rfl,rfl,rfl⟩
  ·simp (disch:=first|decide|omega) only[hA,iA,go_sem]
   refine⟨i+1,⟨yA,fun j hj fF=>?_⟩,by simp only;omega,?_⟩
   ·rcases bp j i with h|h
    ·exact h0 j hj h
    ·obtain rfl:j=i:=by omega
     exact q
   ·exact VA.kround (p:=GV) (k:=0) kQ kA rfl ZF kS kV hR kL
 ·obtain rfl:i=v.length:=by omega
  simp (disch:=first|decide|omega) only[hA,iA,aa,go_sem]
  exact ZA (xs:=[.v (.bool true)]) ⟨by unfold L4;rw[bl.2 (fun x hx=>by obtain⟨j,hj,rfl⟩:=cq hx;exact h0 j hj hj)];rfl,rfl,rfl⟩
def LU (n:Nw) (i:Nat):Int:=if i=0 then 0 else n.tm.getD (i-1) 0
theorem ZJ9 {n:Nw} {i:Nat} (hp:∀j,j<i→mtB n j=true):mtB n i=(msB (n.l.getD i dfMs)&&decide (LU n i≤n.tm.getD i 0∧n.tm.getD i 0≤1099512627776)):=by
 unfold mtB LU
 congr 1
 by_cases h:i=0
 ·subst h
  rw[if_pos rfl]
  rw[decide_eq_decide]
  omega
 ·rw[if_neg h]
  have h1:=hp (i-1) oM
  unfold mtB at h1
  simp only[ar,bc]at h1
  rw[decide_eq_decide]
  have:=h1.2.1
  constructor
  ·rintro⟨a1,a2,a3⟩;exact⟨a3 oM,a2⟩
  ·rintro⟨a1,a2⟩;exact⟨by omega,a2,fun _=>a1⟩
theorem ZX (n:Nw) (b l:List Row):QA Tryz.prog 53 [.agg ((eNw n).map .v)] b l (fun r b' l'=>r=.v (.bool (nwB n))∧b'=b∧l'=l):=by
 refine XA uX rfl kE ?_
 intro B g hB hR hE hA;simp only[KA]at hA
 have F:∀{p:Prop} [Decidable p],¬p→decide p=false:=fun h=>ag h
 simp (disch:=first|decide|omega) only[a_rnValid,hA,eNw,go_sem]
 refine QA.nxt (PI n.now 0 1099511627776 _ _) ?_
 cases e1:decide (0≤n.now∧n.now≤1099511627776)
 ·simp (disch:=first|decide|omega) only[hA,go_sem]
  exact ZA (xs:=[.v (.bool false)]) ⟨by unfold nwB;rw[e1];rfl,rfl,rfl⟩
 by_cases h3:n.l.length=n.tm.length
 case neg =>
  have d3:((n.l.length:Int) != (n.tm.length:Int))=true:=by simp;omega
  simp (disch:=first|decide|omega) only[hA,d3,aa,go_sem]
  exact ZA (xs:=[.v (.bool false)]) ⟨by unfold nwB;rw[e1,F h3];rfl,rfl,rfl⟩
 have d3:((n.l.length:Int) != (n.tm.length:Int))=false:=by simp;omega
 have e3:decide (n.l.length=n.tm.length)=true:=ae h3
 by_cases h4:1000<n.l.length
 ·have d4:decide ((1000:Int)<(n.l.length:Int))=true:=ae oM
  simp (disch:=first|decide|omega) only[hA,d3,d4,aa,go_sem]
  exact ZA (xs:=[.v (.bool false)]) ⟨by unfold nwB;rw[e1,e3,F (show ¬n.l.length≤1000 by omega)];rfl,rfl,rfl⟩
 have d4:decide ((1000:Int)<(n.l.length:Int))=false:=ag oM
 have e4:decide (n.l.length≤1000)=true:=ae oM
 by_cases h5:1000<n.fates.length
 ·have d5:decide ((1000:Int)<(n.fates.length:Int))=true:=ae oM
  simp (disch:=first|decide|omega) only[hA,d3,d4,d5,aa,go_sem]
  exact ZA (xs:=[.v (.bool false)]) ⟨by unfold nwB;rw[e1,e3,e4,F (show ¬n.fates.length≤1000 by omega)];rfl,rfl,rfl⟩
 have d5:decide ((1000:Int)<(n.fates.length:Int))=false:=ag oM
 have e5:decide (n.fates.length≤1000)=true:=ae oM
 simp (disch:=first|decide|omega) only[hA,d3,d4,d5,aa,go_sem]
 refine QA.nxt (yZ n.fates oM _ _) ?_
 cases h6:L4 n.fates
 ·simp (disch:=first|decide|omega) only[hA,go_sem]
  exact ZA (xs:=[.v (.bool false)]) ⟨by unfold nwB;rw[e1,e3,e4,e5,h6];rfl,rfl,rfl⟩
 have wF:=ZFL (n:=n) (by rw[e1,e3,e4,e5,h6];rfl)
 have l0:LU n 0=0:=rfl
 simp (disch:=first|decide|omega) only[hA,aa,go_sem]
 refine JA (ι:=Nat) mS (fun i=>[(3,.v (.int .i64 (LU n i))),(4,.v (.int .i64 i))]) 1 (fun _=>[.live 0 5 [(zNA n)]])
  (fun i=>i≤n.l.length∧∀j,j<i→mtB n j=true) (fun i=>n.l.length-i) 0 ⟨aj _,fun j hj=>by omega⟩ kM (by ((try simp (disch:=decide) only[hA,l0,go_sem])<;>exact kH)) kF ?_
 rintro g1 ZF bE iA i ⟨hi,h0⟩
 by_cases yA:i<n.l.length
 ·have hm:=lG yA
  have ht:=aC (show i<n.tm.length by omega)
  have hmt:=ZJ9 h0
  rw[YA yA]at hmt
  have ZDA:mtB n i=false→nwB n=false:=fun h=>by
   rw[wF,ep]
   exact⟨i,ay.2 yA,by rw[h];simp⟩
  simp (disch:=first|decide|omega) only[hA,iA,hm,aa,go_sem]
  refine QA.nxt (ZBV n.l[i] _ _) ?_
  cases q1:msB n.l[i]
  ·simp (disch:=first|decide|omega) only[hA,iA,go_sem]
   exact ZA (xs:=[.v (.bool false)]) ⟨by rw[ZDA (by rw[hmt,q1];rfl)];rfl,rfl,rfl⟩
  simp (disch:=first|decide|omega) only[hA,iA,ht,go_sem]
  refine QA.nxt (PI (n.tm.getD i 0) (LU n i) 1099512627776 _ _) ?_
  cases q2:decide (LU n i≤n.tm.getD i 0∧n.tm.getD i 0≤1099512627776)
  ·simp (disch:=first|decide|omega) only[hA,iA,go_sem]
   exact ZA (xs:=[.v (.bool false)]) ⟨by rw[ZDA (by rw[hmt,q1,q2];rfl)];rfl,rfl,rfl⟩
  have hla:LU n (i+1)=n.tm.getD i 0:=rfl
  simp (disch:=first|decide|omega) only[hA,iA,ht,go_sem]
  refine⟨i+1,⟨yA,fun j hj=>?_⟩,by simp only;omega,?_⟩
  ·rcases bp j i with fF|fF
   ·exact h0 j fF
   ·obtain rfl:j=i:=by omega
    rw[hmt,q1,q2];rfl
  ·exact VA.kround (p:=mS) (k:=1) kQ (by ((try simp (disch:=decide) only[hA,hla,go_sem])<;>exact kH)) rfl ZF kS kV hR kL
 ·obtain rfl:i=n.l.length:=by omega
  simp (disch:=first|decide|omega) only[hA,iA,aa,go_sem]
  exact ZA (xs:=[.v (.bool true)]) ⟨by rw[wF,bl.2 (fun j hj=>h0 j (ay.1 hj))];rfl,rfl,rfl⟩
theorem J6 (n:Nw) (hv:NwV n) (m:Ms) (b l:List Row):QA Tryz.prog 128 [.agg (zNA n),.agg (zMA m)] b l (fun r b' l'=>r=.v (.int .i64 (yE n m))∧b'=b∧l'=l):=by
 refine XA C7 rfl kE ?_
 intro B g hB hR hE hA;simp only[KA]at hA
 have ZII:=hv.now
 have RU:=hv.l
 have aB:=hv.len
 have hhd:=JN hv
 have hda:0≤(hdF n).2∧(hdF n).2≤1000000:=hhd.2
 have hat:n.now+(hdF n).2=wE n m 0:=rfl
 have hnf:(n.fifo=true)=False→∀i,wE n m i=wE n m 0:=by
  intro h i
  induction i with
  |zero=>rfl
  |succ i ih=>simp only[wE];rw[if_neg (fun q=>by rw[h]at q;exact q.1)];exact ih
 by_cases hf:n.fates=[]
 case' pos =>
  have d1:decide ((0:Int)<(n.fates.length:Int))=false:=by rw[hf];rfl
  have h2f:(hdF n).2=0:=by unfold hdF;rw[hf];rfl
  have ZKV:n.now=wE n m 0:=by rw[←hat,h2f];omega
  simp (disch:=first|decide|omega) only[a_rTime,hA,d1,aa,go_sem]
 case' neg =>
  have yT:0<n.fates.length:=by
   cases hq:n.fates with
   |nil=>exact absurd hq hf
   |cons x r=>simp
  have d1:decide ((0:Int)<(n.fates.length:Int))=true:=ae oM
  have hg0:(n.fates.map eFt)[Int.toNat 0]? = some [.int .i64 (hdF n).1,.int .i64 (hdF n).2]:=by
   show (n.fates.map eFt)[0]? = _
   unfold hdF
   cases hq:n.fates with
   |nil=>exact absurd hq hf
   |cons x r=>rfl
  have ZKV:n.now+(hdF n).2=wE n m 0:=rfl
  simp (disch:=first|decide|omega) only[a_rTime,hA,d1,hg0,aa,go_sem]
 all_goals
  cases S8:(n.fifo==true)
  case false =>
   have hfb:(n.fifo=true)=False:=by simpa using S8
   have hfn:(!n.fifo)=true:=by cases hq:n.fifo with
    |true=>rw[hq]at S8;cases S8
    |false=>rfl
   simp (disch:=first|decide|omega) only[hA,hfn,go_sem]
   exact aA (xs:=[.v (.int .i64 (yE n m))]) (.inr rfl) (by simp (disch:=first|decide|omega) only[resVs,resV,go_sem,hA,ZKV,show wE n m 0=yE n m from (hnf hfb _).symm]) kO hR hB ⟨rfl,rfl,rfl⟩
  have hfn:(!n.fifo)=false:=by cases hq:n.fifo with
   |true=>rfl
   |false=>rw[hq]at S8;cases S8
  have hfb:n.fifo=true:=by simpa using S8
  simp (disch:=first|decide|omega) only[hA,hfn,go_sem]
  refine JA (ι:=Nat) rM (fun i=>[(5,.v (.int .i64 (wE n m i))),(6,.v (.int .i64 i))]) 2 (fun _=>[.live 0 5 [(zNA n)],.live 0 4 [(zMA m)]])
   (fun i=>i≤n.l.length) (fun i=>n.l.length-i) 0 (aj _) kM (by ((try simp (disch:=decide) only[hA,ZKV,go_sem])<;>exact kH)) kF ?_
  intro g1 ZF bE iA i hi
  by_cases yA:i<n.l.length
  ·have hm:=lG yA
   have ht:=aC (show i<n.tm.length by omega)
   have S4:=iL hv (m:=m) i oM
   by_cases z5:n.l[i].fr=m.fr
   case neg =>
    have d1:(n.l[i].fr==m.fr)=false:=dt.2 z5
    have DE:wE n m (i+1)=wE n m i:=by simp only[wE];rw[if_neg (fun h=>z5 (by have:=h.2.1;rwa [YA yA]at this))]
    simp (disch:=first|decide|omega) only[hA,iA,hm,ht,d1,aa,go_sem]
    refine⟨i+1,yA,by simp only;omega,?_⟩
    exact VA.kround (p:=rM) (k:=2) kQ (by ((try simp (disch:=decide) only[hA,DE,go_sem])<;>exact kH)) rfl ZF kS kV hR kL
   have d1:(n.l[i].fr==m.fr)=true:=by rw[z5];simp
   by_cases hto:n.l[i].to=m.to
   case neg =>
    have d2:(n.l[i].to==m.to)=false:=dt.2 hto
    have DE:wE n m (i+1)=wE n m i:=by simp only[wE];rw[if_neg (fun h=>hto (by have:=h.2.2;rwa [YA yA]at this))]
    simp (disch:=first|decide|omega) only[hA,iA,hm,ht,d1,d2,aa,go_sem]
    refine⟨i+1,yA,by simp only;omega,?_⟩
    exact VA.kround (p:=rM) (k:=2) kQ (by ((try simp (disch:=decide) only[hA,DE,go_sem])<;>exact kH)) rfl ZF kS kV hR kL
   have d2:(n.l[i].to==m.to)=true:=by rw[hto];simp
   have ZDY:wE n m (i+1)=max (wE n m i) (n.tm.getD i 0):=by
    simp only[wE]
    rw[if_pos (show n.fifo=true∧_ from⟨hfb,by rw[YA yA];exact z5,by rw[YA yA];exact hto⟩)]
   by_cases hgt:wE n m i<n.tm.getD i 0
   ·have d3:=ae hgt
    have DE:wE n m (i+1)=n.tm.getD i 0:=by omega
    simp (disch:=first|decide|omega) only[hA,iA,hm,ht,d1,d2,d3,aa,go_sem]
    refine⟨i+1,yA,by simp only;omega,?_⟩
    exact VA.kround (p:=rM) (k:=2) kQ (by ((try simp (disch:=decide) only[hA,DE,go_sem])<;>exact kH)) rfl ZF kS kV hR kL
   ·have d3:=ag hgt
    have DE:wE n m (i+1)=wE n m i:=by omega
    simp (disch:=first|decide|omega) only[hA,iA,hm,ht,d1,d2,d3,aa,go_sem]
    refine⟨i+1,yA,by simp only;omega,?_⟩
    exact VA.kround (p:=rM) (k:=2) kQ (by ((try simp (disch:=decide) only[hA,DE,go_sem])<;>exact kH)) rfl ZF kS kV hR kL
  ·obtain rfl:i=n.l.length:=by omega
   simp (disch:=first|decide|omega) only[hA,iA,aa,go_sem]
   exact ZA (xs:=[.v (.int .i64 (wE n m n.l.length))])
theorem wZ (n:Nw) (to:Int) (hl:n.l.length≤1000000) (ht:n.l.length=n.tm.length) (b l:List Row):QA Tryz.prog 130 [.agg (zNA n),.v (.int .i64 to)] b l (fun r b' l'=>r=.v (.int .i64 (fiR n to))∧b'=b∧l'=l):=by
 refine XA X0 rfl kE ?_
 intro B g hB hR hE hA;simp only[KA]at hA
 simp (disch:=first|decide|omega) only[a_rFirst,hA,go_sem]
 refine JA (ι:=Nat) NV (fun i=>[(5,.v (.int .i64 i))]) 1 (fun _=>[.live 0 5 [(zNA n)]])
  (fun i=>i≤n.l.length∧∀j,j<i→arB n to j=false) (fun i=>n.l.length-i) 0 ⟨aj _,fun j hj=>by omega⟩ kM kA kF ?_
 rintro g1 ZF bE iA i ⟨hi,h0⟩
 by_cases yA:i<n.l.length
 ·have hm:=lG yA
  have htg:=aC (show i<n.tm.length by omega)
  have UJ:n.l.getD i dfMs=n.l[i]:=YA yA
  cases q1:(n.l[i].to==to)
  case' false =>
   have q:arB n to i=false:=by unfold arB;rw[UJ,ag (by simpa using q1)];rfl
   simp (disch:=first|decide|omega) only[hA,iA,hm,htg,q1,aa,go_sem]
  case' true =>
   cases q2:decide (n.tm.getD i 0≤n.now)
   case' false =>
    have q:arB n to i=false:=by unfold arB;rw[q2];simp
    simp (disch:=first|decide|omega) only[hA,iA,hm,htg,q1,q2,aa,go_sem]
   case' true =>
    have q:arB n to i=true:=by unfold arB;rw[q2,UJ,ae (by simpa using q1)];rfl
    simp (disch:=first|decide|omega) only[hA,iA,hm,htg,q1,q2,aa,go_sem]
    exact ZA (xs:=[.v (.int .i64 i)]) ⟨by rw[show fiR n to=i from bX yA h0 q];rfl,rfl,rfl⟩
  all_goals
   refine⟨i+1,⟨yA,fun j hj=>?_⟩,by simp only;omega,?_⟩
   ·rcases bp j i with fF|fF
    ·exact h0 j fF
    ·obtain rfl:j=i:=by omega
     exact q
   ·exact VA.kround (p:=NV) (k:=1) kQ kA rfl ZF kS kV hR kL
 ·obtain rfl:i=n.l.length:=by omega
  simp (disch:=first|decide|omega) only[hA,iA,aa,go_sem]
  exact ZA (xs:=[.v (.int .i64 (-1))]) ⟨by rw[show fiR n to=-1 from vP h0];rfl,rfl,rfl⟩
theorem gU (n:Nw) (to:Int) (hl:n.l.length≤1000000) (ht:n.l.length=n.tm.length) (b l:List Row):QA Tryz.prog 61 [.agg (zNA n),.v (.int .i64 to)] b l (fun r b' l'=>r=.v (.int .i64 (wtN n to n.l.length))∧b'=b∧l'=l):=by
 refine XA pU rfl kE ?_
 intro B g hB hR hE hA;simp only[KA]at hA
 have z0:wtN n to 0=0:=rfl
 simp (disch:=first|decide|omega) only[a_rWaiting,hA,go_sem]
 refine JA (ι:=Nat) xQ (fun i=>[(5,.v (.int .i64 (wtN n to i))),(6,.v (.int .i64 i))]) 1 (fun _=>[.live 0 5 [(zNA n)]])
  (fun i=>i≤n.l.length) (fun i=>n.l.length-i) 0 (aj _) kM (by ((try simp (disch:=decide) only[hA,z0,go_sem])<;>exact kH)) kF ?_
 rintro g1 ZF bE iA i hi
 by_cases yA:i<n.l.length
 ·have hm:=lG yA
  have htg:=aC (show i<n.tm.length by omega)
  have UJ:n.l.getD i dfMs=n.l[i]:=YA yA
  have hwl:=C8 (n:=n) (to:=to) i
  cases q1:(n.l[i].to==to)
  case' false =>
   have hs:wtN n to (i+1)=wtN n to i:=by simp only[wtN];rw[if_neg];unfold arB;rw[UJ,ag (by simpa using q1)];simp
   simp (disch:=first|decide|omega) only[hA,iA,hm,htg,q1,aa,go_sem]
  case' true =>
   cases q2:decide (n.tm.getD i 0≤n.now)
   case' false =>
    have hs:wtN n to (i+1)=wtN n to i:=by simp only[wtN];rw[if_neg];unfold arB;rw[q2];simp
    simp (disch:=first|decide|omega) only[hA,iA,hm,htg,q1,q2,aa,go_sem]
   case' true =>
    have hs:wtN n to (i+1)=wtN n to i+1:=by simp only[wtN];rw[if_pos];unfold arB;rw[q2,UJ,ae (by simpa using q1)];rfl
    simp (disch:=first|decide|omega) only[hA,iA,hm,htg,q1,q2,aa,go_sem]
  all_goals
   refine⟨i+1,yA,by simp only;omega,?_⟩
   exact VA.kround (p:=xQ) (k:=1) kQ (by ((try simp (disch:=decide) only[hA,hs,go_sem])<;>exact kH)) rfl ZF kS kV hR kL
 ·obtain rfl:i=n.l.length:=by omega
  simp (disch:=first|decide|omega) only[hA,iA,aa,go_sem]
  exact ZA (xs:=[.v (.int .i64 (wtN n to n.l.length))])
def a_sMs:AFunc:=({c:=_}:CF Tryz.prog 110).c
theorem ZEc:qA Tryz.prog 110=some a_sMs:=by kernel_rfl
def ZFH:List (Nat×Nat):=[(4,5),(34,51)]
abbrev oG:List AOper:=[⟨some 4,.mv (.c (.v (.bool false))),none⟩]
def a_sNw:AFunc:=⟨2,102,[.tmp 4],(.seq (.region [⟨some 2,.box (.t 0),none⟩,⟨some 3,.box (.t 1),none⟩,⟨some 4,.mv (.c (.v (.bool false))),none⟩]) (.seq (.seq (.region [oB 8 0 2,oC 9 8,oB 10 0 3,oC 11 10,oD 12 9 11,oA 13 12,oB 14 1 2 (some (13,false)),oC 15 14 (some (13,false)),oB 16 1 3 (some (13,false)),oC 17 16 (some (13,false)),⟨some 18,.binB .neq (.t 15) (.t 17),some (13,false)⟩,⟨some 19,.pick (.t 13) (.c (.v (.bool true))) (.t 18),none⟩,oA 20 19,oB 21 2 2 (some (20,false)),oC 22 21 (some (20,false)),oF 23 22 (some (20,false)),oB 24 2 3 (some (20,false)),oC 25 24 (some (20,false)),oF 26 25 (some (20,false)),oD 27 23 26 (some (20,false)),⟨some 28,.pick (.t 20) (.c (.v (.bool true))) (.t 27),none⟩,oA 29 28,oB 30 3 2 (some (29,false)),oC 31 30 (some (29,false)),oF 32 31 (some (29,false)),oB 33 3 3 (some (29,false)),oC 34 33 (some (29,false)),oF 35 34 (some (29,false)),oD 36 32 35 (some (29,false)),⟨some 37,.pick (.t 29) (.c (.v (.bool true))) (.t 36),none⟩,oA 38 37,oB 39 4 2 (some (38,false)),oC 40 39 (some (38,false)),oF 41 40 (some (38,false)),oB 42 4 3 (some (38,false)),oC 43 42 (some (38,false)),oF 44 43 (some (38,false)),oD 45 41 44 (some (38,false)),⟨some 46,.pick (.t 38) (.c (.v (.bool true))) (.t 45),none⟩]) (.cond (.t 46) (.seq (.region oG) .ret) .skip)) (.seq (.seq (.region [⟨some 5,.mv (.c (.v (.int .i64 0))),none⟩]) (.block 0 (.loop (.seq (.seq (.region [oA 47 5,oB 48 2 2,oC 49 48,oF 50 49,⟨some 51,.bin .lss (.t 47) (.t 50),none⟩]) (.cond (.t 51) .skip (.exit 0))) (.seq (.block 1 (.seq (.draw [⟨0,oB 54 2 2,[]⟩,⟨1,oC 55 54,[]⟩,⟨2,oA 56 5,[]⟩,⟨3,oE 57 4 55 56,[]⟩,⟨4,⟨some 58,.load (some 4) (.t 57),none⟩,[]⟩,⟨5,oB 59 2 3,[]⟩,⟨6,oC 60 59,[]⟩,⟨7,oA 61 5,[]⟩,⟨8,oE 62 4 60 61,[]⟩,⟨9,⟨some 63,.load (some 4) (.t 62),none⟩,[]⟩,⟨10,⟨some 64,.call (.c (.fn 110 [])) [(.t 58),(.t 63)],none⟩,[]⟩,⟨11,⟨some 65,.not (.t 64),none⟩,[]⟩]) (.cond (.t 65) (.seq (.region oG) .ret) .skip))) (.region [oA 52 5,⟨some 53,.bin .add (.t 52) (.c (.v (.int .i64 1))),none⟩,oA 5 53])))))) (.seq (.seq (.region [⟨some 6,.mv (.c (.v (.int .i64 0))),none⟩]) (.block 2 (.loop (.seq (.seq (.region [oA 66 6,oB 67 3 2,oC 68 67,oF 69 68,⟨some 70,.bin .lss (.t 66) (.t 69),none⟩]) (.cond (.t 70) .skip (.exit 2))) (.seq (.block 3 (.seq (.draw [⟨0,oB 73 3 2,[]⟩,⟨1,oC 74 73,[]⟩,⟨2,oA 75 6,[]⟩,⟨3,oE 76 1 74 75,[]⟩,⟨4,oC 77 76,[]⟩,⟨5,oB 78 3 3,[]⟩,⟨6,oC 79 78,[]⟩,⟨7,oA 80 6,[]⟩,⟨8,oE 81 1 79 80,[]⟩,⟨9,oC 82 81,[]⟩,⟨10,oD 83 77 82,[]⟩]) (.cond (.t 83) (.seq (.region oG) .ret) .skip))) (.region [oA 71 6,⟨some 72,.bin .add (.t 71) (.c (.v (.int .i64 1))),none⟩,oA 6 72])))))) (.seq (.seq (.region [⟨some 7,.mv (.c (.v (.int .i64 0))),none⟩]) (.block 4 (.loop (.seq (.seq (.region [oA 84 7,oB 85 4 2,oC 86 85,oF 87 86,⟨some 88,.bin .lss (.t 84) (.t 87),none⟩]) (.cond (.t 88) .skip (.exit 4))) (.seq (.block 5 (.seq (.draw [⟨0,oB 91 4 2,[]⟩,⟨1,oC 92 91,[]⟩,⟨2,oA 93 7,[]⟩,⟨3,oE 94 2 92 93,[]⟩,⟨4,⟨some 95,.load (some 2) (.t 94),none⟩,[]⟩,⟨5,oB 96 4 3,[]⟩,⟨6,oC 97 96,[]⟩,⟨7,oA 98 7,[]⟩,⟨8,oE 99 2 97 98,[]⟩,⟨9,⟨some 100,.load (some 2) (.t 99),none⟩,[]⟩,⟨10,⟨some 101,.eqs true [.i,.i] (.t 95) (.t 100),none⟩,[]⟩]) (.cond (.t 101) (.seq (.region oG) .ret) .skip))) (.region [oA 89 7,⟨some 90,.bin .add (.t 89) (.c (.v (.int .i64 1))),none⟩,oA 7 90])))))) (.seq (.region [⟨some 4,.mv (.c (.v (.bool true))),none⟩]) .ret))))))⟩
theorem ZEb:qA Tryz.prog 58=some a_sNw:=by kernel_rfl
def ZFG:List (Nat×Nat):=[(4,5),(47,65)]
def ZFF:List (Nat×Nat):=[(4,4),(6,6),(66,83)]
def ZFE:List (Nat×Nat):=[(4,4),(7,7),(84,101)]

theorem neI (n:Int):(n != n)=false:=by simp
theorem neB (n:Bool):(!(n==n))=false:=by simp
theorem eqIr (n:Int):(n==n)=true:=by simp
def msR (a:Ms):Row:=.live 0 4 [[.v (.int .i64 a.fr),.v (.int .i64 a.to),.v (.int .i64 a.nu),.v (.isl 1 (a.body.map eI))]]
def nwR (a:Nw):Row:=.live 0 5 [[.v (.int .i64 a.now),.v (.bool a.fifo),.v (.isl 4 (a.l.map eMs)),.v (.isl 1 (a.tm.map eI)),.v (.isl 2 (a.fates.map eFt))]]
theorem ZDe (a:Ms) (hn:a.body.length≤1000000) (b l:List Row):QA Tryz.prog 110 [.agg (zMA a),.agg (zMA a)] b l (fun r b' l'=>r=.v (.bool true)∧b'=b∧l'=l):=by
 refine XA ZEc rfl kE ?_
 intro B g hB hR hE hA;simp only[KA]at hA
 simp (disch:=first|decide|omega) only[a_sMs,hA,neI,aa,go_sem]
 refine JA (ι:=Nat) ZFH (fun i=>[(5,.v (.int .i64 i))]) 2 (fun _=>[msR a,msR a]) (fun i=>i≤a.body.length) (fun i=>a.body.length-i) 0 (aj _) kM kA kF ?_
 intro g1 ZF bE iA i hi
 unfold msR
 by_cases yA:i<a.body.length
 ·have ha:=aC yA
  simp (disch:=first|decide|omega) only[hA,iA,ha,neI,aa,go_sem]
  refine⟨i+1,yA,by simp only;omega,?_⟩
  exact VA.kround (p:=ZFH) (k:=2) kQ kA rfl ZF kS kV hR kL
 ·simp (disch:=first|decide|omega) only[hA,iA,aa,go_sem]
  exact ZA (xs:=[.v (.bool true)])
theorem ZJj {l:List (Int×Int)} {i:Nat} (h:i<l.length):(l.map eFt)[i]? = some [.int .i64 l[i].1,.int .i64 l[i].2]:=by
 rw[an,ah h];rfl
theorem ZDd (a:Nw) (hS:NwS a) (b l:List Row):QA Tryz.prog 58 [.agg ((eNw a).map .v),.agg ((eNw a).map .v)] b l (fun r b' l'=>r=.v (.bool true)∧b'=b∧l'=l):=by
 refine XA ZEb rfl kE ?_
 intro B g hB hR hE hA;simp only[KA]at hA
 have hal:=hS.l
 have hat:=hS.tm
 have haf:=hS.fates
 simp (disch:=first|decide|omega) only[a_sNw,hA,eNw,neI,neB,aa,go_sem]
 refine JA (ι:=Nat) ZFG (fun i=>[(5,.v (.int .i64 i))]) 2 (fun _=>[nwR a,nwR a]) (fun i=>i≤a.l.length) (fun i=>a.l.length-i) 0 (aj _) kM kA kF ?_
 intro g1 ZF bE iA i hi
 unfold nwR
 by_cases yA:i<a.l.length
 ·have ha:=lG yA
  simp (disch:=first|decide|omega) only[hA,iA,ha,aa,go_sem]
  refine QA.nxt (ZDe a.l[i] (hS.body _ (ak yA)) _ _) ?_
  simp (disch:=first|decide|omega) only[hA,iA,go_sem]
  refine⟨i+1,yA,by simp only;omega,?_⟩
  exact VA.kround (p:=ZFG) (k:=2) kQ kA rfl ZF kS kV hR kL
 simp (disch:=first|decide|omega) only[hA,iA,aa,go_sem]
 refine JA (ι:=Nat) ZFF (fun i=>[(6,.v (.int .i64 i))]) 2 (fun _=>[nwR a,nwR a]) (fun i=>i≤a.tm.length) (fun i=>a.tm.length-i) 0 (aj _) kM kA kF ?_
 intro g2 IJ ZO GD i hi
 unfold nwR
 by_cases yA:i<a.tm.length
 ·have ha:=aC yA
  simp (disch:=first|decide|omega) only[hA,iA,GD,ha,neI,aa,go_sem]
  refine⟨i+1,yA,by simp only;omega,?_⟩
  exact VA.kround (p:=ZFF) (k:=2) kQ kA rfl IJ kS kV hR kL
 simp (disch:=first|decide|omega) only[hA,iA,GD,aa,go_sem]
 refine JA (ι:=Nat) ZFE (fun i=>[(7,.v (.int .i64 i))]) 2 (fun _=>[nwR a,nwR a]) (fun i=>i≤a.fates.length) (fun i=>a.fates.length-i) 0 (aj _) kM kA kF ?_
 intro g3 GW rR AG i hi
 unfold nwR
 by_cases yA:i<a.fates.length
 ·have ha:=ZJj yA
  simp (disch:=first|decide|omega) only[hA,iA,GD,AG,ha,eqIr,aa,go_sem]
  refine⟨i+1,yA,by simp only;omega,?_⟩
  exact VA.kround (p:=ZFE) (k:=2) kQ kA rfl GW kS kV hR kL
 simp (disch:=first|decide|omega) only[hA,iA,GD,AG,aa,go_sem]
 exact ZA (xs:=[.v (.bool true)])
def a_rSend:AFunc:=({c:=_}:CF Tryz.prog 75).c
theorem A7:qA Tryz.prog 75=some a_rSend:=by kernel_rfl
def Y2:List (Nat×Nat):=[(9,9),(49,84)]
def Q2:List (Nat×Nat):=[(10,10),(85,101)]
def Z2:List (Nat×Nat):=[(9,9),(102,128)]

theorem gO {r:List (List IV)} {a c d f:IV}:vs r++[[.v a,.v c,.v d,.v f]]=vs (r++[[a,c,d,f]]):=by simp[vs]
def jM (n:Nw):Row:=.live 0 5 [[.v (.int .i64 n.now),.v (.bool n.fifo),.v (.isl 4 (n.l.map eMs)),.v (.isl 1 (n.tm.map eI)),.v (.isl 2 (n.fates.map eFt))]]
def XG (n:Nw) (m:Ms) (B v:Nat) (X:List Ms) (T:List Int):List Row:=[jM n,sdM m,sdO,.live 0 5 [[.v (.int .i64 n.now),.v (.bool n.fifo),.sl (B+5) v 0 X.length,.sl (B+6) v 0 T.length,.sl (B+4) 0 0 (n.fates.drop 1).length]],.live 0 2 (vs ((n.fates.drop 1).map eFt)),.live v 4 (vs (X.map eMs)),.live v 1 (vs (T.map eI))]
theorem kP {n:Nw} {m:Ms} {B v:Nat} {X:List Ms} {T:List Int}:gA (B+7) (XG n m B v X T):=by
 unfold XG jM sdM sdO
 simp (disch:=omega) only[lts.down,Nat.reduceLT,Nat.reduceAdd]
def D9 (n:Nw) (m:Ms) (B i:Nat):List Row:=XG n m B i (n.l.take i) (n.tm.take i)
def GY (n:Nw) (m:Ms) (B K c:Nat):List Row:=XG n m B (K+c) (n.l.take K++List.replicate c m) (n.tm.take K++List.replicate c (yE n m))
def ZCm (n:Nw) (m:Ms) (B K C i:Nat):List Row:=XG n m B (i+C) (n.l.take K++List.replicate C m++(n.l.drop K).take (i-K)) (n.tm.take K++List.replicate C (yE n m)++(n.tm.drop K).take (i-K))
theorem YU {n:Nw} {m:Ms} {B v:Nat} {X:List Ms} {T:List Int}:XG n m B v X T=[.live 0 5 [(zNA n)],.live 0 4 [(zMA m)],.live 0 5 [[.v (.int .i64 0),.v (.bool false),.v .zsl,.v .zsl,.v .zsl]],
  .live 0 5 [[.v (.int .i64 n.now),.v (.bool n.fifo),.sl (B+5) v 0 X.length,.sl (B+6) v 0 T.length,.sl (B+4) 0 0 (n.fates.drop 1).length]],.live 0 2 (vs ((n.fates.drop 1).map eFt)),.live v 4 (vs (X.map eMs)),.live v 1 (vs (T.map eI))]:=rfl
theorem O8 {n:Nw} {m x:Ms} {B v:Nat} {X:List Ms} {T:List Int} {t:Int}:XG n m B (v+1) (X++[x]) (T++[t])=[jM n,sdM m,sdO,.live 0 5 [[.v (.int .i64 n.now),.v (.bool n.fifo),.sl (B+5) (v+1) 0 (X.length+1),.sl (B+6) (v+1) 0 (T.length+1),.sl (B+4) 0 0 (n.fates.drop 1).length]],.live 0 2 (vs ((n.fates.drop 1).map eFt)),.live (v+1) 4 (vs (X.map eMs++[[.int .i64 x.fr,.int .i64 x.to,.int .i64 x.nu,.isl 1 (x.body.map eI)]])),.live (v+1) 1 (vs (T.map eI++[[.int .i64 t]]))]:=by
 unfold XG
 rw[ap,ap,bj,bj]
 rfl
theorem V6 (n:Nw) (hv:NwV n) (m:Ms) (hb:m.body.length≤1000000) (b l:List Row):QA Tryz.prog 75 [.agg ((eNw n).map .v),.agg (zMA m)] b l
  (fun r b' l'=>r=.tup [nwA (sdR n m),.v (.int .i64 (sdE n m))]∧b'=b∧l'=l):=by
 refine XA A7 rfl kE ?_
 intro B g hB hR hE hA;simp only[KA]at hA
 have ZII:=hv.now
 have RU:=hv.l
 have aB:=hv.len
 have F9:=hv.fl
 have hhd:=JN hv
 have hdc:0≤(hdF n).1∧(hdF n).1≤3:=hhd.1
 have S4:=iL hv (m:=m) n.l.length (ai _)
 have ZDX:wE n m n.l.length=yE n m:=rfl
 rw[ZDX]at S4
 have d1:decide (1099512627776<yE n m)=false:=ag oM
 have ZKQ:=UR (l:=n.tm) (a:=yE n m)
 obtain⟨C,hC1⟩:∃C:Nat,(hdF n).1=(C:Int):=⟨(hdF n).1.toNat,by omega⟩
 have hCc:(uR n).toNat=C:=by show (hdF n).1.toNat=C;omega
 have ZLs:uR n=(C:Int):=hC1
 simp (disch:=first|decide|omega) only[a_rSend,hA,eNw,go_sem]
 refine QA.nxt (J6 n hv m _ _) ?_
 have hg0:0<n.fates.length→(n.fates.map eFt)[Int.toNat 0]? = some [.int .i64 (C:Int),.int .i64 (hdF n).2]:=fun yT=>by
  show (n.fates.map eFt)[0]? = _
  rw[←hC1]
  unfold hdF
  cases hq:n.fates with
  |nil=>rw[hq]at yT;cases yT
  |cons x r=>rfl
 have hC0:n.fates.length=0→(C:Int)=1:=fun h=>by rw[←hC1];unfold hdF;rw[ct h];rfl
 by_cases YQ:1000<(n.l.length:Int)+(C:Int)
 ·have he:sdE n m=5:=by unfold sdE;rw[if_neg oM,if_pos (by rw[ZLs];exact YQ)]
  have hR5:sdR n m=nw0:=by unfold sdR;rw[if_neg (by rw[he];decide)]
  rw[he,hR5]
  have d3:=ae YQ
  by_cases hf:n.fates.length=0
  case' pos =>
   have d2:decide ((0:Int)<(n.fates.length:Int))=false:=by rw[hf];rfl
   rw[hC0 hf]at d3
   simp (disch:=first|decide|omega) only[hA,d1,d2,d3,cellsOf,go_sem]
  case' neg =>
   have d2:decide ((0:Int)<(n.fates.length:Int))=true:=ae oM
   have hg0:=hg0 oM
   simp (disch:=first|decide|omega) only[hA,d1,d2,d3,hg0,cellsOf,go_sem]
  all_goals
   exact GA (.inr rfl) (xs:=[zNw,.v (.int .i64 5)]) (by simp (disch:=first|decide|omega) only[resVs,resV,hA,zNw,go_sem]) (Dv.tupL (.cons E8 (.cons (.v _) .nil))) hR hB ⟨rfl,rfl,rfl⟩
 have d3:=ag YQ
 have he:sdE n m=0:=by unfold sdE;rw[if_neg oM,if_neg (by rw[ZLs];exact YQ)]
 rw[he]
 obtain⟨rz,hrz⟩:∃rz:List Row,rz=[jM n,sdM m,sdO,.live 0 5 [[.v (.int .i64 n.now),.v (.bool n.fifo),.v .zsl,.v .zsl,.v .zsl]]]:=⟨_,rfl⟩
 have hz0:n.fates.drop 1=[]→∀e,VA e B [jM n,sdM m,sdO,.live 0 5 [[.v (.int .i64 n.now),.v (.bool n.fifo),.v .zsl,.v .zsl,.v .zsl]]] e B (XG n m B.length 0 [] []):=fun h e=>by
  unfold XG
  rw[h]
  refine (VA.nilcell (i:=3) (k:=0) (j:=4) (sz:=2) rfl rfl rfl).trans ?_
  refine (VA.nilcell (i:=3) (k:=0) (j:=2) (sz:=4) rfl rfl rfl).trans ?_
  refine (VA.nilcell (i:=3) (k:=0) (j:=3) (sz:=1) rfl rfl rfl).trans ?_
  exact VA.refl _ _ _
 have hz1:∀e,VA e B [jM n,sdM m,sdO,.live 0 5 [[.v (.int .i64 n.now),.v (.bool n.fifo),.v .zsl,.v .zsl,.sl (B.length+4) 0 0 (n.fates.drop 1).length]],.live 0 2 (vs ((n.fates.drop 1).map eFt))] e B (XG n m B.length 0 [] []):=fun e=>by
  unfold XG
  refine (VA.nilcell (i:=3) (k:=0) (j:=2) (sz:=4) rfl rfl rfl).trans ?_
  refine (VA.nilcell (i:=3) (k:=0) (j:=3) (sz:=1) rfl rfl rfl).trans ?_
  exact VA.refl _ _ _
 unfold jM sdM sdO at hz0 hz1
 by_cases hf:n.fates.length=0
 case' pos =>
  have d2:decide ((0:Int)<(n.fates.length:Int))=false:=by rw[hf];rfl
  have hC2:=hC0 hf
  rw[hC2]at d3
  have hz:=hz0 (by rw[ct hf];rfl)
  simp (disch:=first|decide|omega) only[hA,d1,d2,d3,cellsOf,go_sem]
 case' neg =>
  have d2:decide ((0:Int)<(n.fates.length:Int))=true:=ae oM
  have hg0:=hg0 oM
  have hC2:(C:Int)=C:=rfl
  have qP:List.drop (Int.toNat 1) (List.take n.fates.length (n.fates.map eFt))=(n.fates.drop 1).map eFt:=by
   show List.drop 1 _=_
   rw[bn kS,fy]
  have ZNK:List.drop (Int.toNat 1) (n.fates.map eFt)=(n.fates.drop 1).map eFt:=by
   show List.drop 1 _=_
   rw[fy]
  by_cases hf1:n.fates.length=1
  case' pos =>
   have hdn:n.fates.drop 1=[]:=ki oM
   have hz:=hz0 hdn
   have ZNL:List.drop (Int.toNat 1) (List.take n.fates.length (n.fates.map eFt))=[]:=by rw[qP,hdn];rfl
   simp (disch:=first|decide|omega) only[hA,d1,d2,d3,hg0,ZNL,ZJE,cellsOf,go_sem]
  case' neg =>
   have hdl:(n.fates.drop 1).length=n.fates.length-1:=cr
   have zG:(vs ((n.fates.drop 1).map eFt)=[])=False:=by
    rw[eq_iff_iff,iff_false]
    intro h
    have:=congrArg List.length h
    rw[DB,aa,hdl]at this
    simp at this;omega
   have hz:=hz1
   simp (disch:=first|decide|omega) only[hA,d1,d2,d3,hg0,qP,ZNK,zG,cellsOf,go_sem]
 all_goals
  refine JA (ι:=Nat) ((7,7)::Y2) (fun i=>[(7,.v (.int .i64 C)),(9,.v (.int .i64 i))]) 7 (fun i=>D9 n m B.length i)
   (fun i=>i≤n.l.length∧∀j,j<i→n.tm.getD j 0≤yE n m) (fun i=>n.l.length-i) 0 ⟨aj _,fun j hj=>by omega⟩ kM kA (fun e=>hz e) ?_
  clear hz hz0 hz1
  rintro g1 ZF bE iA i ⟨hi,h0⟩
  have L9:(n.l.take i).length=i:=by rw[bg];omega
  have hTl:(n.tm.take i).length=i:=by rw[bg];omega
  obtain⟨X,hX⟩:∃X,X=n.l.take i:=⟨_,rfl⟩
  obtain⟨T,hT⟩:∃T,T=n.tm.take i:=⟨_,rfl⟩
  rw[←hX]at L9
  rw[←hT]at hTl
  have DE:D9 n m B.length i=_:=(show D9 n m B.length i=XG n m B.length i X T by rw[hX,hT];rfl).trans YU
  have ZDY:XG n m B.length i X T=D9 n m B.length i:=by rw[hX,hT];rfl
  have hXt:List.take X.length (X.map eMs)=X.map eMs:=bn kS
  have hTt:List.take T.length (T.map eI)=T.map eI:=bn kS
  by_cases hgo:i<n.l.length∧n.tm.getD i 0≤yE n m
  ·obtain⟨yA,PJ⟩:=hgo
   have QZ:=lG yA
   have htg:=aC (show i<n.tm.length by omega)
   have dl:=ae PJ
   have hx1:n.l.take (i+1)=n.l.take i++[n.l[i]]:=zF yA
   have ht1:n.tm.take (i+1)=n.tm.take i++[n.tm.getD i 0]:=by rw[zF oM,YA oM]
   simp (disch:=first|decide|omega) only[DE,hA,iA,QZ,htg,dl,hXt,hTt,gO,bq,bs,go_sem]
   refine⟨i+1,⟨yA,fun j hj=>?_⟩,by simp only;omega,?_⟩
   ·rcases bp j i with fF|fF
    ·exact h0 j fF
    ·obtain rfl:j=i:=by omega
     exact PJ
   ·show VA _ B _ (kOf 130 (kOv [(7,.v (.int .i64 C)),(9,.v (.int .i64 ((i+1:Nat):Int)))] g1)) B (D9 n m B.length (i+1))
    exact VA.kround (p:=(7,7)::Y2) (k:=7) (junk:=[_,_]) kQ kA (by unfold D9;rw[hx1,ht1,O8,←hX,←hT];rfl) ZF (ai _) kV hR kP
  ·have hK:leN n.tm (yE n m)=i:=ZFN oM h0 (fun h=>by
    by_cases hl:n.tm.getD i 0≤yE n m
    ·exact absurd ⟨by omega,hl⟩ hgo
    ·omega)
   have h11:GY n m B.length i 0=D9 n m B.length i:=by unfold GY D9;rw[bs,bs,cu,cu];rfl
   by_cases yA:i<n.l.length
   case' pos =>
    have htg:=aC (show i<n.tm.length by omega)
    have dl:decide (n.tm.getD i 0≤yE n m)=false:=ag (fun h=>hgo ⟨yA,h⟩)
    simp (disch:=first|decide|omega) only[DE,hA,iA,htg,dl,aa,go_sem]
   case' neg =>
    simp (disch:=first|decide|omega) only[DE,hA,iA,aa,go_sem]
   all_goals
    have hKt:i≤n.tm.length:=by omega
    refine JA (ι:=Nat) Q2 (fun c=>[(10,.v (.int .i64 c))]) 7 (fun c=>GY n m B.length i c)
     (fun c=>c≤C) (fun c=>C-c) 0 (aj _) kM kA (fun e=>by rw[h11,←ZDY,YU];exact VA.refl _ _ _) ?_
    clear hX hT DE ZDY hXt hTt
    rintro g2 IJ ZO GD c hc
    obtain⟨X,hX⟩:∃X,X=n.l.take i++List.replicate c m:=⟨_,rfl⟩
    obtain⟨T,hT⟩:∃T,T=n.tm.take i++List.replicate c (yE n m):=⟨_,rfl⟩
    have L9:X.length=i+c:=by rw[hX,ap,bg,hU];omega
    have hTl:T.length=i+c:=by rw[hT,ap,bg,hU];omega
    have DE:GY n m B.length i c=_:=(show GY n m B.length i c=XG n m B.length (i+c) X T by rw[hX,hT];rfl).trans YU
    have ZDY:XG n m B.length (i+c) X T=GY n m B.length i c:=by rw[hX,hT];rfl
    have hXt:List.take X.length (X.map eMs)=X.map eMs:=bn kS
    have hTt:List.take T.length (T.map eI)=T.map eI:=bn kS
    by_cases bM:c<C
    ·have dc:decide ((c:Int)<(C:Int))=true:=ae oM
     have dc1:(C:Int)=1→decide ((c:Int)<1)=true:=fun h=>by rw[h]at dc;exact dc
     have hx1:n.l.take i++List.replicate (c+1) m=X++[m]:=by rw[hX,List.replicate_succ',bf]
     have ht1:n.tm.take i++List.replicate (c+1) (yE n m)=T++[yE n m]:=by rw[hT,List.replicate_succ',bf]
     simp (disch:=first|decide|omega) only[DE,hA,iA,GD,dc,hXt,hTt,gO,bq,bs,go_sem]
     refine⟨c+1,bM,by simp only;omega,?_⟩
     show VA _ B _ (kOf 130 (kOv [(10,.v (.int .i64 ((c+1:Nat):Int)))] g2)) B (GY n m B.length i (c+1))
     exact VA.kround (p:=Q2) (k:=7) (junk:=[_,_]) kQ (by ((try simp (disch:=decide) only[hA,GD,go_sem])<;>exact kH)) (by unfold GY;rw[hx1,ht1,←cw,O8];rfl) IJ (ai _) kV hR kP
    ·obtain rfl:c=C:=by omega
     have dc:decide ((c:Int)<(c:Int))=false:=by simp
     simp (disch:=first|decide|omega) only[DE,hA,iA,GD,dc,aa,go_sem]
     have h22:ZCm n m B.length i c i=GY n m B.length i c:=by unfold ZCm GY;rw[ea,ko,ko,cu,cu]
     refine JA (ι:=Nat) Z2 (fun j=>[(9,.v (.int .i64 j))]) 7 (fun j=>ZCm n m B.length i c j)
      (fun j=>i≤j∧j≤n.l.length) (fun j=>n.l.length-j) i ⟨ai _,by omega⟩ kM kA (fun e=>by rw[h22,←ZDY,YU];exact VA.refl _ _ _) ?_
     clear hX hT DE ZDY hXt hTt L9 hTl
     rintro g3 GW rR AG j ⟨j5,hj⟩
     obtain⟨X,hX⟩:∃X,X=n.l.take i++List.replicate c m++(n.l.drop i).take (j-i):=⟨_,rfl⟩
     obtain⟨T,hT⟩:∃T,T=n.tm.take i++List.replicate c (yE n m)++(n.tm.drop i).take (j-i):=⟨_,rfl⟩
     have L9:X.length=j+c:=by rw[hX,ap,ap,bg,hU,bg,cr];omega
     have hTl:T.length=j+c:=by rw[hT,ap,ap,bg,hU,bg,cr];omega
     have DE:ZCm n m B.length i c j=_:=(show ZCm n m B.length i c j=XG n m B.length (j+c) X T by rw[hX,hT];rfl).trans YU
     have hXt:List.take X.length (X.map eMs)=X.map eMs:=bn kS
     have hTt:List.take T.length (T.map eI)=T.map eI:=bn kS
     by_cases yG:j<n.l.length
     ·first
      |exact absurd (show i<n.l.length by omega) yA
      | (have QZ := lG yG
         have htg:=aC (show j<n.tm.length by omega)
         have hx1:n.l.take i++List.replicate c m++(n.l.drop i).take (j+1-i)=X++[n.l[j]]:=by
          rw[hX,show j+1-i=(j-i)+1 by omega,zF (l:=n.l.drop i) (by rw[cr];omega),kc,bf _ _ [n.l[j]]]
          congr 3
          congr 1
          omega
         have ht1:n.tm.take i++List.replicate c (yE n m)++(n.tm.drop i).take (j+1-i)=T++[n.tm.getD j 0]:=by
          rw[hT,show j+1-i=(j-i)+1 by omega,zF (l:=n.tm.drop i) (by rw[cr];omega),kc,bf _ _ [n.tm.getD j 0],YA oM]
          congr 3
          congr 1
          omega
         simp (disch:=first|decide|omega) only[DE,hA,iA,GD,AG,QZ,htg,hXt,hTt,gO,bq,bs,go_sem]
         refine⟨j+1,⟨by omega,yG⟩,by simp only;omega,?_⟩
         show VA _ B _ (kOf 130 (kOv [(9,.v (.int .i64 ((j+1:Nat):Int)))] g3)) B (ZCm n m B.length i c (j+1))
         exact VA.kround (p:=Z2) (k:=7) (junk:=[_,_]) kQ (by ((try simp (disch:=decide) only[hA,AG,go_sem])<;>exact kH)) (by unfold ZCm;rw[hx1,ht1,show j+1+c=j+c+1 by omega,O8];rfl) GW (ai _) kV hR kP)
     ·obtain rfl:j=n.l.length:=by omega
      have hXe:X=n.l.take i++List.replicate c m++n.l.drop i:=by rw[hX,bn (l:=n.l.drop i) (by rw[cr];exact ai _)]
      have hTe:T=n.tm.take i++List.replicate c (yE n m)++n.tm.drop i:=by rw[hT,bn (l:=n.tm.drop i) (by rw[cr];omega)]
      have aG:sdR n m=⟨n.now,n.fifo,X,T,n.fates.drop 1⟩:=by
       unfold sdR jT
       rw[if_pos he,hCc,hK,hXe,hTe]
      rw[aG]
      simp (disch:=first|decide|omega) only[DE,hA,iA,GD,AG,cellsOf,go_sem]
      refine GA (.inr rfl) (xs:=[.agg [.v (.int .i64 n.now),.v (.bool n.fifo),.sl (B.length+5) (n.l.length+c) 0 X.length,.sl (B.length+6) (n.l.length+c) 0 T.length,.sl (B.length+4) 0 0 (n.fates.drop 1).length],.v (.int .i64 0)]) kR (Dv.tupL (.cons (Dv.aggL (.cons (.v _) (.cons (.v _) (.cons (Dv.slV (i:=5) rfl kS) (.cons (Dv.slV (i:=6) rfl kS) (.cons (Dv.slV (i:=4) rfl kS) .nil)))))) (.cons (.v _) .nil))) hR hB ⟨rfl,rfl,rfl⟩
def a_rWO:AFunc:=({c:=_}:CF Tryz.prog 131).c
theorem ZEf:qA Tryz.prog 131=some a_rWO:=by kernel_rfl
def Y9:List (Nat×Nat):=[(6,6),(16,45)]

def ZK (n:Nw) (B v:Nat) (X:List Ms) (T:List Int):List Row:=[jM n,sdO,.live 1 2 (vs (n.fates.map eFt)),.live 0 5 [[.v (.int .i64 n.now),.v (.bool n.fifo),.sl (B+4) v 0 X.length,.sl (B+5) v 0 T.length,.sl (B+2) 1 0 n.fates.length]],.live v 4 (vs (X.map eMs)),.live v 1 (vs (T.map eI))]
theorem tV {n:Nw} {B v:Nat} {X:List Ms} {T:List Int}:gA (B+6) (ZK n B v X T):=by
 unfold ZK jM sdO
 simp (disch:=omega) only[lts.down,Nat.reduceLT,Nat.reduceAdd]
def RL {α:Type} (l:List α) (k i:Nat):List α:=if i≤k then l.take i else l.take k++(l.drop (k+1)).take (i-k-1)
def woL (n:Nw) (B k i:Nat):List Row:=ZK n B (RL n.l k i).length (RL n.l k i) (RL n.tm k i)
theorem ZJC {n:Nw} {B v:Nat} {X:List Ms} {T:List Int}:ZK n B v X T=[.live 0 5 [(zNA n)],.live 0 5 [[.v (.int .i64 0),.v (.bool false),.v .zsl,.v .zsl,.v .zsl]],.live 1 2 (vs (n.fates.map eFt)),
  .live 0 5 [[.v (.int .i64 n.now),.v (.bool n.fifo),.sl (B+4) v 0 X.length,.sl (B+5) v 0 T.length,.sl (B+2) 1 0 n.fates.length]],.live v 4 (vs (X.map eMs)),.live v 1 (vs (T.map eI))]:=rfl
theorem ZJD {n:Nw} {x:Ms} {B v:Nat} {X:List Ms} {T:List Int} {t:Int}:ZK n B (v+1) (X++[x]) (T++[t])=[jM n,sdO,.live 1 2 (vs (n.fates.map eFt)),.live 0 5 [[.v (.int .i64 n.now),.v (.bool n.fifo),.sl (B+4) (v+1) 0 (X.length+1),.sl (B+5) (v+1) 0 (T.length+1),.sl (B+2) 1 0 n.fates.length]],.live (v+1) 4 (vs (X.map eMs++[[.int .i64 x.fr,.int .i64 x.to,.int .i64 x.nu,.isl 1 (x.body.map eI)]])),.live (v+1) 1 (vs (T.map eI++[[.int .i64 t]]))]:=by
 unfold ZK
 rw[ap,ap,bj,bj]
 rfl
theorem ZW {α:Type} {l:List α} {k i:Nat} (hi:i<l.length) (hk:i≠k):RL l k (i+1)=RL l k i++[l[i]]:=by
 unfold RL
 by_cases h:i<k
 ·rw[if_pos oM,if_pos oM,zF hi]
 ·rw[if_neg oM,if_neg oM,show i+1-k-1=(i-k-1)+1 by omega,zF (l:=l.drop (k+1)) (by rw[cr];omega),kc,bf]
  congr 3
  congr 1
  omega
theorem OV {α:Type} {l:List α} {k:Nat}:RL l k (k+1)=RL l k k:=by
 unfold RL
 rw[if_neg oM,if_pos (ai _),show k+1-k-1=0 by omega,ko,cu]
theorem ZDn {α β:Type} {l:List α} {r:List β} {k i:Nat} (h:l.length=r.length):(RL l k i).length=(RL r k i).length:=by
 unfold RL
 split
 ·rw[bg,bg,h]
 ·simp only[ap,bg,cr,h]
theorem ZGp {α:Type} {l:List α} {k i:Nat} (h:i≤l.length):(RL l k i).length≤i:=by
 unfold RL
 split
 ·rw[bg];omega
 ·simp only[ap,bg,cr];omega
theorem Q3 {α:Type} {l:List α} {k i:Nat} (hk:k<l.length) (hi:l.length≤i):RL l k i=l.take k++l.drop (k+1):=by
 unfold RL
 rw[if_neg oM,bn (l:=l.drop (k+1)) (by rw[cr];omega)]
theorem wU (n:Nw) (hv:NwV n) (k:Nat) (hk:k<n.l.length) (b l:List Row):QA Tryz.prog 131 [.agg ((eNw n).map .v),.v (.int .i64 k)] b l (fun r b' l'=>r=nwA (woN n k)∧b'=b∧l'=l):=by
 refine XA ZEf rfl kE ?_
 intro B g hB hR hE hA;simp only[KA]at hA
 have RU:=hv.l
 have aB:=hv.len
 have F9:=hv.fl
 have hz1:∀e,VA e B [jM n,sdO,.live 1 2 (vs (n.fates.map eFt)),.live 0 5 [[.v (.int .i64 n.now),.v (.bool n.fifo),.v .zsl,.v .zsl,.sl (B.length+2) 1 0 n.fates.length]]] e B (ZK n B.length 0 [] []):=fun e=>by
  unfold ZK
  refine (VA.nilcell (i:=3) (k:=0) (j:=2) (sz:=4) rfl rfl rfl).trans ?_
  refine (VA.nilcell (i:=3) (k:=0) (j:=3) (sz:=1) rfl rfl rfl).trans ?_
  exact VA.refl _ _ _
 unfold jM sdO at hz1
 have P9:woL n B.length k 0=ZK n B.length 0 [] []:=by
  unfold woL RL
  rw[if_pos (aj _)];rfl
 simp (disch:=first|decide|omega) only[a_rWO,hA,eNw,ZCA,cellsOf,go_sem]
 refine JA (ι:=Nat) Y9 (fun i=>[(6,.v (.int .i64 i))]) 6 (fun i=>woL n B.length k i)
  (fun i=>i≤n.l.length) (fun i=>n.l.length-i) 0 (aj _) kM kA (fun e=>by rw[P9];exact hz1 e) ?_
 clear hz1 P9
 rintro g1 ZF bE iA i hi
 obtain⟨X,hX⟩:∃X,X=RL n.l k i:=⟨_,rfl⟩
 obtain⟨T,hT⟩:∃T,T=RL n.tm k i:=⟨_,rfl⟩
 have hTX:T.length=X.length:=by rw[hX,hT,ZDn aB]
 have hXb:X.length≤i:=by rw[hX];exact ZGp hi
 have DE:woL n B.length k i=_:=(show woL n B.length k i=ZK n B.length X.length X T by rw[hX,hT];rfl).trans ZJC
 have hXt:List.take X.length (X.map eMs)=X.map eMs:=bn kS
 have hTt:List.take T.length (T.map eI)=T.map eI:=bn kS
 by_cases yA:i<n.l.length
 ·by_cases I8:i=k
  ·have d1:((i:Int) != (k:Int))=false:=by rw[I8];simp
   have OH:RL n.l k (i+1)=X:=by rw[hX,I8];exact OV
   have WO:RL n.tm k (i+1)=T:=by rw[hT,I8];exact OV
   simp (disch:=first|decide|omega) only[DE,hA,iA,d1,aa,go_sem]
   refine⟨i+1,yA,by simp only;omega,?_⟩
   show VA _ B _ (kOf 47 (kOv [(6,.v (.int .i64 ((i+1:Nat):Int)))] g1)) B (woL n B.length k (i+1))
   exact VA.kround (p:=Y9) (k:=6) (junk:=[]) kQ kA (by unfold woL;rw[OH,WO,cu];rfl) ZF (ai _) kV hR tV
  ·have d1:((i:Int) != (k:Int))=true:=bne_iff_ne.2 oM
   have QZ:=lG yA
   have htg:=aC (show i<n.tm.length by omega)
   have hx1:=ZW (l:=n.l) yA I8
   have ht1:=ZW (l:=n.tm) oM I8
   rw[←YA (d:=0)]at ht1
   simp (disch:=first|decide|omega) only[DE,hA,iA,d1,QZ,htg,hXt,hTt,gO,bq,bs,go_sem]
   refine⟨i+1,yA,by simp only;omega,?_⟩
   show VA _ B _ (kOf 47 (kOv [(6,.v (.int .i64 ((i+1:Nat):Int)))] g1)) B (woL n B.length k (i+1))
   exact VA.kround (p:=Y9) (k:=6) (junk:=[_,_]) kQ kA (by unfold woL;rw[hx1,ht1,ap,←hX,←hT];exact congrArg (· ++ _) ZJD.symm) ZF (ai _) kV hR tV
 ·obtain rfl:i=n.l.length:=by omega
  have aG:woN n k=⟨n.now,n.fifo,X,T,n.fates⟩:=by
   unfold woN
   rw[hX,hT,Q3 hk (ai _),Q3 oM oM]
  rw[aG]
  simp (disch:=first|decide|omega) only[DE,hA,iA,cellsOf,go_sem]
  refine GA (.inr rfl) (xs:=[.agg [.v (.int .i64 n.now),.v (.bool n.fifo),.sl (B.length+4) X.length 0 X.length,.sl (B.length+5) X.length 0 T.length,.sl (B.length+2) 1 0 n.fates.length]]) kR (Dv.aggL (.cons (.v _) (.cons (.v _) (.cons (Dv.slV (i:=4) rfl kS) (.cons (Dv.slV (i:=5) rfl kS) (.cons (Dv.slV (i:=2) rfl kS) .nil)))))) hR hB ⟨rfl,rfl,rfl⟩
structure In where
 op:Int
 a:Int
 b:Int
structure Sv where
 name:ByteArray
 code:List In
 pc:Int
 vars:List Int
 off:Int
 rate:Int
structure Wd where
 sv:List Sv
 net:Nw
 now:Int
 sent:Int
 tr:Tr
def eIn (x:In):List IV:=[.int .i64 x.op,.int .i64 x.a,.int .i64 x.b]
def eSv (s:Sv):List IV:=[.str s.name,.isl 3 (s.code.map eIn),.int .i64 s.pc,.isl 1 (s.vars.map eI),.int .i64 s.off,.int .i64 s.rate]
def eWd (w:Wd):List IV:=[.isl 6 (w.sv.map eSv),.int .i64 w.net.now,.bool w.net.fifo,.isl 4 (w.net.l.map eMs),.isl 1 (w.net.tm.map eI),.isl 2 (w.net.fates.map eFt),.int .i64 w.now,.int .i64 w.sent,.isl 3 (w.tr.map ePr)]
def mN:In:=⟨0,0,0⟩
def dfSv:Sv:=⟨⟨#[]⟩,[],0,[],0,0⟩
def wd0:Wd:=⟨[],nw0,0,0,[]⟩
def XE (k c p n:Int) (x:In):Bool:=
 if x.op=1∨x.op=2 then inZ x.a 0 (k-1)&&vlB x.b
 else if x.op=3 then inZ x.a 0 (k-1)&&(inZ x.b 0 (n-1)&&decide (x.b≠p))
 else if x.op=4 then inZ x.a 0 (k-1)
 else if x.op=5 then inZ x.a 0 (k-1)&&inZ x.b 0 (c-1)
 else if x.op=6 then inZ x.a 0 (c-1)&&inZ x.b 0 (k-1)
 else decide (x.op=7∨x.op=8)
def XJ (s:Sv):Bool:=inZ s.off 0 1000000&&inZ s.rate 500 2000
def eH (s:Sv) (now:Int):Bool:=XJ s&&inZ now 0 1000000000
def CH (s:Sv) (now:Int):Int:=if eH s now=true then s.off+now*s.rate / 1000 else 0
def sv1 (s:Sv) (p n:Int):Bool:=lD s.name&&(inZ s.code.length 1 100&&(decide (s.vars.length≤8)&&(inZ s.pc 0 s.code.length&&(XJ s&&(s.vars.all vlB&&s.code.all (XE s.vars.length s.code.length p n))))))
def svB (l:List Sv) (p:Nat):Bool:=sv1 (l.getD p dfSv) p l.length&&(l.take p).all fun x=>!(x.name==(l.getD p dfSv).name)
def SF (l:List Sv):Bool:=inZ l.length 1 8&&(List.range l.length).all (svB l)
structure SvS (s:Sv):Prop where
 name:s.name.size≤1000000
 code:s.code.length≤1000000
 vars:s.vars.length≤1000000
structure SvsS (l:List Sv):Prop where
 len:l.length≤1000000
 all:∀s∈l,SvS s
theorem UG {l:List Sv} {i:Nat} (h:i<l.length):(l.map eSv)[i]? = some [.str l[i].name,.isl 3 (l[i].code.map eIn),.int .i64 l[i].pc,.isl 1 (l[i].vars.map eI),.int .i64 l[i].off,.int .i64 l[i].rate]:=by
 rw[an,ah h];rfl
theorem pI {l:List In} {i:Nat} (h:i<l.length):(l.map eIn)[i]? = some [.int .i64 l[i].op,.int .i64 l[i].a,.int .i64 l[i].b]:=by
 rw[an,ah h];rfl
theorem P5 (s:ByteArray):aD [⟨s,[],[]⟩]=lD s:=by
 have h1:EC [⟨s,[],[]⟩] 0=if lD s=true then 0 else 13:=by
  unfold EC
  cases h:lD s<;>simp[h,dB]
 have h2:ids [⟨s,[],[]⟩]=[]:=by simp[ids,tN,sA]
 unfold aD SE
 rw[h2,if_neg kS]
 cases h:lD s
 ·rw[h]at h1
  simp[h1]
 ·rw[h]at h1
  simp[h1]

def idA (x:Nat×Nat):AV:=.agg [.v (.int .i64 x.1),.v (.int .i64 x.2)]
theorem FX (w:World) (F:Nat→Prop) (L:LMap) (x:Nat×Nat):RepA w F L (idA x) (RA x):=by
 refine DA.agg (vs:=#[.int .i64 x.1,.int .i64 x.2]) ?_
 exact DA.cons (.v _ _ (.int _ _)) (DA.cons (.v _ _ (.int _ _)) DA.nil)
theorem YE {w:World} {F:Nat→Prop} {L:LMap} {x:AV} {xs:List AV} {vs:List Value} (h:DA w F L (x::xs) vs):∃v us,vs=v::us∧RepA w F L x v∧DA w F L xs us:=by
 obtain⟨h1,h2⟩:=h
 cases vs with
 |nil=>simp at h1
 |cons v us=>exact⟨v,us,rfl,h2 0 x v rfl rfl,by simpa using h1,fun i a u ha hu=>h2 (i+1) a u ha hu⟩
theorem jG {w:World} {F:Nat→Prop} {L:LMap} {vs:List Value} (h:DA w F L [] vs):vs=[]:=by
 have:=h.1
 exact ct (by simpa using this.symm)
theorem SO {w:World} {F:Nat→Prop} {L:LMap} {t:Tr} {xs:List AV} {vs:Array Value} (hn:Nm t) (h:DA w F L (.agg [.v (eT t)]::xs) vs.toList):∃u us,vs=(.agg #[u]::us).toArray∧SlR 3 RPr w u t∧DA w F L xs us:=by
 obtain⟨v,us,h1,h2,h3⟩:=YE h
 obtain⟨cs,rfl,h4⟩:=h2.aggL
 obtain⟨u,rest,h5,h6,h7⟩:=YE h4
 have:=jG h7
 subst this
 have EY:cs=#[u]:=gh.1 (by rw[h5])
 subst EY
 exact⟨u,us,gh.1 (by rw[h1]),tr_in hn h6.vI,h3⟩

section
theorem qQ (t:Tr) (hS:Sm t) (hN:Nm t) (b l:List Row):QA Tryz.prog 35 [.agg [.v (eT t)]] b l (fun r b' l'=>r=.v (.bool (aD t))∧b'=b∧l'=l):=by
 refine QA.of_ext ⟨_,Tryz.func35,by kernel_rfl,by kernel_rfl⟩ (fun F L w vs hr=>?_)
 obtain⟨u,us,rfl,hs,OY⟩:=SO hN hr
 obtain rfl:=jG OY
 refine (EP u t w hS hs).mono ?_
 rintro e w' ⟨rfl,he⟩
 exact⟨he,_,_,rfl,.v _ _ (.bool _),rfl,rfl,rfl⟩
theorem iS (t:Tr) (hS:Small t) (hN:Nm t) (b l:List Row):QA Tryz.prog 35 [.agg [.v (eT t)]] b l (fun r b' l'=>r=.v (.bool (aD t))∧b'=b∧l'=l):=qQ t hS.sm hN b l
end
section
variable (cs:List Int) (lr:List IV) (p i:Nat) (kd pr mg:Int) (x4 x5:AV) (B l:List Row)
end

theorem ZAE {F:Nat→Prop} {W:World} (hF:∀b,F b→b<W.heap.size) (hG:ZDV W F:=by intro _ _ h;cases h):Sim F (fun _ _=>none) ([]++[]) W:=
 ⟨fun i v z els hi=>by simp at hi,fun i v q hq=>(by cases hq),fun i i' v v' z z' e1 e2 bb q q' h1=>by simp at h1,fun b hb=>⟨hF b hb,by rintro⟨i,v,s,e1,q,h1,h2,h3⟩;cases h2⟩,hG⟩
def L2 (b4 b5:Nat):LMap:=fun id ver=>if id=0∧ver=0 then some (.pl b4 0 1 1) else if id=1∧ver=0 then some (.pl b5 0 1 1) else none
structure CutOk (t:Tr) (c:List Int):Prop where
 len:c.length=t.length
 np:t.length≤1000000
 nv:∀x∈t,x.vars.length≤1000000
 ne:∀x∈t,x.evs.length≤1000000
 na:∀x∈t,∀e∈x.evs,e.asg.length≤1000000
 le:∀(k:Nat) (h:k<t.length) (h2:k<c.length),0≤c[k]∧c[k]≤t[k].evs.length
end Go.Proofs.YtmaokjojbjdpoaaGreatDoor
namespace Go.Proofs.YtmaokjojbjdpoaaGreatDoor
open Go.RowKit
set_option linter.unusedVariables false
attribute [local go_sem] Oper.semAt_some

def RInt (w:World) (b o:Nat) (x:Int):Prop:=w.cell? ⟨b,o,none⟩=some (.int .i64 x)
theorem RInt.keeps:OU RInt:=fun _ _ _ _ _ he h=>he.cellAt h
def cAt (cs:List Int) (p:Nat):Int:=cs.getD p 0
end Go.Proofs.YtmaokjojbjdpoaaGreatDoor
namespace Go.Proofs.YtmaokjojbjdpoaaGreatDoor
set_option linter.unusedVariables false

section
theorem KZ (t:Tr) (hS:Small t) (hN:Nm t) (b l:List Row) (m:Int):QA Tryz.prog 31 [.agg [.v (eT t)],.v (.int .i64 m)] b l (fun r b' l'=>r=.tup [idA (ZC t 2 m),.v (.bool (decide (0<(ZC t 2 m).2)))]∧b'=b∧l'=l):=by
 refine QA.of_ext ⟨_,Tryz.func31,by kernel_rfl,by kernel_rfl⟩ (fun F L w vs hr=>?_)
 obtain⟨u,us,rfl,hs,OY⟩:=SO hN hr
 obtain⟨v,us,rfl,h3,OY⟩:=YE OY
 obtain rfl:=jG OY
 cases h3.vI
 refine (H8 u t m w hS hs).mono ?_
 rintro e w' ⟨rfl,he⟩
 exact⟨he,_,_,rfl,DA.tup (DA.cons (FX _ _ _ _) (DA.cons (.v _ _ (.bool _)) DA.nil)),rfl,rfl,rfl⟩
theorem kU (t:Tr) (hS:Small t) (hN:Nm t) (b l:List Row) (m:Int):QA Tryz.prog 158 [.agg [.v (eT t)],.v (.int .i64 m)] b l (fun r b' l'=>r=.tup [idA (ZC t 3 m),.v (.bool (decide (0<(ZC t 3 m).2)))]∧b'=b∧l'=l):=by
 refine QA.of_ext ⟨_,Tryz.func158,by kernel_rfl,by kernel_rfl⟩ (fun F L w vs hr=>?_)
 obtain⟨u,us,rfl,hs,OY⟩:=SO hN hr
 obtain⟨v,us,rfl,h3,OY⟩:=YE OY
 obtain rfl:=jG OY
 cases h3.vI
 refine (pX u t m w hS hs).mono ?_
 rintro e w' ⟨rfl,he⟩
 exact⟨he,_,_,rfl,DA.tup (DA.cons (FX _ _ _ _) (DA.cons (.v _ _ (.bool _)) DA.nil)),rfl,rfl,rfl⟩
theorem i7 (t:Tr) (hS:Small t) (hN:Nm t) (b l:List Row) (hM:(ids t).length≤1000000):QA Tryz.prog 39 [.agg [.v (eT t)]] b l (fun r b' l'=>r=.v (.int .i64 (CM t))∧b'=b∧l'=l):=by
 refine QA.of_ext ⟨_,Tryz.func39,by kernel_rfl,by kernel_rfl⟩ (fun F L w vs hr=>?_)
 obtain⟨u,us,rfl,hs,OY⟩:=SO hN hr
 obtain rfl:=jG OY
 refine (ZCa u t w hS hM hs).mono ?_
 rintro e w' ⟨rfl,he⟩
 exact⟨he,_,_,rfl,.v _ _ (.int _ _),rfl,rfl,rfl⟩
end
set_option linter.unusedSimpArgs false
theorem QA.frz {P:Program} {f i ver sz:Nat} {args:List AV} {rows:List (List IV)} {b l:List Row} {Q:AV→List Row→List Row→Prop} (hi:l[i]? = some (.live ver sz (vs rows))) (h:QA P f (args.map (frz (b.length+i) ver sz rows)) b (l.set i (.dead ver)) Q):QA P f args b l Q:=by
 refine⟨h.1,fun F L w us s hr=>?_⟩
 obtain⟨F',s1,QI,st1,_⟩:=sJ (e:=args) hi F L w {tmps:=us,defers:=[]} s ⟨rfl,by have:=hr.1;simpa using this.symm,fun j x v hx hv=>hr.2 j x v hx (by simpa using hv)⟩
 refine Calls.mono (h.2 F' L w us s1 ⟨by have:=hr.1;simpa using this,fun j x v hx hv=>QI.2.2 j x v hx (by simpa using hv)⟩) ?_
 rintro en w' ⟨v,x,b',l',F2,L2,h1,h2,h3,h4,h5,h6⟩
 have aB:(b++l.set i (.dead ver)).length=(b++l).length:=by simp
 have st:Step (b++l).length F L (b++l) w F' L (b++l.set i (.dead ver)) w:=by
  refine⟨st1.imm,fun _ _ _ _ hl=>hl,rfl,rfl,rfl,ai _,fun _ _ _=>rfl,st1.own,fun id hid v hv=>?_,st1.fnew⟩
  by_cases hj:id<b.length
  ·rw[aw hj]at hv⊢;exact hv
  ·rw[aq oM]at hv⊢
   by_cases fF:i=id-b.length
   ·rw[←fF,hi]at hv;cases hv
   ·rw[bo fF];exact hv
 exact⟨v,x,b',l',F2,L2,h1,h2,h3,st.trans (aB▸h4),h5,h6⟩

def kB (n:Nat) (f:Nat→Row):List Row:=(List.range n).map f
def rUp (f:Nat→Row) (i:Nat) (r:Row):Nat→Row:=fun j=>if i=j then r else f j
theorem QH {f:Nat→Row} {i:Nat} {r:Row}:rUp f i r i=r:=by unfold rUp;rw[if_pos rfl]
theorem tA {f:Nat→Row} {i j:Nat} {r:Row} (h:i≠j):rUp f i r j=f j:=by unfold rUp;rw[if_neg h]
theorem IA {n:Nat} {f:Nat→Row}:(kB n f).length=n:=by simp[kB]
theorem xH {n i:Nat} {f:Nat→Row} (h:i<n):(kB n f)[i]? = some (f i):=by
 unfold kB;rw[an,jn h];rfl
theorem ZJd {n i:Nat} {f:Nat→Row} {r:Row}:(kB n f).set i r=kB n (rUp f i r):=by
 apply ec
 intro j
 by_cases hj:j<n
 ·rw[xH hj]
  by_cases j5:i=j
  ·subst j5;rw[ba (by rw[IA];exact hj),QH]
  ·rw[bo j5,xH hj,tA j5]
 ·rw[cg (by rw[dh,IA];omega),cg (by rw[IA];omega)]
theorem IH {n i:Nat} {f:Nat→Row} {l:List Row} (h:i<n):hget (kB n f) l i=some (f i):=by
 unfold hget;rw[if_pos (by rw[IA];exact h),xH h]
theorem sO {n i:Nat} {f:Nat→Row} {l:List Row}:hget (kB n f) l (n+i)=l[i]?:=by
 unfold hget;rw[if_neg (by rw[IA];omega),IA,cj]
theorem WT {n:Nat} {f:Nat→Row} {l:List Row}:hget (kB n f) l n=l[0]?:=sO (i:=0)
theorem vK {n i:Nat} {f:Nat→Row} {r:Row} (h:i<n):xE (kB n f) i r=kB n (rUp f i r):=by
 unfold xE;rw[if_pos (by rw[IA];exact h),ZJd]
theorem jK {n i:Nat} {f:Nat→Row} {l:List Row} {r:Row} (h:i<n):aE (kB n f) l i r=l:=by
 unfold aE;rw[if_pos (by rw[IA];exact h)]
theorem RM {n i:Nat} {f:Nat→Row} {r:Row}:xE (kB n f) (n+i) r=kB n f:=by
 unfold xE;rw[if_neg (by rw[IA];omega)]
theorem fP {n:Nat} {f:Nat→Row} {r:Row}:xE (kB n f) n r=kB n f:=RM (i:=0)
theorem DM {n i:Nat} {f:Nat→Row} {l:List Row} {r:Row}:aE (kB n f) l (n+i) r=l.set i r:=by
 unfold aE;rw[if_neg (by rw[IA];omega),IA,cj]
theorem lP {n:Nat} {f:Nat→Row} {l:List Row} {r:Row}:aE (kB n f) l n r=l.set 0 r:=DM (i:=0)
theorem ZIR (B:List Row):∃n f,n=B.length∧B=kB n f∧∀i r,B[i]? = some r→f i=r:=by
 refine⟨B.length,fun i=>B.getD i (.dead 0),rfl,?_,fun i r h=>by simp only[au,h];rfl⟩
 apply ec
 intro j
 by_cases hj:j<B.length
 ·rw[xH hj,au,ah hj];rfl
 ·rw[cg oM,cg (by rw[IA];omega)]
def jY (m:Nat) (r:Row):Prop:=∀ver sz els,r=.live ver sz els→∀row∈els,∀c∈row,AVlt m c
theorem jY.live {m ver sz:Nat} {els:List (List AV)} (h:∀row∈els,∀c∈row,AVlt m c):jY m (.live ver sz els):=fun v s e he=>by cases he;exact h
theorem jY.dead {m ver:Nat}:jY m (.dead ver):=fun v s e he=>by cases he
theorem jY.vs {m ver sz:Nat} {rows:List (List IV)}:jY m (.live ver sz (vs rows)):=.live (fJ.2 trivial)
theorem uB {α:Type} (x:α):List.replicate 1 x=[x]:=rfl
attribute [local go_sem ↓] kC JB xC iC yD mB wC kD uC nD TA pB yC SA nB vC AA bB pC VB MA dC lB fB qB eB jB XC sB wD rC gD xD lE tD fE eE RB AB
attribute [local go_sem] UB LA QE vB CA mE rD dD iD UL KL sD sC tC nC XD nA JC EA YC FA KB aop AE AD DD MC SD bC TD OJ QG WF amm UF eC TB dF ID GF comma OC ZG CJ AF EF yJ uF gF qE vJ eqC eqF eG cellsOf iB fC IB xF DI rd rdI IE mk mD AV.cell List.all_cons List.all_nil Bool.and_true Bool.true_and Bool.and_self List.length_cons List.length_nil List.length_append Nat.reduceAdd Nat.reduceSub Nat.reduceMul Nat.zero_add Nat.add_zero List.cons_append List.nil_append List.append_assoc List.append_nil List.getElem?_cons_zero List.getElem?_cons_succ List.getElem?_nil List.set_cons_zero List.set_cons_succ List.drop_zero List.drop_succ_cons List.take_zero List.take_succ_cons List.take_nil List.drop_nil List.map_cons List.map_nil Option.map_some if_true if_false Bool.false_eq_true and_self true_and and_true Nat.reduceLeDiff Nat.reduceLT Nat.le_refl Nat.reduceEqDiff ite_true ite_false beq_self_eq_true beq_true beq_false Bool.not_true Bool.not_false Bool.true_beq Bool.false_beq pE DB xB zD vD jC qC zC KC jD qD nE pA XL sK YL QL dG uG rG iG geI gtI sG decide_true decide_false room List.getElem?_map List.length_map List.length_take Int.toNat_natCast Nat.min_def Nat.min_self uD QD MD tB bD mF KA List.getElem_cons_zero List.getElem_cons_succ
def a_within:AFunc:=({c:=_}:CF Tryz.prog 48).c
theorem SZ:qA Tryz.prog 48=some a_within:=by kernel_rfl
def a_wval:AFunc:=({c:=_}:CF Tryz.prog 120).c
theorem ZCM:qA Tryz.prog 120=some a_wval:=by kernel_rfl
def a_wclock:AFunc:=({c:=_}:CF Tryz.prog 90).c
theorem NZ:qA Tryz.prog 90=some a_wclock:=by kernel_rfl
def a_wClock:AFunc:=({c:=_}:CF Tryz.prog 38).c
theorem EZ:qA Tryz.prog 38=some a_wClock:=by kernel_rfl
def a_wright:AFunc:=({c:=_}:CF Tryz.prog 123).c
theorem DZ:qA Tryz.prog 123=some a_wright:=by kernel_rfl
def a_wright1:AFunc:=({c:=_}:CF Tryz.prog 161).c
theorem wX:qA Tryz.prog 161=some a_wright1:=by kernel_rfl
def a_wright2:AFunc:=({c:=_}:CF Tryz.prog 162).c
theorem kX:qA Tryz.prog 162=some a_wright2:=by kernel_rfl
def a_r54in:AFunc:=({c:=_}:CF Tryz.prog 52).c
theorem Y8:qA Tryz.prog 52=some a_r54in:=by kernel_rfl
def a_r54val:AFunc:=({c:=_}:CF Tryz.prog 74).c
theorem Y0:qA Tryz.prog 74=some a_r54val:=by kernel_rfl
def a_r54rates:AFunc:=({c:=_}:CF Tryz.prog 145).c
theorem mU:qA Tryz.prog 145=some a_r54rates:=by kernel_rfl
def a_r54Clock:AFunc:=({c:=_}:CF Tryz.prog 109).c
theorem GU:qA Tryz.prog 109=some a_r54Clock:=by kernel_rfl
def a_r54Instr:AFunc:=({c:=_}:CF Tryz.prog 146).c
theorem bU:qA Tryz.prog 146=some a_r54Instr:=by kernel_rfl

theorem ZD (x lo hi:Int) (b l:List Row):QA Tryz.prog 48 [.v (.int .i64 x),.v (.int .i64 lo),.v (.int .i64 hi)] b l (fun r b' l'=>r=.v (.bool (inZ x lo hi))∧b'=b∧l'=l):=by
 refine XA SZ rfl kE ?_
 intro B g hB hR hE hA;simp only[KA]at hA
 by_cases h1:lo≤x
 ·have d1:decide (x≥lo)=true:=ae h1
  have d1':decide (lo≤x)=true:=ae h1
  simp (disch:=first|decide|omega) only[a_within,hA,d1,d1',go_sem]
  exact ZA (xs:=[.v (.bool (decide (x≤hi)))]) ⟨by simp[inZ,h1,one],rfl,rfl⟩
 ·have d1:decide (x≥lo)=false:=ag h1
  have d1':decide (lo≤x)=false:=ag h1
  simp (disch:=first|decide|omega) only[a_within,hA,d1,d1',go_sem]
  exact ZA (xs:=[.v (.bool false)]) ⟨by simp[inZ,h1,one],rfl,rfl⟩
theorem OB (x lo hi:Int) (b l:List Row):QA Tryz.prog 52 [.v (.int .i64 x),.v (.int .i64 lo),.v (.int .i64 hi)] b l (fun r b' l'=>r=.v (.bool (inZ x lo hi))∧b'=b∧l'=l):=by
 refine XA Y8 rfl kE ?_
 intro B g hB hR hE hA;simp only[KA]at hA
 by_cases h1:lo≤x
 ·have d1:decide (x≥lo)=true:=ae h1
  have d1':decide (lo≤x)=true:=ae h1
  simp (disch:=first|decide|omega) only[a_r54in,hA,d1,d1',go_sem]
  exact ZA (xs:=[.v (.bool (decide (x≤hi)))]) ⟨by simp[inZ,h1,one],rfl,rfl⟩
 ·have d1:decide (x≥lo)=false:=ag h1
  have d1':decide (lo≤x)=false:=ag h1
  simp (disch:=first|decide|omega) only[a_r54in,hA,d1,d1',go_sem]
  exact ZA (xs:=[.v (.bool false)]) ⟨by simp[inZ,h1,one],rfl,rfl⟩
theorem aM (x:Int) (b l:List Row):QA Tryz.prog 120 [.v (.int .i64 x)] b l (fun r b' l'=>r=.v (.bool (vlB x))∧b'=b∧l'=l):=by
 refine XA ZCM rfl kE ?_
 intro B g hB hR hE hA;simp only[KA]at hA
 simp (disch:=first|decide|omega) only[a_wval,hA,go_sem]
 refine QA.nxt (ZD _ _ _ _ _) ?_
 simp (disch:=first|decide|omega) only[hA,go_sem]
 exact ZA (xs:=[.v (.bool (inZ x (-1073741824) 1073741824))])
theorem iJ (x:Int) (b l:List Row):QA Tryz.prog 74 [.v (.int .i64 x)] b l (fun r b' l'=>r=.v (.bool (vlB x))∧b'=b∧l'=l):=by
 refine XA Y0 rfl kE ?_
 intro B g hB hR hE hA;simp only[KA]at hA
 simp (disch:=first|decide|omega) only[a_r54val,hA,go_sem]
 refine QA.nxt (OB _ _ _ _ _) ?_
 simp (disch:=first|decide|omega) only[hA,go_sem]
 exact ZA (xs:=[.v (.bool (inZ x (-1073741824) 1073741824))])
def LstC (x:AV):Prop:=(∃y,x=.v y)∨∃id ver o n,x=.sl id ver o n
theorem VQ (y0 y1 y2:IV) (x3:AV) (off rate:Int) (b l:List Row) (h3:LstC x3):QA Tryz.prog 90 [.agg [.v y0,.v y1,.v y2,x3,.v (.int .i64 off),.v (.int .i64 rate)]] b l (fun r b' l'=>r=.v (.bool (inZ off 0 1000000&&inZ rate 500 2000))∧b'=b∧l'=l):=by
 refine XA NZ rfl kE ?_
 intro B g hB hR hE hA;simp only[KA]at hA
 rcases h3 with ⟨y,rfl⟩|⟨id,ver,o,n,rfl⟩
 all_goals
  simp (disch:=first|decide|omega) only[a_wclock,hA,go_sem]
  refine QA.nxt (ZD _ _ _ _ _) ?_
  cases h1:inZ off 0 1000000
  ·simp (disch:=first|decide|omega) only[hA,go_sem]
   exact ZA (xs:=[.v (.bool false)]) ⟨by simp[one],rfl,rfl⟩
  ·simp (disch:=first|decide|omega) only[hA,go_sem]
   refine QA.nxt (ZD _ _ _ _ _) ?_
   simp (disch:=first|decide|omega) only[hA,go_sem]
   exact ZA (xs:=[.v (.bool (inZ rate 500 2000))]) ⟨by simp[one],rfl,rfl⟩
theorem e9 {s:Sv} {now:Int} (h:eH s now=true):(0≤s.off∧s.off≤1000000)∧(500≤s.rate∧s.rate≤2000)∧(0≤now∧now≤1000000000)∧0≤now*s.rate∧now*s.rate≤2000000000000:=by
 unfold eH XJ inZ at h
 simp only[ar,bc]at h
 obtain⟨⟨h1,h2⟩,h3⟩:=h
 refine⟨h1,h2,h3,Int.mul_nonneg h3.1 oM,?_⟩
 have:=Int.mul_le_mul h3.2 h2.2 oM oM
 omega
theorem zQ (y0 y1 y2:IV) (x3:AV) (s:Sv) (now:Int) (b l:List Row) (h3:LstC x3):QA Tryz.prog 38 [.agg [.v y0,.v y1,.v y2,x3,.v (.int .i64 s.off),.v (.int .i64 s.rate)],.v (.int .i64 now)] b l (fun r b' l'=>r=.tup [.v (.int .i64 (CH s now)),.v (.int .i64 (if eH s now=true then 0 else 2))]∧b'=b∧l'=l):=by
 refine XA EZ rfl kE ?_
 intro B g hB hR hE hA;simp only[KA]at hA
 have cC:=fun b l=>VQ y0 y1 y2 x3 s.off s.rate b l h3
 have e1:(inZ s.off 0 1000000&&inZ s.rate 500 2000)=XJ s:=rfl
 rw[e1]at cC
 rcases h3 with ⟨y,rfl⟩|⟨id,ver,o,n,rfl⟩
 all_goals
  simp (disch:=first|decide|omega) only[a_wClock,hA,go_sem]
  refine QA.nxt (cC _ _) ?_
  cases h1:XJ s
  ·have hk:eH s now=false:=by unfold eH;rw[h1];rfl
   simp (disch:=first|decide|omega) only[hA,go_sem]
   exact ZA (xs:=[.v (.int .i64 0),.v (.int .i64 2)]) ⟨by unfold CH;rw[hk];rfl,rfl,rfl⟩
  ·simp (disch:=first|decide|omega) only[hA,go_sem]
   refine QA.nxt (ZD _ _ _ _ _) ?_
   cases h2:inZ now 0 1000000000
   ·have hk:eH s now=false:=by unfold eH;rw[h1,h2];rfl
    simp (disch:=first|decide|omega) only[hA,go_sem]
    exact ZA (xs:=[.v (.int .i64 0),.v (.int .i64 2)]) ⟨by unfold CH;rw[hk];rfl,rfl,rfl⟩
   ·have hk:eH s now=true:=by unfold eH;rw[h1,h2];rfl
    obtain⟨g1,g2,g3,g4,g5⟩:=e9 hk
    have hd:Int.tdiv (now*s.rate) 1000=now*s.rate / 1000:=Int.tdiv_eq_ediv_of_nonneg g4
    have LE:IntKind.i64.wrap (now*s.rate)=now*s.rate:=pA oM oM
    have hw2:IntKind.i64.wrap (now*s.rate / 1000)=now*s.rate / 1000:=pA oM oM
    have hw3:IntKind.i64.wrap (s.off+now*s.rate / 1000)=s.off+now*s.rate / 1000:=pA oM oM
    have n0:((1000:Int)=0)=False:=by decide
    simp (disch:=first|decide|omega) only[hA,hd,LE,hw2,hw3,n0,go_sem]
    exact ZA (xs:=[.v (.int .i64 (s.off+now*s.rate / 1000)),.v (.int .i64 0)]) ⟨by unfold CH;rw[hk];rfl,rfl,rfl⟩
theorem xN (y0 y1 y2 y3:IV) (s:Sv) (b l:List Row):QA Tryz.prog 145 [.agg [.v y0,.v y1,.v y2,.v y3,.v (.int .i64 s.off),.v (.int .i64 s.rate)]] b l (fun r b' l'=>r=.v (.bool (XJ s))∧b'=b∧l'=l):=by
 refine XA mU rfl kE ?_
 intro B g hB hR hE hA;simp only[KA]at hA
 simp (disch:=first|decide|omega) only[a_r54rates,hA,go_sem]
 refine QA.nxt (OB _ _ _ _ _) ?_
 cases h1:inZ s.off 0 1000000
 ·simp (disch:=first|decide|omega) only[hA,go_sem]
  exact ZA (xs:=[.v (.bool false)]) ⟨by simp[one,XJ,h1],rfl,rfl⟩
 ·simp (disch:=first|decide|omega) only[hA,go_sem]
  refine QA.nxt (OB _ _ _ _ _) ?_
  simp (disch:=first|decide|omega) only[hA,go_sem]
  exact ZA (xs:=[.v (.bool (inZ s.rate 500 2000))]) ⟨by simp[one,XJ,h1],rfl,rfl⟩
theorem iN (y0 y1 y2 y3:IV) (s:Sv) (now:Int) (b l:List Row):QA Tryz.prog 109 [.agg [.v y0,.v y1,.v y2,.v y3,.v (.int .i64 s.off),.v (.int .i64 s.rate)],.v (.int .i64 now)] b l (fun r b' l'=>r=.tup [.v (.int .i64 (CH s now)),.v (.bool (eH s now))]∧b'=b∧l'=l):=by
 refine XA GU rfl kE ?_
 intro B g hB hR hE hA;simp only[KA]at hA
 have cC:=fun b l=>xN y0 y1 y2 y3 s b l
 simp (disch:=first|decide|omega) only[a_r54Clock,hA,go_sem]
 refine QA.nxt (cC _ _) ?_
 cases h1:XJ s
 ·have hk:eH s now=false:=by unfold eH;rw[h1];rfl
  simp (disch:=first|decide|omega) only[hA,go_sem]
  exact ZA (xs:=[.v (.int .i64 0),.v (.bool false)]) ⟨by unfold CH;rw[hk];rfl,rfl,rfl⟩
 ·simp (disch:=first|decide|omega) only[hA,go_sem]
  refine QA.nxt (OB _ _ _ _ _) ?_
  cases h2:inZ now 0 1000000000
  ·have hk:eH s now=false:=by unfold eH;rw[h1,h2];rfl
   simp (disch:=first|decide|omega) only[hA,go_sem]
   exact ZA (xs:=[.v (.int .i64 0),.v (.bool false)]) ⟨by unfold CH;rw[hk];rfl,rfl,rfl⟩
  ·have hk:eH s now=true:=by unfold eH;rw[h1,h2];rfl
   obtain⟨g1,g2,g3,g4,g5⟩:=e9 hk
   have hd:Int.tdiv (now*s.rate) 1000=now*s.rate / 1000:=Int.tdiv_eq_ediv_of_nonneg g4
   have LE:IntKind.i64.wrap (now*s.rate)=now*s.rate:=pA oM oM
   have hw2:IntKind.i64.wrap (now*s.rate / 1000)=now*s.rate / 1000:=pA oM oM
   have hw3:IntKind.i64.wrap (s.off+now*s.rate / 1000)=s.off+now*s.rate / 1000:=pA oM oM
   have n0:((1000:Int)=0)=False:=by decide
   simp (disch:=first|decide|omega) only[hA,hd,LE,hw2,hw3,n0,go_sem]
   exact ZA (xs:=[.v (.int .i64 (s.off+now*s.rate / 1000)),.v (.bool true)]) ⟨by unfold CH;rw[hk];rfl,rfl,rfl⟩
def xG (s:Sv):Row:=.live 0 6 [[.v (.str s.name),.v (.isl 3 (s.code.map eIn)),.v (.int .i64 s.pc),.v (.isl 1 (s.vars.map eI)),.v (.int .i64 s.off),.v (.int .i64 s.rate)]]
theorem DF (s:Sv) (hS:SvS s) (x:Int) (id:Nat) (b l:List Row) (hg:hget b l id=some (xG s)):QA Tryz.prog 161 [.v (.int .i64 x),.ptr id 0 0 0] b l (fun r b' l'=>r=.v (.bool (inZ x 0 (s.vars.length-1)))∧b'=b∧l'=l):=by
 refine XA wX rfl kE ?_
 intro B g hB hR hE hA;simp only[KA]at hA
 have hv:=hS.vars
 have GD:∀l',hget B l' id=some (xG s):=fun l'=>by
  rw[AC]at hg
  rw[AC,aw (by rw[hB];exact (am.1 hg).1),hB];exact hg
 unfold xG at GD
 simp (disch:=first|decide|omega) only[a_wright1,hA,GD,aa,go_sem]
 refine QA.nxt (ZD _ _ _ _ _) ?_
 simp (disch:=first|decide|omega) only[hA,go_sem]
 exact ZA (xs:=[.v (.bool (inZ x 0 (s.vars.length-1)))])
theorem XO (s:Sv) (hS:SvS s) (x:Int) (id:Nat) (b l:List Row) (hg:hget b l id=some (xG s)):QA Tryz.prog 162 [.v (.int .i64 x),.ptr id 0 0 0] b l (fun r b' l'=>r=.v (.bool (inZ x 0 (s.code.length-1)))∧b'=b∧l'=l):=by
 refine XA kX rfl kE ?_
 intro B g hB hR hE hA;simp only[KA]at hA
 have hv:=hS.code
 have GD:∀l',hget B l' id=some (xG s):=fun l'=>by
  rw[AC]at hg
  rw[AC,aw (by rw[hB];exact (am.1 hg).1),hB];exact hg
 unfold xG at GD
 simp (disch:=first|decide|omega) only[a_wright2,hA,GD,aa,go_sem]
 refine QA.nxt (ZD _ _ _ _ _) ?_
 simp (disch:=first|decide|omega) only[hA,go_sem]
 exact ZA (xs:=[.v (.bool (inZ x 0 (s.code.length-1)))])
abbrev zSA (x:Sv):List AV:=[.v (.str x.name),.v (.isl 3 (x.code.map eIn)),.v (.int .i64 x.pc),.v (.isl 1 (x.vars.map eI)),.v (.int .i64 x.off),.v (.int .i64 x.rate)]
theorem XZ (s:Sv) (hS:SvS s) (p n:Int) (hn:0≤n∧n≤1000000) (x:In) (b l:List Row):QA Tryz.prog 123 [.agg (zSA s),.v (.int .i64 p),.v (.int .i64 n),.agg [.v (.int .i64 x.op),.v (.int .i64 x.a),.v (.int .i64 x.b)]] b l (fun r b' l'=>r=.v (.bool (XE s.vars.length s.code.length p n x))∧b'=b∧l'=l):=by
 refine XA DZ rfl kE ?_
 intro B g hB hR hE hA;simp only[KA]at hA
 have hv:=hS.vars
 have hc:=hS.code
 have hwn:IntKind.i64.wrap (n-1)=n-1:=pA oM oM
 by_cases o:x.op=1
 ·have hr:XE s.vars.length s.code.length p n x=(inZ x.a 0 (s.vars.length-1)&&vlB x.b):=by unfold XE;rw[if_pos oM]
  rw[hr]
  have e1:(x.op==1)=true:=by simp[o]
  have e2:(x.op==2)=false:=by simp[o]
  have e3:(x.op==3)=false:=by simp[o]
  have e4:(x.op==4)=false:=by simp[o]
  have e5:(x.op==5)=false:=by simp[o]
  have e6:(x.op==6)=false:=by simp[o]
  have e7:(x.op==7)=false:=by simp[o]
  have e8:(x.op==8)=false:=by simp[o]
  simp (disch:=first|decide|omega) only[a_wright,hA,e1,e2,e3,e4,e5,e6,e7,e8,go_sem]
  refine QA.nxt (DF s hS x.a B.length B _ (by rw[nA];rfl)) ?_
  cases h1:inZ x.a 0 (s.vars.length-1)
  ·simp (disch:=first|decide|omega) only[hA,go_sem]
   exact ZA (xs:=[.v (.bool false)]) ⟨by simp[one],rfl,rfl⟩
  ·simp (disch:=first|decide|omega) only[hA,go_sem]
   refine QA.nxt (aM _ _ _) ?_
   simp (disch:=first|decide|omega) only[hA,go_sem]
   exact ZA (xs:=[.v (.bool (vlB x.b))]) ⟨by simp[one],rfl,rfl⟩
 have o1:=o
 clear o
 by_cases o:x.op=2
 ·have hr:XE s.vars.length s.code.length p n x=(inZ x.a 0 (s.vars.length-1)&&vlB x.b):=by unfold XE;rw[if_pos oM]
  rw[hr]
  have e1:(x.op==1)=false:=by simp[o]
  have e2:(x.op==2)=true:=by simp[o]
  have e3:(x.op==3)=false:=by simp[o]
  have e4:(x.op==4)=false:=by simp[o]
  have e5:(x.op==5)=false:=by simp[o]
  have e6:(x.op==6)=false:=by simp[o]
  have e7:(x.op==7)=false:=by simp[o]
  have e8:(x.op==8)=false:=by simp[o]
  simp (disch:=first|decide|omega) only[a_wright,hA,e1,e2,e3,e4,e5,e6,e7,e8,go_sem]
  refine QA.nxt (DF s hS x.a B.length B _ (by rw[nA];rfl)) ?_
  cases h1:inZ x.a 0 (s.vars.length-1)
  ·simp (disch:=first|decide|omega) only[hA,go_sem]
   exact ZA (xs:=[.v (.bool false)]) ⟨by simp[one],rfl,rfl⟩
  ·simp (disch:=first|decide|omega) only[hA,go_sem]
   refine QA.nxt (aM _ _ _) ?_
   simp (disch:=first|decide|omega) only[hA,go_sem]
   exact ZA (xs:=[.v (.bool (vlB x.b))]) ⟨by simp[one],rfl,rfl⟩
 have o2:=o
 clear o
 by_cases o:x.op=3
 ·have hr:XE s.vars.length s.code.length p n x=(inZ x.a 0 (s.vars.length-1)&&(inZ x.b 0 (n-1)&&decide (x.b≠p))):=by unfold XE;rw[if_neg oM,if_pos o]
  rw[hr]
  have e1:(x.op==1)=false:=by simp[o]
  have e2:(x.op==2)=false:=by simp[o]
  have e3:(x.op==3)=true:=by simp[o]
  have e4:(x.op==4)=false:=by simp[o]
  have e5:(x.op==5)=false:=by simp[o]
  have e6:(x.op==6)=false:=by simp[o]
  have e7:(x.op==7)=false:=by simp[o]
  have e8:(x.op==8)=false:=by simp[o]
  simp (disch:=first|decide|omega) only[a_wright,hA,e1,e2,e3,e4,e5,e6,e7,e8,go_sem]
  refine QA.nxt (DF s hS x.a B.length B _ (by rw[nA];rfl)) ?_
  cases h1:inZ x.a 0 (s.vars.length-1)
  ·simp (disch:=first|decide|omega) only[hA,go_sem]
   exact ZA (xs:=[.v (.bool false)]) ⟨by simp[one],rfl,rfl⟩
  ·simp (disch:=first|decide|omega) only[hA,hwn,go_sem]
   refine QA.nxt (ZD _ _ _ _ _) ?_
   cases h2:inZ x.b 0 (n-1)
   ·simp (disch:=first|decide|omega) only[hA,go_sem]
    exact ZA (xs:=[.v (.bool false)]) ⟨by simp[one],rfl,rfl⟩
   ·have hb:(x.b != p)=decide (x.b≠p):=by by_cases h:x.b=p<;>simp[h]
    simp (disch:=first|decide|omega) only[hA,hb,go_sem]
    exact ZA (xs:=[.v (.bool (decide (x.b≠p)))]) ⟨by simp[one],rfl,rfl⟩
 have o3:=o
 clear o
 by_cases o:x.op=4
 ·have hr:XE s.vars.length s.code.length p n x=inZ x.a 0 (s.vars.length-1):=by unfold XE;rw[if_neg oM,if_neg oM,if_pos o]
  rw[hr]
  have e1:(x.op==1)=false:=by simp[o]
  have e2:(x.op==2)=false:=by simp[o]
  have e3:(x.op==3)=false:=by simp[o]
  have e4:(x.op==4)=true:=by simp[o]
  have e5:(x.op==5)=false:=by simp[o]
  have e6:(x.op==6)=false:=by simp[o]
  have e7:(x.op==7)=false:=by simp[o]
  have e8:(x.op==8)=false:=by simp[o]
  simp (disch:=first|decide|omega) only[a_wright,hA,e1,e2,e3,e4,e5,e6,e7,e8,go_sem]
  refine QA.nxt (DF s hS x.a B.length B _ (by rw[nA];rfl)) ?_
  simp (disch:=first|decide|omega) only[hA,go_sem]
  exact ZA (xs:=[.v (.bool (inZ x.a 0 (s.vars.length-1)))])
 have o4:=o
 clear o
 by_cases o:x.op=5
 ·have hr:XE s.vars.length s.code.length p n x=(inZ x.a 0 (s.vars.length-1)&&inZ x.b 0 (s.code.length-1)):=by unfold XE;rw[if_neg oM,if_neg oM,if_neg oM,if_pos o]
  rw[hr]
  have e1:(x.op==1)=false:=by simp[o]
  have e2:(x.op==2)=false:=by simp[o]
  have e3:(x.op==3)=false:=by simp[o]
  have e4:(x.op==4)=false:=by simp[o]
  have e5:(x.op==5)=true:=by simp[o]
  have e6:(x.op==6)=false:=by simp[o]
  have e7:(x.op==7)=false:=by simp[o]
  have e8:(x.op==8)=false:=by simp[o]
  simp (disch:=first|decide|omega) only[a_wright,hA,e1,e2,e3,e4,e5,e6,e7,e8,go_sem]
  refine QA.nxt (DF s hS x.a B.length B _ (by rw[nA];rfl)) ?_
  cases h1:inZ x.a 0 (s.vars.length-1)
  ·simp (disch:=first|decide|omega) only[hA,go_sem]
   exact ZA (xs:=[.v (.bool false)]) ⟨by simp[one],rfl,rfl⟩
  ·simp (disch:=first|decide|omega) only[hA,go_sem]
   refine QA.nxt (XO s hS x.b B.length B _ (by rw[nA];rfl)) ?_
   simp (disch:=first|decide|omega) only[hA,go_sem]
   exact ZA (xs:=[.v (.bool (inZ x.b 0 (s.code.length-1)))]) ⟨by simp[one],rfl,rfl⟩
 have o5:=o
 clear o
 by_cases o:x.op=6
 ·have hr:XE s.vars.length s.code.length p n x=(inZ x.a 0 (s.code.length-1)&&inZ x.b 0 (s.vars.length-1)):=by unfold XE;rw[if_neg oM,if_neg oM,if_neg oM,if_neg oM,if_pos o]
  rw[hr]
  have e1:(x.op==1)=false:=by simp[o]
  have e2:(x.op==2)=false:=by simp[o]
  have e3:(x.op==3)=false:=by simp[o]
  have e4:(x.op==4)=false:=by simp[o]
  have e5:(x.op==5)=false:=by simp[o]
  have e6:(x.op==6)=true:=by simp[o]
  have e7:(x.op==7)=false:=by simp[o]
  have e8:(x.op==8)=false:=by simp[o]
  simp (disch:=first|decide|omega) only[a_wright,hA,e1,e2,e3,e4,e5,e6,e7,e8,go_sem]
  refine QA.nxt (XO s hS x.a B.length B _ (by rw[nA];rfl)) ?_
  cases h1:inZ x.a 0 (s.code.length-1)
  ·simp (disch:=first|decide|omega) only[hA,go_sem]
   exact ZA (xs:=[.v (.bool false)]) ⟨by simp[one],rfl,rfl⟩
  ·simp (disch:=first|decide|omega) only[hA,go_sem]
   refine QA.nxt (DF s hS x.b B.length B _ (by rw[nA];rfl)) ?_
   simp (disch:=first|decide|omega) only[hA,go_sem]
   exact ZA (xs:=[.v (.bool (inZ x.b 0 (s.vars.length-1)))]) ⟨by simp[one],rfl,rfl⟩
 have o6:=o
 clear o
 have hr:XE s.vars.length s.code.length p n x=decide (x.op=7∨x.op=8):=by unfold XE;rw[if_neg oM,if_neg oM,if_neg oM,if_neg oM,if_neg oM]
 rw[hr]
 have e1:(x.op==1)=false:=by simpa using o1
 have e2:(x.op==2)=false:=by simpa using o2
 have e3:(x.op==3)=false:=by simpa using o3
 have e4:(x.op==4)=false:=by simpa using o4
 have e5:(x.op==5)=false:=by simpa using o5
 have e6:(x.op==6)=false:=by simpa using o6
 by_cases o7:x.op=7
 ·have e7:(x.op==7)=true:=by simpa using o7
  simp (disch:=first|decide|omega) only[a_wright,hA,e1,e2,e3,e4,e5,e6,e7,go_sem]
  exact ZA (xs:=[.v (.bool true)]) ⟨by simp[one,o7],rfl,rfl⟩
 ·have e7:(x.op==7)=false:=by simpa using o7
  by_cases o8:x.op=8
  ·have e8:(x.op==8)=true:=by simpa using o8
   simp (disch:=first|decide|omega) only[a_wright,hA,e1,e2,e3,e4,e5,e6,e7,e8,go_sem]
   exact ZA (xs:=[.v (.bool true)]) ⟨by simp[one,o8],rfl,rfl⟩
  ·have e8:(x.op==8)=false:=by simpa using o8
   simp (disch:=first|decide|omega) only[a_wright,hA,e1,e2,e3,e4,e5,e6,e7,e8,go_sem]
   exact ZA (xs:=[.v (.bool false)]) ⟨by simp[one,o7,o8],rfl,rfl⟩
def a_wname:AFunc:=({c:=_}:CF Tryz.prog 117).c
theorem S7:qA Tryz.prog 117=some a_wname:=by kernel_rfl
def a_wsvc1:AFunc:=({c:=_}:CF Tryz.prog 119).c
theorem D7:qA Tryz.prog 119=some a_wsvc1:=by kernel_rfl
def a_wsvc2:AFunc:=({c:=_}:CF Tryz.prog 122).c
theorem I7:qA Tryz.prog 122=some a_wsvc2:=by kernel_rfl
def a_wsvc3:AFunc:=({c:=_}:CF Tryz.prog 124).c
theorem H7:qA Tryz.prog 124=some a_wsvc3:=by kernel_rfl
def a_wsvcs:AFunc:=({c:=_}:CF Tryz.prog 64).c
theorem G7:qA Tryz.prog 64=some a_wsvcs:=by kernel_rfl
def E1:List (Nat×Nat):=[(2,4),(11,61)]

theorem LK:qA Tryz.prog 127=some (wK 6):=by kernel_rfl
theorem EK:qA Tryz.prog 69=some (WH 127):=by kernel_rfl
theorem p8:qA Tryz.prog 160=some (wK 3):=by kernel_rfl
theorem b8:qA Tryz.prog 121=some (WH 160):=by kernel_rfl
theorem cI (s:ByteArray) (hs:s.size≤maxLen) (b l:List Row):QA Tryz.prog 144 [.v (.str s)] b l (fun r b' l'=>r=.v (.bool (lD s))∧b'=b∧l'=l):=by
 refine QA.of_ext ⟨_,Tryz.func144,by kernel_rfl,by kernel_rfl⟩ (fun F L w vs hr=>?_)
 obtain⟨u,us,h1,h2,h3⟩:=YE hr
 have:=jG h3
 subst this
 obtain rfl:vs=#[u]:=gh.1 (by rw[h1])
 cases h2.vI
 refine (ZBZ s w hs).mono ?_
 rintro e w' ⟨rfl,rfl⟩
 exact⟨Ext.refl _,_,_,rfl,.v _ _ (.bool _),rfl,rfl,rfl⟩
theorem ZJ7 {s:ByteArray} (hs:s.size≤maxLen):Nm [⟨s,[],[]⟩]:=fun p hp=>by
 simp at hp;subst hp
 exact⟨hs,fun v hv=>by simp at hv⟩
theorem ZBQ (s:ByteArray):Small [⟨s,[],[]⟩]:=by
 refine⟨by simp,fun x hx=>?_,fun x hx=>?_,fun x hx e he=>?_⟩<;>simp at hx<;>subst hx<;>simp at *
theorem I5 (s:ByteArray) (hs:s.size≤maxLen) (b l:List Row):QA Tryz.prog 117 [.v (.str s)] b l (fun r b' l'=>r=.v (.bool (lD s))∧b'=b∧l'=l):=by
 refine XA S7 rfl kE ?_
 intro B g hB hR hE hA;simp only[KA]at hA
 have cV:=fun b l=>iS [⟨s,[],[]⟩] (ZBQ s) (ZJ7 hs) b l
 rw[P5]at cV
 simp (disch:=first|decide|omega) only[a_wname,hA,fC,IB,uB,go_sem]
 refine QA.frzB (i:=0) (ver:=0) (sz:=3) (rows:=[[.str s,.zsl,.zsl]]) (args':=[.agg [.v (.isl 3 [[.str s,.zsl,.zsl]])]]) rfl (by simp[frz,CD]) ?_
 refine QA.nxt ((cV _ _).le rfl (fun i x y hx hy=>?_)) ?_
 ·match i,hx,hy with
  |0,hx,hy =>
    cases hx;cases hy
    refine .agg _ _ rfl (fun j u v hu hv=>?_)
    match j,hu,hv with
    |0,hu,hv =>
      cases hu;cases hv
      refine .v _ _ (IVle.rows ⟨⟨rfl,fun k a c ha hc=>?_⟩,trivial⟩)
      match k,ha,hc with
      |0,ha,hc=>cases ha;cases hc;exact .refl _
      |1,ha,hc=>cases ha;cases hc;exact .zsl 2
      |2,ha,hc=>cases ha;cases hc;exact .zsl 5
 simp (disch:=first|decide|omega) only[hA,go_sem]
 exact ZA (xs:=[.v (.bool (lD s))])
theorem G5 (x:Int) (b l:List Row):QA Tryz.prog 119 [.v (.int .i64 x)] b l (fun r b' l'=>r=.v (.bool (!vlB x))∧b'=b∧l'=l):=by
 refine XA D7 rfl kE ?_
 intro B g hB hR hE hA;simp only[KA]at hA
 simp (disch:=first|decide|omega) only[a_wsvc1,hA,go_sem]
 refine QA.nxt (aM _ _ _) ?_
 simp (disch:=first|decide|omega) only[hA,go_sem]
 exact ZA (xs:=[.v (.bool (!vlB x))])
theorem l5 (s:Sv) (hS:SvS s) (p:Nat) (ls:List Sv) (hls:ls.length≤1000000) (x:In) (i0 i1 i2:Nat) (b l:List Row) (h0:hget b l i0=some (xG s)) (h1:hget b l i1=some (.live 0 1 [[.v (.int .i64 p)]])) (h2:hget b l i2=some (.live 0 1 [[.v (.isl 6 (ls.map eSv))]])) :
  QA Tryz.prog 122 [.agg [.v (.int .i64 x.op),.v (.int .i64 x.a),.v (.int .i64 x.b)],.ptr i0 0 0 0,.ptr i1 0 0 0,.ptr i2 0 0 0] b l (fun r b' l'=>r=.v (.bool (!XE s.vars.length s.code.length p ls.length x))∧b'=b∧l'=l):=by
 refine XA I7 rfl kE ?_
 intro B g hB hR hE hA;simp only[KA]at hA
 have up:∀{i:Nat} {r:Row},hget b l i=some r→∀l',hget B l' i=some r:=fun hg l'=>by
  rw[AC]at hg
  rw[AC,aw (by rw[hB];exact (am.1 hg).1),hB];exact hg
 have g0:=up h0
 have g1:=up h1
 have g2:=up h2
 unfold xG at g0
 simp (disch:=first|decide|omega) only[a_wsvc2,hA,g0,g1,g2,aa,go_sem]
 refine QA.nxt (XZ s hS _ _ oM x _ _) ?_
 simp (disch:=first|decide|omega) only[hA,go_sem]
 exact ZA (xs:=[.v (.bool (!XE s.vars.length s.code.length p ls.length x))])
theorem p5 (s x:Sv) (i0:Nat) (b l:List Row) (h0:hget b l i0=some (xG s)) :
  QA Tryz.prog 124 [.agg ((eSv x).map .v),.ptr i0 0 0 0] b l (fun r b' l'=>r=.v (.bool (x.name==s.name))∧b'=b∧l'=l):=by
 refine XA H7 rfl kE ?_
 intro B g hB hR hE hA;simp only[KA]at hA
 have g0:∀l',hget B l' i0=some (xG s):=fun l'=>by
  rw[AC]at h0
  rw[AC,aw (by rw[hB];exact (am.1 h0).1),hB];exact h0
 unfold xG at g0
 simp (disch:=first|decide|omega) only[a_wsvc3,hA,g0,eSv,go_sem]
 exact ZA (xs:=[.v (.bool (x.name==s.name))])
theorem K1 {l:List Sv} {i:Nat} (hi:i<l.length) (h:svB l i=false):SF l=false:=by
 unfold SF
 rw[Bool.and_eq_false_iff]
 right
 rw[ep]
 exact⟨i,ay.2 hi,by rw[h];simp⟩
theorem pV {l:List Sv} (hl:inZ l.length 1 8=true) (h:∀i,i<l.length→svB l i=true):SF l=true:=by
 unfold SF
 rw[hl,ia,bl]
 exact fun i hi=>h i (ay.1 hi)
theorem JS {l:List Sv}:∀row∈l.map eSv,row.length=6:=by
 intro row h
 obtain⟨s,_,rfl⟩:=co.1 h
 rfl
theorem ZH6 {l:List In}:∀row∈l.map eIn,row.length=3:=by
 intro row h
 obtain⟨s,_,rfl⟩:=co.1 h
 rfl
theorem PL (ls:List Sv) (hS:SvsS ls) (b l:List Row):QA Tryz.prog 64 [.v (.isl 6 (ls.map eSv))] b l (fun r b' l'=>r=.v (.bool (SF ls))∧b'=b∧l'=l):=by
 refine XA G7 rfl kE ?_
 intro B g hB hR hE hA;simp only[KA]at hA
 have hln:=hS.len
 simp (disch:=first|decide|omega) only[a_wsvcs,hA,aa,go_sem]
 refine QA.nxt (ZD _ _ _ _ _) ?_
 cases UE:inZ ls.length 1 8
 ·simp (disch:=first|decide|omega) only[hA,go_sem]
  exact ZA (xs:=[.v (.bool false)]) ⟨by unfold SF;rw[UE];rfl,rfl,rfl⟩
 simp (disch:=first|decide|omega) only[hA,aa,go_sem]
 refine JA (ι:=Nat) E1 (fun i=>[(11,.v (.int .i64 i))]) 1 (fun _=>[.live 0 1 [[.v (.isl 6 (ls.map eSv))]]])
  (fun i=>i≤ls.length∧∀j,j<i→svB ls j=true) (fun i=>ls.length-i) 0 ⟨aj _,fun j hj=>by omega⟩ kM kA kF ?_
 rintro g1 ZF bE iA i ⟨hi,h0⟩
 by_cases yA:i<ls.length
 case neg =>
  obtain rfl:i=ls.length:=by omega
  simp (disch:=first|decide|omega) only[hA,iA,go_sem]
  exact ZA (xs:=[.v (.bool true)]) ⟨by rw[pV UE h0];rfl,rfl,rfl⟩
 obtain⟨s,hs⟩:∃s,ls[i]=s:=⟨_,rfl⟩
 have UJ:ls.getD i dfSv=s:=by rw[YA yA,hs]
 have xY:=hS.all s (by rw[←hs];exact ak yA)
 have pK:=UG yA
 rw[hs]at pK
 have Q1:=xY.name
 have hsc:=xY.code
 have vU:=xY.vars
 have F8:svB ls i=(sv1 s i ls.length&&(ls.take i).all fun x=>!(x.name==s.name)):=by unfold svB;rw[UJ]
 have bad:svB ls i=false→AV.v (.bool (SF ls))=.v (.bool false):=fun h=>by rw[K1 yA h]
 simp (disch:=first|decide|omega) only[hA,iA,pK,aa,go_sem]
 refine QA.nxt (I5 _ (by simp only[maxLen];omega) _ _) ?_
 cases t1:lD s.name
 ·simp (disch:=first|decide|omega) only[hA,iA,go_sem]
  exact ZA (xs:=[.v (.bool false)]) ⟨by rw[bad (by rw[F8];unfold sv1;rw[t1];rfl)];rfl,rfl,rfl⟩
 simp (disch:=first|decide|omega) only[hA,iA,aa,go_sem]
 refine QA.nxt (ZD _ _ _ _ _) ?_
 cases t2:inZ s.code.length 1 100
 ·simp (disch:=first|decide|omega) only[hA,iA,go_sem]
  exact ZA (xs:=[.v (.bool false)]) ⟨by rw[bad (by rw[F8];unfold sv1;rw[t1,t2];rfl)];rfl,rfl,rfl⟩
 by_cases t3:s.vars.length≤8
 case neg =>
  have d3:decide ((s.vars.length:Int)>8)=true:=ae oM
  have d3':decide ((8:Int)<(s.vars.length:Int))=true:=d3
  simp (disch:=first|decide|omega) only[hA,iA,d3,d3',aa,go_sem]
  exact ZA (xs:=[.v (.bool false)]) ⟨by rw[bad (by rw[F8];unfold sv1;rw[t1,t2,ag t3];rfl)];rfl,rfl,rfl⟩
 have d3:decide ((s.vars.length:Int)>8)=false:=ag oM
 have d3':decide ((8:Int)<(s.vars.length:Int))=false:=d3
 simp (disch:=first|decide|omega) only[hA,iA,d3,d3',aa,go_sem]
 refine QA.nxt (ZD _ _ _ _ _) ?_
 cases t4:inZ s.pc 0 s.code.length
 ·simp (disch:=first|decide|omega) only[hA,iA,go_sem]
  exact ZA (xs:=[.v (.bool false)]) ⟨by rw[bad (by rw[F8];unfold sv1;rw[t1,t2,ae t3,t4];rfl)];rfl,rfl,rfl⟩
 simp (disch:=first|decide|omega) only[hA,iA,aa,go_sem]
 refine QA.nxt (VQ _ _ _ _ _ _ _ _ (.inl ⟨_,rfl⟩)) ?_
 have hrt:(inZ s.off 0 1000000&&inZ s.rate 500 2000)=XJ s:=rfl
 rw[hrt]
 cases t5:XJ s
 ·simp (disch:=first|decide|omega) only[hA,iA,go_sem]
  exact ZA (xs:=[.v (.bool false)]) ⟨by rw[bad (by rw[F8];unfold sv1;rw[t1,t2,ae t3,t4,t5];rfl)];rfl,rfl,rfl⟩
 simp (disch:=first|decide|omega) only[hA,iA,aa,go_sem]
 refine QA.nxt (FL s.vars _ [] (fun j=>!vlB (s.vars.getD j 0)) vU _ _ (fun j hj=>by
  simp only[YA hj]
  exact G5 _ _ _)) ?_
 rw[fG (p:=fun x=>!vlB x),pF]
 cases t6:s.vars.all vlB
 ·simp (disch:=first|decide|omega) only[hA,iA,go_sem]
  exact ZA (xs:=[.v (.bool false)]) ⟨by rw[bad (by rw[F8];unfold sv1;rw[t1,t2,ae t3,t4,t5,t6];rfl)];rfl,rfl,rfl⟩
 obtain⟨R,hR3⟩:∃R:List Row,R=[.live 0 1 [[.v (.isl 6 (ls.map eSv))]],.live 0 1 [[.v (.int .i64 i)]],xG s]:=⟨_,rfl⟩
 have q0:hget (B++R) [] (B.length+2)=some (xG s):=by rw[AC,cu,aq oM,cj,hR3];rfl
 have q1:hget (B++R) [] (B.length+1)=some (.live 0 1 [[.v (.int .i64 i)]]):=by rw[AC,cu,aq oM,cj,hR3];rfl
 have q2:hget (B++R) [] B.length=some (.live 0 1 [[.v (.isl 6 (ls.map eSv))]]):=by rw[AC,cu,aq oM,ea,hR3];rfl
 have cK:=KD b8 p8 (s.code.map eIn) 122 [.ptr (B.length+2) 0 0 0,.ptr (B.length+1) 0 0 0,.ptr B.length 0 0 0] (fun j=>!XE s.vars.length s.code.length i ls.length (s.code.getD j mN)) ZH6 (by rw[aa];exact hsc) B R (fun j row hj=>by
  have yG:j<s.code.length:=by have:=(am.1 hj).1;rwa [aa]at this
  rw[pI yG]at hj
  cases hj
  simp only[YA yG]
  exact l5 s xY i ls hln _ _ _ _ _ _ q0 q1 q2)
 rw[aa,fG (p:=fun x=>!XE s.vars.length s.code.length i ls.length x),pF]at cK
 have CY:(ls.take i).length=i:=by rw[bg];omega
 have cN:=KD EK LK ((ls.take i).map eSv) 124 [.ptr (B.length+2) 0 0 0] (fun j=>(((ls.take i).getD j dfSv).name==s.name)) JS (by rw[aa];omega) B R (fun j row hj=>by
  have yG:j<(ls.take i).length:=by have:=(am.1 hj).1;rwa [aa]at this
  rw[an,ah yG]at hj
  cases hj
  simp only[YA yG]
  exact p5 s _ _ _ _ q0)
 rw[aa,fG (d:=dfSv) (p:=fun x:Sv=>x.name==s.name)]at cN
 rw[hR3]at cK cN
 unfold xG at cK cN
 simp (disch:=first|decide|omega) only[hA,iA,aa,go_sem]
 refine QA.nxt cK ?_
 cases t7:s.code.all (XE s.vars.length s.code.length i ls.length)
 ·simp (disch:=first|decide|omega) only[hA,iA,go_sem]
  exact ZA (xs:=[.v (.bool false)]) ⟨by rw[bad (by rw[F8];unfold sv1;rw[t1,t2,ae t3,t4,t5,t6,t7];rfl)];rfl,rfl,rfl⟩
 have OH:sv1 s i ls.length=true:=by unfold sv1;rw[t1,t2,ae t3,t4,t5,t6,t7];rfl
 rw[ge]at cN
 simp (disch:=first|decide|omega) only[hA,iA,aa,go_sem]
 refine QA.nxt cN ?_
 have hna:(ls.take i).all (fun x=>!(x.name==s.name))=!(ls.take i).any (fun x=>x.name==s.name):=by
  rw[dr]
  simp[bl,fz]
 cases t8:(ls.take i).any (fun x=>x.name==s.name)
 ·simp (disch:=first|decide|omega) only[hA,iA,go_sem]
  refine⟨i+1,⟨yA,fun j hj=>?_⟩,by simp only;omega,?_⟩
  ·rcases bp j i with fF|fF
   ·exact h0 j fF
   ·obtain rfl:j=i:=by omega
    rw[F8,OH,hna,t8];rfl
  ·exact VA.kround (p:=E1) (k:=1) kQ kA rfl ZF kS kV hR kL
 ·simp (disch:=first|decide|omega) only[hA,iA,go_sem]
  exact ZA (xs:=[.v (.bool false)]) ⟨by rw[bad (by rw[F8,OH,hna,t8];rfl)];rfl,rfl,rfl⟩
def a_r54Serv:AFunc:=({c:=_}:CF Tryz.prog 102).c
theorem nX:qA Tryz.prog 102=some a_r54Serv:=by kernel_rfl
def eS:List (Nat×Nat):=[(6,7),(40,53)]
def fS:List (Nat×Nat):=[(6,6),(8,8),(54,70)]
def a_r54Servs:AFunc:=({c:=_}:CF Tryz.prog 51).c
theorem cU:qA Tryz.prog 51=some a_r54Servs:=by kernel_rfl
def nQ:List (Nat×Nat):=[(2,4),(9,39)]
def tQ:List (Nat×Nat):=[(2,2),(4,4),(24,39)]

theorem sU (s:Sv) (hS:SvS s) (p n:Int) (hn:0≤n∧n≤1000000) (x:In) (b l:List Row):QA Tryz.prog 146 [.agg (zSA s),.agg [.v (.int .i64 x.op),.v (.int .i64 x.a),.v (.int .i64 x.b)],.v (.int .i64 p),.v (.int .i64 n)] b l (fun r b' l'=>r=.v (.bool (XE s.vars.length s.code.length p n x))∧b'=b∧l'=l):=by
 refine XA bU rfl kE ?_
 intro B g hB hR hE hA;simp only[KA]at hA
 have hv:=hS.vars
 have hc:=hS.code
 have hwn:IntKind.i64.wrap (n-1)=n-1:=pA oM oM
 have hwv:IntKind.i64.wrap ((s.vars.length:Int)-1)=(s.vars.length:Int)-1:=pA oM oM
 have hwc:IntKind.i64.wrap ((s.code.length:Int)-1)=(s.code.length:Int)-1:=pA oM oM
 by_cases o:x.op=1
 ·have hr:XE s.vars.length s.code.length p n x=(inZ x.a 0 (s.vars.length-1)&&vlB x.b):=by unfold XE;rw[if_pos oM]
  rw[hr]
  have e1:(x.op==1)=true:=by simp[o]
  have e2:(x.op==2)=false:=by simp[o]
  have e3:(x.op==3)=false:=by simp[o]
  have e4:(x.op==4)=false:=by simp[o]
  have e5:(x.op==5)=false:=by simp[o]
  have e6:(x.op==6)=false:=by simp[o]
  have e7:(x.op==7)=false:=by simp[o]
  have e8:(x.op==8)=false:=by simp[o]
  have dl:decide (x.op<1)=false:=ag oM
  have dg:decide (x.op>8)=false:=ag oM
  have dg':decide (8<x.op)=false:=dg
  simp (disch:=first|decide|omega) only[a_r54Instr,hA,e1,e2,e3,e4,e5,e6,e7,e8,dl,dg,dg',hwn,hwv,hwc,aa,go_sem]
  refine QA.nxt (OB _ _ _ _ _) ?_
  cases h1:inZ x.a 0 (s.vars.length-1)
  ·simp (disch:=first|decide|omega) only[hA,go_sem]
   exact ZA (xs:=[.v (.bool false)]) ⟨by simp[one],rfl,rfl⟩
  ·simp (disch:=first|decide|omega) only[hA,go_sem]
   refine QA.nxt (iJ _ _ _) ?_
   simp (disch:=first|decide|omega) only[hA,go_sem]
   exact ZA (xs:=[.v (.bool (vlB x.b))]) ⟨by simp[one],rfl,rfl⟩
 have o1:=o
 clear o
 by_cases o:x.op=2
 ·have hr:XE s.vars.length s.code.length p n x=(inZ x.a 0 (s.vars.length-1)&&vlB x.b):=by unfold XE;rw[if_pos oM]
  rw[hr]
  have e1:(x.op==1)=false:=by simp[o]
  have e2:(x.op==2)=true:=by simp[o]
  have e3:(x.op==3)=false:=by simp[o]
  have e4:(x.op==4)=false:=by simp[o]
  have e5:(x.op==5)=false:=by simp[o]
  have e6:(x.op==6)=false:=by simp[o]
  have e7:(x.op==7)=false:=by simp[o]
  have e8:(x.op==8)=false:=by simp[o]
  have dl:decide (x.op<1)=false:=ag oM
  have dg:decide (x.op>8)=false:=ag oM
  have dg':decide (8<x.op)=false:=dg
  simp (disch:=first|decide|omega) only[a_r54Instr,hA,e1,e2,e3,e4,e5,e6,e7,e8,dl,dg,dg',hwn,hwv,hwc,aa,go_sem]
  refine QA.nxt (OB _ _ _ _ _) ?_
  cases h1:inZ x.a 0 (s.vars.length-1)
  ·simp (disch:=first|decide|omega) only[hA,go_sem]
   exact ZA (xs:=[.v (.bool false)]) ⟨by simp[one],rfl,rfl⟩
  ·simp (disch:=first|decide|omega) only[hA,go_sem]
   refine QA.nxt (iJ _ _ _) ?_
   simp (disch:=first|decide|omega) only[hA,go_sem]
   exact ZA (xs:=[.v (.bool (vlB x.b))]) ⟨by simp[one],rfl,rfl⟩
 have o2:=o
 clear o
 by_cases o:x.op=3
 ·have hr:XE s.vars.length s.code.length p n x=(inZ x.a 0 (s.vars.length-1)&&(inZ x.b 0 (n-1)&&decide (x.b≠p))):=by unfold XE;rw[if_neg oM,if_pos o]
  rw[hr]
  have e1:(x.op==1)=false:=by simp[o]
  have e2:(x.op==2)=false:=by simp[o]
  have e3:(x.op==3)=true:=by simp[o]
  have e4:(x.op==4)=false:=by simp[o]
  have e5:(x.op==5)=false:=by simp[o]
  have e6:(x.op==6)=false:=by simp[o]
  have e7:(x.op==7)=false:=by simp[o]
  have e8:(x.op==8)=false:=by simp[o]
  have dl:decide (x.op<1)=false:=ag oM
  have dg:decide (x.op>8)=false:=ag oM
  have dg':decide (8<x.op)=false:=dg
  simp (disch:=first|decide|omega) only[a_r54Instr,hA,e1,e2,e3,e4,e5,e6,e7,e8,dl,dg,dg',hwn,hwv,hwc,aa,go_sem]
  refine QA.nxt (OB _ _ _ _ _) ?_
  cases h1:inZ x.a 0 (s.vars.length-1)
  ·simp (disch:=first|decide|omega) only[hA,go_sem]
   exact ZA (xs:=[.v (.bool false)]) ⟨by simp[one],rfl,rfl⟩
  ·simp (disch:=first|decide|omega) only[hA,hwn,go_sem]
   refine QA.nxt (OB _ _ _ _ _) ?_
   cases h2:inZ x.b 0 (n-1)
   ·simp (disch:=first|decide|omega) only[hA,go_sem]
    exact ZA (xs:=[.v (.bool false)]) ⟨by simp[one],rfl,rfl⟩
   ·have hb:(x.b != p)=decide (x.b≠p):=by by_cases h:x.b=p<;>simp[h]
    simp (disch:=first|decide|omega) only[hA,hb,go_sem]
    exact ZA (xs:=[.v (.bool (decide (x.b≠p)))]) ⟨by simp[one],rfl,rfl⟩
 have o3:=o
 clear o
 by_cases o:x.op=4
 ·have hr:XE s.vars.length s.code.length p n x=inZ x.a 0 (s.vars.length-1):=by unfold XE;rw[if_neg oM,if_neg oM,if_pos o]
  rw[hr]
  have e1:(x.op==1)=false:=by simp[o]
  have e2:(x.op==2)=false:=by simp[o]
  have e3:(x.op==3)=false:=by simp[o]
  have e4:(x.op==4)=true:=by simp[o]
  have e5:(x.op==5)=false:=by simp[o]
  have e6:(x.op==6)=false:=by simp[o]
  have e7:(x.op==7)=false:=by simp[o]
  have e8:(x.op==8)=false:=by simp[o]
  have dl:decide (x.op<1)=false:=ag oM
  have dg:decide (x.op>8)=false:=ag oM
  have dg':decide (8<x.op)=false:=dg
  simp (disch:=first|decide|omega) only[a_r54Instr,hA,e1,e2,e3,e4,e5,e6,e7,e8,dl,dg,dg',hwn,hwv,hwc,aa,go_sem]
  refine QA.nxt (OB _ _ _ _ _) ?_
  simp (disch:=first|decide|omega) only[hA,go_sem]
  exact ZA (xs:=[.v (.bool (inZ x.a 0 (s.vars.length-1)))])
 have o4:=o
 clear o
 by_cases o:x.op=5
 ·have hr:XE s.vars.length s.code.length p n x=(inZ x.a 0 (s.vars.length-1)&&inZ x.b 0 (s.code.length-1)):=by unfold XE;rw[if_neg oM,if_neg oM,if_neg oM,if_pos o]
  rw[hr]
  have e1:(x.op==1)=false:=by simp[o]
  have e2:(x.op==2)=false:=by simp[o]
  have e3:(x.op==3)=false:=by simp[o]
  have e4:(x.op==4)=false:=by simp[o]
  have e5:(x.op==5)=true:=by simp[o]
  have e6:(x.op==6)=false:=by simp[o]
  have e7:(x.op==7)=false:=by simp[o]
  have e8:(x.op==8)=false:=by simp[o]
  have dl:decide (x.op<1)=false:=ag oM
  have dg:decide (x.op>8)=false:=ag oM
  have dg':decide (8<x.op)=false:=dg
  simp (disch:=first|decide|omega) only[a_r54Instr,hA,e1,e2,e3,e4,e5,e6,e7,e8,dl,dg,dg',hwn,hwv,hwc,aa,go_sem]
  refine QA.nxt (OB _ _ _ _ _) ?_
  cases h1:inZ x.a 0 (s.vars.length-1)
  ·simp (disch:=first|decide|omega) only[hA,go_sem]
   exact ZA (xs:=[.v (.bool false)]) ⟨by simp[one],rfl,rfl⟩
  ·simp (disch:=first|decide|omega) only[hA,hwv,hwc,go_sem]
   refine QA.nxt (OB _ _ _ _ _) ?_
   simp (disch:=first|decide|omega) only[hA,go_sem]
   exact ZA (xs:=[.v (.bool (inZ x.b 0 (s.code.length-1)))]) ⟨by simp[one],rfl,rfl⟩
 have o5:=o
 clear o
 by_cases o:x.op=6
 ·have hr:XE s.vars.length s.code.length p n x=(inZ x.a 0 (s.code.length-1)&&inZ x.b 0 (s.vars.length-1)):=by unfold XE;rw[if_neg oM,if_neg oM,if_neg oM,if_neg oM,if_pos o]
  rw[hr]
  have e1:(x.op==1)=false:=by simp[o]
  have e2:(x.op==2)=false:=by simp[o]
  have e3:(x.op==3)=false:=by simp[o]
  have e4:(x.op==4)=false:=by simp[o]
  have e5:(x.op==5)=false:=by simp[o]
  have e6:(x.op==6)=true:=by simp[o]
  have e7:(x.op==7)=false:=by simp[o]
  have e8:(x.op==8)=false:=by simp[o]
  have dl:decide (x.op<1)=false:=ag oM
  have dg:decide (x.op>8)=false:=ag oM
  have dg':decide (8<x.op)=false:=dg
  simp (disch:=first|decide|omega) only[a_r54Instr,hA,e1,e2,e3,e4,e5,e6,e7,e8,dl,dg,dg',hwn,hwv,hwc,aa,go_sem]
  refine QA.nxt (OB _ _ _ _ _) ?_
  cases h1:inZ x.a 0 (s.code.length-1)
  ·simp (disch:=first|decide|omega) only[hA,go_sem]
   exact ZA (xs:=[.v (.bool false)]) ⟨by simp[one],rfl,rfl⟩
  ·simp (disch:=first|decide|omega) only[hA,hwv,hwc,go_sem]
   refine QA.nxt (OB _ _ _ _ _) ?_
   simp (disch:=first|decide|omega) only[hA,go_sem]
   exact ZA (xs:=[.v (.bool (inZ x.b 0 (s.vars.length-1)))]) ⟨by simp[one],rfl,rfl⟩
 have o6:=o
 clear o
 have hr:XE s.vars.length s.code.length p n x=decide (x.op=7∨x.op=8):=by unfold XE;rw[if_neg oM,if_neg oM,if_neg oM,if_neg oM,if_neg oM]
 rw[hr]
 have e1:(x.op==1)=false:=by simpa using o1
 have e2:(x.op==2)=false:=by simpa using o2
 have e3:(x.op==3)=false:=by simpa using o3
 have e4:(x.op==4)=false:=by simpa using o4
 have e5:(x.op==5)=false:=by simpa using o5
 have e6:(x.op==6)=false:=by simpa using o6
 by_cases hl:x.op<1
 ·have dl:=ae hl
  simp (disch:=first|decide|omega) only[a_r54Instr,hA,dl,aa,go_sem]
  exact ZA (xs:=[.v (.bool false)]) ⟨by rw[ag oM];rfl,rfl,rfl⟩
 have dl:=ag hl
 by_cases hg:8<x.op
 ·have dg:=ae hg
  simp (disch:=first|decide|omega) only[a_r54Instr,hA,dl,dg,aa,go_sem]
  exact ZA (xs:=[.v (.bool false)]) ⟨by rw[ag oM];rfl,rfl,rfl⟩
 have dg:=ag hg
 simp (disch:=first|decide|omega) only[a_r54Instr,hA,dl,dg,e1,e2,e3,e4,e5,e6,aa,go_sem]
 exact ZA (xs:=[.v (.bool true)]) ⟨by rw[ae oM];rfl,rfl,rfl⟩
theorem KX (s:Sv) (hS:SvS s) (p n:Int) (hn:0≤n∧n≤1000000) (b l:List Row):QA Tryz.prog 102 [.agg (zSA s),.v (.int .i64 p),.v (.int .i64 n)] b l (fun r b' l'=>r=.v (.bool (sv1 s p n))∧b'=b∧l'=l):=by
 refine XA nX rfl kE ?_
 intro B g hB hR hE hA;simp only[KA]at hA
 have Q1:=hS.name
 have vU:=hS.vars
 have hsc:=hS.code
 simp (disch:=first|decide|omega) only[a_r54Serv,hA,go_sem]
 refine QA.nxt (cI _ (by simp only[maxLen];omega) _ _) ?_
 cases t1:lD s.name
 ·simp (disch:=first|decide|omega) only[hA,go_sem]
  exact ZA (xs:=[.v (.bool false)]) ⟨by unfold sv1;rw[t1];rfl,rfl,rfl⟩
 simp (disch:=first|decide|omega) only[hA,aa,go_sem]
 refine QA.nxt (OB _ _ _ _ _) ?_
 cases t2:inZ s.code.length 1 100
 ·simp (disch:=first|decide|omega) only[hA,go_sem]
  exact ZA (xs:=[.v (.bool false)]) ⟨by unfold sv1;rw[t1,t2];rfl,rfl,rfl⟩
 by_cases t3:s.vars.length≤8
 case neg =>
  have d3:decide ((s.vars.length:Int)>8)=true:=ae oM
  have d3':decide ((8:Int)<(s.vars.length:Int))=true:=d3
  simp (disch:=first|decide|omega) only[hA,d3,d3',aa,go_sem]
  exact ZA (xs:=[.v (.bool false)]) ⟨by unfold sv1;rw[t1,t2,ag t3];rfl,rfl,rfl⟩
 have d3:decide ((s.vars.length:Int)>8)=false:=ag oM
 have d3':decide ((8:Int)<(s.vars.length:Int))=false:=d3
 simp (disch:=first|decide|omega) only[hA,d3,d3',aa,go_sem]
 refine QA.nxt (OB _ _ _ _ _) ?_
 cases t4:inZ s.pc 0 s.code.length
 ·simp (disch:=first|decide|omega) only[hA,go_sem]
  exact ZA (xs:=[.v (.bool false)]) ⟨by unfold sv1;rw[t1,t2,ae t3,t4];rfl,rfl,rfl⟩
 simp (disch:=first|decide|omega) only[hA,go_sem]
 refine QA.nxt (xN _ _ _ _ s _ _) ?_
 cases t5:XJ s
 ·simp (disch:=first|decide|omega) only[hA,go_sem]
  exact ZA (xs:=[.v (.bool false)]) ⟨by unfold sv1;rw[t1,t2,ae t3,t4,t5];rfl,rfl,rfl⟩
 simp (disch:=first|decide|omega) only[hA,aa,go_sem]
 refine JA (ι:=Nat) eS (fun i=>[(7,.v (.int .i64 i))]) 1 (fun _=>[xG s])
  (fun i=>i≤s.vars.length∧∀j,j<i→vlB (s.vars.getD j 0)=true) (fun i=>s.vars.length-i) 0 ⟨aj _,fun j hj=>by omega⟩ kM kA kF ?_
 rintro g1 ZF bE iA i ⟨hi,h0⟩
 unfold xG
 by_cases yA:i<s.vars.length
 ·have EH:=aC yA
  simp (disch:=first|decide|omega) only[hA,iA,EH,aa,go_sem]
  refine QA.nxt (iJ _ _ _) ?_
  cases q:vlB (s.vars.getD i 0)
  ·simp (disch:=first|decide|omega) only[hA,iA,go_sem]
   exact ZA (xs:=[.v (.bool false)]) ⟨by unfold sv1;rw[t1,t2,ae t3,t4,t5,show s.vars.all vlB=false from ep.2 ⟨s.vars.getD i 0,by rw[YA yA];exact ak yA,by rw[q];simp⟩];rfl,rfl,rfl⟩
  ·simp (disch:=first|decide|omega) only[hA,iA,go_sem]
   refine⟨i+1,⟨yA,fun j hj=>?_⟩,by simp only;omega,?_⟩
   ·rcases bp j i with fF|fF
    ·exact h0 j fF
    ·obtain rfl:j=i:=by omega
     exact q
   ·exact VA.kround (p:=eS) (k:=1) kQ kA rfl ZF kS kV hR kL
 obtain rfl:i=s.vars.length:=by omega
 have t6:s.vars.all vlB=true:=by
  rw[bl]
  intro x hx
  obtain⟨j,hj,rfl⟩:=cq hx
  rw[←YA (d:=0) hj]
  exact h0 j hj
 simp (disch:=first|decide|omega) only[hA,iA,aa,go_sem]
 refine JA (ι:=Nat) fS (fun i=>[(8,.v (.int .i64 i))]) 1 (fun _=>[xG s])
  (fun i=>i≤s.code.length∧∀j,j<i→XE s.vars.length s.code.length p n (s.code.getD j mN)=true) (fun i=>s.code.length-i) 0 ⟨aj _,fun j hj=>by omega⟩ kM kA kF ?_
 rintro g2 IJ ZO GD i ⟨hi2,h02⟩
 unfold xG
 by_cases yA:i<s.code.length
 ·have EH:=pI yA
  simp (disch:=first|decide|omega) only[hA,iA,GD,EH,aa,go_sem]
  refine QA.nxt (sU s hS p n hn s.code[i] _ _) ?_
  rw[←YA (d:=mN) yA]
  cases q:XE s.vars.length s.code.length p n (s.code.getD i mN)
  ·simp (disch:=first|decide|omega) only[hA,iA,GD,go_sem]
   exact ZA (xs:=[.v (.bool false)]) ⟨by unfold sv1;rw[t1,t2,ae t3,t4,t5,t6,show s.code.all (XE s.vars.length s.code.length p n)=false from ep.2 ⟨s.code.getD i mN,by rw[YA yA];exact ak yA,by rw[q];simp⟩];rfl,rfl,rfl⟩
  ·simp (disch:=first|decide|omega) only[hA,iA,GD,go_sem]
   refine⟨i+1,⟨yA,fun j hj=>?_⟩,by simp only;omega,?_⟩
   ·rcases bp j i with fF|fF
    ·exact h02 j fF
    ·obtain rfl:j=i:=by omega
     exact q
   ·exact VA.kround (p:=fS) (k:=1) kQ kA rfl IJ kS kV hR kL
 obtain rfl:i=s.code.length:=by omega
 have t7:s.code.all (XE s.vars.length s.code.length p n)=true:=by
  rw[bl]
  intro x hx
  obtain⟨j,hj,rfl⟩:=cq hx
  rw[←YA (d:=mN) hj]
  exact h02 j hj
 simp (disch:=first|decide|omega) only[hA,iA,GD,aa,go_sem]
 exact ZA (xs:=[.v (.bool true)]) ⟨by unfold sv1;rw[t1,t2,ae t3,t4,t5,t6,t7];rfl,rfl,rfl⟩
theorem rU (ls:List Sv) (hS:SvsS ls) (b l:List Row):QA Tryz.prog 51 [.v (.isl 6 (ls.map eSv))] b l (fun r b' l'=>r=.v (.bool (SF ls))∧b'=b∧l'=l):=by
 refine XA cU rfl kE ?_
 intro B g hB hR hE hA;simp only[KA]at hA
 have hln:=hS.len
 simp (disch:=first|decide|omega) only[a_r54Servs,hA,aa,go_sem]
 refine QA.nxt (OB _ _ _ _ _) ?_
 cases UE:inZ ls.length 1 8
 ·simp (disch:=first|decide|omega) only[hA,go_sem]
  exact ZA (xs:=[.v (.bool false)]) ⟨by unfold SF;rw[UE];rfl,rfl,rfl⟩
 simp (disch:=first|decide|omega) only[hA,aa,go_sem]
 refine JA (ι:=Nat) nQ (fun i=>[(3,.v (.int .i64 i))]) 0 (fun _=>[])
  (fun i=>i≤ls.length∧∀j,j<i→svB ls j=true) (fun i=>ls.length-i) 0 ⟨aj _,fun j hj=>by omega⟩ kM kA kF ?_
 rintro g1 ZF bE iA i ⟨hi,h0⟩
 by_cases yA:i<ls.length
 case neg =>
  obtain rfl:i=ls.length:=by omega
  simp (disch:=first|decide|omega) only[hA,iA,aa,go_sem]
  exact ZA (xs:=[.v (.bool true)]) ⟨by rw[pV UE h0];rfl,rfl,rfl⟩
 obtain⟨s,hs⟩:∃s,ls[i]=s:=⟨_,rfl⟩
 have UJ:ls.getD i dfSv=s:=by rw[YA yA,hs]
 have xY:=hS.all s (by rw[←hs];exact ak yA)
 have pK:=UG yA
 rw[hs]at pK
 have F8:svB ls i=(sv1 s i ls.length&&(ls.take i).all fun x=>!(x.name==s.name)):=by unfold svB;rw[UJ]
 have bad:svB ls i=false→AV.v (.bool (SF ls))=.v (.bool false):=fun h=>by rw[K1 yA h]
 simp (disch:=first|decide|omega) only[hA,iA,pK,aa,go_sem]
 refine QA.nxt (KX s xY _ _ oM _ _) ?_
 cases t1:sv1 s i ls.length
 ·simp (disch:=first|decide|omega) only[hA,iA,go_sem]
  exact ZA (xs:=[.v (.bool false)]) ⟨by rw[bad (by rw[F8,t1];rfl)];rfl,rfl,rfl⟩
 simp (disch:=first|decide|omega) only[hA,iA,aa,go_sem]
 refine JA (ι:=Nat) tQ (fun k=>[(4,.v (.int .i64 k))]) 0 (fun _=>[])
  (fun k=>k≤i∧∀j,j<k→((ls.getD j dfSv).name==s.name)=false) (fun k=>i-k) 0 ⟨aj _,fun j hj=>by omega⟩ kM kA kF ?_
 rintro g2 IJ ZO GD k ⟨hk,h02⟩
 by_cases FJ:k<i
 ·have hgk:=UG (show k<ls.length by omega)
  have ZNM:ls.getD k dfSv=ls[k]:=YA oM
  cases q:(ls[k].name==s.name)
  ·simp (disch:=first|decide|omega) only[hA,iA,GD,pK,hgk,q,aa,go_sem]
   refine⟨k+1,⟨FJ,fun j hj=>?_⟩,by simp only;omega,?_⟩
   ·rcases bp j k with fF|fF
    ·exact h02 j fF
    ·obtain rfl:j=k:=by omega
     rw[ZNM];exact q
   ·exact VA.kround (p:=tQ) (k:=0) kQ kA rfl IJ kS kV hR kL
  ·simp (disch:=first|decide|omega) only[hA,iA,GD,pK,hgk,q,aa,go_sem]
   exact ZA (xs:=[.v (.bool false)]) ⟨by rw[bad (by rw[F8,t1,ia,ep];exact⟨ls[k],ek.2 ⟨k,by rw[de,if_pos FJ,ah oM]⟩,by rw[q];simp⟩)];rfl,rfl,rfl⟩
 ·obtain rfl:k=i:=by omega
  have wF:(ls.take k).all (fun x=>!(x.name==s.name))=true:=by
   rw[bl]
   intro x hx
   obtain⟨j,hj,rfl⟩:=cq hx
   have hj2:j<k:=by rw[bg]at hj;omega
   have:=h02 j hj2
   rw[YA oM]at this
   rw[List.getElem_take,this];rfl
  simp (disch:=first|decide|omega) only[hA,iA,GD,aa,go_sem]
  refine⟨k+1,⟨yA,fun j hj=>?_⟩,by simp only;omega,?_⟩
  ·rcases bp j k with fF|fF
   ·exact h0 j fF
   ·obtain rfl:j=k:=by omega
    rw[F8,t1,wF];rfl
  ·exact VA.kround (p:=nQ) (k:=0) kQ kA rfl ZF kS kV hR kL
end Go.Proofs.YtmaokjojbjdpoaaGreatDoor
