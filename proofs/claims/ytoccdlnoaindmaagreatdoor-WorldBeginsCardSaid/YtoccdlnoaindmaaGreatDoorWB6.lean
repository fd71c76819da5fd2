/- Texts of one proof, laid together: NE, NF, NH, NI, B1, WV, PB, WL, PF, WJ, WK, WY, B2, B3, B4. No condition. -/
import Derived.Test.YtoccdlnoaindmaaGreatDoorWB5
import Derived.Test.YtoccdlnoaindmaaGreatDoorWB3
import Derived.Test.YtoccdlnoaindmaaGreatDoorWB4
import Derived.Test.YtoccdlnoaindmaaGreatDoorWB2
import Derived.KernelRfl
import Derived.Test.YtoccdlnoaindmaaGreatDoorProg
set_option maxHeartbeats 8000000
set_option maxRecDepth 20000
namespace Go.Proofs.YtoccdlnoaindmaaGreatDoor
set_option maxHeartbeats 16000000
set_option maxRecDepth 100000
set_option linter.unusedVariables false
set_option linter.unusedSimpArgs false
attribute [local go_sem ↓] aB EA IB RB tC yB GB nC DB IC pA vB bB nA jB eB aA iB EB CA mA SB wB xB QB uB XB pB qB pC TB mC lC sD GC tD nD gC rC
attribute [local go_sem] AA lA gD YB bA rD bC eC fC QI XI aC MB LB FB uC uA lB eA mB fA ZB aop YE jD ZD VC QD OB XD pH GE tE amm vE AB rB dE OC nE comma RC aE nH bE eE YH iE xE kD XH eqC eqF rF cellsOf YA aD lD uE PG rd rdI TD mk MC AV.cell List.all_cons List.all_nil Bool.and_true Bool.true_and Bool.and_self List.length_cons List.length_nil List.length_append Nat.reduceAdd Nat.reduceSub Nat.reduceMul Nat.zero_add Nat.add_zero List.cons_append List.nil_append List.append_assoc List.append_nil List.getElem?_cons_zero List.getElem?_cons_succ List.getElem?_nil List.set_cons_zero List.set_cons_succ List.drop_zero List.drop_succ_cons List.take_zero List.take_succ_cons List.take_nil List.drop_nil List.map_cons List.map_nil Option.map_some if_true if_false Bool.false_eq_true and_self true_and and_true Nat.reduceLeDiff Nat.reduceLT Nat.le_refl Nat.reduceEqDiff ite_true ite_false beq_self_eq_true beq_true beq_false Bool.not_true Bool.not_false Bool.true_beq Bool.false_beq XE XC sB JD KD jC qC zC KC UD VD QE VB QJ DI XJ ZJ eF lF bF fF geI gtI aF decide_true decide_false room List.getElem?_map List.length_map List.length_take Int.toNat_natCast Nat.min_def Nat.min_self fD dD VE QC ED ZG xA List.getElem_cons_zero List.getElem_cons_succ
def a_nSend:AFunc:=({c:=_}:CF Tryz.prog 169).c
theorem Z0:dA Tryz.prog 169=some a_nSend:=by kernel_rfl
def JL:List (Nat×Nat):=[(7,9),(44,72)]
def XX:List (Nat×Nat):=[(96,113)]

theorem qA.namedAll {N:Nat} {f:Nat→AV} {b l:List Row} (ov:List (Nat×AV)) (h:ZG f ov):qA (kOf N f) b l (kOf N (kOv ov (fun _=>.any))) b l:=by
 intro F L w a s he
 refine⟨F,L,s,⟨he.1,by rw[he.2.1,PH,PH],fun i x v hx hv=>?_⟩,Step.refl _ _ _ _ _,rfl⟩
 rw[LE]at hx
 split at hx
 ·rename_i hi
  cases hx
  rcases kOv_get (ov:=ov) (f:=fun _=>AV.any) (i:=i) with hg|hg
  ·rw[hg];exact .any v
  ·rw[←h.mem hg]
   exact he.2.2 i _ v (by rw[LE,if_pos hi]) hv
 ·cases hx
def hdF (n:Nw):Int×Int:=n.fates.headD (1,0)
def SX (n:Nw):Nat:=if n.fates=[] then 0 else 1
def sdX (n:Nw) (m:Ms) (k:Nat):Nat→List (Ms×Nat)
 |0=>(UC n).xs
 |c+1=>(sdX n m k c).take k++[(m,n.l.length+c)]++(sdX n m k c).drop k
def sdT (n:Nw) (a:Int) (k:Nat):Nat→List Int
 |0=>n.tm
 |c+1=>(sdT n a k c).take k++[a]++(sdT n a k c).drop k
theorem z4 {α:Type} {l:List α} {x:α} {k:Nat}:(l.take k++[x]++l.drop k).length=l.length+1:=by
 simp only[List.length_append,List.length_take,List.length_drop,List.length_cons,List.length_nil];omega
theorem uN {n:Nw} {m:Ms} {k:Nat}:∀c,(sdX n m k c).length=n.l.length+c
 |0=>fB
 |c+1=>by rw[sdX,z4,uN c];omega
theorem iN {n:Nw} {a:Int} {k:Nat}:∀c,(sdT n a k c).length=n.tm.length+c
 |0=>rfl
 |c+1=>by rw[sdT,z4,iN c];omega
theorem U4 {α:Type} {l:List α} {x:α} {k c:Nat} (hk:k≤l.length):(l.take k++List.replicate c x++l.drop k).take k++[x]++(l.take k++List.replicate c x++l.drop k).drop k=l.take k++List.replicate (c+1) x++l.drop k:=by
 have hl:(l.take k).length=k:=by rw[List.length_take];omega
 rw[List.append_assoc (l.take k),List.take_append_of_le_length oM,List.drop_append_of_le_length oM,List.take_of_length_le (l:=l.take k) oM,List.drop_of_length_le (l:=l.take k) oM,List.replicate_succ]
 simp
theorem Q3 {n:Nw} {m:Ms} {k:Nat} (hk:k≤n.l.length):∀c,(sdX n m k c).map (·.1)=n.l.take k++List.replicate c m++n.l.drop k
 |0=>by
   have:(UC n).xs.map (·.1)=n.l:=congrArg Nw.l (XO n)
   rw[sdX,this,List.replicate_zero,List.append_nil,List.take_append_drop]
 |c+1=>by
   rw[sdX,List.map_append,List.map_append,List.map_take,List.map_drop,Q3 hk c]
   exact U4 hk
theorem ZBE {n:Nw} {a:Int} {k:Nat} (hk:k≤n.tm.length):∀c,sdT n a k c=n.tm.take k++List.replicate c a++n.tm.drop k
 |0=>by simp[sdT]
 |c+1=>by rw[sdT,ZBE hk c,U4 hk]
def sdB (n:Nw) (m:Ms) (j:Nat):List Int:=if j<n.l.length then (n.l.getD j dfMs).body else m.body
def J2 (n:Nw) (m:Ms) (c:Nat):Lv:=⟨n.now,n.fifo,1+c,1+c,SX n,sdX n m (leN n.tm (mG n m)) c,sdT n (mG n m) (leN n.tm (mG n m)) c,n.fates,fl (n.l.length+c) (sdB n m)⟩
theorem CU {n:Nw} {m:Ms} {k:Nat}:∀c,∀x∈sdX n m k c,x.2<n.l.length+c∧sdB n m x.2=x.1.body
 |0,x,hx=>by
   obtain⟨i,hi,rfl⟩:=List.mem_map.1 hx
   have hi:=List.mem_range.1 hi
   refine⟨hi,?_⟩
   unfold sdB;rw[if_pos hi]
 |c+1,x,hx=>by
   rw[sdX]at hx
   simp only[List.mem_append,List.mem_singleton]at hx
   have ih:=CU (n:=n) (m:=m) (k:=k) c
   rcases hx with (hx|rfl)|hx
   ·have:=ih x (List.mem_of_mem_take hx);exact⟨by omega,this.2⟩
   ·refine⟨by simp only;omega,?_⟩
    unfold sdB;rw[if_neg (by simp only;omega)]
   ·have:=ih x (List.mem_of_mem_drop hx);exact⟨by omega,this.2⟩
theorem ZCr {n:Nw}:SX n≤n.fates.length:=by
 unfold SX
 split
 ·exact Nat.zero_le _
 ·rename_i h
  cases hf:n.fates with
  |nil=>exact absurd hf h
  |cons x r=>simp
theorem Y3 {n:Nw} {m:Ms} {c:Nat}:(J2 n m c).ok:=by
 refine⟨ZCr,fun x hx=>?_⟩
 obtain⟨h1,h2⟩:=CU c x hx
 show (fl (n.l.length+c) (sdB n m))[x.2]? = _
 rw[VF h1,h2]
def yP (n:Nw) (m:Ms):Int:=if nwB n=true then (if msB m=true then sdE n m else 1) else 1
def Y2 (n:Nw) (m:Ms):Option Lv:=if yP n m=0 then some (J2 n m (vS n).toNat) else none
def ZBl (n:Nw) (m:Ms):Nw:=if yP n m=0 then qS n m (mG n m) (vS n).toNat else nw0
theorem ZCX {n:Nw} {m:Ms}:∀y,Y2 n m=some y→y.ok:=by
 intro y h
 unfold Y2 at h
 split at h
 ·cases h;exact Y3
 ·cases h
theorem z6 {n:Nw}:n.fates.drop (SX n)=n.fates.drop 1:=by
 unfold SX
 split
 ·rename_i h;rw[h];rfl
 ·rfl
theorem ZCY {n:Nw} {m:Ms}:s8 (Y2 n m)=ZBl n m:=by
 unfold Y2 ZBl
 split
 ·rename_i h
  have hv:NwV n:=by
   unfold yP at h
   split at h
   ·rename_i h1;exact VG.1 h1
   ·cases h
  have hl:=hv.len
  have rK:=xR (l:=n.tm) (a:=mG n m)
  unfold s8 Lv.nw J2 qS
  simp only
  rw[Q3 oM,ZBE rK,z6]
 ·rfl
theorem RK {n:Nw} {base:Nat}:(UC n).rows base=.live 1 4 ((UC n).xs.map (lvE base))::.live 1 1 (vs (n.tm.map eI))::.live 1 2 (vs (n.fates.map eFt))::fl n.l.length (clB n):=by
 have h:(n.l.map (·.body)).map bdR=fl n.l.length (clB n):=by
  apply List.ext_getElem?
  intro j
  by_cases hj:j<n.l.length
  ·rw[VF hj,List.map_map,List.getElem?_map,List.getElem?_eq_getElem hj]
   unfold clB;rw[KA hj];rfl
  ·rw[YK oM,List.getElem?_eq_none (by simp;omega)]
 unfold Lv.rows
 show _::_::_::(n.l.map (·.body)).map bdR=_
 rw[h];rfl
theorem ZAf {n:Nw} {base i:Nat} (h:i<n.l.length):((UC n).xs.map (lvE base))[i]? = some [.v (.int .i64 n.l[i].fr),.v (.int .i64 n.l[i].to),.v (.int .i64 n.l[i].nu),.sl (base+(3+i)) 1 0 n.l[i].body.length]:=by
 have hx:(UC n).xs=fl n.l.length (fun i=>(n.l.getD i dfMs,i)):=rfl
 rw[hx,List.getElem?_map,VF h,KA h];rfl
def sdN (n:Nw) (B:Nat) (vL vA kL kA:Nat):Row:=.live 0 5 [[.v (.int .i64 n.now),.v (.bool n.fifo),.sl (B+3) vL 0 kL,.sl (B+4) vA 0 kA,.sl (B+5) 1 (SX n) (n.fates.length-SX n)]]
def sdM (m:Ms):Row:=.live 0 4 [[.v (.int .i64 m.fr),.v (.int .i64 m.to),.v (.int .i64 m.nu),.v (.isl 1 (m.body.map eI))]]
def sdO:Row:=.live 0 5 [[.v (.int .i64 0),.v (.bool false),.v .zsl,.v .zsl,.v .zsl]]
def sdF (n:Nw):Row:=.live 0 2 [[.v (.int .i64 (hdF n).1),.v (.int .i64 (hdF n).2)]]
theorem qA.ktrim {N:Nat} {f:Nat→AV} {b l l1 junk:List Row} (ov:List (Nat×AV)) (h:ZG f ov) (hl:l=l1++junk) (ho:MK (b.length+l1.length) ov) (hb:SA b.length b) (h1:SA (b.length+l1.length) l1) :
  qA (kOf N f) b l (kOf N (kOv ov (fun _=>.any))) b l1:=by
 have hE:KLt (b.length+l1.length) (fun _=>AV.any):=fun _=>.any
 exact (qA.namedAll ov h).trans (qA.trim hl ((hE.ov ho).env) (hb.mono oM) h1)
theorem ZBM {xs:List (Ms×Nat)} {c base M:Nat} (h:∀x∈xs,x.2<c) (hM:base+(3+c)≤M):∀row∈xs.map (lvE base),∀a∈row,AVlt M a:=by
 intro row hr a ha
 obtain⟨x,hx,rfl⟩:=List.mem_map.1 hr
 have:=h x hx
 unfold lvE at ha
 simp only[List.mem_cons,List.not_mem_nil,or_false]at ha
 rcases ha with rfl|rfl|rfl|rfl
 ·exact .v _
 ·exact .v _
 ·exact .v _
 ·exact .sl _ _ _ _ oM
theorem RS {n:Nw} {m:Ms} {B vL vA kL kA M wL wA:Nat} {X:List (List AV)} {tv fv:List (List IV)} {T:List Row} (hM:B+6≤M) (hX:∀row∈X,∀c∈row,AVlt M c) (hT:SA M T) :
  SA M (sdN n B vL vA kL kA::sdM m::sdO::.live wL 4 X::.live wA 1 (vs tv)::.live 1 2 (vs fv)::T):=by
 unfold sdN sdM sdO
 refine UE.2 ⟨by simp (disch:=omega) only[lts.down,Nat.reduceLT,Nat.reduceAdd],UE.2 ⟨by simp (disch:=omega) only[lts.down,Nat.reduceLT,Nat.reduceAdd],UE.2 ⟨by simp (disch:=omega) only[lts.down,Nat.reduceLT,Nat.reduceAdd],UE.2 ⟨hX,UE.2 ⟨qK.2 trivial,UE.2 ⟨qK.2 trivial,hT⟩⟩⟩⟩⟩⟩
theorem SA.app {M:Nat} {a c:List Row} (h1:SA M a) (h2:SA M c):SA M (a++c):=by
 intro id ver sz els h
 by_cases hid:id<a.length
 ·rw[List.getElem?_append_left hid]at h;exact h1 id ver sz els h
 ·rw[List.getElem?_append_right oM]at h;exact h2 _ ver sz els h
theorem SA.flB {M k:Nat} {g:Nat→List Int}:SA M (fl k fun j=>bdR (g j)):=by
 intro id ver sz els h row hr c hc
 by_cases hid:id<k
 ·rw[VF hid]at h
  cases h
  obtain⟨r0,_,rfl⟩:=List.mem_map.1 hr
  obtain⟨x0,_,rfl⟩:=List.mem_map.1 hc
  exact .v _
 ·rw[YK oM]at h;cases h
theorem ZDS {n:Nw}:∀x∈(UC n).xs,x.2<n.l.length:=fun x hx=>(CU (n:=n) (m:=dfMs) (k:=0) 0 x hx).1
def DG (n:Nw) (m:Ms) (B c:Nat):List Row:=sdN n B (1+c) (1+c) (n.l.length+c) (n.tm.length+c)::sdM m::sdO::.live (1+c) 4 ((sdX n m (leN n.tm (mG n m)) c).map (lvE (B+3)))::.live (1+c) 1 (vs ((sdT n (mG n m) (leN n.tm (mG n m)) c).map eI))::.live 1 2 (vs (n.fates.map eFt))::fl (n.l.length+c) (fun j=>bdR (sdB n m j))
theorem NJ {n:Nw} {m:Ms} {B c:Nat}:(DG n m B c).length=n.l.length+c+6:=by unfold DG;simp[fB]
theorem DS {n:Nw} {m:Ms} {B c:Nat}:SA (B+(DG n m B c).length) (DG n m B c):=by
 rw[NJ]
 exact RS oM (ZBM (fun x hx=>(CU c x hx).1) oM) SA.flB
theorem fV {n:Nw} {m:Ms} {B:Nat}:DG n m B 0=sdN n B 1 1 n.l.length n.tm.length::sdM m::sdO::.live 1 4 ((UC n).xs.map (lvE (B+3)))::.live 1 1 (vs (n.tm.map eI))::.live 1 2 (vs (n.fates.map eFt))::fl n.l.length (clB n):=by
 have h:fl (n.l.length+0) (fun j=>bdR (sdB n m j))=fl n.l.length (clB n):=by
  refine ZAZ (fun i hi=>?_)
  unfold clB sdB
  rw[if_pos oM]
 unfold DG
 rw[h]
 rfl
theorem eV {n:Nw} {m:Ms} {B c K:Nat} (hK:leN n.tm (mG n m)=K):DG n m B (c+1)=sdN n B (1+c+1) (1+c+1) (n.l.length+c+1) (n.tm.length+c+1)::sdM m::sdO ::
  .live (1+c+1) 4 (((sdX n m K c).map (lvE (B+3))).take K++[.v (.int .i64 m.fr),.v (.int .i64 m.to),.v (.int .i64 m.nu),.sl (B+(n.l.length+c+1+1+1+1+1+1)) 1 0 m.body.length]::((sdX n m K c).map (lvE (B+3))).drop K) ::
  .live (1+c+1) 1 (vs (((sdT n (mG n m) K c).map eI).take K++[[.int .i64 (mG n m)]])++vs (((sdT n (mG n m) K c).map eI).drop K))::.live 1 2 (vs (n.fates.map eFt))::(fl (n.l.length+c) (fun j=>bdR (sdB n m j))++[.live 1 1 (vs (m.body.map eI))]):=by
 have h1:fl (n.l.length+(c+1)) (fun j=>bdR (sdB n m j))=fl (n.l.length+c) (fun j=>bdR (sdB n m j))++[.live 1 1 (vs (m.body.map eI))]:=by
  unfold fl
  rw[←Nat.add_assoc,List.range_succ,List.map_append]
  simp only[List.map_cons,List.map_nil]
  have:sdB n m (n.l.length+c)=m.body:=if_neg oM
  rw[this];rfl
 have h2:(sdX n m K (c+1)).map (lvE (B+3))=((sdX n m K c).map (lvE (B+3))).take K++[.v (.int .i64 m.fr),.v (.int .i64 m.to),.v (.int .i64 m.nu),.sl (B+(n.l.length+c+1+1+1+1+1+1)) 1 0 m.body.length]::((sdX n m K c).map (lvE (B+3))).drop K:=by
  rw[sdX,List.map_append,List.map_append,List.map_take,List.map_drop]
  have:lvE (B+3) (m,n.l.length+c)=[.v (.int .i64 m.fr),.v (.int .i64 m.to),.v (.int .i64 m.nu),.sl (B+(n.l.length+c+1+1+1+1+1+1)) 1 0 m.body.length]:=by
   unfold lvE
   rw[show B+3+(3+(m,n.l.length+c).2)=B+(n.l.length+c+1+1+1+1+1+1) by simp only;omega]
  simp only[List.map_cons,List.map_nil,this,List.append_assoc,List.cons_append,List.nil_append]
 have h3:vs ((sdT n (mG n m) K (c+1)).map eI)=vs (((sdT n (mG n m) K c).map eI).take K++[[.int .i64 (mG n m)]])++vs (((sdT n (mG n m) K c).map eI).drop K):=by
  rw[sdT,List.map_append,List.map_append,List.map_take,List.map_drop,ZBA]
  rfl
 unfold DG
 rw[hK,h1,h2,h3]
 rfl
theorem i6 (n:Nw) (m:Ms) (b l:List Row):QA Tryz.prog 169 [.agg ((eNw n).map .v),.agg [.v (.int .i64 m.fr),.v (.int .i64 m.to),.v (.int .i64 m.nu),.v (.isl 1 (m.body.map eI))]] b l
  (fun r b' l'=>r=.tup [i9 (b.length+l.length) (Y2 n m),.v (.int .i64 (yP n m))]∧b'=b∧l'=l++gT (b.length+l.length) (Y2 n m)):=by
 refine VA Z0 rfl (by decide) ?_
 intro B g hB hR hE hA;simp only[xA]at hA
 have hV:=XG n
 have hC:=GK n
 unfold eNw at hV hC
 simp only[List.map_cons,List.map_nil]at hV hC
 have bad:yP n m≠0→Y2 n m=none:=fun h=>if_neg h
 simp (disch:=first|decide|omega) only[a_nSend,hA,eNw,go_sem]
 refine QA.nxt (hV _ _) ?_
 cases h1:nwB n
 ·have he:yP n m=1:=by unfold yP;rw[h1];rfl
  rw[bad (by rw[he];decide),he]
  simp (disch:=first|decide|omega) only[hA,YA,cellsOf,go_sem]
  exact ZA (.inr rfl) (xs:=[zNw,.v (.int .i64 1)]) (by simp (disch:=first|decide|omega) only[JA,zA,hA,zNw,go_sem]) (by simp only[one,zNw,lts.down,Nat.reduceLT,Nat.reduceAdd]) hR hB ⟨rfl,rfl,by simp[gT]⟩
 simp (disch:=first|decide|omega) only[hA,go_sem]
 refine QA.nxt (ES m _ _) ?_
 cases h2:msB m
 ·have he:yP n m=1:=by unfold yP;rw[if_pos h1,h2];rfl
  rw[bad (by rw[he];decide),he]
  simp (disch:=first|decide|omega) only[hA,YA,cellsOf,go_sem]
  exact ZA (.inr rfl) (xs:=[zNw,.v (.int .i64 1)]) (by simp (disch:=first|decide|omega) only[JA,zA,hA,zNw,go_sem]) (by simp only[one,zNw,lts.down,Nat.reduceLT,Nat.reduceAdd]) hR hB ⟨rfl,rfl,by simp[gT]⟩
 have hes:yP n m=sdE n m:=by unfold yP;rw[if_pos h1,if_pos h2]
 rw[hes]at bad⊢
 have hv:=VG.1 h1
 have ZHL:=hv.now
 have xU:=hv.l
 have FC:=hv.len
 have hfl:=hv.fl
 have hhd:=IP hv
 have hbl:=zX h2
 simp (disch:=first|decide|omega) only[hA,go_sem]
 refine QA.nxt (hC hv.s _ _) ?_
 have hxl:(UC n).xs.length=n.l.length:=fB
 have hav:∀base,(UC n).av base=.agg [.v (.int .i64 n.now),.v (.bool n.fifo),.sl base 1 0 n.l.length,.sl (base+1) 1 0 n.tm.length,.sl (base+2) 1 0 n.fates.length]:=fun base=>by
  unfold Lv.av;rw[hxl];rfl
 have e1:B.length+3+1=B.length+4:=rfl
 have e2:B.length+3+2=B.length+5:=rfl
 have hrw:=RK (n:=n) (base:=B.length+3)
 have ha0:uH n m 0=n.now+(hdF n).2:=rfl
 have hdc:0≤(hdF n).1∧(hdF n).1≤3:=hhd.1
 have hda:0≤(hdF n).2∧(hdF n).2≤1000000:=hhd.2
 by_cases hf:n.fates=[]
 case' pos =>
  have d1:decide ((0:Int)<(n.fates.length:Int))=false:=by rw[hf];rfl
  have h1f:(hdF n).1=1:=by unfold hdF;rw[hf];rfl
  have h2f:(hdF n).2=0:=by unfold hdF;rw[hf];rfl
  have ho:SX n=0:=if_pos hf
  have hff:Row.live 0 2 [[.v (.int .i64 1),.v (.int .i64 0)]]=sdF n:=by unfold sdF;rw[h1f,h2f]
  have hat:n.now+0=uH n m 0:=by rw[ha0,h2f]
  have hn0:Row.live 0 5 [[.v (.int .i64 n.now),.v (.bool n.fifo),.sl (B.length+3) 1 0 n.l.length,.sl (B.length+4) 1 0 n.tm.length,.sl (B.length+5) 1 0 n.fates.length]]=sdN n B.length 1 1 n.l.length n.tm.length:=by unfold sdN;rw[ho];rfl
  simp (disch:=first|decide|omega) only[hA,hav,hrw,e1,e2,fB,ID,eD,ZC,wC,d1,YA,cellsOf,go_sem]
 case' neg =>
  have AX:0<n.fates.length:=by
   cases hq:n.fates with
   |nil=>exact absurd hq hf
   |cons x r=>simp
  have d1:decide ((0:Int)<(n.fates.length:Int))=true:=decide_eq_true oM
  have ho:SX n=1:=if_neg hf
  have hg0:(n.fates.map eFt)[Int.toNat 0]? = some [.int .i64 (hdF n).1,.int .i64 (hdF n).2]:=by
   show (n.fates.map eFt)[0]? = _
   unfold hdF
   cases hq:n.fates with
   |nil=>exact absurd hq hf
   |cons x r=>rfl
  have hff:Row.live 0 2 [[.v (.int .i64 (hdF n).1),.v (.int .i64 (hdF n).2)]]=sdF n:=rfl
  have hn0:Row.live 0 5 [[.v (.int .i64 n.now),.v (.bool n.fifo),.sl (B.length+3) 1 0 n.l.length,.sl (B.length+4) 1 0 n.tm.length,.sl (B.length+5) 1 (Int.toNat 1) (n.fates.length-Int.toNat 1)]]=sdN n B.length 1 1 n.l.length n.tm.length:=by unfold sdN;rw[ho];rfl
  have hat:n.now+(hdF n).2=uH n m 0:=rfl
  simp (disch:=first|decide|omega) only[hA,hav,hrw,e1,e2,fB,ID,eD,ZC,wC,d1,hg0,sB,YA,cellsOf,go_sem]
 all_goals
  refine tA (ι:=Nat) JL (fun i=>[(7,.v (.int .i64 (uH n m i))),(44,.v (.int .i64 i))]) (n.l.length+7) (fun _=>sdN n B.length 1 1 n.l.length n.tm.length::sdM m::sdO::.live 1 4 ((UC n).xs.map (lvE (B.length+3)))::.live 1 1 (vs (n.tm.map eI))::.live 1 2 (vs (n.fates.map eFt))::(fl n.l.length (clB n)++[sdF n]))
   (fun i=>i≤n.l.length) (fun i=>n.l.length-i) 0 (Nat.zero_le _) (by (repeat (first|exact hE.mono oM|refine KLt.up ?_ kL))) (by ((try simp (disch:=decide) only[hA,hat,go_sem])<;>exact kH)) (fun e=>by rw[hn0,hff];exact qA.refl _ _ _) ?_
  intro g1 mH wD KB i hi
  have pS:SA (B.length+(sdN n B.length 1 1 n.l.length n.tm.length::sdM m::sdO::.live 1 4 ((UC n).xs.map (lvE (B.length+3)))::.live 1 1 (vs (n.tm.map eI))::.live 1 2 (vs (n.fates.map eFt))::(fl n.l.length (clB n)++[sdF n])).length) (sdN n B.length 1 1 n.l.length n.tm.length::sdM m::sdO::.live 1 4 ((UC n).xs.map (lvE (B.length+3)))::.live 1 1 (vs (n.tm.map eI))::.live 1 2 (vs (n.fates.map eFt))::(fl n.l.length (clB n)++[sdF n])):=by
   refine RS (by simp) (ZBM ZDS (by simp[fB];omega)) (SA.app SA.flB ?_)
   unfold sdF
   simp (disch:=omega) only[lts.down,Nat.reduceLT,Nat.reduceAdd]
  by_cases LA:i<n.l.length
  ·have hxg:=ZAf (n:=n) (base:=B.length+3) LA
   have htg:=mE (l:=n.tm) (i:=i) oM
   have C8:=tN hv (m:=m) i oM
   cases hfi:(n.fifo==true)
   case false =>
    have hfb:(n.fifo=true)=False:=by simpa using hfi
    have UH:uH n m (i+1)=uH n m i:=by simp only[uH];rw[if_neg (fun h=>by rw[hfb]at h;exact h.1)]
    simp (disch:=first|decide|omega) only[hA,KB,hxg,htg,hfi,hfb,fB,ID,eD,ZC,wC,sB,sdN,sdM,sdO,sdF,YA,cellsOf,go_sem]
    refine⟨i+1,LA,by simp only;omega,?_⟩
    exact qA.kround (p:=JL) (k:=n.l.length+7) (l1:=sdN n B.length 1 1 n.l.length n.tm.length::sdM m::sdO::.live 1 4 ((UC n).xs.map (lvE (B.length+3)))::.live 1 1 (vs (n.tm.map eI))::.live 1 2 (vs (n.fates.map eFt))::(fl n.l.length (clB n)++[sdF n])) (junk:=[_]) (by ((repeat refine (gA rfl).trans ?_);exact wD)) (by ((try simp (disch:=decide) only[UH,hA,go_sem])<;>exact kH)) (by simp only[sdN,sdM,sdO,sdF,List.cons_append,List.append_assoc,List.nil_append];rfl) mH (by simp[fB]) kV hR pS
   case true =>
    have hfb:(n.fifo=true)=True:=by simpa using hfi
    by_cases L8:n.l[i].fr=m.fr
    case neg =>
     have d1:(n.l[i].fr==m.fr)=false:=beq_eq_false_iff_ne.2 L8
     have UH:uH n m (i+1)=uH n m i:=by simp only[uH];rw[if_neg (fun h=>L8 (by have:=h.2.1;rwa [KA LA]at this))]
     simp (disch:=first|decide|omega) only[hA,KB,hxg,htg,hfi,hfb,d1,fB,ID,eD,ZC,wC,sB,sdN,sdM,sdO,sdF,YA,cellsOf,go_sem]
     refine⟨i+1,LA,by simp only;omega,?_⟩
     exact qA.kround (p:=JL) (k:=n.l.length+7) (l1:=sdN n B.length 1 1 n.l.length n.tm.length::sdM m::sdO::.live 1 4 ((UC n).xs.map (lvE (B.length+3)))::.live 1 1 (vs (n.tm.map eI))::.live 1 2 (vs (n.fates.map eFt))::(fl n.l.length (clB n)++[sdF n])) (junk:=[_]) (by ((repeat refine (gA rfl).trans ?_);exact wD)) (by ((try simp (disch:=decide) only[UH,hA,go_sem])<;>exact kH)) (by simp only[sdN,sdM,sdO,sdF,List.cons_append,List.append_assoc,List.nil_append];rfl) mH (by simp[fB]) kV hR pS
    have d1:(n.l[i].fr==m.fr)=true:=by rw[L8];simp
    by_cases hto:n.l[i].to=m.to
    case neg =>
     have d2:(n.l[i].to==m.to)=false:=beq_eq_false_iff_ne.2 hto
     have UH:uH n m (i+1)=uH n m i:=by simp only[uH];rw[if_neg (fun h=>hto (by have:=h.2.2;rwa [KA LA]at this))]
     simp (disch:=first|decide|omega) only[hA,KB,hxg,htg,hfi,hfb,d1,d2,fB,ID,eD,ZC,wC,sB,sdN,sdM,sdO,sdF,YA,cellsOf,go_sem]
     refine⟨i+1,LA,by simp only;omega,?_⟩
     exact qA.kround (p:=JL) (k:=n.l.length+7) (l1:=sdN n B.length 1 1 n.l.length n.tm.length::sdM m::sdO::.live 1 4 ((UC n).xs.map (lvE (B.length+3)))::.live 1 1 (vs (n.tm.map eI))::.live 1 2 (vs (n.fates.map eFt))::(fl n.l.length (clB n)++[sdF n])) (junk:=[_]) (by ((repeat refine (gA rfl).trans ?_);exact wD)) (by ((try simp (disch:=decide) only[UH,hA,go_sem])<;>exact kH)) (by simp only[sdN,sdM,sdO,sdF,List.cons_append,List.append_assoc,List.nil_append];rfl) mH (by simp[fB]) kV hR pS
    have d2:(n.l[i].to==m.to)=true:=by rw[hto];simp
    have UH:(if uH n m i<n.tm.getD i 0 then n.tm.getD i 0 else uH n m i)=uH n m (i+1):=by
     simp only[uH]
     rw[if_pos (show n.fifo=true∧_ from⟨by rw[hfb];trivial,by rw[KA LA];exact L8,by rw[KA LA];exact hto⟩)]
     split<;>omega
    simp (disch:=first|decide|omega) only[hA,KB,hxg,htg,hfi,hfb,d1,d2,fB,ID,eD,ZC,wC,sB,sdN,sdM,sdO,sdF,YA,cellsOf,go_sem]
    refine⟨i+1,LA,by simp only;omega,?_⟩
    exact qA.kround (p:=JL) (k:=n.l.length+7) (l1:=sdN n B.length 1 1 n.l.length n.tm.length::sdM m::sdO::.live 1 4 ((UC n).xs.map (lvE (B.length+3)))::.live 1 1 (vs (n.tm.map eI))::.live 1 2 (vs (n.fates.map eFt))::(fl n.l.length (clB n)++[sdF n])) (junk:=[_]) (by ((repeat refine (gA rfl).trans ?_);exact wD)) (by ((try simp (disch:=decide) only[UH,hA,go_sem])<;>exact kH)) (by simp only[sdN,sdM,sdO,sdF,List.cons_append,List.append_assoc,List.nil_append];rfl) mH (by simp[fB]) kV hR pS
  ·obtain rfl:i=n.l.length:=by omega
   have ZDh:uH n m n.l.length=mG n m:=rfl
   have C8:=tN hv (m:=m) n.l.length (Nat.le_refl _)
   rw[ZDh]at C8
   have d1:decide (1099512627776<mG n m)=false:=decide_eq_false oM
   by_cases j8:1000<(n.l.length:Int)+(hdF n).1
   ·have d2:=decide_eq_true j8
    have he:sdE n m=5:=by unfold sdE;rw[if_neg oM,if_pos (show (n.l.length:Int)+vS n>1000 from j8)]
    rw[bad (by rw[he];decide),he]
    simp (disch:=first|decide|omega) only[hA,KB,ZDh,d1,d2,fB,ID,eD,ZC,wC,sB,sdN,sdM,sdO,sdF,YA,cellsOf,go_sem]
    exact ZA (.inr rfl) (xs:=[zNw,.v (.int .i64 5)]) (by simp (disch:=first|decide|omega) only[JA,zA,hA,KB,zNw,go_sem]) (by simp only[one,zNw,lts.down,Nat.reduceLT,Nat.reduceAdd]) hR hB ⟨rfl,rfl,by simp[gT]⟩
   have d2:=decide_eq_false j8
   have he:sdE n m=0:=by unfold sdE;rw[if_neg oM,if_neg (show ¬(n.l.length:Int)+vS n>1000 from j8)]
   have hZ:Y2 n m=some (J2 n m (vS n).toNat):=if_pos (by rw[hes,he])
   rw[hZ,he]
   simp (disch:=first|decide|omega) only[hA,KB,ZDh,d1,d2,fB,ID,eD,ZC,wC,sB,sdN,sdM,sdO,sdF,YA,cellsOf,go_sem]
   refine QA.nxt (z7 n.tm oM hv.sorted (mG n m) (B.length+4) 1 _ _ (by rw[List.getElem?_append_right oM,Nat.add_sub_cancel_left];rfl)) ?_
   simp (disch:=first|decide|omega) only[hA,KB,ZDh,d1,d2,fB,ID,eD,ZC,wC,sB,YA,cellsOf,go_sem]
   have ZHK:=xR (l:=n.tm) (a:=mG n m)
   obtain⟨C,hC1⟩:∃C:Nat,(hdF n).1=(C:Int):=⟨(hdF n).1.toNat,by omega⟩
   have hCc:(vS n).toNat=C:=by show (hdF n).1.toNat=C;omega
   rw[hC1]
   refine nK (f':=kOv [(2,.ptr B.length 0 0 0),(3,.ptr (B.length+1) 0 0 0),(4,.ptr (B.length+2) 0 0 0),(5,.v (.int .i64 0)),(7,.v (.int .i64 (mG n m))),(10,.v (.int .i64 (leN n.tm (mG n m)))),(95,.v (.int .i64 C)),(96,.v (.int .i64 0))] (fun _=>.any)) (l':=DG n m B.length 0)
    (ι:=Nat) XX (fun c=>[(96,.v (.int .i64 c))]) 6 (fun c=>DG n m B.length c) (fun c=>c≤C) (fun c=>C-c) 0 (Nat.zero_le _)
    (qA.ktrim (junk:=[sdF n]) _ (by ((try simp (disch:=decide) only[hA,KB,go_sem])<;>exact kH)) (by rw[fV,hC1.symm];rfl) (by rw[NJ];simp (disch:=omega) only[MK,lts.down,Nat.reduceLT,Nat.reduceAdd]) hR DS) (KLt.ov (fun _=>.any) kV) (by ((try simp (disch:=decide) only[hA,go_sem])<;>exact kH)) (fun e=>qA.refl _ _ _) ?_
   intro g2 CM bN IG c hc
   by_cases hlc:c<C
   ·simp (disch:=first|decide|omega) only[hA,IG,fB,ID,eD,ZC,wC,sB,DG,sdN,sdM,sdO,YA,cellsOf,go_sem]
    refine QA.nxt (MN m oM _ _) ?_
    simp (disch:=first|decide|omega) only[hA,IG,fB,ID,eD,ZC,wC,sB,YA,cellsOf,List.replicate_succ,List.replicate_zero,go_sem]
    obtain⟨K,hK⟩:∃K,K=leN n.tm (mG n m):=⟨_,rfl⟩
    have hK2:leN n.tm (mG n m)=K:=hK.symm
    rw[←hK]at ZHK⊢
    have hM:=fun b l hid hv=>ZAS (B.length+3) (1+c) K (B.length+(n.l.length+c+1+1+1+1+1+1+1)) 0 ((sdX n m K c).map (lvE (B.length+3))) [.v (.int .i64 m.fr),.v (.int .i64 m.to),.v (.int .i64 m.nu),.sl (B.length+(n.l.length+c+1+1+1+1+1+1)) 1 0 m.body.length] b l hid hv oM (by rw[List.length_map,uN];omega) (by rw[List.length_map,uN];omega)
    simp only[List.length_map,uN]at hM
    refine QA.nxt (hM _ _ (by rw[List.getElem?_append_right oM,Nat.add_sub_cancel_left];rfl) (by rw[List.getElem?_append_right oM,Nat.add_sub_cancel_left];simp only[List.getElem?_cons_succ];rw[eD];rfl)) ?_
    simp (disch:=first|decide|omega) only[hA,IG,fB,ID,eD,ZC,wC,sB,YA,cellsOf,List.replicate_succ,List.replicate_zero,go_sem]
    have hI:=fun b l hid hv=>ZAT (B.length+4) (1+c) K (B.length+(n.l.length+c+2+1+1+1+1+1+1)) 0 (vs ((sdT n (mG n m) K c).map eI)) [.v (.int .i64 (mG n m))] b l hid hv oM (by rw[XC,List.length_map,iN];omega) (by rw[XC,List.length_map,iN];omega)
    simp only[XC,List.length_map,iN]at hI
    rw[hK2]
    refine QA.nxt (hI _ _ (by rw[List.getElem?_append_right oM,Nat.add_sub_cancel_left];rfl) (by rw[List.getElem?_append_right oM,Nat.add_sub_cancel_left];simp only[List.getElem?_cons_succ];rw[eD];rfl)) ?_
    simp (disch:=first|decide|omega) only[hA,IG,fB,ID,eD,ZC,wC,sB,YA,cellsOf,List.replicate_succ,List.replicate_zero,go_sem]
    subst hK
    refine⟨c+1,hlc,by simp only;omega,?_⟩
    show qA _ B _ (kOf 115 (kOv [(96,.v (.int .i64 ((c+1:Nat):Int)))] g2)) B (DG n m B.length (c+1))
    exact qA.kround (p:=XX) (k:=6) (l1:=DG n m B.length (c+1)) (junk:=[_,_]) (by ((repeat refine (gA rfl).trans ?_);exact bN)) (by ((try simp (disch:=decide) only[hA,go_sem])<;>exact kH)) (by rw[eV hK2];simp only[sdN,sdM,sdO,List.cons_append,List.append_assoc,List.nil_append];rfl) CM (by rw[NJ];omega) (by rw[NJ];simp (disch:=omega) only[MK,lts.down,Nat.reduceLT,Nat.reduceAdd]) hR DS
   ·obtain rfl:c=C:=by omega
    simp (disch:=first|decide|omega) only[hA,IG,fB,ID,eD,ZC,wC,sB,DG,sdN,sdM,sdO,YA,cellsOf,go_sem]
    rw[hCc]
    have hzx:(J2 n m c).xs.length=n.l.length+c:=uN c
    have hzt:(J2 n m c).tm.length=n.tm.length+c:=iN c
    refine yX (.inr rfl) (z:=J2 n m c) Y3 (s:=3) (c:=.int .i64 0) (junk:=[]) (by simp (disch:=first|decide|omega) only[JA,zA,hA,IG,Lv.av,hzx,hzt,go_sem];rfl) ?_ hR hB ⟨by rw[hB,List.length_append];rfl,rfl,by rw[hB,List.length_append];rfl⟩
    rw[List.append_nil]
    unfold Lv.rows
    rw[show (J2 n m c).bd.map bdR=fl (n.l.length+c) (fun j=>bdR (sdB n m j)) from ZBP]
    rfl
theorem FY (n:Nw) (m:Ms) (b l:List Row):QA Tryz.prog 169 [.agg ((eNw n).map .v),.agg [.v (.int .i64 m.fr),.v (.int .i64 m.to),.v (.int .i64 m.nu),.v (.isl 1 (m.body.map eI))]] b l
  (fun r b' l'=>r=.tup [nwA (ZBl n m),.v (.int .i64 (yP n m))]∧b'=b∧l'=l):=by
 rw[←ZCY]
 exact QA.ownV ZCX (i6 n m b l)
def a_nRecv:AFunc:=({c:=_}:CF Tryz.prog 170).c
theorem Q0:dA Tryz.prog 170=some a_nRecv:=by kernel_rfl
def JX:List (Nat×Nat):=[(6,8),(24,56)]

def rcE (n:Nw) (to:Int):Int:=if nwB n=true then (if ptB to=true then (if fiR n to<0 then 7 else 0) else 2) else 1
def II (n:Nw) (k:Nat):Lv:=⟨n.now,n.fifo,2,2,0,(UC n).xs.take k++(UC n).xs.drop (k+1),n.tm.take k++n.tm.drop (k+1),n.fates,n.l.map (·.body)⟩
def rcZ (n:Nw) (to:Int):Option Lv:=if rcE n to=0 then some (II n (fiR n to).toNat) else none
def rcN (n:Nw) (to:Int):Nw:=if rcE n to=0 then woN n (fiR n to).toNat else nw0
def rcM (n:Nw) (to:Int):Ms:=if rcE n to=0 then n.l.getD (fiR n to).toNat dfMs else dfMs
def d8 (n:Nw) (to:Int) (base:Nat):AV:=if rcE n to=0 then .agg [.v (.int .i64 (rcM n to).fr),.v (.int .i64 (rcM n to).to),.v (.int .i64 (rcM n to).nu),.sl (base+(3+n.l.length)) 1 0 (rcM n to).body.length] else .agg [.v (.int .i64 0),.v (.int .i64 0),.v (.int .i64 0),.v .zsl]
def rcR (n:Nw) (to:Int) (base:Nat):List Row:=if rcE n to=0 then (II n (fiR n to).toNat).rows base++[bdR (rcM n to).body] else []
theorem J3 {n:Nw} {k:Nat}:(II n k).ok:=by
 refine⟨Nat.zero_le _,fun x hx=>?_⟩
 refine (QO n).bd x ?_
 rcases List.mem_append.1 hx with h|h
 ·exact List.mem_of_mem_take h
 ·exact List.mem_of_mem_drop h
theorem ZC8 {n:Nw} {k:Nat}:(II n k).nw=woN n k:=by
 have h:(UC n).xs.map (·.1)=n.l:=congrArg Nw.l (XO n)
 unfold Lv.nw II woN
 simp only[List.map_append,List.map_take,List.map_drop,h,List.drop_zero]
theorem ZEo {n:Nw} {to:Int}:s8 (rcZ n to)=rcN n to:=by
 unfold rcZ rcN
 split
 ·exact ZC8
 ·rfl
theorem P5 {n:Nw} {k base:Nat}:(II n k).rows base=.live 2 4 (((UC n).xs.map (lvE base)).take k++((UC n).xs.map (lvE base)).drop (k+1))::.live 2 1 (vs ((n.tm.map eI).take k)++vs ((n.tm.map eI).drop (k+1)))::.live 1 2 (vs (n.fates.map eFt))::fl n.l.length (clB n):=by
 have h:=RK (n:=n) (base:=base)
 unfold Lv.rows at h⊢
 have h2:=(List.cons.inj (List.cons.inj (List.cons.inj h).2).2).2
 have h3:(II n k).bd.map bdR=fl n.l.length (clB n):=h2
 rw[h3]
 unfold II
 simp only[List.map_append,List.map_take,List.map_drop,ZBA]
theorem r6 (n:Nw) (to:Int) (b l:List Row):QA Tryz.prog 170 [.agg ((eNw n).map .v),.v (.int .i64 to)] b l
  (fun r b' l'=>r=.tup [i9 (b.length+l.length) (rcZ n to),d8 n to (b.length+l.length),.v (.int .i64 (rcE n to))]∧b'=b∧l'=l++rcR n to (b.length+l.length)):=by
 refine VA Q0 rfl (by decide) ?_
 intro B g hB hR hE hA;simp only[xA]at hA
 have hV:=XG n
 have hC:=GK n
 unfold eNw at hV hC
 simp only[List.map_cons,List.map_nil]at hV hC
 have bad:rcE n to≠0→rcZ n to=none∧d8 n to (b.length+l.length)=.agg [.v (.int .i64 0),.v (.int .i64 0),.v (.int .i64 0),.v .zsl]∧rcR n to (b.length+l.length)=[]:=fun h=>⟨if_neg h,if_neg h,if_neg h⟩
 simp (disch:=first|decide|omega) only[a_nRecv,hA,eNw,go_sem]
 refine QA.nxt (hV _ _) ?_
 cases h1:nwB n
 ·have he:rcE n to=1:=by unfold rcE;rw[h1];rfl
  obtain⟨b1,b2,b3⟩:=bad (by rw[he];decide)
  rw[b1,b2,b3,he]
  simp (disch:=first|decide|omega) only[hA,YA,cellsOf,go_sem]
  exact ZA (.inr rfl) (xs:=[zNw,.agg [.v (.int .i64 0),.v (.int .i64 0),.v (.int .i64 0),.v .zsl],.v (.int .i64 1)]) (by simp (disch:=first|decide|omega) only[JA,zA,hA,zNw,go_sem]) (by simp only[one,zNw,lts.down,Nat.reduceLT,Nat.reduceAdd]) hR hB ⟨rfl,rfl,by simp⟩
 simp (disch:=first|decide|omega) only[hA,go_sem]
 refine QA.nxt (pI to _ _) ?_
 cases h2:ptB to
 ·have he:rcE n to=2:=by unfold rcE;rw[if_pos h1,h2];rfl
  obtain⟨b1,b2,b3⟩:=bad (by rw[he];decide)
  rw[b1,b2,b3,he]
  simp (disch:=first|decide|omega) only[hA,YA,cellsOf,go_sem]
  exact ZA (.inr rfl) (xs:=[zNw,.agg [.v (.int .i64 0),.v (.int .i64 0),.v (.int .i64 0),.v .zsl],.v (.int .i64 2)]) (by simp (disch:=first|decide|omega) only[JA,zA,hA,zNw,go_sem]) (by simp only[one,zNw,lts.down,Nat.reduceLT,Nat.reduceAdd]) hR hB ⟨rfl,rfl,by simp⟩
 have hv:=VG.1 h1
 have xU:=hv.l
 have FC:=hv.len
 simp (disch:=first|decide|omega) only[hA,go_sem]
 refine tA (ι:=Nat) JX (fun i=>[(24,.v (.int .i64 i))]) 3 (fun _=>[.live 0 5 [[.v (.int .i64 n.now),.v (.bool n.fifo),.v (.isl 4 (n.l.map eMs)),.v (.isl 1 (n.tm.map eI)),.v (.isl 2 (n.fates.map eFt))]],.live 0 5 [[.v (.int .i64 0),.v (.bool false),.v .zsl,.v .zsl,.v .zsl]],.live 0 4 [[.v (.int .i64 0),.v (.int .i64 0),.v (.int .i64 0),.v .zsl]]])
  (fun i=>i≤n.l.length∧∀j,j<i→arB n to j=false) (fun i=>n.l.length-i) 0 ⟨Nat.zero_le _,fun j hj=>by omega⟩ (by (repeat (first|exact hE.mono oM|refine KLt.up ?_ kL))) (by ((try simp (disch:=decide) only[hA,go_sem])<;>exact kH)) (fun e=>qA.refl _ _ _) ?_
 rintro g1 mH wD KB k ⟨hk,h0⟩
 by_cases LA:k<n.l.length
 ·simp (disch:=first|decide|omega) only[hA,KB,List.length_map,go_sem]
  refine QA.nxt (AS n k LA oM to _ _) ?_
  cases q:arB n to k
  ·simp (disch:=first|decide|omega) only[hA,KB,go_sem]
   refine⟨k+1,⟨LA,fun j hj=>?_⟩,by simp only;omega,?_⟩
   ·rcases Nat.lt_or_ge j k with fG|fG
    ·exact h0 j fG
    ·obtain rfl:j=k:=by omega
     exact q
   ·exact qA.kround (p:=JX) (k:=3) (by ((repeat refine (gA rfl).trans ?_);exact wD)) (by ((try simp (disch:=decide) only[hA,go_sem])<;>exact kH)) rfl mH (by simp) kV hR kL
  have hfi:fiR n to=k:=P2 LA h0 q
  have he:rcE n to=0:=by unfold rcE;rw[if_pos h1,if_pos h2,hfi,if_neg oM]
  have DN:(fiR n to).toNat=k:=by rw[hfi];rfl
  have hZ:rcZ n to=some (II n k):=by unfold rcZ;rw[if_pos he,DN]
  have hM:rcM n to=n.l[k]:=by unfold rcM;rw[if_pos he,DN,KA LA]
  have hMA:d8 n to (b.length+l.length)=.agg [.v (.int .i64 n.l[k].fr),.v (.int .i64 n.l[k].to),.v (.int .i64 n.l[k].nu),.sl (b.length+l.length+(3+n.l.length)) 1 0 n.l[k].body.length]:=by unfold d8;rw[if_pos he,hM]
  have hRR:rcR n to (b.length+l.length)=(II n k).rows (b.length+l.length)++[bdR n.l[k].body]:=by unfold rcR;rw[if_pos he,DN,hM]
  rw[hZ,hMA,hRR,he]
  have y9:=ML LA
  simp (disch:=first|decide|omega) only[hA,KB,y9,List.length_map,go_sem]
  refine QA.nxt (MN n.l[k] (hv.s.body _ (List.getElem_mem LA)) _ _) ?_
  simp (disch:=first|decide|omega) only[hA,KB,YA,cellsOf,go_sem]
  refine QA.nxt (hC hv.s _ _) ?_
  have hxl:(UC n).xs.length=n.l.length:=fB
  have hav:∀base,(UC n).av base=.agg [.v (.int .i64 n.now),.v (.bool n.fifo),.sl base 1 0 n.l.length,.sl (base+1) 1 0 n.tm.length,.sl (base+2) 1 0 n.fates.length]:=fun base=>by
   unfold Lv.av;rw[hxl];rfl
  have e1:B.length+5+1=B.length+6:=rfl
  have e2:B.length+5+2=B.length+7:=rfl
  have hrw:=RK (n:=n) (base:=B.length+5)
  simp (disch:=first|decide|omega) only[hA,KB,hav,hrw,e1,e2,YA,cellsOf,go_sem]
  have hD:=fun b l hid=>ZAb (B.length+5) 1 k ((UC n).xs.map (lvE (B.length+5))) b l hid (by rw[List.length_map,hxl];exact LA)
  simp only[List.length_map,hxl]at hD
  refine QA.nxt (hD _ _ (by rw[List.getElem?_append_right oM,Nat.add_sub_cancel_left];rfl)) ?_
  simp (disch:=first|decide|omega) only[hA,KB,YA,cellsOf,go_sem]
  have hI:=fun b l hid=>ZAc (B.length+6) 1 k (vs (n.tm.map eI)) b l hid (by rw[XC,List.length_map];omega)
  simp only[List.length_map,XC]at hI
  refine QA.nxt (hI _ _ (by rw[List.getElem?_append_right oM,Nat.add_sub_cancel_left];rfl)) ?_
  simp (disch:=first|decide|omega) only[hA,KB,YA,cellsOf,go_sem]
  rw[←P5]
  obtain⟨σ,s1,s2⟩:∃σ:Nat→Nat,(∀j,j<n.l.length+3→σ j=j+5)∧σ (n.l.length+3)=3:=⟨fun j=>if j<n.l.length+3 then j+5 else 3,fun j h=>if_pos h,if_neg oM⟩
  have C8:(II n k).bd.length=n.l.length:=by unfold II;simp
  have pS:((II n k).rows B.length).length=n.l.length+3:=by unfold Lv.rows;simp[C8]
  have hzx:(II n k).xs.length=n.l.length-1:=by
   unfold II
   simp only[List.length_append,List.length_take,List.length_drop,hxl];omega
  have hzt:(II n k).tm.length=n.tm.length-1:=by
   unfold II
   simp only[List.length_append,List.length_take,List.length_drop];omega
  have hza:(II n k).av (B.length+5)=.agg [.v (.int .i64 n.now),.v (.bool n.fifo),.sl (B.length+5) 2 0 (n.l.length-1),.sl (B.length+6) 2 0 (n.tm.length-1),.sl (B.length+7) 1 0 n.fates.length]:=by
   unfold Lv.av
   rw[hzx,hzt]
   rfl
  refine jJ (.inr rfl) (xs:=[(II n k).av (B.length+5),.agg [.v (.int .i64 n.l[k].fr),.v (.int .i64 n.l[k].to),.v (.int .i64 n.l[k].nu),.sl (B.length+3) 1 0 n.l[k].body.length],.v (.int .i64 0)]) (y:=.tup [(II n k).av B.length,.agg [.v (.int .i64 n.l[k].fr),.v (.int .i64 n.l[k].to),.v (.int .i64 n.l[k].nu),.sl (B.length+(3+n.l.length)) 1 0 n.l[k].body.length],.v (.int .i64 0)]) (l':=(II n k).rows B.length++[bdR n.l[k].body]) (by simp (disch:=first|decide|omega) only[JA,zA,hA,KB,hza,go_sem]) (m:=n.l.length+4) (by rw[List.length_append,pS];rfl) σ (fun a c ha hc h=>?_) (fun j r' h=>?_) ?_ hR hB ⟨by rw[hB,List.length_append];rfl,rfl,by rw[hB,List.length_append]⟩
  ·by_cases h1:a<n.l.length+3<;>by_cases h2:c<n.l.length+3
   ·rw[s1 a h1,s1 c h2]at h;omega
   ·rw[s1 a h1,show c=n.l.length+3 by omega,s2]at h;omega
   ·rw[s1 c h2,show a=n.l.length+3 by omega,s2]at h;omega
   ·omega
  ·by_cases hj:j<n.l.length+3
   ·rw[List.getElem?_append_left oM]at h
    have key:∀pre:List Row,pre.length=5→∃r,(pre++(II n k).rows (B.length+5))[σ j]? = some r∧RnR B.length (n.l.length+4) σ r r':=fun pre hp=>by
     have:=Lv.rnR (z:=II n k) J3 (n:=B.length) (s:=5) (m:=n.l.length+4) oM (σ:=σ) (fun j hj=>s1 j oM) (pre:=pre) (junk:=[]) hp j r' h
     rwa [List.append_nil]at this
    exact key [_,_,_,_,_] rfl
   ·have hl:=(List.getElem?_eq_some_iff.1 h).1
    rw[List.length_append,pS]at hl
    have hl:j<n.l.length+3+1:=hl
    obtain rfl:j=n.l.length+3:=by omega
    rw[List.getElem?_append_right oM,pS,Nat.sub_self]at h
    cases h
    rw[s2]
    exact⟨_,rfl,RnR.plain⟩
  ·refine Rn.tupL (.cons (Lv.rnA oM (fun j hj=>s1 j oM)) (.cons (Rn.aggL (.cons (.v _) (.cons (.v _) (.cons (.v _) (.cons ?_ .nil))))) (.cons (.v _) .nil)))
   exact Rn.slE (by rw[Nat.add_comm 3];exact s2) oM
 ·obtain rfl:k=n.l.length:=by omega
  have hfi:fiR n to=-1:=eS h0
  have he:rcE n to=7:=by unfold rcE;rw[if_pos h1,if_pos h2,hfi];rfl
  obtain⟨b1,b2,b3⟩:=bad (by rw[he];decide)
  rw[b1,b2,b3,he]
  simp (disch:=first|decide|omega) only[hA,KB,YA,cellsOf,go_sem]
  exact ZA (.inr rfl) (xs:=[zNw,.agg [.v (.int .i64 0),.v (.int .i64 0),.v (.int .i64 0),.v .zsl],.v (.int .i64 7)]) (by simp (disch:=first|decide|omega) only[JA,zA,hA,KB,zNw,go_sem]) (by simp only[one,zNw,lts.down,Nat.reduceLT,Nat.reduceAdd]) hR hB ⟨rfl,rfl,by simp⟩
theorem ZC7 {n:Nw} {to:Int} {base:Nat}:Dv base (rcR n to base) (d8 n to base) (.agg ((eMs (rcM n to)).map .v)):=by
 by_cases he:rcE n to=0
 ·unfold d8 rcR
  rw[if_pos he,if_pos he]
  unfold eMs
  refine Dv.aggL (.cons (.v _) (.cons (.v _) (.cons (.v _) (.cons ?_ .nil))))
  refine Dv.slV (rows:=(rcM n to).body.map eI) ?_ (by simp)
  have pS:((II n (fiR n to).toNat).rows base).length=3+n.l.length:=by unfold Lv.rows II;simp;omega
  rw[List.getElem?_append_right oM,pS,Nat.sub_self]
  rfl
 ·unfold d8 rcM
  rw[if_neg he,if_neg he]
  exact Dv.aggL (.cons (.v _) (.cons (.v _) (.cons (.v _) (.cons (.z 1) .nil))))
theorem ZEp {n:Nw} {to:Int} {base:Nat}:Dv base (rcR n to base) (i9 base (rcZ n to)) (nwA (rcN n to)):=by
 rw[←ZEo]
 by_cases he:rcE n to=0
 ·unfold rcZ rcR
  rw[if_pos he,if_pos he]
  exact (Lv.dv J3 base).more _
 ·unfold rcZ
  rw[if_neg he]
  exact ZAw
theorem EY (n:Nw) (to:Int) (b l:List Row):QA Tryz.prog 170 [.agg ((eNw n).map .v),.v (.int .i64 to)] b l
  (fun r b' l'=>r=.tup [nwA (rcN n to),.agg ((eMs (rcM n to)).map .v),.v (.int .i64 (rcE n to))]∧b'=b∧l'=l):=
 QA.deep (Dv.tupL (.cons ZEp (.cons ZC7 (.cons (.v _) .nil)))) (r6 n to b l)
def a_rin:AFunc:=({c:=_}:CF Tryz.prog 65).c
theorem ZAn:dA Tryz.prog 65=some a_rin:=by kernel_rfl
def a_rparty:AFunc:=({c:=_}:CF Tryz.prog 125).c
theorem iW:dA Tryz.prog 125=some a_rparty:=by kernel_rfl
def a_rmsg:AFunc:=({c:=_}:CF Tryz.prog 67).c
theorem I7:dA Tryz.prog 67=some a_rmsg:=by kernel_rfl
def D3:List (Nat×Nat):=[(2,3),(33,46)]
def a_rfate:AFunc:=({c:=_}:CF Tryz.prog 124).c
theorem SZ:dA Tryz.prog 124=some a_rfate:=by kernel_rfl
def a_rfates:AFunc:=({c:=_}:CF Tryz.prog 66).c
theorem dW:dA Tryz.prog 66=some a_rfates:=by kernel_rfl
def PS:List (Nat×Nat):=[(2,15)]
def a_rnValid:AFunc:=({c:=_}:CF Tryz.prog 18).c
theorem UU:dA Tryz.prog 18=some a_rnValid:=by kernel_rfl
def zQ:List (Nat×Nat):=[(2,4),(36,64)]

def inZ (x lo hi:Int):Bool:=decide (lo≤x∧x≤hi)
theorem S5 (x lo hi:Int) (b l:List Row):QA Tryz.prog 65 [.v (.int .i64 x),.v (.int .i64 lo),.v (.int .i64 hi)] b l (fun r b' l'=>r=.v (.bool (inZ x lo hi))∧b'=b∧l'=l):=by
 refine VA ZAn rfl (by decide) ?_
 intro B g hB hR hE hA;simp only[xA]at hA
 by_cases h1:lo≤x
 ·have d1:=decide_eq_true h1
  by_cases h2:x≤hi
  ·have d2:=decide_eq_true h2
   simp (disch:=first|decide|omega) only[a_rin,hA,d1,d2,go_sem]
   exact ZA (xs:=[.v (.bool true)]) (.inr rfl) (by simp (disch:=first|decide|omega) only[JA,zA,go_sem,hA]) kO hR hB ⟨by unfold inZ;rw[decide_eq_true (show lo≤x∧x≤hi from⟨h1,h2⟩)];rfl,rfl,rfl⟩
  ·have d2:=decide_eq_false h2
   simp (disch:=first|decide|omega) only[a_rin,hA,d1,d2,go_sem]
   exact ZA (xs:=[.v (.bool false)]) (.inr rfl) (by simp (disch:=first|decide|omega) only[JA,zA,go_sem,hA]) kO hR hB ⟨by unfold inZ;rw[decide_eq_false (show ¬(lo≤x∧x≤hi) from fun h=>h2 h.2)];rfl,rfl,rfl⟩
 ·have d1:=decide_eq_false h1
  simp (disch:=first|decide|omega) only[a_rin,hA,d1,go_sem]
  exact ZA (xs:=[.v (.bool false)]) (.inr rfl) (by simp (disch:=first|decide|omega) only[JA,zA,go_sem,hA]) kO hR hB ⟨by unfold inZ;rw[decide_eq_false (show ¬(lo≤x∧x≤hi) from fun h=>h1 h.1)];rfl,rfl,rfl⟩
theorem zI (x lo hi:Int) (b l:List Row):QA Tryz.prog 65 [.v (.int .i64 x),.v (.int .i64 lo),.v (.int .i64 hi)] b l (fun r b' l'=>r=.v (.bool (decide (lo≤x∧x≤hi)))∧b'=b∧l'=l):=S5 x lo hi b l
theorem iO (p:Int) (b l:List Row):QA Tryz.prog 125 [.v (.int .i64 p)] b l (fun r b' l'=>r=.v (.bool (ptB p))∧b'=b∧l'=l):=by
 refine VA iW rfl (by decide) ?_
 intro B g hB hR hE hA;simp only[xA]at hA
 simp (disch:=first|decide|omega) only[a_rparty,hA,go_sem]
 refine QA.nxt (zI p 0 7 _ _) ?_
 simp (disch:=first|decide|omega) only[hA,go_sem]
 exact ZA (xs:=[.v (.bool (decide (0≤p∧p≤7)))]) (.inr rfl) (by simp (disch:=first|decide|omega) only[JA,zA,go_sem,hA]) kO hR hB ⟨rfl,rfl,rfl⟩
theorem R5 (m:Ms) (b l:List Row):QA Tryz.prog 67 [.agg [.v (.int .i64 m.fr),.v (.int .i64 m.to),.v (.int .i64 m.nu),.v (.isl 1 (m.body.map eI))]] b l (fun r b' l'=>r=.v (.bool (msB m))∧b'=b∧l'=l):=by
 refine VA I7 rfl (by decide) ?_
 intro B g hB hR hE hA;simp only[xA]at hA
 simp (disch:=first|decide|omega) only[a_rmsg,hA,go_sem]
 refine QA.nxt (iO m.fr _ _) ?_
 cases h1:ptB m.fr
 ·simp (disch:=first|decide|omega) only[hA,go_sem]
  exact ZA (xs:=[.v (.bool false)]) (.inr rfl) (by simp (disch:=first|decide|omega) only[JA,zA,go_sem,hA]) kO hR hB ⟨by unfold msB;rw[h1];rfl,rfl,rfl⟩
 simp (disch:=first|decide|omega) only[hA,go_sem]
 refine QA.nxt (iO m.to _ _) ?_
 cases h2:ptB m.to
 ·simp (disch:=first|decide|omega) only[hA,go_sem]
  exact ZA (xs:=[.v (.bool false)]) (.inr rfl) (by simp (disch:=first|decide|omega) only[JA,zA,go_sem,hA]) kO hR hB ⟨by unfold msB;rw[h1,h2];rfl,rfl,rfl⟩
 by_cases h3:m.fr=m.to
 ·have d3:(m.fr==m.to)=true:=by rw[h3];simp
  simp (disch:=first|decide|omega) only[hA,d3,go_sem]
  exact ZA (xs:=[.v (.bool false)]) (.inr rfl) (by simp (disch:=first|decide|omega) only[JA,zA,go_sem,hA]) kO hR hB ⟨by unfold msB;rw[h1,h2,decide_eq_false oM];rfl,rfl,rfl⟩
 have d3:(m.fr==m.to)=false:=beq_eq_false_iff_ne.2 h3
 simp (disch:=first|decide|omega) only[hA,d3,go_sem]
 refine QA.nxt (zI m.nu 0 199 _ _) ?_
 by_cases h4:0≤m.nu∧m.nu≤199
 case neg =>
  rw[decide_eq_false h4]
  simp (disch:=first|decide|omega) only[hA,go_sem]
  exact ZA (xs:=[.v (.bool false)]) (.inr rfl) (by simp (disch:=first|decide|omega) only[JA,zA,go_sem,hA]) kO hR hB ⟨by unfold msB;rw[h1,h2,decide_eq_true h3,decide_eq_false h4];rfl,rfl,rfl⟩
 rw[decide_eq_true h4]
 by_cases h6:20<m.body.length
 ·have d6:decide ((20:Int)<(m.body.length:Int))=true:=decide_eq_true oM
  simp (disch:=first|decide|omega) only[hA,d6,List.length_map,go_sem]
  exact ZA (xs:=[.v (.bool false)]) (.inr rfl) (by simp (disch:=first|decide|omega) only[JA,zA,go_sem,hA]) kO hR hB ⟨by unfold msB;rw[h1,h2,decide_eq_true h3,decide_eq_true h4,decide_eq_false (show ¬m.body.length≤20 by omega)];rfl,rfl,rfl⟩
 have d6:decide ((20:Int)<(m.body.length:Int))=false:=decide_eq_false oM
 have hms:msB m=m.body.all vlB:=by unfold msB;rw[h1,h2,decide_eq_true h3,decide_eq_true h4,decide_eq_true (show m.body.length≤20 by omega)];rfl
 simp (disch:=first|decide|omega) only[hA,d6,List.length_map,go_sem]
 refine tA (ι:=Nat) D3 (fun i=>[(3,.v (.int .i64 i))]) 1 (fun _=>[.live 0 4 [[.v (.int .i64 m.fr),.v (.int .i64 m.to),.v (.int .i64 m.nu),.v (.isl 1 (m.body.map eI))]]])
  (fun i=>i≤m.body.length∧∀j (h:j<m.body.length),j<i→vlB m.body[j]=true) (fun i=>m.body.length-i) 0 ⟨Nat.zero_le _,fun j _ hj=>by omega⟩ (by (repeat (first|exact hE.mono oM|refine KLt.up ?_ kL))) (by ((try simp (disch:=decide) only[hA,go_sem])<;>exact kH)) (fun e=>qA.refl _ _ _) ?_
 rintro g1 mH wD KB i ⟨hi,h0⟩
 by_cases LA:i<m.body.length
 ·have hg:=mE LA
  rw[KA LA]at hg
  simp (disch:=first|decide|omega) only[hA,KB,hg,List.length_map,go_sem]
  refine QA.nxt (zI m.body[i] (-1073741824) 1073741824 _ _) ?_
  cases q:decide (-1073741824≤m.body[i]∧m.body[i]≤1073741824)
  ·simp (disch:=first|decide|omega) only[hA,KB,go_sem]
   exact ZA (xs:=[.v (.bool false)]) (.inr rfl) (by simp (disch:=first|decide|omega) only[JA,zA,go_sem,hA,KB]) kO hR hB ⟨by rw[hms,List.all_eq_false.2 ⟨m.body[i],List.getElem_mem LA,by unfold vlB;rw[q];simp⟩];rfl,rfl,rfl⟩
  ·simp (disch:=first|decide|omega) only[hA,KB,go_sem]
   refine⟨i+1,⟨LA,fun j hj fG=>?_⟩,by simp only;omega,?_⟩
   ·rcases Nat.lt_or_ge j i with h|h
    ·exact h0 j hj h
    ·obtain rfl:j=i:=by omega
     exact q
   ·exact qA.kround (p:=D3) (k:=1) (by ((repeat refine (gA rfl).trans ?_);exact wD)) (by ((try simp (disch:=decide) only[hA,go_sem])<;>exact kH)) rfl mH (by simp) kV hR kL
 ·obtain rfl:i=m.body.length:=by omega
  simp (disch:=first|decide|omega) only[hA,KB,List.length_map,go_sem]
  exact ZA (xs:=[.v (.bool true)]) (.inr rfl) (by simp (disch:=first|decide|omega) only[JA,zA,go_sem,hA,KB]) kO hR hB ⟨by rw[hms,List.all_eq_true.2 (fun x hx=>by obtain⟨j,hj,rfl⟩:=List.getElem_of_mem hx;exact h0 j hj hj)];rfl,rfl,rfl⟩
theorem lY (f:Int×Int) (b l:List Row):QA Tryz.prog 124 [.agg [.v (.int .i64 f.1),.v (.int .i64 f.2)]] b l (fun r b' l'=>r=.v (.bool (ftB f))∧b'=b∧l'=l):=by
 refine VA SZ rfl (by decide) ?_
 intro B g hB hR hE hA;simp only[xA]at hA
 simp (disch:=first|decide|omega) only[a_rfate,hA,go_sem]
 refine QA.nxt (zI f.1 0 3 _ _) ?_
 cases q:decide (0≤f.1∧f.1≤3)
 ·simp (disch:=first|decide|omega) only[hA,go_sem]
  exact ZA (xs:=[.v (.bool false)]) (.inr rfl) (by simp (disch:=first|decide|omega) only[JA,zA,go_sem,hA]) kO hR hB ⟨by unfold ftB;rw[decide_eq_false (fun h=>by rw[decide_eq_false_iff_not]at q;exact q h.1)];rfl,rfl,rfl⟩
 ·simp (disch:=first|decide|omega) only[hA,go_sem]
  refine QA.nxt (zI f.2 0 1000000 _ _) ?_
  simp (disch:=first|decide|omega) only[hA,go_sem]
  exact ZA (xs:=[.v (.bool (decide (0≤f.2∧f.2≤1000000)))]) (.inr rfl) (by simp (disch:=first|decide|omega) only[JA,zA,go_sem,hA]) kO hR hB ⟨by unfold ftB;rw[decide_eq_true_iff]at q;simp only[q,true_and,one],rfl,rfl⟩
theorem GV (v:List (Int×Int)) (hn:v.length≤1000000) (b l:List Row):QA Tryz.prog 66 [.v (.isl 2 (v.map eFt))] b l (fun r b' l'=>r=.v (.bool (NX v))∧b'=b∧l'=l):=by
 refine VA dW rfl (by decide) ?_
 intro B g hB hR hE hA;simp only[xA]at hA
 simp (disch:=first|decide|omega) only[a_rfates,hA,go_sem]
 refine tA (ι:=Nat) PS (fun i=>[(3,.v (.int .i64 i))]) 0 (fun _=>[])
  (fun i=>i≤v.length∧∀j (h:j<v.length),j<i→ftB v[j]=true) (fun i=>v.length-i) 0 ⟨Nat.zero_le _,fun j _ hj=>by omega⟩ (by (repeat (first|exact hE.mono oM|refine KLt.up ?_ kL))) (by ((try simp (disch:=decide) only[hA,go_sem])<;>exact kH)) (fun e=>qA.refl _ _ _) ?_
 rintro g1 mH wD KB i ⟨hi,h0⟩
 by_cases LA:i<v.length
 ·have hg:(v.map eFt)[i]? = some [.int .i64 v[i].1,.int .i64 v[i].2]:=by rw[List.getElem?_map,List.getElem?_eq_getElem LA];rfl
  simp (disch:=first|decide|omega) only[hA,KB,hg,List.length_map,go_sem]
  refine QA.nxt (lY v[i] _ _) ?_
  cases q:ftB v[i]
  ·simp (disch:=first|decide|omega) only[hA,KB,go_sem]
   exact ZA (xs:=[.v (.bool false)]) (.inr rfl) (by simp (disch:=first|decide|omega) only[JA,zA,go_sem,hA,KB]) kO hR hB ⟨by unfold NX;rw[List.all_eq_false.2 ⟨v[i],List.getElem_mem LA,by rw[q];simp⟩];rfl,rfl,rfl⟩
  ·simp (disch:=first|decide|omega) only[hA,KB,go_sem]
   refine⟨i+1,⟨LA,fun j hj fG=>?_⟩,by simp only;omega,?_⟩
   ·rcases Nat.lt_or_ge j i with h|h
    ·exact h0 j hj h
    ·obtain rfl:j=i:=by omega
     exact q
   ·exact qA.kround (p:=PS) (k:=0) (by ((repeat refine (gA rfl).trans ?_);exact wD)) (by ((try simp (disch:=decide) only[hA,go_sem])<;>exact kH)) rfl mH (by simp) kV hR kL
 ·obtain rfl:i=v.length:=by omega
  simp (disch:=first|decide|omega) only[hA,KB,List.length_map,go_sem]
  exact ZA (xs:=[.v (.bool true)]) (.inr rfl) (by simp (disch:=first|decide|omega) only[JA,zA,go_sem,hA,KB]) kO hR hB ⟨by unfold NX;rw[List.all_eq_true.2 (fun x hx=>by obtain⟨j,hj,rfl⟩:=List.getElem_of_mem hx;exact h0 j hj hj)];rfl,rfl,rfl⟩
def ER (n:Nw) (i:Nat):Int:=if i=0 then 0 else n.tm.getD (i-1) 0
theorem ZFB {n:Nw} {i:Nat} (hp:∀j,j<i→mtB n j=true):mtB n i=(msB (n.l.getD i dfMs)&&decide (ER n i≤n.tm.getD i 0∧n.tm.getD i 0≤1099512627776)):=by
 unfold mtB ER
 congr 1
 by_cases h:i=0
 ·subst h
  rw[if_pos rfl]
  rw[decide_eq_decide]
  omega
 ·rw[if_neg h]
  have h1:=hp (i-1) oM
  unfold mtB at h1
  simp only[Bool.and_eq_true,decide_eq_true_eq]at h1
  rw[decide_eq_decide]
  have:=h1.2.1
  constructor
  ·rintro⟨a1,a2,a3⟩;exact⟨a3 oM,a2⟩
  ·rintro⟨a1,a2⟩;exact⟨by omega,a2,fun _=>a1⟩
theorem PT (n:Nw) (b l:List Row):QA Tryz.prog 18 [.agg ((eNw n).map .v)] b l (fun r b' l'=>r=.v (.bool (nwB n))∧b'=b∧l'=l):=by
 refine VA UU rfl (by decide) ?_
 intro B g hB hR hE hA;simp only[xA]at hA
 have F:∀{p:Prop} [Decidable p],¬p→decide p=false:=fun h=>decide_eq_false h
 simp (disch:=first|decide|omega) only[a_rnValid,hA,eNw,go_sem]
 refine QA.nxt (zI n.now 0 1099511627776 _ _) ?_
 cases e1:decide (0≤n.now∧n.now≤1099511627776)
 ·simp (disch:=first|decide|omega) only[hA,go_sem]
  exact ZA (xs:=[.v (.bool false)]) (.inr rfl) (by simp (disch:=first|decide|omega) only[JA,zA,go_sem,hA]) kO hR hB ⟨by unfold nwB;rw[e1];rfl,rfl,rfl⟩
 by_cases h3:n.l.length=n.tm.length
 case neg =>
  have d3:((n.l.length:Int) != (n.tm.length:Int))=true:=by simp;omega
  simp (disch:=first|decide|omega) only[hA,d3,List.length_map,go_sem]
  exact ZA (xs:=[.v (.bool false)]) (.inr rfl) (by simp (disch:=first|decide|omega) only[JA,zA,go_sem,hA]) kO hR hB ⟨by unfold nwB;rw[e1,F h3];rfl,rfl,rfl⟩
 have d3:((n.l.length:Int) != (n.tm.length:Int))=false:=by simp;omega
 have e3:decide (n.l.length=n.tm.length)=true:=decide_eq_true h3
 by_cases h4:1000<n.l.length
 ·have d4:decide ((1000:Int)<(n.l.length:Int))=true:=decide_eq_true oM
  simp (disch:=first|decide|omega) only[hA,d3,d4,List.length_map,go_sem]
  exact ZA (xs:=[.v (.bool false)]) (.inr rfl) (by simp (disch:=first|decide|omega) only[JA,zA,go_sem,hA]) kO hR hB ⟨by unfold nwB;rw[e1,e3,F (show ¬n.l.length≤1000 by omega)];rfl,rfl,rfl⟩
 have d4:decide ((1000:Int)<(n.l.length:Int))=false:=decide_eq_false oM
 have e4:decide (n.l.length≤1000)=true:=decide_eq_true oM
 by_cases h5:1000<n.fates.length
 ·have d5:decide ((1000:Int)<(n.fates.length:Int))=true:=decide_eq_true oM
  simp (disch:=first|decide|omega) only[hA,d3,d4,d5,List.length_map,go_sem]
  exact ZA (xs:=[.v (.bool false)]) (.inr rfl) (by simp (disch:=first|decide|omega) only[JA,zA,go_sem,hA]) kO hR hB ⟨by unfold nwB;rw[e1,e3,e4,F (show ¬n.fates.length≤1000 by omega)];rfl,rfl,rfl⟩
 have d5:decide ((1000:Int)<(n.fates.length:Int))=false:=decide_eq_false oM
 have e5:decide (n.fates.length≤1000)=true:=decide_eq_true oM
 simp (disch:=first|decide|omega) only[hA,d3,d4,d5,List.length_map,go_sem]
 refine QA.nxt (GV n.fates oM _ _) ?_
 cases h6:NX n.fates
 ·simp (disch:=first|decide|omega) only[hA,go_sem]
  exact ZA (xs:=[.v (.bool false)]) (.inr rfl) (by simp (disch:=first|decide|omega) only[JA,zA,go_sem,hA]) kO hR hB ⟨by unfold nwB;rw[e1,e3,e4,e5,h6];rfl,rfl,rfl⟩
 have RF:=ZBL (n:=n) (by rw[e1,e3,e4,e5,h6];rfl)
 have l0:ER n 0=0:=rfl
 simp (disch:=first|decide|omega) only[hA,List.length_map,go_sem]
 refine tA (ι:=Nat) zQ (fun i=>[(3,.v (.int .i64 (ER n i))),(4,.v (.int .i64 i))]) 1 (fun _=>[.live 0 5 [[.v (.int .i64 n.now),.v (.bool n.fifo),.v (.isl 4 (n.l.map eMs)),.v (.isl 1 (n.tm.map eI)),.v (.isl 2 (n.fates.map eFt))]]])
  (fun i=>i≤n.l.length∧∀j,j<i→mtB n j=true) (fun i=>n.l.length-i) 0 ⟨Nat.zero_le _,fun j hj=>by omega⟩ (by (repeat (first|exact hE.mono oM|refine KLt.up ?_ kL))) (by ((try simp (disch:=decide) only[hA,l0,go_sem])<;>exact kH)) (fun e=>qA.refl _ _ _) ?_
 rintro g1 mH wD KB i ⟨hi,h0⟩
 by_cases LA:i<n.l.length
 ·have hm:=ML LA
  have ht:=mE (show i<n.tm.length by omega)
  have hmt:=ZFB h0
  rw[KA LA]at hmt
  have N8:mtB n i=false→nwB n=false:=fun h=>by
   rw[RF,List.all_eq_false]
   exact⟨i,List.mem_range.2 LA,by rw[h];simp⟩
  simp (disch:=first|decide|omega) only[hA,KB,hm,List.length_map,go_sem]
  refine QA.nxt (R5 n.l[i] _ _) ?_
  cases q1:msB n.l[i]
  ·simp (disch:=first|decide|omega) only[hA,KB,go_sem]
   exact ZA (xs:=[.v (.bool false)]) (.inr rfl) (by simp (disch:=first|decide|omega) only[JA,zA,go_sem,hA,KB]) kO hR hB ⟨by rw[N8 (by rw[hmt,q1];rfl)];rfl,rfl,rfl⟩
  simp (disch:=first|decide|omega) only[hA,KB,ht,go_sem]
  refine QA.nxt (zI (n.tm.getD i 0) (ER n i) 1099512627776 _ _) ?_
  cases q2:decide (ER n i≤n.tm.getD i 0∧n.tm.getD i 0≤1099512627776)
  ·simp (disch:=first|decide|omega) only[hA,KB,go_sem]
   exact ZA (xs:=[.v (.bool false)]) (.inr rfl) (by simp (disch:=first|decide|omega) only[JA,zA,go_sem,hA,KB]) kO hR hB ⟨by rw[N8 (by rw[hmt,q1,q2];rfl)];rfl,rfl,rfl⟩
  have hla:ER n (i+1)=n.tm.getD i 0:=rfl
  simp (disch:=first|decide|omega) only[hA,KB,ht,go_sem]
  refine⟨i+1,⟨LA,fun j hj=>?_⟩,by simp only;omega,?_⟩
  ·rcases Nat.lt_or_ge j i with fG|fG
   ·exact h0 j fG
   ·obtain rfl:j=i:=by omega
    rw[hmt,q1,q2];rfl
  ·exact qA.kround (p:=zQ) (k:=1) (by ((repeat refine (gA rfl).trans ?_);exact wD)) (by ((try simp (disch:=decide) only[hA,hla,go_sem])<;>exact kH)) rfl mH (by simp) kV hR kL
 ·obtain rfl:i=n.l.length:=by omega
  simp (disch:=first|decide|omega) only[hA,KB,List.length_map,go_sem]
  exact ZA (xs:=[.v (.bool true)]) (.inr rfl) (by simp (disch:=first|decide|omega) only[JA,zA,go_sem,hA,KB]) kO hR hB ⟨by rw[RF,List.all_eq_true.2 (fun j hj=>h0 j (List.mem_range.1 hj))];rfl,rfl,rfl⟩
def a_sameM:AFunc:=({c:=_}:CF Tryz.prog 126).c
theorem RZ:dA Tryz.prog 126=some a_sameM:=by kernel_rfl
def ZX:List (Nat×Nat):=[(4,5),(34,51)]
def a_sameN:AFunc:=⟨2,102,[.tmp 4],(.seq (.region [⟨some 2,.box (.t 0),none⟩,⟨some 3,.box (.t 1),none⟩,⟨some 4,.mv (.c (.v (.bool false))),none⟩]) (.seq (.seq (.region [⟨some 8,.faddr 0 (.t 2),none⟩,⟨some 9,.load none (.t 8),none⟩,⟨some 10,.faddr 0 (.t 3),none⟩,⟨some 11,.load none (.t 10),none⟩,⟨some 12,.bin .neq (.t 9) (.t 11),none⟩,⟨some 13,.mv (.t 12),none⟩,⟨some 14,.faddr 1 (.t 2),some (13,false)⟩,⟨some 15,.load none (.t 14),some (13,false)⟩,⟨some 16,.faddr 1 (.t 3),some (13,false)⟩,⟨some 17,.load none (.t 16),some (13,false)⟩,⟨some 18,.binB .neq (.t 15) (.t 17),some (13,false)⟩,⟨some 19,.pick (.t 13) (.c (.v (.bool true))) (.t 18),none⟩,⟨some 20,.mv (.t 19),none⟩,⟨some 21,.faddr 2 (.t 2),some (20,false)⟩,⟨some 22,.load none (.t 21),some (20,false)⟩,⟨some 23,.len (.t 22),some (20,false)⟩,⟨some 24,.faddr 2 (.t 3),some (20,false)⟩,⟨some 25,.load none (.t 24),some (20,false)⟩,⟨some 26,.len (.t 25),some (20,false)⟩,⟨some 27,.bin .neq (.t 23) (.t 26),some (20,false)⟩,⟨some 28,.pick (.t 20) (.c (.v (.bool true))) (.t 27),none⟩,⟨some 29,.mv (.t 28),none⟩,⟨some 30,.faddr 3 (.t 2),some (29,false)⟩,⟨some 31,.load none (.t 30),some (29,false)⟩,⟨some 32,.len (.t 31),some (29,false)⟩,⟨some 33,.faddr 3 (.t 3),some (29,false)⟩,⟨some 34,.load none (.t 33),some (29,false)⟩,⟨some 35,.len (.t 34),some (29,false)⟩,⟨some 36,.bin .neq (.t 32) (.t 35),some (29,false)⟩,⟨some 37,.pick (.t 29) (.c (.v (.bool true))) (.t 36),none⟩,⟨some 38,.mv (.t 37),none⟩,⟨some 39,.faddr 4 (.t 2),some (38,false)⟩,⟨some 40,.load none (.t 39),some (38,false)⟩,⟨some 41,.len (.t 40),some (38,false)⟩,⟨some 42,.faddr 4 (.t 3),some (38,false)⟩,⟨some 43,.load none (.t 42),some (38,false)⟩,⟨some 44,.len (.t 43),some (38,false)⟩,⟨some 45,.bin .neq (.t 41) (.t 44),some (38,false)⟩,⟨some 46,.pick (.t 38) (.c (.v (.bool true))) (.t 45),none⟩]) (.cond (.t 46) (.seq (.region [⟨some 4,.mv (.c (.v (.bool false))),none⟩]) .ret) .skip)) (.seq (.seq (.region [⟨some 5,.mv (.c (.v (.int .i64 0))),none⟩]) (.block 0 (.loop (.seq (.seq (.region [⟨some 47,.mv (.t 5),none⟩,⟨some 48,.faddr 2 (.t 2),none⟩,⟨some 49,.load none (.t 48),none⟩,⟨some 50,.len (.t 49),none⟩,⟨some 51,.bin .lss (.t 47) (.t 50),none⟩]) (.cond (.t 51) .skip (.exit 0))) (.seq (.block 1 (.seq (.draw [⟨0,⟨some 54,.faddr 2 (.t 2),none⟩,[]⟩,⟨1,⟨some 55,.load none (.t 54),none⟩,[]⟩,⟨2,⟨some 56,.mv (.t 5),none⟩,[]⟩,⟨3,⟨some 57,.iaddr 4 (.t 55) (.t 56),none⟩,[]⟩,⟨4,⟨some 58,.load (some 4) (.t 57),none⟩,[]⟩,⟨5,⟨some 59,.faddr 2 (.t 3),none⟩,[]⟩,⟨6,⟨some 60,.load none (.t 59),none⟩,[]⟩,⟨7,⟨some 61,.mv (.t 5),none⟩,[]⟩,⟨8,⟨some 62,.iaddr 4 (.t 60) (.t 61),none⟩,[]⟩,⟨9,⟨some 63,.load (some 4) (.t 62),none⟩,[]⟩,⟨10,⟨some 64,.call (.c (.fn 126 [])) [(.t 58),(.t 63)],none⟩,[]⟩,⟨11,⟨some 65,.not (.t 64),none⟩,[]⟩]) (.cond (.t 65) (.seq (.region [⟨some 4,.mv (.c (.v (.bool false))),none⟩]) .ret) .skip))) (.region [⟨some 52,.mv (.t 5),none⟩,⟨some 53,.bin .add (.t 52) (.c (.v (.int .i64 1))),none⟩,⟨some 5,.mv (.t 53),none⟩])))))) (.seq (.seq (.region [⟨some 6,.mv (.c (.v (.int .i64 0))),none⟩]) (.block 2 (.loop (.seq (.seq (.region [⟨some 66,.mv (.t 6),none⟩,⟨some 67,.faddr 3 (.t 2),none⟩,⟨some 68,.load none (.t 67),none⟩,⟨some 69,.len (.t 68),none⟩,⟨some 70,.bin .lss (.t 66) (.t 69),none⟩]) (.cond (.t 70) .skip (.exit 2))) (.seq (.block 3 (.seq (.draw [⟨0,⟨some 73,.faddr 3 (.t 2),none⟩,[]⟩,⟨1,⟨some 74,.load none (.t 73),none⟩,[]⟩,⟨2,⟨some 75,.mv (.t 6),none⟩,[]⟩,⟨3,⟨some 76,.iaddr 1 (.t 74) (.t 75),none⟩,[]⟩,⟨4,⟨some 77,.load none (.t 76),none⟩,[]⟩,⟨5,⟨some 78,.faddr 3 (.t 3),none⟩,[]⟩,⟨6,⟨some 79,.load none (.t 78),none⟩,[]⟩,⟨7,⟨some 80,.mv (.t 6),none⟩,[]⟩,⟨8,⟨some 81,.iaddr 1 (.t 79) (.t 80),none⟩,[]⟩,⟨9,⟨some 82,.load none (.t 81),none⟩,[]⟩,⟨10,⟨some 83,.bin .neq (.t 77) (.t 82),none⟩,[]⟩]) (.cond (.t 83) (.seq (.region [⟨some 4,.mv (.c (.v (.bool false))),none⟩]) .ret) .skip))) (.region [⟨some 71,.mv (.t 6),none⟩,⟨some 72,.bin .add (.t 71) (.c (.v (.int .i64 1))),none⟩,⟨some 6,.mv (.t 72),none⟩])))))) (.seq (.seq (.region [⟨some 7,.mv (.c (.v (.int .i64 0))),none⟩]) (.block 4 (.loop (.seq (.seq (.region [⟨some 84,.mv (.t 7),none⟩,⟨some 85,.faddr 4 (.t 2),none⟩,⟨some 86,.load none (.t 85),none⟩,⟨some 87,.len (.t 86),none⟩,⟨some 88,.bin .lss (.t 84) (.t 87),none⟩]) (.cond (.t 88) .skip (.exit 4))) (.seq (.block 5 (.seq (.draw [⟨0,⟨some 91,.faddr 4 (.t 2),none⟩,[]⟩,⟨1,⟨some 92,.load none (.t 91),none⟩,[]⟩,⟨2,⟨some 93,.mv (.t 7),none⟩,[]⟩,⟨3,⟨some 94,.iaddr 2 (.t 92) (.t 93),none⟩,[]⟩,⟨4,⟨some 95,.load (some 2) (.t 94),none⟩,[]⟩,⟨5,⟨some 96,.faddr 4 (.t 3),none⟩,[]⟩,⟨6,⟨some 97,.load none (.t 96),none⟩,[]⟩,⟨7,⟨some 98,.mv (.t 7),none⟩,[]⟩,⟨8,⟨some 99,.iaddr 2 (.t 97) (.t 98),none⟩,[]⟩,⟨9,⟨some 100,.load (some 2) (.t 99),none⟩,[]⟩,⟨10,⟨some 101,.eqs true [.i,.i] (.t 95) (.t 100),none⟩,[]⟩]) (.cond (.t 101) (.seq (.region [⟨some 4,.mv (.c (.v (.bool false))),none⟩]) .ret) .skip))) (.region [⟨some 89,.mv (.t 7),none⟩,⟨some 90,.bin .add (.t 89) (.c (.v (.int .i64 1))),none⟩,⟨some 7,.mv (.t 90),none⟩])))))) (.seq (.region [⟨some 4,.mv (.c (.v (.bool true))),none⟩]) .ret))))))⟩
theorem DZ:dA Tryz.prog 69=some a_sameN:=by kernel_rfl
def OW:List (Nat×Nat):=[(4,5),(47,65)]
def AW:List (Nat×Nat):=[(4,4),(6,6),(66,83)]
def CW:List (Nat×Nat):=[(4,4),(7,7),(84,101)]

noncomputable def eqB {α:Type} (a c:α):Bool:=@decide (a=c) (Classical.propDecidable _)
theorem Y8 {α:Type} {a c:α} (h:a=c):eqB a c=true:=by unfold eqB;exact @decide_eq_true _ (Classical.propDecidable _) h
theorem pJ {α:Type} {a c:α} (h:a≠c):eqB a c=false:=by unfold eqB;exact @decide_eq_false _ (Classical.propDecidable _) h
theorem ZDK {α:Type} {a c:α}:eqB a c=true↔a=c:=by unfold eqB;exact @decide_eq_true_iff _ (Classical.propDecidable _)
theorem QV {α:Type} {d:α} {v w:List α} (hl:v.length=w.length) (h:∀i,i<v.length→v.getD i d=w.getD i d):v=w:=by
 refine List.ext_getElem hl (fun i h1 h2=>?_)
 have:=h i h1
 rwa [KA h1,KA h2]at this
theorem nY (a c:Ms) (hn:a.body.length≤1000000) (b l:List Row):QA Tryz.prog 126 [.agg [.v (.int .i64 a.fr),.v (.int .i64 a.to),.v (.int .i64 a.nu),.v (.isl 1 (a.body.map eI))],.agg [.v (.int .i64 c.fr),.v (.int .i64 c.to),.v (.int .i64 c.nu),.v (.isl 1 (c.body.map eI))]] b l (fun r b' l'=>r=.v (.bool (eqB a c))∧b'=b∧l'=l):=by
 refine VA RZ rfl (by decide) ?_
 intro B g hB hR hE hA;simp only[xA]at hA
 by_cases h1:a.fr=c.fr
 case neg =>
  have d1:(a.fr != c.fr)=true:=by simp[h1]
  simp (disch:=first|decide|omega) only[a_sameM,hA,d1,go_sem]
  exact ZA (xs:=[.v (.bool false)]) (.inr rfl) (by simp (disch:=first|decide|omega) only[JA,zA,go_sem,hA]) kO hR hB ⟨by rw[pJ (fun h=>h1 (by rw[h]))];rfl,rfl,rfl⟩
 have d1:(a.fr != c.fr)=false:=by simp[h1]
 by_cases h2:a.to=c.to
 case neg =>
  have d2:(a.to != c.to)=true:=by simp[h2]
  simp (disch:=first|decide|omega) only[a_sameM,hA,d1,d2,go_sem]
  exact ZA (xs:=[.v (.bool false)]) (.inr rfl) (by simp (disch:=first|decide|omega) only[JA,zA,go_sem,hA]) kO hR hB ⟨by rw[pJ (fun h=>h2 (by rw[h]))];rfl,rfl,rfl⟩
 have d2:(a.to != c.to)=false:=by simp[h2]
 by_cases h3:a.nu=c.nu
 case neg =>
  have d3:(a.nu != c.nu)=true:=by simp[h3]
  simp (disch:=first|decide|omega) only[a_sameM,hA,d1,d2,d3,go_sem]
  exact ZA (xs:=[.v (.bool false)]) (.inr rfl) (by simp (disch:=first|decide|omega) only[JA,zA,go_sem,hA]) kO hR hB ⟨by rw[pJ (fun h=>h3 (by rw[h]))];rfl,rfl,rfl⟩
 have d3:(a.nu != c.nu)=false:=by simp[h3]
 by_cases h4:a.body.length=c.body.length
 case neg =>
  have d4:((a.body.length:Int) != (c.body.length:Int))=true:=by simp;omega
  simp (disch:=first|decide|omega) only[a_sameM,hA,d1,d2,d3,d4,List.length_map,go_sem]
  exact ZA (xs:=[.v (.bool false)]) (.inr rfl) (by simp (disch:=first|decide|omega) only[JA,zA,go_sem,hA]) kO hR hB ⟨by rw[pJ (fun h=>h4 (by rw[h]))];rfl,rfl,rfl⟩
 have d4:((a.body.length:Int) != (c.body.length:Int))=false:=by simp;omega
 simp (disch:=first|decide|omega) only[a_sameM,hA,d1,d2,d3,d4,List.length_map,go_sem]
 refine tA (ι:=Nat) ZX (fun i=>[(5,.v (.int .i64 i))]) 2 (fun _=>[.live 0 4 [[.v (.int .i64 a.fr),.v (.int .i64 a.to),.v (.int .i64 a.nu),.v (.isl 1 (a.body.map eI))]],.live 0 4 [[.v (.int .i64 c.fr),.v (.int .i64 c.to),.v (.int .i64 c.nu),.v (.isl 1 (c.body.map eI))]]])
  (fun i=>i≤a.body.length∧∀j,j<i→a.body.getD j 0=c.body.getD j 0) (fun i=>a.body.length-i) 0 ⟨Nat.zero_le _,fun j hj=>by omega⟩ (by (repeat (first|exact hE.mono oM|refine KLt.up ?_ kL))) (by ((try simp (disch:=decide) only[hA,go_sem])<;>exact kH)) (fun e=>qA.refl _ _ _) ?_
 rintro g1 mH wD KB i ⟨hi,h0⟩
 by_cases LA:i<a.body.length
 ·have ha:=mE LA
  have hc:=mE (show i<c.body.length by omega)
  by_cases h5:a.body.getD i 0=c.body.getD i 0
  ·have d5:(a.body.getD i 0 != c.body.getD i 0)=false:=by rw[h5];simp
   simp (disch:=first|decide|omega) only[hA,KB,ha,hc,d5,List.length_map,go_sem]
   refine⟨i+1,⟨LA,fun j hj=>?_⟩,by simp only;omega,?_⟩
   ·rcases Nat.lt_or_ge j i with fG|fG
    ·exact h0 j fG
    ·obtain rfl:j=i:=by omega
     exact h5
   ·exact qA.kround (p:=ZX) (k:=2) (by ((repeat refine (gA rfl).trans ?_);exact wD)) (by ((try simp (disch:=decide) only[hA,go_sem])<;>exact kH)) rfl mH (by simp) kV hR kL
  ·have d5:(a.body.getD i 0 != c.body.getD i 0)=true:=bne_iff_ne.2 h5
   simp (disch:=first|decide|omega) only[hA,KB,ha,hc,d5,List.length_map,go_sem]
   exact ZA (xs:=[.v (.bool false)]) (.inr rfl) (by simp (disch:=first|decide|omega) only[JA,zA,go_sem,hA,KB]) kO hR hB ⟨by rw[pJ (fun h=>h5 (by rw[h]))];rfl,rfl,rfl⟩
 ·obtain rfl:i=a.body.length:=by omega
  simp (disch:=first|decide|omega) only[hA,KB,List.length_map,go_sem]
  have he:a=c:=by
   have hb:=QV h4 h0
   cases a;cases c;simp_all
  exact ZA (xs:=[.v (.bool true)]) (.inr rfl) (by simp (disch:=first|decide|omega) only[JA,zA,go_sem,hA,KB]) kO hR hB ⟨by rw[Y8 he];rfl,rfl,rfl⟩
theorem L4 {l:List (Int×Int)} {i:Nat} (h:i<l.length):(l.map eFt)[i]? = some [.int .i64 l[i].1,.int .i64 l[i].2]:=by
 rw[List.getElem?_map,List.getElem?_eq_getElem h];rfl
theorem tY (a c:Nw) (hS:NwS a) (b l:List Row):QA Tryz.prog 69 [.agg ((eNw a).map .v),.agg ((eNw c).map .v)] b l (fun r b' l'=>r=.v (.bool (eqB a c))∧b'=b∧l'=l):=by
 refine VA DZ rfl (by decide) ?_
 intro B g hB hR hE hA;simp only[xA]at hA
 have hal:=hS.l
 have hat:=hS.tm
 have haf:=hS.fates
 by_cases h1:a.now=c.now
 case neg =>
  have d1:(a.now != c.now)=true:=by simp[h1]
  simp (disch:=first|decide|omega) only[a_sameN,hA,eNw,d1,go_sem]
  exact ZA (xs:=[.v (.bool false)]) (.inr rfl) (by simp (disch:=first|decide|omega) only[JA,zA,go_sem,hA]) kO hR hB ⟨by rw[pJ (fun h=>h1 (by rw[h]))];rfl,rfl,rfl⟩
 have d1:(a.now != c.now)=false:=by simp[h1]
 by_cases h2:a.fifo=c.fifo
 case neg =>
  have d2:(!(a.fifo==c.fifo))=true:=by simp[h2]
  simp (disch:=first|decide|omega) only[a_sameN,hA,eNw,d1,d2,go_sem]
  exact ZA (xs:=[.v (.bool false)]) (.inr rfl) (by simp (disch:=first|decide|omega) only[JA,zA,go_sem,hA]) kO hR hB ⟨by rw[pJ (fun h=>h2 (by rw[h]))];rfl,rfl,rfl⟩
 have d2:(!(a.fifo==c.fifo))=false:=by simp[h2]
 by_cases h3:a.l.length=c.l.length
 case neg =>
  have d3:((a.l.length:Int) != (c.l.length:Int))=true:=by simp;omega
  simp (disch:=first|decide|omega) only[a_sameN,hA,eNw,d1,d2,d3,List.length_map,go_sem]
  exact ZA (xs:=[.v (.bool false)]) (.inr rfl) (by simp (disch:=first|decide|omega) only[JA,zA,go_sem,hA]) kO hR hB ⟨by rw[pJ (fun h=>h3 (by rw[h]))];rfl,rfl,rfl⟩
 have d3:((a.l.length:Int) != (c.l.length:Int))=false:=by simp;omega
 by_cases h4:a.tm.length=c.tm.length
 case neg =>
  have d4:((a.tm.length:Int) != (c.tm.length:Int))=true:=by simp;omega
  simp (disch:=first|decide|omega) only[a_sameN,hA,eNw,d1,d2,d3,d4,List.length_map,go_sem]
  exact ZA (xs:=[.v (.bool false)]) (.inr rfl) (by simp (disch:=first|decide|omega) only[JA,zA,go_sem,hA]) kO hR hB ⟨by rw[pJ (fun h=>h4 (by rw[h]))];rfl,rfl,rfl⟩
 have d4:((a.tm.length:Int) != (c.tm.length:Int))=false:=by simp;omega
 by_cases h5:a.fates.length=c.fates.length
 case neg =>
  have d5:((a.fates.length:Int) != (c.fates.length:Int))=true:=by simp;omega
  simp (disch:=first|decide|omega) only[a_sameN,hA,eNw,d1,d2,d3,d4,d5,List.length_map,go_sem]
  exact ZA (xs:=[.v (.bool false)]) (.inr rfl) (by simp (disch:=first|decide|omega) only[JA,zA,go_sem,hA]) kO hR hB ⟨by rw[pJ (fun h=>h5 (by rw[h]))];rfl,rfl,rfl⟩
 have d5:((a.fates.length:Int) != (c.fates.length:Int))=false:=by simp;omega
 simp (disch:=first|decide|omega) only[a_sameN,hA,eNw,d1,d2,d3,d4,d5,List.length_map,go_sem]
 refine tA (ι:=Nat) OW (fun i=>[(5,.v (.int .i64 i))]) 2 (fun _=>[.live 0 5 [[.v (.int .i64 a.now),.v (.bool a.fifo),.v (.isl 4 (a.l.map eMs)),.v (.isl 1 (a.tm.map eI)),.v (.isl 2 (a.fates.map eFt))]],.live 0 5 [[.v (.int .i64 c.now),.v (.bool c.fifo),.v (.isl 4 (c.l.map eMs)),.v (.isl 1 (c.tm.map eI)),.v (.isl 2 (c.fates.map eFt))]]])
  (fun i=>i≤a.l.length∧∀j,j<i→a.l.getD j dfMs=c.l.getD j dfMs) (fun i=>a.l.length-i) 0 ⟨Nat.zero_le _,fun j hj=>by omega⟩ (by (repeat (first|exact hE.mono oM|refine KLt.up ?_ kL))) (by ((try simp (disch:=decide) only[hA,go_sem])<;>exact kH)) (fun e=>qA.refl _ _ _) ?_
 rintro g1 mH wD KB i ⟨hi,h0⟩
 by_cases LA:i<a.l.length
 ·have ha:=ML LA
  have hlc:i<c.l.length:=by omega
  have hc:=ML hlc
  simp (disch:=first|decide|omega) only[hA,KB,ha,hc,List.length_map,go_sem]
  refine QA.nxt (nY a.l[i] c.l[i] (hS.body _ (List.getElem_mem LA)) _ _) ?_
  cases q:eqB a.l[i] c.l[i]
  ·have KH:a≠c:=fun h=>by
    subst h
    rw[Y8 rfl]at q;cases q
   simp (disch:=first|decide|omega) only[hA,KB,go_sem]
   exact ZA (xs:=[.v (.bool false)]) (.inr rfl) (by simp (disch:=first|decide|omega) only[JA,zA,go_sem,hA,KB]) kO hR hB ⟨by rw[pJ KH];rfl,rfl,rfl⟩
  ·simp (disch:=first|decide|omega) only[hA,KB,go_sem]
   refine⟨i+1,⟨LA,fun j hj=>?_⟩,by simp only;omega,?_⟩
   ·rcases Nat.lt_or_ge j i with fG|fG
    ·exact h0 j fG
    ·obtain rfl:j=i:=by omega
     rw[KA LA,KA hlc];exact ZDK.1 q
   ·exact qA.kround (p:=OW) (k:=2) (by ((repeat refine (gA rfl).trans ?_);exact wD)) (by ((try simp (disch:=decide) only[hA,go_sem])<;>exact kH)) rfl mH (by simp) kV hR kL
 obtain rfl:i=a.l.length:=by omega
 have hL:a.l=c.l:=QV h3 h0
 simp (disch:=first|decide|omega) only[hA,KB,List.length_map,go_sem]
 refine tA (ι:=Nat) AW (fun i=>[(6,.v (.int .i64 i))]) 2 (fun _=>[.live 0 5 [[.v (.int .i64 a.now),.v (.bool a.fifo),.v (.isl 4 (a.l.map eMs)),.v (.isl 1 (a.tm.map eI)),.v (.isl 2 (a.fates.map eFt))]],.live 0 5 [[.v (.int .i64 c.now),.v (.bool c.fifo),.v (.isl 4 (c.l.map eMs)),.v (.isl 1 (c.tm.map eI)),.v (.isl 2 (c.fates.map eFt))]]])
  (fun i=>i≤a.tm.length∧∀j,j<i→a.tm.getD j 0=c.tm.getD j 0) (fun i=>a.tm.length-i) 0 ⟨Nat.zero_le _,fun j hj=>by omega⟩ (by (repeat (first|exact mH.mono oM|refine KLt.up ?_ kL))) (by ((try simp (disch:=decide) only[hA,KB,go_sem])<;>exact kH)) (fun e=>qA.refl _ _ _) ?_
 rintro g2 CM bN IG i ⟨hi,h0⟩
 by_cases LA:i<a.tm.length
 ·have ha:=mE LA
  have hc:=mE (show i<c.tm.length by omega)
  by_cases h6:a.tm.getD i 0=c.tm.getD i 0
  ·have d6:(a.tm.getD i 0 != c.tm.getD i 0)=false:=by rw[h6];simp
   simp (disch:=first|decide|omega) only[hA,KB,IG,ha,hc,d6,List.length_map,go_sem]
   refine⟨i+1,⟨LA,fun j hj=>?_⟩,by simp only;omega,?_⟩
   ·rcases Nat.lt_or_ge j i with fG|fG
    ·exact h0 j fG
    ·obtain rfl:j=i:=by omega
     exact h6
   ·exact qA.kround (p:=AW) (k:=2) (by ((repeat refine (gA rfl).trans ?_);exact bN)) (by ((try simp (disch:=decide) only[hA,go_sem])<;>exact kH)) rfl CM (by simp) kV hR kL
  ·have d6:(a.tm.getD i 0 != c.tm.getD i 0)=true:=bne_iff_ne.2 h6
   simp (disch:=first|decide|omega) only[hA,KB,IG,ha,hc,d6,List.length_map,go_sem]
   exact ZA (xs:=[.v (.bool false)]) (.inr rfl) (by simp (disch:=first|decide|omega) only[JA,zA,go_sem,hA,KB,IG]) kO hR hB ⟨by rw[pJ (fun h=>h6 (by rw[h]))];rfl,rfl,rfl⟩
 obtain rfl:i=a.tm.length:=by omega
 have hT:a.tm=c.tm:=QV h4 h0
 simp (disch:=first|decide|omega) only[hA,KB,IG,List.length_map,go_sem]
 refine tA (ι:=Nat) CW (fun i=>[(7,.v (.int .i64 i))]) 2 (fun _=>[.live 0 5 [[.v (.int .i64 a.now),.v (.bool a.fifo),.v (.isl 4 (a.l.map eMs)),.v (.isl 1 (a.tm.map eI)),.v (.isl 2 (a.fates.map eFt))]],.live 0 5 [[.v (.int .i64 c.now),.v (.bool c.fifo),.v (.isl 4 (c.l.map eMs)),.v (.isl 1 (c.tm.map eI)),.v (.isl 2 (c.fates.map eFt))]]])
  (fun i=>i≤a.fates.length∧∀j,j<i→a.fates.getD j (0,0)=c.fates.getD j (0,0)) (fun i=>a.fates.length-i) 0 ⟨Nat.zero_le _,fun j hj=>by omega⟩ (by (repeat (first|exact CM.mono oM|refine KLt.up ?_ kL))) (by ((try simp (disch:=decide) only[hA,KB,IG,go_sem])<;>exact kH)) (fun e=>qA.refl _ _ _) ?_
 rintro g3 hE3 XY NO i ⟨hi,h0⟩
 by_cases LA:i<a.fates.length
 ·have hlc:i<c.fates.length:=by omega
  have ha:=L4 LA
  have hc:=L4 hlc
  cases q1:(a.fates[i].1==c.fates[i].1)
  case' false =>
   have KH:a≠c:=fun h=>by subst h;simp at q1
   simp (disch:=first|decide|omega) only[hA,KB,IG,NO,ha,hc,q1,Bool.false_and,List.length_map,go_sem]
   exact ZA (xs:=[.v (.bool false)]) (.inr rfl) (by simp (disch:=first|decide|omega) only[JA,zA,go_sem,hA,KB,IG,NO]) kO hR hB ⟨by rw[pJ KH];rfl,rfl,rfl⟩
  cases q2:(a.fates[i].2==c.fates[i].2)
  case' false =>
   have KH:a≠c:=fun h=>by subst h;simp at q2
   simp (disch:=first|decide|omega) only[hA,KB,IG,NO,ha,hc,q1,q2,List.length_map,go_sem]
   exact ZA (xs:=[.v (.bool false)]) (.inr rfl) (by simp (disch:=first|decide|omega) only[JA,zA,go_sem,hA,KB,IG,NO]) kO hR hB ⟨by rw[pJ KH];rfl,rfl,rfl⟩
  simp (disch:=first|decide|omega) only[hA,KB,IG,NO,ha,hc,q1,q2,List.length_map,go_sem]
  refine⟨i+1,⟨LA,fun j hj=>?_⟩,by simp only;omega,?_⟩
  ·rcases Nat.lt_or_ge j i with fG|fG
   ·exact h0 j fG
   ·obtain rfl:j=i:=by omega
    rw[KA LA,KA hlc]
    exact Prod.ext (by simpa using q1) (by simpa using q2)
  ·exact qA.kround (p:=CW) (k:=2) (by ((repeat refine (gA rfl).trans ?_);exact XY)) (by ((try simp (disch:=decide) only[hA,go_sem])<;>exact kH)) rfl hE3 (by simp) kV hR kL
 obtain rfl:i=a.fates.length:=by omega
 have hF:a.fates=c.fates:=QV h5 h0
 have he:a=c:=Nw.eq_iff.2 ⟨h1,h2,hL,hT,hF⟩
 simp (disch:=first|decide|omega) only[hA,KB,IG,NO,List.length_map,go_sem]
 exact ZA (xs:=[.v (.bool true)]) (.inr rfl) (by simp (disch:=first|decide|omega) only[JA,zA,go_sem,hA,KB,IG,NO]) kO hR hB ⟨by rw[Y8 he];rfl,rfl,rfl⟩
structure In where
 op:Int
 a:Int
 b:Int
structure Sv where
 name:ByteArray
 code:List In
 pc:Int
 vars:List Int
 off:Int
 rate:Int
structure Wd where
 sv:List Sv
 net:Nw
 now:Int
 sent:Int
 tr:Tr
def eIn (x:In):List IV:=[.int .i64 x.op,.int .i64 x.a,.int .i64 x.b]
def eSv (s:Sv):List IV:=[.str s.name,.isl 3 (s.code.map eIn),.int .i64 s.pc,.isl 1 (s.vars.map eI),.int .i64 s.off,.int .i64 s.rate]
def eWd (w:Wd):List IV:=[.isl 6 (w.sv.map eSv),.int .i64 w.net.now,.bool w.net.fifo,.isl 4 (w.net.l.map eMs),.isl 1 (w.net.tm.map eI),.isl 2 (w.net.fates.map eFt),.int .i64 w.now,.int .i64 w.sent,.isl 3 (w.tr.map ePr)]
def mN:In:=⟨0,0,0⟩
def dfSv:Sv:=⟨⟨#[]⟩,[],0,[],0,0⟩
def wd0:Wd:=⟨[],nw0,0,0,[]⟩
def rE (k c p n:Int) (x:In):Bool:=
 if x.op=1∨x.op=2 then inZ x.a 0 (k-1)&&vlB x.b
 else if x.op=3 then inZ x.a 0 (k-1)&&(inZ x.b 0 (n-1)&&decide (x.b≠p))
 else if x.op=4 then inZ x.a 0 (k-1)
 else if x.op=5 then inZ x.a 0 (k-1)&&inZ x.b 0 (c-1)
 else if x.op=6 then inZ x.a 0 (c-1)&&inZ x.b 0 (k-1)
 else decide (x.op=7∨x.op=8)
def xI (s:Sv):Bool:=inZ s.off 0 1000000&&inZ s.rate 500 2000
def aG (s:Sv) (now:Int):Bool:=xI s&&inZ now 0 1000000000
def JI (s:Sv) (now:Int):Int:=if aG s now=true then s.off+now*s.rate / 1000 else 0
def sv1 (s:Sv) (p n:Int):Bool:=pD s.name&&(inZ s.code.length 1 100&&(decide (s.vars.length≤8)&&(inZ s.pc 0 s.code.length&&(xI s&&(s.vars.all vlB&&s.code.all (rE s.vars.length s.code.length p n))))))
def svB (l:List Sv) (p:Nat):Bool:=sv1 (l.getD p dfSv) p l.length&&(l.take p).all fun x=>!(x.name==(l.getD p dfSv).name)
def GF (l:List Sv):Bool:=inZ l.length 1 8&&(List.range l.length).all (svB l)
structure SvS (s:Sv):Prop where
 name:s.name.size≤1000000
 code:s.code.length≤1000000
 vars:s.vars.length≤1000000
structure SvsS (l:List Sv):Prop where
 len:l.length≤1000000
 all:∀s∈l,SvS s
theorem MH {l:List Sv} {i:Nat} (h:i<l.length):(l.map eSv)[i]? = some [.str l[i].name,.isl 3 (l[i].code.map eIn),.int .i64 l[i].pc,.isl 1 (l[i].vars.map eI),.int .i64 l[i].off,.int .i64 l[i].rate]:=by
 rw[List.getElem?_map,List.getElem?_eq_getElem h];rfl
theorem LL {l:List In} {i:Nat} (h:i<l.length):(l.map eIn)[i]? = some [.int .i64 l[i].op,.int .i64 l[i].a,.int .i64 l[i].b]:=by
 rw[List.getElem?_map,List.getElem?_eq_getElem h];rfl
theorem uY (s:ByteArray):pE [⟨s,[],[]⟩]=pD s:=by
 have h1:bD [⟨s,[],[]⟩] 0=if pD s=true then 0 else 13:=by
  unfold bD
  cases h:pD s<;>simp[h,vC]
 have h2:ids [⟨s,[],[]⟩]=[]:=by simp[ids,zM,DA]
 unfold pE vF
 rw[h2,if_neg (by simp)]
 cases h:pD s
 ·rw[h]at h1
  simp[h1]
 ·rw[h]at h1
  simp[h1]

def idA (x:Nat×Nat):AV:=.agg [.v (.int .i64 x.1),.v (.int .i64 x.2)]
theorem j4 (w:World) (F:Nat→Prop) (L:LMap) (x:Nat×Nat):RepA w F L (idA x) (UB x):=by
 refine MA.agg (vs:=#[.int .i64 x.1,.int .i64 x.2]) ?_
 exact MA.cons (.v _ _ (.int _ _)) (MA.cons (.v _ _ (.int _ _)) MA.nil)
theorem lE {w:World} {F:Nat→Prop} {L:LMap} {x:AV} {xs:List AV} {vs:List Value} (h:MA w F L (x::xs) vs):∃v us,vs=v::us∧RepA w F L x v∧MA w F L xs us:=by
 obtain⟨h1,h2⟩:=h
 cases vs with
 |nil=>simp at h1
 |cons v us=>exact⟨v,us,rfl,h2 0 x v rfl rfl,by simpa using h1,fun i a u ha hu=>h2 (i+1) a u ha hu⟩
theorem dG {w:World} {F:Nat→Prop} {L:LMap} {vs:List Value} (h:MA w F L [] vs):vs=[]:=by
 have:=h.1
 exact List.eq_nil_of_length_eq_zero (by simpa using this.symm)
theorem fP {w:World} {F:Nat→Prop} {L:LMap} {t:Tr} {xs:List AV} {vs:Array Value} (hn:Nm t) (h:MA w F L (.agg [.v (eT t)]::xs) vs.toList):∃u us,vs=(.agg #[u]::us).toArray∧SlR 3 RPr w u t∧MA w F L xs us:=by
 obtain⟨v,us,h1,h2,h3⟩:=lE h
 obtain⟨cs,rfl,h4⟩:=h2.aggL
 obtain⟨u,rest,h5,h6,h7⟩:=lE h4
 have:=dG h7
 subst this
 have HX:cs=#[u]:=Array.toList_inj.1 (by rw[h5])
 subst HX
 exact⟨u,us,Array.toList_inj.1 (by rw[h1]),tr_in hn h6.vI,h3⟩

section
theorem wO (t:Tr) (hS:Sm t) (hN:Nm t) (b l:List Row):QA Tryz.prog 44 [.agg [.v (eT t)]] b l (fun r b' l'=>r=.v (.bool (pE t))∧b'=b∧l'=l):=by
 refine QA.of_ext ⟨_,Tryz.func44,by kernel_rfl,by kernel_rfl⟩ (fun F L w vs hr=>?_)
 obtain⟨u,us,rfl,hs,hr2⟩:=fP hN hr
 obtain rfl:=dG hr2
 refine (YO u t w hS hs).mono ?_
 rintro e w' ⟨rfl,he⟩
 exact⟨he,_,_,rfl,.v _ _ (.bool _),rfl,rfl,rfl⟩
theorem YQ (t:Tr) (hS:Small t) (hN:Nm t) (b l:List Row):QA Tryz.prog 44 [.agg [.v (eT t)]] b l (fun r b' l'=>r=.v (.bool (pE t))∧b'=b∧l'=l):=wO t hS.sm hN b l
end
section
variable (cs:List Int) (lr:List IV) (p i:Nat) (kd pr mg:Int) (x4 x5:AV) (B l:List Row)
end

theorem O2 {F:Nat→Prop} {W:World} (hF:∀b,F b→b<W.heap.size) (hG:s9 W F:=by intro _ _ h;cases h):Sim F (fun _ _=>none) ([]++[]) W:=
 ⟨fun i v z els hi=>by simp at hi,fun i v q hq=>(by cases hq),fun i i' v v' z z' e1 e2 bb q q' h1=>by simp at h1,fun b hb=>⟨hF b hb,by rintro⟨i,v,s,e1,q,h1,h2,h3⟩;cases h2⟩,hG⟩
def L2 (b4 b5:Nat):LMap:=fun id ver=>if id=0∧ver=0 then some (.pl b4 0 1 1) else if id=1∧ver=0 then some (.pl b5 0 1 1) else none
structure CutOk (t:Tr) (c:List Int):Prop where
 len:c.length=t.length
 np:t.length≤1000000
 nv:∀x∈t,x.vars.length≤1000000
 ne:∀x∈t,x.evs.length≤1000000
 na:∀x∈t,∀e∈x.evs,e.asg.length≤1000000
 le:∀(k:Nat) (h:k<t.length) (h2:k<c.length),0≤c[k]∧c[k]≤t[k].evs.length
end Go.Proofs.YtoccdlnoaindmaaGreatDoor
namespace Go.Proofs.YtoccdlnoaindmaaGreatDoor
open Go.RowKit
set_option linter.unusedVariables false
attribute [local go_sem] Oper.semAt_some

def RInt (w:World) (b o:Nat) (x:Int):Prop:=w.cell? ⟨b,o,none⟩=some (.int .i64 x)
theorem RInt.keeps:QS RInt:=fun _ _ _ _ _ he h=>he.cellAt h
def cAt (cs:List Int) (p:Nat):Int:=cs.getD p 0
end Go.Proofs.YtoccdlnoaindmaaGreatDoor
namespace Go.Proofs.YtoccdlnoaindmaaGreatDoor
set_option linter.unusedVariables false

section
theorem lV (t:Tr) (hS:Small t) (hN:Nm t) (b l:List Row) (m:Int):QA Tryz.prog 41 [.agg [.v (eT t)],.v (.int .i64 m)] b l (fun r b' l'=>r=.tup [idA (SC t 2 m),.v (.bool (decide (0<(SC t 2 m).2)))]∧b'=b∧l'=l):=by
 refine QA.of_ext ⟨_,Tryz.func41,by kernel_rfl,by kernel_rfl⟩ (fun F L w vs hr=>?_)
 obtain⟨u,us,rfl,hs,hr2⟩:=fP hN hr
 obtain⟨v,us,rfl,h3,hr2⟩:=lE hr2
 obtain rfl:=dG hr2
 cases h3.vI
 refine (K0 u t m w hS hs).mono ?_
 rintro e w' ⟨rfl,he⟩
 exact⟨he,_,_,rfl,MA.tup (MA.cons (j4 _ _ _ _) (MA.cons (.v _ _ (.bool _)) MA.nil)),rfl,rfl,rfl⟩
theorem pR (t:Tr) (hS:Small t) (hN:Nm t) (b l:List Row) (m:Int):QA Tryz.prog 171 [.agg [.v (eT t)],.v (.int .i64 m)] b l (fun r b' l'=>r=.tup [idA (SC t 3 m),.v (.bool (decide (0<(SC t 3 m).2)))]∧b'=b∧l'=l):=by
 refine QA.of_ext ⟨_,Tryz.func171,by kernel_rfl,by kernel_rfl⟩ (fun F L w vs hr=>?_)
 obtain⟨u,us,rfl,hs,hr2⟩:=fP hN hr
 obtain⟨v,us,rfl,h3,hr2⟩:=lE hr2
 obtain rfl:=dG hr2
 cases h3.vI
 refine (qU u t m w hS hs).mono ?_
 rintro e w' ⟨rfl,he⟩
 exact⟨he,_,_,rfl,MA.tup (MA.cons (j4 _ _ _ _) (MA.cons (.v _ _ (.bool _)) MA.nil)),rfl,rfl,rfl⟩
theorem iZ (t:Tr) (hS:Small t) (hN:Nm t) (b l:List Row) (hM:(ids t).length≤1000000):QA Tryz.prog 47 [.agg [.v (eT t)]] b l (fun r b' l'=>r=.v (.int .i64 (aL t))∧b'=b∧l'=l):=by
 refine QA.of_ext ⟨_,Tryz.func47,by kernel_rfl,by kernel_rfl⟩ (fun F L w vs hr=>?_)
 obtain⟨u,us,rfl,hs,hr2⟩:=fP hN hr
 obtain rfl:=dG hr2
 refine (O7 u t w hS hM hs).mono ?_
 rintro e w' ⟨rfl,he⟩
 exact⟨he,_,_,rfl,.v _ _ (.int _ _),rfl,rfl,rfl⟩
end
set_option linter.unusedSimpArgs false
theorem QA.frz {P:Program} {f i ver sz:Nat} {args:List AV} {rows:List (List IV)} {b l:List Row} {Q:AV→List Row→List Row→Prop} (hi:l[i]? = some (.live ver sz (vs rows))) (h:QA P f (args.map (frz (b.length+i) ver sz rows)) b (l.set i (.dead ver)) Q):QA P f args b l Q:=by
 refine⟨h.1,fun F L w us s hr=>?_⟩
 obtain⟨F',s1,rH,st1,_⟩:=mI (e:=args) hi F L w {tmps:=us,defers:=[]} s ⟨rfl,by have:=hr.1;simpa using this.symm,fun j x v hx hv=>hr.2 j x v hx (by simpa using hv)⟩
 refine Calls.mono (h.2 F' L w us s1 ⟨by have:=hr.1;simpa using this,fun j x v hx hv=>rH.2.2 j x v hx (by simpa using hv)⟩) ?_
 rintro en w' ⟨v,x,b',l',F2,L2,h1,h2,h3,h4,h5,h6⟩
 have FC:(b++l.set i (.dead ver)).length=(b++l).length:=by simp
 have st:Step (b++l).length F L (b++l) w F' L (b++l.set i (.dead ver)) w:=by
  refine⟨st1.imm,fun _ _ _ _ hl=>hl,rfl,rfl,rfl,Nat.le_refl _,fun _ _ _=>rfl,st1.own,fun id hid v hv=>?_,st1.fnew⟩
  by_cases hj:id<b.length
  ·rw[List.getElem?_append_left hj]at hv⊢;exact hv
  ·rw[List.getElem?_append_right oM]at hv⊢
   by_cases fG:i=id-b.length
   ·rw[←fG,hi]at hv;cases hv
   ·rw[List.getElem?_set_ne fG];exact hv
 exact⟨v,x,b',l',F2,L2,h1,h2,h3,st.trans (FC▸h4),h5,h6⟩

def kB (n:Nat) (f:Nat→Row):List Row:=(List.range n).map f
def rUp (f:Nat→Row) (i:Nat) (r:Row):Nat→Row:=fun j=>if i=j then r else f j
theorem rG {f:Nat→Row} {i:Nat} {r:Row}:rUp f i r i=r:=by unfold rUp;rw[if_pos rfl]
theorem GA {f:Nat→Row} {i j:Nat} {r:Row} (h:i≠j):rUp f i r j=f j:=by unfold rUp;rw[if_neg h]
theorem JB {n:Nat} {f:Nat→Row}:(kB n f).length=n:=by simp[kB]
theorem RG {n i:Nat} {f:Nat→Row} (h:i<n):(kB n f)[i]? = some (f i):=by
 unfold kB;rw[List.getElem?_map,List.getElem?_range h];rfl
theorem ZFH {n i:Nat} {f:Nat→Row} {r:Row}:(kB n f).set i r=kB n (rUp f i r):=by
 apply List.ext_getElem?
 intro j
 by_cases hj:j<n
 ·rw[RG hj]
  by_cases hij:i=j
  ·subst hij;rw[List.getElem?_set_self (by rw[JB];exact hj),rG]
  ·rw[List.getElem?_set_ne hij,RG hj,GA hij]
 ·rw[List.getElem?_eq_none (by rw[List.length_set,JB];omega),List.getElem?_eq_none (by rw[JB];omega)]
theorem JH {n i:Nat} {f:Nat→Row} {l:List Row} (h:i<n):hget (kB n f) l i=some (f i):=by
 unfold hget;rw[if_pos (by rw[JB];exact h),RG h]
theorem UN {n i:Nat} {f:Nat→Row} {l:List Row}:hget (kB n f) l (n+i)=l[i]?:=by
 unfold hget;rw[if_neg (by rw[JB];omega),JB,Nat.add_sub_cancel_left]
theorem AQ {n:Nat} {f:Nat→Row} {l:List Row}:hget (kB n f) l n=l[0]?:=UN (i:=0)
theorem uJ {n i:Nat} {f:Nat→Row} {r:Row} (h:i<n):qE (kB n f) i r=kB n (rUp f i r):=by
 unfold qE;rw[if_pos (by rw[JB];exact h),ZFH]
theorem xJ {n i:Nat} {f:Nat→Row} {l:List Row} {r:Row} (h:i<n):sE (kB n f) l i r=l:=by
 unfold sE;rw[if_pos (by rw[JB];exact h)]
theorem dL {n i:Nat} {f:Nat→Row} {r:Row}:qE (kB n f) (n+i) r=kB n f:=by
 unfold qE;rw[if_neg (by rw[JB];omega)]
theorem AN {n:Nat} {f:Nat→Row} {r:Row}:qE (kB n f) n r=kB n f:=dL (i:=0)
theorem iL {n i:Nat} {f:Nat→Row} {l:List Row} {r:Row}:sE (kB n f) l (n+i) r=l.set i r:=by
 unfold sE;rw[if_neg (by rw[JB];omega),JB,Nat.add_sub_cancel_left]
theorem CN {n:Nat} {f:Nat→Row} {l:List Row} {r:Row}:sE (kB n f) l n r=l.set 0 r:=iL (i:=0)
theorem ZDr (B:List Row):∃n f,n=B.length∧B=kB n f∧∀i r,B[i]? = some r→f i=r:=by
 refine⟨B.length,fun i=>B.getD i (.dead 0),rfl,?_,fun i r h=>by simp only[List.getD_eq_getElem?_getD,h];rfl⟩
 apply List.ext_getElem?
 intro j
 by_cases hj:j<B.length
 ·rw[RG hj,List.getD_eq_getElem?_getD,List.getElem?_eq_getElem hj];rfl
 ·rw[List.getElem?_eq_none oM,List.getElem?_eq_none (by rw[JB];omega)]
def DU (m:Nat) (r:Row):Prop:=∀ver sz els,r=.live ver sz els→∀row∈els,∀c∈row,AVlt m c
theorem DU.live {m ver sz:Nat} {els:List (List AV)} (h:∀row∈els,∀c∈row,AVlt m c):DU m (.live ver sz els):=fun v s e he=>by cases he;exact h
theorem DU.dead {m ver:Nat}:DU m (.dead ver):=fun v s e he=>by cases he
theorem DU.vs {m ver sz:Nat} {rows:List (List IV)}:DU m (.live ver sz (vs rows)):=.live (qK.2 trivial)
theorem iC {α:Type} (x:α):List.replicate 1 x=[x]:=rfl
attribute [local go_sem ↓] aB EA IB RB tC yB GB nC DB IC pA vB bB nA jB eB aA iB EB CA mA SB wB xB QB uB XB pB qB pC TB mC lC sD GC tD nD gC rC
attribute [local go_sem] AA lA gD YB bA rD bC eC fC QI XI aC MB LB FB uC uA lB eA mB fA ZB aop YE jD ZD VC QD OB XD pH GE tE amm vE AB rB dE OC nE comma RC aE nH bE eE YH iE xE kD XH eqC eqF rF cellsOf YA aD lD uE PG rd rdI TD mk MC AV.cell List.all_cons List.all_nil Bool.and_true Bool.true_and Bool.and_self List.length_cons List.length_nil List.length_append Nat.reduceAdd Nat.reduceSub Nat.reduceMul Nat.zero_add Nat.add_zero List.cons_append List.nil_append List.append_assoc List.append_nil List.getElem?_cons_zero List.getElem?_cons_succ List.getElem?_nil List.set_cons_zero List.set_cons_succ List.drop_zero List.drop_succ_cons List.take_zero List.take_succ_cons List.take_nil List.drop_nil List.map_cons List.map_nil Option.map_some if_true if_false Bool.false_eq_true and_self true_and and_true Nat.reduceLeDiff Nat.reduceLT Nat.le_refl Nat.reduceEqDiff ite_true ite_false beq_self_eq_true beq_true beq_false Bool.not_true Bool.not_false Bool.true_beq Bool.false_beq XE XC sB JD KD jC qC zC KC UD VD QE VB QJ DI XJ ZJ eF lF bF fF geI gtI aF decide_true decide_false room List.getElem?_map List.length_map List.length_take Int.toNat_natCast Nat.min_def Nat.min_self fD dD VE QC ED ZG xA List.getElem_cons_zero List.getElem_cons_succ
def a_within:AFunc:=({c:=_}:CF Tryz.prog 61).c
theorem KW:dA Tryz.prog 61=some a_within:=by kernel_rfl
def a_wval:AFunc:=({c:=_}:CF Tryz.prog 110).c
theorem s7:dA Tryz.prog 110=some a_wval:=by kernel_rfl
def a_wclock:AFunc:=({c:=_}:CF Tryz.prog 60).c
theorem qW:dA Tryz.prog 60=some a_wclock:=by kernel_rfl
def a_wClock:AFunc:=({c:=_}:CF Tryz.prog 15).c
theorem gW:dA Tryz.prog 15=some a_wClock:=by kernel_rfl
def a_wright:AFunc:=({c:=_}:CF Tryz.prog 113).c
theorem UW:dA Tryz.prog 113=some a_wright:=by kernel_rfl
def a_wright1:AFunc:=({c:=_}:CF Tryz.prog 153).c
theorem YU:dA Tryz.prog 153=some a_wright1:=by kernel_rfl
def a_wright2:AFunc:=({c:=_}:CF Tryz.prog 154).c
theorem XU:dA Tryz.prog 154=some a_wright2:=by kernel_rfl
def a_r54in:AFunc:=({c:=_}:CF Tryz.prog 63).c
theorem PZ:dA Tryz.prog 63=some a_r54in:=by kernel_rfl
def a_r54val:AFunc:=({c:=_}:CF Tryz.prog 91).c
theorem rW:dA Tryz.prog 91=some a_r54val:=by kernel_rfl
def a_r54rates:AFunc:=({c:=_}:CF Tryz.prog 62).c
theorem eR:dA Tryz.prog 62=some a_r54rates:=by kernel_rfl
def a_r54Clock:AFunc:=({c:=_}:CF Tryz.prog 16).c
theorem GR:dA Tryz.prog 16=some a_r54Clock:=by kernel_rfl
def a_r54Instr:AFunc:=({c:=_}:CF Tryz.prog 123).c
theorem aR:dA Tryz.prog 123=some a_r54Instr:=by kernel_rfl

theorem qD (x lo hi:Int) (b l:List Row):QA Tryz.prog 61 [.v (.int .i64 x),.v (.int .i64 lo),.v (.int .i64 hi)] b l (fun r b' l'=>r=.v (.bool (inZ x lo hi))∧b'=b∧l'=l):=by
 refine VA KW rfl (by decide) ?_
 intro B g hB hR hE hA;simp only[xA]at hA
 by_cases h1:lo≤x
 ·have d1:decide (x≥lo)=true:=decide_eq_true h1
  have d1':decide (lo≤x)=true:=decide_eq_true h1
  simp (disch:=first|decide|omega) only[a_within,hA,d1,d1',go_sem]
  exact ZA (xs:=[.v (.bool (decide (x≤hi)))]) (.inr rfl) (by simp (disch:=first|decide|omega) only[JA,zA,go_sem,hA]) kO hR hB ⟨by simp[inZ,h1,one],rfl,rfl⟩
 ·have d1:decide (x≥lo)=false:=decide_eq_false h1
  have d1':decide (lo≤x)=false:=decide_eq_false h1
  simp (disch:=first|decide|omega) only[a_within,hA,d1,d1',go_sem]
  exact ZA (xs:=[.v (.bool false)]) (.inr rfl) (by simp (disch:=first|decide|omega) only[JA,zA,go_sem,hA]) kO hR hB ⟨by simp[inZ,h1,one],rfl,rfl⟩
theorem sC (x lo hi:Int) (b l:List Row):QA Tryz.prog 63 [.v (.int .i64 x),.v (.int .i64 lo),.v (.int .i64 hi)] b l (fun r b' l'=>r=.v (.bool (inZ x lo hi))∧b'=b∧l'=l):=by
 refine VA PZ rfl (by decide) ?_
 intro B g hB hR hE hA;simp only[xA]at hA
 by_cases h1:lo≤x
 ·have d1:decide (x≥lo)=true:=decide_eq_true h1
  have d1':decide (lo≤x)=true:=decide_eq_true h1
  simp (disch:=first|decide|omega) only[a_r54in,hA,d1,d1',go_sem]
  exact ZA (xs:=[.v (.bool (decide (x≤hi)))]) (.inr rfl) (by simp (disch:=first|decide|omega) only[JA,zA,go_sem,hA]) kO hR hB ⟨by simp[inZ,h1,one],rfl,rfl⟩
 ·have d1:decide (x≥lo)=false:=decide_eq_false h1
  have d1':decide (lo≤x)=false:=decide_eq_false h1
  simp (disch:=first|decide|omega) only[a_r54in,hA,d1,d1',go_sem]
  exact ZA (xs:=[.v (.bool false)]) (.inr rfl) (by simp (disch:=first|decide|omega) only[JA,zA,go_sem,hA]) kO hR hB ⟨by simp[inZ,h1,one],rfl,rfl⟩
theorem jL (x:Int) (b l:List Row):QA Tryz.prog 110 [.v (.int .i64 x)] b l (fun r b' l'=>r=.v (.bool (vlB x))∧b'=b∧l'=l):=by
 refine VA s7 rfl (by decide) ?_
 intro B g hB hR hE hA;simp only[xA]at hA
 simp (disch:=first|decide|omega) only[a_wval,hA,go_sem]
 refine QA.nxt (qD _ _ _ _ _) ?_
 simp (disch:=first|decide|omega) only[hA,go_sem]
 exact ZA (xs:=[.v (.bool (inZ x (-1073741824) 1073741824))]) (.inr rfl) (by simp (disch:=first|decide|omega) only[JA,zA,go_sem,hA]) kO hR hB ⟨rfl,rfl,rfl⟩
theorem eK (x:Int) (b l:List Row):QA Tryz.prog 91 [.v (.int .i64 x)] b l (fun r b' l'=>r=.v (.bool (vlB x))∧b'=b∧l'=l):=by
 refine VA rW rfl (by decide) ?_
 intro B g hB hR hE hA;simp only[xA]at hA
 simp (disch:=first|decide|omega) only[a_r54val,hA,go_sem]
 refine QA.nxt (sC _ _ _ _ _) ?_
 simp (disch:=first|decide|omega) only[hA,go_sem]
 exact ZA (xs:=[.v (.bool (inZ x (-1073741824) 1073741824))]) (.inr rfl) (by simp (disch:=first|decide|omega) only[JA,zA,go_sem,hA]) kO hR hB ⟨rfl,rfl,rfl⟩
def LstC (x:AV):Prop:=(∃y,x=.v y)∨∃id ver o n,x=.sl id ver o n
theorem yO (y0 y1 y2:IV) (x3:AV) (off rate:Int) (b l:List Row) (h3:LstC x3):QA Tryz.prog 60 [.agg [.v y0,.v y1,.v y2,x3,.v (.int .i64 off),.v (.int .i64 rate)]] b l (fun r b' l'=>r=.v (.bool (inZ off 0 1000000&&inZ rate 500 2000))∧b'=b∧l'=l):=by
 refine VA qW rfl (by decide) ?_
 intro B g hB hR hE hA;simp only[xA]at hA
 rcases h3 with ⟨y,rfl⟩|⟨id,ver,o,n,rfl⟩
 all_goals
  simp (disch:=first|decide|omega) only[a_wclock,hA,go_sem]
  refine QA.nxt (qD _ _ _ _ _) ?_
  cases h1:inZ off 0 1000000
  ·simp (disch:=first|decide|omega) only[hA,go_sem]
   exact ZA (xs:=[.v (.bool false)]) (.inr rfl) (by simp (disch:=first|decide|omega) only[JA,zA,go_sem,hA]) kO hR hB ⟨by simp[one],rfl,rfl⟩
  ·simp (disch:=first|decide|omega) only[hA,go_sem]
   refine QA.nxt (qD _ _ _ _ _) ?_
   simp (disch:=first|decide|omega) only[hA,go_sem]
   exact ZA (xs:=[.v (.bool (inZ rate 500 2000))]) (.inr rfl) (by simp (disch:=first|decide|omega) only[JA,zA,go_sem,hA]) kO hR hB ⟨by simp[one],rfl,rfl⟩
theorem M1 {s:Sv} {now:Int} (h:aG s now=true):(0≤s.off∧s.off≤1000000)∧(500≤s.rate∧s.rate≤2000)∧(0≤now∧now≤1000000000)∧0≤now*s.rate∧now*s.rate≤2000000000000:=by
 unfold aG xI inZ at h
 simp only[Bool.and_eq_true,decide_eq_true_eq]at h
 obtain⟨⟨h1,h2⟩,h3⟩:=h
 refine⟨h1,h2,h3,Int.mul_nonneg h3.1 oM,?_⟩
 have:=Int.mul_le_mul h3.2 h2.2 oM oM
 omega
theorem lK (y0 y1 y2:IV) (x3:AV) (s:Sv) (now:Int) (b l:List Row) (h3:LstC x3):QA Tryz.prog 15 [.agg [.v y0,.v y1,.v y2,x3,.v (.int .i64 s.off),.v (.int .i64 s.rate)],.v (.int .i64 now)] b l (fun r b' l'=>r=.tup [.v (.int .i64 (JI s now)),.v (.int .i64 (if aG s now=true then 0 else 2))]∧b'=b∧l'=l):=by
 refine VA gW rfl (by decide) ?_
 intro B g hB hR hE hA;simp only[xA]at hA
 have cC:=fun b l=>yO y0 y1 y2 x3 s.off s.rate b l h3
 have e1:(inZ s.off 0 1000000&&inZ s.rate 500 2000)=xI s:=rfl
 rw[e1]at cC
 rcases h3 with ⟨y,rfl⟩|⟨id,ver,o,n,rfl⟩
 all_goals
  simp (disch:=first|decide|omega) only[a_wClock,hA,go_sem]
  refine QA.nxt (cC _ _) ?_
  cases h1:xI s
  ·have hk:aG s now=false:=by unfold aG;rw[h1];rfl
   simp (disch:=first|decide|omega) only[hA,go_sem]
   exact ZA (xs:=[.v (.int .i64 0),.v (.int .i64 2)]) (.inr rfl) (by simp (disch:=first|decide|omega) only[JA,zA,go_sem,hA]) kO hR hB ⟨by unfold JI;rw[hk];rfl,rfl,rfl⟩
  ·simp (disch:=first|decide|omega) only[hA,go_sem]
   refine QA.nxt (qD _ _ _ _ _) ?_
   cases h2:inZ now 0 1000000000
   ·have hk:aG s now=false:=by unfold aG;rw[h1,h2];rfl
    simp (disch:=first|decide|omega) only[hA,go_sem]
    exact ZA (xs:=[.v (.int .i64 0),.v (.int .i64 2)]) (.inr rfl) (by simp (disch:=first|decide|omega) only[JA,zA,go_sem,hA]) kO hR hB ⟨by unfold JI;rw[hk];rfl,rfl,rfl⟩
   ·have hk:aG s now=true:=by unfold aG;rw[h1,h2];rfl
    obtain⟨g1,g2,g3,g4,g5⟩:=M1 hk
    have hd:Int.tdiv (now*s.rate) 1000=now*s.rate / 1000:=Int.tdiv_eq_ediv_of_nonneg g4
    have IE:IntKind.i64.wrap (now*s.rate)=now*s.rate:=VB oM oM
    have hw2:IntKind.i64.wrap (now*s.rate / 1000)=now*s.rate / 1000:=VB oM oM
    have hw3:IntKind.i64.wrap (s.off+now*s.rate / 1000)=s.off+now*s.rate / 1000:=VB oM oM
    have n0:((1000:Int)=0)=False:=by decide
    simp (disch:=first|decide|omega) only[hA,hd,IE,hw2,hw3,n0,go_sem]
    exact ZA (xs:=[.v (.int .i64 (s.off+now*s.rate / 1000)),.v (.int .i64 0)]) (.inr rfl) (by simp (disch:=first|decide|omega) only[JA,zA,go_sem,hA]) kO hR hB ⟨by unfold JI;rw[hk];rfl,rfl,rfl⟩
theorem JM (y0 y1 y2 y3:IV) (s:Sv) (b l:List Row):QA Tryz.prog 62 [.agg [.v y0,.v y1,.v y2,.v y3,.v (.int .i64 s.off),.v (.int .i64 s.rate)]] b l (fun r b' l'=>r=.v (.bool (xI s))∧b'=b∧l'=l):=by
 refine VA eR rfl (by decide) ?_
 intro B g hB hR hE hA;simp only[xA]at hA
 simp (disch:=first|decide|omega) only[a_r54rates,hA,go_sem]
 refine QA.nxt (sC _ _ _ _ _) ?_
 cases h1:inZ s.off 0 1000000
 ·simp (disch:=first|decide|omega) only[hA,go_sem]
  exact ZA (xs:=[.v (.bool false)]) (.inr rfl) (by simp (disch:=first|decide|omega) only[JA,zA,go_sem,hA]) kO hR hB ⟨by simp[one,xI,h1],rfl,rfl⟩
 ·simp (disch:=first|decide|omega) only[hA,go_sem]
  refine QA.nxt (sC _ _ _ _ _) ?_
  simp (disch:=first|decide|omega) only[hA,go_sem]
  exact ZA (xs:=[.v (.bool (inZ s.rate 500 2000))]) (.inr rfl) (by simp (disch:=first|decide|omega) only[JA,zA,go_sem,hA]) kO hR hB ⟨by simp[one,xI,h1],rfl,rfl⟩
theorem lR (y0 y1 y2 y3:IV) (s:Sv) (now:Int) (b l:List Row):QA Tryz.prog 16 [.agg [.v y0,.v y1,.v y2,.v y3,.v (.int .i64 s.off),.v (.int .i64 s.rate)],.v (.int .i64 now)] b l (fun r b' l'=>r=.tup [.v (.int .i64 (JI s now)),.v (.bool (aG s now))]∧b'=b∧l'=l):=by
 refine VA GR rfl (by decide) ?_
 intro B g hB hR hE hA;simp only[xA]at hA
 have cC:=fun b l=>JM y0 y1 y2 y3 s b l
 simp (disch:=first|decide|omega) only[a_r54Clock,hA,go_sem]
 refine QA.nxt (cC _ _) ?_
 cases h1:xI s
 ·have hk:aG s now=false:=by unfold aG;rw[h1];rfl
  simp (disch:=first|decide|omega) only[hA,go_sem]
  exact ZA (xs:=[.v (.int .i64 0),.v (.bool false)]) (.inr rfl) (by simp (disch:=first|decide|omega) only[JA,zA,go_sem,hA]) kO hR hB ⟨by unfold JI;rw[hk];rfl,rfl,rfl⟩
 ·simp (disch:=first|decide|omega) only[hA,go_sem]
  refine QA.nxt (sC _ _ _ _ _) ?_
  cases h2:inZ now 0 1000000000
  ·have hk:aG s now=false:=by unfold aG;rw[h1,h2];rfl
   simp (disch:=first|decide|omega) only[hA,go_sem]
   exact ZA (xs:=[.v (.int .i64 0),.v (.bool false)]) (.inr rfl) (by simp (disch:=first|decide|omega) only[JA,zA,go_sem,hA]) kO hR hB ⟨by unfold JI;rw[hk];rfl,rfl,rfl⟩
  ·have hk:aG s now=true:=by unfold aG;rw[h1,h2];rfl
   obtain⟨g1,g2,g3,g4,g5⟩:=M1 hk
   have hd:Int.tdiv (now*s.rate) 1000=now*s.rate / 1000:=Int.tdiv_eq_ediv_of_nonneg g4
   have IE:IntKind.i64.wrap (now*s.rate)=now*s.rate:=VB oM oM
   have hw2:IntKind.i64.wrap (now*s.rate / 1000)=now*s.rate / 1000:=VB oM oM
   have hw3:IntKind.i64.wrap (s.off+now*s.rate / 1000)=s.off+now*s.rate / 1000:=VB oM oM
   have n0:((1000:Int)=0)=False:=by decide
   simp (disch:=first|decide|omega) only[hA,hd,IE,hw2,hw3,n0,go_sem]
   exact ZA (xs:=[.v (.int .i64 (s.off+now*s.rate / 1000)),.v (.bool true)]) (.inr rfl) (by simp (disch:=first|decide|omega) only[JA,zA,go_sem,hA]) kO hR hB ⟨by unfold JI;rw[hk];rfl,rfl,rfl⟩
def DF (s:Sv):Row:=.live 0 6 [[.v (.str s.name),.v (.isl 3 (s.code.map eIn)),.v (.int .i64 s.pc),.v (.isl 1 (s.vars.map eI)),.v (.int .i64 s.off),.v (.int .i64 s.rate)]]
theorem xF (s:Sv) (hS:SvS s) (x:Int) (id:Nat) (b l:List Row) (hg:hget b l id=some (DF s)):QA Tryz.prog 153 [.v (.int .i64 x),.ptr id 0 0 0] b l (fun r b' l'=>r=.v (.bool (inZ x 0 (s.vars.length-1)))∧b'=b∧l'=l):=by
 refine VA YU rfl (by decide) ?_
 intro B g hB hR hE hA;simp only[xA]at hA
 have hv:=hS.vars
 have IG:∀l',hget B l' id=some (DF s):=fun l'=>by
  rw[zD]at hg
  rw[zD,List.getElem?_append_left (by rw[hB];exact (List.getElem?_eq_some_iff.1 hg).1),hB];exact hg
 unfold DF at IG
 simp (disch:=first|decide|omega) only[a_wright1,hA,IG,List.length_map,go_sem]
 refine QA.nxt (qD _ _ _ _ _) ?_
 simp (disch:=first|decide|omega) only[hA,go_sem]
 exact ZA (xs:=[.v (.bool (inZ x 0 (s.vars.length-1)))]) (.inr rfl) (by simp (disch:=first|decide|omega) only[JA,zA,go_sem,hA]) kO hR hB ⟨rfl,rfl,rfl⟩
theorem IM (s:Sv) (hS:SvS s) (x:Int) (id:Nat) (b l:List Row) (hg:hget b l id=some (DF s)):QA Tryz.prog 154 [.v (.int .i64 x),.ptr id 0 0 0] b l (fun r b' l'=>r=.v (.bool (inZ x 0 (s.code.length-1)))∧b'=b∧l'=l):=by
 refine VA XU rfl (by decide) ?_
 intro B g hB hR hE hA;simp only[xA]at hA
 have hv:=hS.code
 have IG:∀l',hget B l' id=some (DF s):=fun l'=>by
  rw[zD]at hg
  rw[zD,List.getElem?_append_left (by rw[hB];exact (List.getElem?_eq_some_iff.1 hg).1),hB];exact hg
 unfold DF at IG
 simp (disch:=first|decide|omega) only[a_wright2,hA,IG,List.length_map,go_sem]
 refine QA.nxt (qD _ _ _ _ _) ?_
 simp (disch:=first|decide|omega) only[hA,go_sem]
 exact ZA (xs:=[.v (.bool (inZ x 0 (s.code.length-1)))]) (.inr rfl) (by simp (disch:=first|decide|omega) only[JA,zA,go_sem,hA]) kO hR hB ⟨rfl,rfl,rfl⟩
theorem dV (s:Sv) (hS:SvS s) (p n:Int) (hn:0≤n∧n≤1000000) (x:In) (b l:List Row):QA Tryz.prog 113 [.agg [.v (.str s.name),.v (.isl 3 (s.code.map eIn)),.v (.int .i64 s.pc),.v (.isl 1 (s.vars.map eI)),.v (.int .i64 s.off),.v (.int .i64 s.rate)],.v (.int .i64 p),.v (.int .i64 n),.agg [.v (.int .i64 x.op),.v (.int .i64 x.a),.v (.int .i64 x.b)]] b l (fun r b' l'=>r=.v (.bool (rE s.vars.length s.code.length p n x))∧b'=b∧l'=l):=by
 refine VA UW rfl (by decide) ?_
 intro B g hB hR hE hA;simp only[xA]at hA
 have hv:=hS.vars
 have hc:=hS.code
 have hwn:IntKind.i64.wrap (n-1)=n-1:=VB oM oM
 by_cases o:x.op=1
 ·have hr:rE s.vars.length s.code.length p n x=(inZ x.a 0 (s.vars.length-1)&&vlB x.b):=by unfold rE;rw[if_pos oM]
  rw[hr]
  have e1:(x.op==1)=true:=by simp[o]
  have e2:(x.op==2)=false:=by simp[o]
  have e3:(x.op==3)=false:=by simp[o]
  have e4:(x.op==4)=false:=by simp[o]
  have e5:(x.op==5)=false:=by simp[o]
  have e6:(x.op==6)=false:=by simp[o]
  have e7:(x.op==7)=false:=by simp[o]
  have e8:(x.op==8)=false:=by simp[o]
  simp (disch:=first|decide|omega) only[a_wright,hA,e1,e2,e3,e4,e5,e6,e7,e8,go_sem]
  refine QA.nxt (xF s hS x.a B.length B _ (by rw[uA];rfl)) ?_
  cases h1:inZ x.a 0 (s.vars.length-1)
  ·simp (disch:=first|decide|omega) only[hA,go_sem]
   exact ZA (xs:=[.v (.bool false)]) (.inr rfl) (by simp (disch:=first|decide|omega) only[JA,zA,go_sem,hA]) kO hR hB ⟨by simp[one],rfl,rfl⟩
  ·simp (disch:=first|decide|omega) only[hA,go_sem]
   refine QA.nxt (jL _ _ _) ?_
   simp (disch:=first|decide|omega) only[hA,go_sem]
   exact ZA (xs:=[.v (.bool (vlB x.b))]) (.inr rfl) (by simp (disch:=first|decide|omega) only[JA,zA,go_sem,hA]) kO hR hB ⟨by simp[one],rfl,rfl⟩
 have o1:=o
 clear o
 by_cases o:x.op=2
 ·have hr:rE s.vars.length s.code.length p n x=(inZ x.a 0 (s.vars.length-1)&&vlB x.b):=by unfold rE;rw[if_pos oM]
  rw[hr]
  have e1:(x.op==1)=false:=by simp[o]
  have e2:(x.op==2)=true:=by simp[o]
  have e3:(x.op==3)=false:=by simp[o]
  have e4:(x.op==4)=false:=by simp[o]
  have e5:(x.op==5)=false:=by simp[o]
  have e6:(x.op==6)=false:=by simp[o]
  have e7:(x.op==7)=false:=by simp[o]
  have e8:(x.op==8)=false:=by simp[o]
  simp (disch:=first|decide|omega) only[a_wright,hA,e1,e2,e3,e4,e5,e6,e7,e8,go_sem]
  refine QA.nxt (xF s hS x.a B.length B _ (by rw[uA];rfl)) ?_
  cases h1:inZ x.a 0 (s.vars.length-1)
  ·simp (disch:=first|decide|omega) only[hA,go_sem]
   exact ZA (xs:=[.v (.bool false)]) (.inr rfl) (by simp (disch:=first|decide|omega) only[JA,zA,go_sem,hA]) kO hR hB ⟨by simp[one],rfl,rfl⟩
  ·simp (disch:=first|decide|omega) only[hA,go_sem]
   refine QA.nxt (jL _ _ _) ?_
   simp (disch:=first|decide|omega) only[hA,go_sem]
   exact ZA (xs:=[.v (.bool (vlB x.b))]) (.inr rfl) (by simp (disch:=first|decide|omega) only[JA,zA,go_sem,hA]) kO hR hB ⟨by simp[one],rfl,rfl⟩
 have o2:=o
 clear o
 by_cases o:x.op=3
 ·have hr:rE s.vars.length s.code.length p n x=(inZ x.a 0 (s.vars.length-1)&&(inZ x.b 0 (n-1)&&decide (x.b≠p))):=by unfold rE;rw[if_neg oM,if_pos o]
  rw[hr]
  have e1:(x.op==1)=false:=by simp[o]
  have e2:(x.op==2)=false:=by simp[o]
  have e3:(x.op==3)=true:=by simp[o]
  have e4:(x.op==4)=false:=by simp[o]
  have e5:(x.op==5)=false:=by simp[o]
  have e6:(x.op==6)=false:=by simp[o]
  have e7:(x.op==7)=false:=by simp[o]
  have e8:(x.op==8)=false:=by simp[o]
  simp (disch:=first|decide|omega) only[a_wright,hA,e1,e2,e3,e4,e5,e6,e7,e8,go_sem]
  refine QA.nxt (xF s hS x.a B.length B _ (by rw[uA];rfl)) ?_
  cases h1:inZ x.a 0 (s.vars.length-1)
  ·simp (disch:=first|decide|omega) only[hA,go_sem]
   exact ZA (xs:=[.v (.bool false)]) (.inr rfl) (by simp (disch:=first|decide|omega) only[JA,zA,go_sem,hA]) kO hR hB ⟨by simp[one],rfl,rfl⟩
  ·simp (disch:=first|decide|omega) only[hA,hwn,go_sem]
   refine QA.nxt (qD _ _ _ _ _) ?_
   cases h2:inZ x.b 0 (n-1)
   ·simp (disch:=first|decide|omega) only[hA,go_sem]
    exact ZA (xs:=[.v (.bool false)]) (.inr rfl) (by simp (disch:=first|decide|omega) only[JA,zA,go_sem,hA]) kO hR hB ⟨by simp[one],rfl,rfl⟩
   ·have hb:(x.b != p)=decide (x.b≠p):=by by_cases h:x.b=p<;>simp[h]
    simp (disch:=first|decide|omega) only[hA,hb,go_sem]
    exact ZA (xs:=[.v (.bool (decide (x.b≠p)))]) (.inr rfl) (by simp (disch:=first|decide|omega) only[JA,zA,go_sem,hA]) kO hR hB ⟨by simp[one],rfl,rfl⟩
 have o3:=o
 clear o
 by_cases o:x.op=4
 ·have hr:rE s.vars.length s.code.length p n x=inZ x.a 0 (s.vars.length-1):=by unfold rE;rw[if_neg oM,if_neg oM,if_pos o]
  rw[hr]
  have e1:(x.op==1)=false:=by simp[o]
  have e2:(x.op==2)=false:=by simp[o]
  have e3:(x.op==3)=false:=by simp[o]
  have e4:(x.op==4)=true:=by simp[o]
  have e5:(x.op==5)=false:=by simp[o]
  have e6:(x.op==6)=false:=by simp[o]
  have e7:(x.op==7)=false:=by simp[o]
  have e8:(x.op==8)=false:=by simp[o]
  simp (disch:=first|decide|omega) only[a_wright,hA,e1,e2,e3,e4,e5,e6,e7,e8,go_sem]
  refine QA.nxt (xF s hS x.a B.length B _ (by rw[uA];rfl)) ?_
  simp (disch:=first|decide|omega) only[hA,go_sem]
  exact ZA (xs:=[.v (.bool (inZ x.a 0 (s.vars.length-1)))]) (.inr rfl) (by simp (disch:=first|decide|omega) only[JA,zA,go_sem,hA]) kO hR hB ⟨rfl,rfl,rfl⟩
 have o4:=o
 clear o
 by_cases o:x.op=5
 ·have hr:rE s.vars.length s.code.length p n x=(inZ x.a 0 (s.vars.length-1)&&inZ x.b 0 (s.code.length-1)):=by unfold rE;rw[if_neg oM,if_neg oM,if_neg oM,if_pos o]
  rw[hr]
  have e1:(x.op==1)=false:=by simp[o]
  have e2:(x.op==2)=false:=by simp[o]
  have e3:(x.op==3)=false:=by simp[o]
  have e4:(x.op==4)=false:=by simp[o]
  have e5:(x.op==5)=true:=by simp[o]
  have e6:(x.op==6)=false:=by simp[o]
  have e7:(x.op==7)=false:=by simp[o]
  have e8:(x.op==8)=false:=by simp[o]
  simp (disch:=first|decide|omega) only[a_wright,hA,e1,e2,e3,e4,e5,e6,e7,e8,go_sem]
  refine QA.nxt (xF s hS x.a B.length B _ (by rw[uA];rfl)) ?_
  cases h1:inZ x.a 0 (s.vars.length-1)
  ·simp (disch:=first|decide|omega) only[hA,go_sem]
   exact ZA (xs:=[.v (.bool false)]) (.inr rfl) (by simp (disch:=first|decide|omega) only[JA,zA,go_sem,hA]) kO hR hB ⟨by simp[one],rfl,rfl⟩
  ·simp (disch:=first|decide|omega) only[hA,go_sem]
   refine QA.nxt (IM s hS x.b B.length B _ (by rw[uA];rfl)) ?_
   simp (disch:=first|decide|omega) only[hA,go_sem]
   exact ZA (xs:=[.v (.bool (inZ x.b 0 (s.code.length-1)))]) (.inr rfl) (by simp (disch:=first|decide|omega) only[JA,zA,go_sem,hA]) kO hR hB ⟨by simp[one],rfl,rfl⟩
 have o5:=o
 clear o
 by_cases o:x.op=6
 ·have hr:rE s.vars.length s.code.length p n x=(inZ x.a 0 (s.code.length-1)&&inZ x.b 0 (s.vars.length-1)):=by unfold rE;rw[if_neg oM,if_neg oM,if_neg oM,if_neg oM,if_pos o]
  rw[hr]
  have e1:(x.op==1)=false:=by simp[o]
  have e2:(x.op==2)=false:=by simp[o]
  have e3:(x.op==3)=false:=by simp[o]
  have e4:(x.op==4)=false:=by simp[o]
  have e5:(x.op==5)=false:=by simp[o]
  have e6:(x.op==6)=true:=by simp[o]
  have e7:(x.op==7)=false:=by simp[o]
  have e8:(x.op==8)=false:=by simp[o]
  simp (disch:=first|decide|omega) only[a_wright,hA,e1,e2,e3,e4,e5,e6,e7,e8,go_sem]
  refine QA.nxt (IM s hS x.a B.length B _ (by rw[uA];rfl)) ?_
  cases h1:inZ x.a 0 (s.code.length-1)
  ·simp (disch:=first|decide|omega) only[hA,go_sem]
   exact ZA (xs:=[.v (.bool false)]) (.inr rfl) (by simp (disch:=first|decide|omega) only[JA,zA,go_sem,hA]) kO hR hB ⟨by simp[one],rfl,rfl⟩
  ·simp (disch:=first|decide|omega) only[hA,go_sem]
   refine QA.nxt (xF s hS x.b B.length B _ (by rw[uA];rfl)) ?_
   simp (disch:=first|decide|omega) only[hA,go_sem]
   exact ZA (xs:=[.v (.bool (inZ x.b 0 (s.vars.length-1)))]) (.inr rfl) (by simp (disch:=first|decide|omega) only[JA,zA,go_sem,hA]) kO hR hB ⟨by simp[one],rfl,rfl⟩
 have o6:=o
 clear o
 have hr:rE s.vars.length s.code.length p n x=decide (x.op=7∨x.op=8):=by unfold rE;rw[if_neg oM,if_neg oM,if_neg oM,if_neg oM,if_neg oM]
 rw[hr]
 have e1:(x.op==1)=false:=by simpa using o1
 have e2:(x.op==2)=false:=by simpa using o2
 have e3:(x.op==3)=false:=by simpa using o3
 have e4:(x.op==4)=false:=by simpa using o4
 have e5:(x.op==5)=false:=by simpa using o5
 have e6:(x.op==6)=false:=by simpa using o6
 by_cases o7:x.op=7
 ·have e7:(x.op==7)=true:=by simpa using o7
  simp (disch:=first|decide|omega) only[a_wright,hA,e1,e2,e3,e4,e5,e6,e7,go_sem]
  exact ZA (xs:=[.v (.bool true)]) (.inr rfl) (by simp (disch:=first|decide|omega) only[JA,zA,go_sem,hA]) kO hR hB ⟨by simp[one,o7],rfl,rfl⟩
 ·have e7:(x.op==7)=false:=by simpa using o7
  by_cases o8:x.op=8
  ·have e8:(x.op==8)=true:=by simpa using o8
   simp (disch:=first|decide|omega) only[a_wright,hA,e1,e2,e3,e4,e5,e6,e7,e8,go_sem]
   exact ZA (xs:=[.v (.bool true)]) (.inr rfl) (by simp (disch:=first|decide|omega) only[JA,zA,go_sem,hA]) kO hR hB ⟨by simp[one,o8],rfl,rfl⟩
  ·have e8:(x.op==8)=false:=by simpa using o8
   simp (disch:=first|decide|omega) only[a_wright,hA,e1,e2,e3,e4,e5,e6,e7,e8,go_sem]
   exact ZA (xs:=[.v (.bool false)]) (.inr rfl) (by simp (disch:=first|decide|omega) only[JA,zA,go_sem,hA]) kO hR hB ⟨by simp[one,o7,o8],rfl,rfl⟩
def a_wname:AFunc:=({c:=_}:CF Tryz.prog 107).c
theorem fZ:dA Tryz.prog 107=some a_wname:=by kernel_rfl
def a_wsvc1:AFunc:=({c:=_}:CF Tryz.prog 109).c
theorem mZ:dA Tryz.prog 109=some a_wsvc1:=by kernel_rfl
def a_wsvc2:AFunc:=({c:=_}:CF Tryz.prog 112).c
theorem pZ:dA Tryz.prog 112=some a_wsvc2:=by kernel_rfl
def a_wsvc3:AFunc:=({c:=_}:CF Tryz.prog 114).c
theorem nZ:dA Tryz.prog 114=some a_wsvc3:=by kernel_rfl
def a_wsvcs:AFunc:=({c:=_}:CF Tryz.prog 55).c
theorem tZ:dA Tryz.prog 55=some a_wsvcs:=by kernel_rfl
def MW:List (Nat×Nat):=[(2,4),(11,61)]

theorem OH:dA Tryz.prog 68=some (dJ 6):=by kernel_rfl
theorem ZI:dA Tryz.prog 20=some (QH 68):=by kernel_rfl
theorem J0:dA Tryz.prog 152=some (dJ 3):=by kernel_rfl
theorem V0:dA Tryz.prog 111=some (QH 152):=by kernel_rfl
theorem aY (s:ByteArray) (hs:s.size≤maxLen) (b l:List Row):QA Tryz.prog 122 [.v (.str s)] b l (fun r b' l'=>r=.v (.bool (pD s))∧b'=b∧l'=l):=by
 refine QA.of_ext ⟨_,Tryz.func122,by kernel_rfl,by kernel_rfl⟩ (fun F L w vs hr=>?_)
 obtain⟨u,us,h1,h2,h3⟩:=lE hr
 have:=dG h3
 subst this
 obtain rfl:vs=#[u]:=Array.toList_inj.1 (by rw[h1])
 cases h2.vI
 refine (M5 s w hs).mono ?_
 rintro e w' ⟨rfl,rfl⟩
 exact⟨Ext.refl _,_,_,rfl,.v _ _ (.bool _),rfl,rfl,rfl⟩
theorem ZEz {s:ByteArray} (hs:s.size≤maxLen):Nm [⟨s,[],[]⟩]:=fun p hp=>by
 simp at hp;subst hp
 exact⟨hs,fun v hv=>by simp at hv⟩
theorem l5 (s:ByteArray):Small [⟨s,[],[]⟩]:=by
 refine⟨by simp,fun x hx=>?_,fun x hx=>?_,fun x hx e he=>?_⟩<;>simp at hx<;>subst hx<;>simp at *
theorem kY (s:ByteArray) (hs:s.size≤maxLen) (b l:List Row):QA Tryz.prog 107 [.v (.str s)] b l (fun r b' l'=>r=.v (.bool (pD s))∧b'=b∧l'=l):=by
 refine VA fZ rfl (by decide) ?_
 intro B g hB hR hE hA;simp only[xA]at hA
 have cV:=fun b l=>YQ [⟨s,[],[]⟩] (l5 s) (ZEz hs) b l
 rw[uY]at cV
 simp (disch:=first|decide|omega) only[a_wname,hA,aD,lD,iC,go_sem]
 refine QA.frzB (i:=0) (ver:=0) (sz:=3) (rows:=[[.str s,.zsl,.zsl]]) (args':=[.agg [.v (.isl 3 [[.str s,.zsl,.zsl]])]]) rfl (by simp[frz,dF]) ?_
 refine QA.nxt ((cV _ _).le rfl (fun i x y hx hy=>?_)) ?_
 ·match i,hx,hy with
  |0,hx,hy =>
    cases hx;cases hy
    refine .agg _ _ rfl (fun j u v hu hv=>?_)
    match j,hu,hv with
    |0,hu,hv =>
      cases hu;cases hv
      refine .v _ _ (IVle.rows ⟨⟨rfl,fun k a c ha hc=>?_⟩,trivial⟩)
      match k,ha,hc with
      |0,ha,hc=>cases ha;cases hc;exact .refl _
      |1,ha,hc=>cases ha;cases hc;exact .zsl 2
      |2,ha,hc=>cases ha;cases hc;exact .zsl 5
 simp (disch:=first|decide|omega) only[hA,go_sem]
 exact ZA (xs:=[.v (.bool (pD s))]) (.inr rfl) (by simp (disch:=first|decide|omega) only[JA,zA,go_sem,hA]) kO hR hB ⟨rfl,rfl,rfl⟩
theorem vY (x:Int) (b l:List Row):QA Tryz.prog 109 [.v (.int .i64 x)] b l (fun r b' l'=>r=.v (.bool (!vlB x))∧b'=b∧l'=l):=by
 refine VA mZ rfl (by decide) ?_
 intro B g hB hR hE hA;simp only[xA]at hA
 simp (disch:=first|decide|omega) only[a_wsvc1,hA,go_sem]
 refine QA.nxt (jL _ _ _) ?_
 simp (disch:=first|decide|omega) only[hA,go_sem]
 exact ZA (xs:=[.v (.bool (!vlB x))]) (.inr rfl) (by simp (disch:=first|decide|omega) only[JA,zA,go_sem,hA]) kO hR hB ⟨rfl,rfl,rfl⟩
theorem jY (s:Sv) (hS:SvS s) (p:Nat) (ls:List Sv) (hls:ls.length≤1000000) (x:In) (i0 i1 i2:Nat) (b l:List Row) (h0:hget b l i0=some (DF s)) (h1:hget b l i1=some (.live 0 1 [[.v (.int .i64 p)]])) (h2:hget b l i2=some (.live 0 1 [[.v (.isl 6 (ls.map eSv))]])) :
  QA Tryz.prog 112 [.agg [.v (.int .i64 x.op),.v (.int .i64 x.a),.v (.int .i64 x.b)],.ptr i0 0 0 0,.ptr i1 0 0 0,.ptr i2 0 0 0] b l (fun r b' l'=>r=.v (.bool (!rE s.vars.length s.code.length p ls.length x))∧b'=b∧l'=l):=by
 refine VA pZ rfl (by decide) ?_
 intro B g hB hR hE hA;simp only[xA]at hA
 have up:∀{i:Nat} {r:Row},hget b l i=some r→∀l',hget B l' i=some r:=fun hg l'=>by
  rw[zD]at hg
  rw[zD,List.getElem?_append_left (by rw[hB];exact (List.getElem?_eq_some_iff.1 hg).1),hB];exact hg
 have g0:=up h0
 have g1:=up h1
 have g2:=up h2
 unfold DF at g0
 simp (disch:=first|decide|omega) only[a_wsvc2,hA,g0,g1,g2,List.length_map,go_sem]
 refine QA.nxt (dV s hS _ _ oM x _ _) ?_
 simp (disch:=first|decide|omega) only[hA,go_sem]
 exact ZA (xs:=[.v (.bool (!rE s.vars.length s.code.length p ls.length x))]) (.inr rfl) (by simp (disch:=first|decide|omega) only[JA,zA,go_sem,hA]) kO hR hB ⟨rfl,rfl,rfl⟩
theorem qY (s x:Sv) (i0:Nat) (b l:List Row) (h0:hget b l i0=some (DF s)) :
  QA Tryz.prog 114 [.agg ((eSv x).map .v),.ptr i0 0 0 0] b l (fun r b' l'=>r=.v (.bool (x.name==s.name))∧b'=b∧l'=l):=by
 refine VA nZ rfl (by decide) ?_
 intro B g hB hR hE hA;simp only[xA]at hA
 have g0:∀l',hget B l' i0=some (DF s):=fun l'=>by
  rw[zD]at h0
  rw[zD,List.getElem?_append_left (by rw[hB];exact (List.getElem?_eq_some_iff.1 h0).1),hB];exact h0
 unfold DF at g0
 simp (disch:=first|decide|omega) only[a_wsvc3,hA,g0,eSv,go_sem]
 exact ZA (xs:=[.v (.bool (x.name==s.name))]) (.inr rfl) (by simp (disch:=first|decide|omega) only[JA,zA,go_sem,hA]) kO hR hB ⟨rfl,rfl,rfl⟩
theorem IW {l:List Sv} {i:Nat} (hi:i<l.length) (h:svB l i=false):GF l=false:=by
 unfold GF
 rw[Bool.and_eq_false_iff]
 right
 rw[List.all_eq_false]
 exact⟨i,List.mem_range.2 hi,by rw[h];simp⟩
theorem WS {l:List Sv} (hl:inZ l.length 1 8=true) (h:∀i,i<l.length→svB l i=true):GF l=true:=by
 unfold GF
 rw[hl,Bool.true_and,List.all_eq_true]
 exact fun i hi=>h i (List.mem_range.1 hi)
theorem sN {l:List Sv}:∀row∈l.map eSv,row.length=6:=by
 intro row h
 obtain⟨s,_,rfl⟩:=List.mem_map.1 h
 rfl
theorem ZDP {l:List In}:∀row∈l.map eIn,row.length=3:=by
 intro row h
 obtain⟨s,_,rfl⟩:=List.mem_map.1 h
 rfl
theorem sK (ls:List Sv) (hS:SvsS ls) (b l:List Row):QA Tryz.prog 55 [.v (.isl 6 (ls.map eSv))] b l (fun r b' l'=>r=.v (.bool (GF ls))∧b'=b∧l'=l):=by
 refine VA tZ rfl (by decide) ?_
 intro B g hB hR hE hA;simp only[xA]at hA
 have hln:=hS.len
 simp (disch:=first|decide|omega) only[a_wsvcs,hA,List.length_map,go_sem]
 refine QA.nxt (qD _ _ _ _ _) ?_
 cases ME:inZ ls.length 1 8
 ·simp (disch:=first|decide|omega) only[hA,go_sem]
  exact ZA (xs:=[.v (.bool false)]) (.inr rfl) (by simp (disch:=first|decide|omega) only[JA,zA,go_sem,hA]) kO hR hB ⟨by unfold GF;rw[ME];rfl,rfl,rfl⟩
 simp (disch:=first|decide|omega) only[hA,List.length_map,go_sem]
 refine tA (ι:=Nat) MW (fun i=>[(11,.v (.int .i64 i))]) 1 (fun _=>[.live 0 1 [[.v (.isl 6 (ls.map eSv))]]])
  (fun i=>i≤ls.length∧∀j,j<i→svB ls j=true) (fun i=>ls.length-i) 0 ⟨Nat.zero_le _,fun j hj=>by omega⟩ (by (repeat (first|exact hE.mono oM|refine KLt.up ?_ kL))) (by ((try simp (disch:=decide) only[hA,go_sem])<;>exact kH)) (fun e=>qA.refl _ _ _) ?_
 rintro g1 mH wD KB i ⟨hi,h0⟩
 by_cases LA:i<ls.length
 case neg =>
  obtain rfl:i=ls.length:=by omega
  simp (disch:=first|decide|omega) only[hA,KB,go_sem]
  exact ZA (xs:=[.v (.bool true)]) (.inr rfl) (by simp (disch:=first|decide|omega) only[JA,zA,go_sem,hA,KB]) kO hR hB ⟨by rw[WS ME h0];rfl,rfl,rfl⟩
 obtain⟨s,hs⟩:∃s,ls[i]=s:=⟨_,rfl⟩
 have vP:ls.getD i dfSv=s:=by rw[KA LA,hs]
 have hSs:=hS.all s (by rw[←hs];exact List.getElem_mem LA)
 have mS:=MH LA
 rw[hs]at mS
 have DX:=hSs.name
 have hsc:=hSs.code
 have pT:=hSs.vars
 have S0:svB ls i=(sv1 s i ls.length&&(ls.take i).all fun x=>!(x.name==s.name)):=by unfold svB;rw[vP]
 have bad:svB ls i=false→AV.v (.bool (GF ls))=.v (.bool false):=fun h=>by rw[IW LA h]
 simp (disch:=first|decide|omega) only[hA,KB,mS,YA,cellsOf,List.length_map,go_sem]
 refine QA.nxt (kY _ (by simp only[maxLen];omega) _ _) ?_
 cases t1:pD s.name
 ·simp (disch:=first|decide|omega) only[hA,KB,go_sem]
  exact ZA (xs:=[.v (.bool false)]) (.inr rfl) (by simp (disch:=first|decide|omega) only[JA,zA,go_sem,hA,KB]) kO hR hB ⟨by rw[bad (by rw[S0];unfold sv1;rw[t1];rfl)];rfl,rfl,rfl⟩
 simp (disch:=first|decide|omega) only[hA,KB,List.length_map,go_sem]
 refine QA.nxt (qD _ _ _ _ _) ?_
 cases t2:inZ s.code.length 1 100
 ·simp (disch:=first|decide|omega) only[hA,KB,go_sem]
  exact ZA (xs:=[.v (.bool false)]) (.inr rfl) (by simp (disch:=first|decide|omega) only[JA,zA,go_sem,hA,KB]) kO hR hB ⟨by rw[bad (by rw[S0];unfold sv1;rw[t1,t2];rfl)];rfl,rfl,rfl⟩
 by_cases t3:s.vars.length≤8
 case neg =>
  have d3:decide ((s.vars.length:Int)>8)=true:=decide_eq_true oM
  have d3':decide ((8:Int)<(s.vars.length:Int))=true:=d3
  simp (disch:=first|decide|omega) only[hA,KB,d3,d3',List.length_map,go_sem]
  exact ZA (xs:=[.v (.bool false)]) (.inr rfl) (by simp (disch:=first|decide|omega) only[JA,zA,go_sem,hA,KB]) kO hR hB ⟨by rw[bad (by rw[S0];unfold sv1;rw[t1,t2,decide_eq_false t3];rfl)];rfl,rfl,rfl⟩
 have d3:decide ((s.vars.length:Int)>8)=false:=decide_eq_false oM
 have d3':decide ((8:Int)<(s.vars.length:Int))=false:=d3
 simp (disch:=first|decide|omega) only[hA,KB,d3,d3',List.length_map,go_sem]
 refine QA.nxt (qD _ _ _ _ _) ?_
 cases t4:inZ s.pc 0 s.code.length
 ·simp (disch:=first|decide|omega) only[hA,KB,go_sem]
  exact ZA (xs:=[.v (.bool false)]) (.inr rfl) (by simp (disch:=first|decide|omega) only[JA,zA,go_sem,hA,KB]) kO hR hB ⟨by rw[bad (by rw[S0];unfold sv1;rw[t1,t2,decide_eq_true t3,t4];rfl)];rfl,rfl,rfl⟩
 simp (disch:=first|decide|omega) only[hA,KB,List.length_map,go_sem]
 refine QA.nxt (yO _ _ _ _ _ _ _ _ (.inl ⟨_,rfl⟩)) ?_
 have hrt:(inZ s.off 0 1000000&&inZ s.rate 500 2000)=xI s:=rfl
 rw[hrt]
 cases t5:xI s
 ·simp (disch:=first|decide|omega) only[hA,KB,go_sem]
  exact ZA (xs:=[.v (.bool false)]) (.inr rfl) (by simp (disch:=first|decide|omega) only[JA,zA,go_sem,hA,KB]) kO hR hB ⟨by rw[bad (by rw[S0];unfold sv1;rw[t1,t2,decide_eq_true t3,t4,t5];rfl)];rfl,rfl,rfl⟩
 simp (disch:=first|decide|omega) only[hA,KB,List.length_map,go_sem]
 refine QA.nxt (pK s.vars _ [] (fun j=>!vlB (s.vars.getD j 0)) pT _ _ (fun j hj=>by
  simp only[KA hj]
  exact vY _ _ _)) ?_
 rw[UG (p:=fun x=>!vlB x),qF]
 cases t6:s.vars.all vlB
 ·simp (disch:=first|decide|omega) only[hA,KB,go_sem]
  exact ZA (xs:=[.v (.bool false)]) (.inr rfl) (by simp (disch:=first|decide|omega) only[JA,zA,go_sem,hA,KB]) kO hR hB ⟨by rw[bad (by rw[S0];unfold sv1;rw[t1,t2,decide_eq_true t3,t4,t5,t6];rfl)];rfl,rfl,rfl⟩
 obtain⟨R,hR3⟩:∃R:List Row,R=[.live 0 1 [[.v (.isl 6 (ls.map eSv))]],.live 0 1 [[.v (.int .i64 i)]],DF s]:=⟨_,rfl⟩
 have q0:hget (B++R) [] (B.length+2)=some (DF s):=by rw[zD,List.append_nil,List.getElem?_append_right oM,Nat.add_sub_cancel_left,hR3];rfl
 have q1:hget (B++R) [] (B.length+1)=some (.live 0 1 [[.v (.int .i64 i)]]):=by rw[zD,List.append_nil,List.getElem?_append_right oM,Nat.add_sub_cancel_left,hR3];rfl
 have q2:hget (B++R) [] B.length=some (.live 0 1 [[.v (.isl 6 (ls.map eSv))]]):=by rw[zD,List.append_nil,List.getElem?_append_right oM,Nat.sub_self,hR3];rfl
 have cK:=uD V0 J0 (s.code.map eIn) 112 [.ptr (B.length+2) 0 0 0,.ptr (B.length+1) 0 0 0,.ptr B.length 0 0 0] (fun j=>!rE s.vars.length s.code.length i ls.length (s.code.getD j mN)) ZDP (by rw[List.length_map];exact hsc) B R (fun j row hj=>by
  have FF:j<s.code.length:=by have:=(List.getElem?_eq_some_iff.1 hj).1;rwa [List.length_map]at this
  rw[LL FF]at hj
  cases hj
  simp only[KA FF]
  exact jY s hSs i ls hln _ _ _ _ _ _ q0 q1 q2)
 rw[List.length_map,UG (p:=fun x=>!rE s.vars.length s.code.length i ls.length x),qF]at cK
 have F8:(ls.take i).length=i:=by rw[List.length_take];omega
 have cN:=uD ZI OH ((ls.take i).map eSv) 114 [.ptr (B.length+2) 0 0 0] (fun j=>(((ls.take i).getD j dfSv).name==s.name)) sN (by rw[List.length_map];omega) B R (fun j row hj=>by
  have FF:j<(ls.take i).length:=by have:=(List.getElem?_eq_some_iff.1 hj).1;rwa [List.length_map]at this
  rw[List.getElem?_map,List.getElem?_eq_getElem FF]at hj
  cases hj
  simp only[KA FF]
  exact qY s _ _ _ _ q0)
 rw[List.length_map,UG (d:=dfSv) (p:=fun x:Sv=>x.name==s.name)]at cN
 rw[hR3]at cK cN
 unfold DF at cK cN
 simp (disch:=first|decide|omega) only[hA,KB,List.length_map,go_sem]
 refine QA.nxt cK ?_
 cases t7:s.code.all (rE s.vars.length s.code.length i ls.length)
 ·simp (disch:=first|decide|omega) only[hA,KB,go_sem]
  exact ZA (xs:=[.v (.bool false)]) (.inr rfl) (by simp (disch:=first|decide|omega) only[JA,zA,go_sem,hA,KB]) kO hR hB ⟨by rw[bad (by rw[S0];unfold sv1;rw[t1,t2,decide_eq_true t3,t4,t5,t6,t7];rfl)];rfl,rfl,rfl⟩
 have LH:sv1 s i ls.length=true:=by unfold sv1;rw[t1,t2,decide_eq_true t3,t4,t5,t6,t7];rfl
 rw[List.map_take]at cN
 simp (disch:=first|decide|omega) only[hA,KB,List.length_map,go_sem]
 refine QA.nxt cN ?_
 have hna:(ls.take i).all (fun x=>!(x.name==s.name))=!(ls.take i).any (fun x=>x.name==s.name):=by
  rw[Bool.eq_iff_iff]
  simp[List.all_eq_true,List.any_eq_false]
 cases t8:(ls.take i).any (fun x=>x.name==s.name)
 ·simp (disch:=first|decide|omega) only[hA,KB,go_sem]
  refine⟨i+1,⟨LA,fun j hj=>?_⟩,by simp only;omega,?_⟩
  ·rcases Nat.lt_or_ge j i with fG|fG
   ·exact h0 j fG
   ·obtain rfl:j=i:=by omega
    rw[S0,LH,hna,t8];rfl
  ·exact qA.kround (p:=MW) (k:=1) (by ((repeat refine (gA rfl).trans ?_);exact wD)) (by ((try simp (disch:=decide) only[hA,KB,go_sem])<;>exact kH)) rfl mH (by simp) kV hR kL
 ·simp (disch:=first|decide|omega) only[hA,KB,go_sem]
  exact ZA (xs:=[.v (.bool false)]) (.inr rfl) (by simp (disch:=first|decide|omega) only[JA,zA,go_sem,hA,KB]) kO hR hB ⟨by rw[bad (by rw[S0,LH,hna,t8];rfl)];rfl,rfl,rfl⟩
def a_r54Serv:AFunc:=({c:=_}:CF Tryz.prog 64).c
theorem zU:dA Tryz.prog 64=some a_r54Serv:=by kernel_rfl
def vQ:List (Nat×Nat):=[(6,7),(40,53)]
def jQ:List (Nat×Nat):=[(6,6),(8,8),(54,70)]
def a_r54Servs:AFunc:=({c:=_}:CF Tryz.prog 17).c
theorem bR:dA Tryz.prog 17=some a_r54Servs:=by kernel_rfl
def sO:List (Nat×Nat):=[(2,4),(9,39)]
def rO:List (Nat×Nat):=[(2,2),(4,4),(24,39)]

theorem mR (s:Sv) (hS:SvS s) (p n:Int) (hn:0≤n∧n≤1000000) (x:In) (b l:List Row):QA Tryz.prog 123 [.agg [.v (.str s.name),.v (.isl 3 (s.code.map eIn)),.v (.int .i64 s.pc),.v (.isl 1 (s.vars.map eI)),.v (.int .i64 s.off),.v (.int .i64 s.rate)],.agg [.v (.int .i64 x.op),.v (.int .i64 x.a),.v (.int .i64 x.b)],.v (.int .i64 p),.v (.int .i64 n)] b l (fun r b' l'=>r=.v (.bool (rE s.vars.length s.code.length p n x))∧b'=b∧l'=l):=by
 refine VA aR rfl (by decide) ?_
 intro B g hB hR hE hA;simp only[xA]at hA
 have hv:=hS.vars
 have hc:=hS.code
 have hwn:IntKind.i64.wrap (n-1)=n-1:=VB oM oM
 have hwv:IntKind.i64.wrap ((s.vars.length:Int)-1)=(s.vars.length:Int)-1:=VB oM oM
 have hwc:IntKind.i64.wrap ((s.code.length:Int)-1)=(s.code.length:Int)-1:=VB oM oM
 by_cases o:x.op=1
 ·have hr:rE s.vars.length s.code.length p n x=(inZ x.a 0 (s.vars.length-1)&&vlB x.b):=by unfold rE;rw[if_pos oM]
  rw[hr]
  have e1:(x.op==1)=true:=by simp[o]
  have e2:(x.op==2)=false:=by simp[o]
  have e3:(x.op==3)=false:=by simp[o]
  have e4:(x.op==4)=false:=by simp[o]
  have e5:(x.op==5)=false:=by simp[o]
  have e6:(x.op==6)=false:=by simp[o]
  have e7:(x.op==7)=false:=by simp[o]
  have e8:(x.op==8)=false:=by simp[o]
  have dl:decide (x.op<1)=false:=decide_eq_false oM
  have dg:decide (x.op>8)=false:=decide_eq_false oM
  have dg':decide (8<x.op)=false:=dg
  simp (disch:=first|decide|omega) only[a_r54Instr,hA,e1,e2,e3,e4,e5,e6,e7,e8,dl,dg,dg',hwn,hwv,hwc,List.length_map,go_sem]
  refine QA.nxt (sC _ _ _ _ _) ?_
  cases h1:inZ x.a 0 (s.vars.length-1)
  ·simp (disch:=first|decide|omega) only[hA,go_sem]
   exact ZA (xs:=[.v (.bool false)]) (.inr rfl) (by simp (disch:=first|decide|omega) only[JA,zA,go_sem,hA]) kO hR hB ⟨by simp[one],rfl,rfl⟩
  ·simp (disch:=first|decide|omega) only[hA,go_sem]
   refine QA.nxt (eK _ _ _) ?_
   simp (disch:=first|decide|omega) only[hA,go_sem]
   exact ZA (xs:=[.v (.bool (vlB x.b))]) (.inr rfl) (by simp (disch:=first|decide|omega) only[JA,zA,go_sem,hA]) kO hR hB ⟨by simp[one],rfl,rfl⟩
 have o1:=o
 clear o
 by_cases o:x.op=2
 ·have hr:rE s.vars.length s.code.length p n x=(inZ x.a 0 (s.vars.length-1)&&vlB x.b):=by unfold rE;rw[if_pos oM]
  rw[hr]
  have e1:(x.op==1)=false:=by simp[o]
  have e2:(x.op==2)=true:=by simp[o]
  have e3:(x.op==3)=false:=by simp[o]
  have e4:(x.op==4)=false:=by simp[o]
  have e5:(x.op==5)=false:=by simp[o]
  have e6:(x.op==6)=false:=by simp[o]
  have e7:(x.op==7)=false:=by simp[o]
  have e8:(x.op==8)=false:=by simp[o]
  have dl:decide (x.op<1)=false:=decide_eq_false oM
  have dg:decide (x.op>8)=false:=decide_eq_false oM
  have dg':decide (8<x.op)=false:=dg
  simp (disch:=first|decide|omega) only[a_r54Instr,hA,e1,e2,e3,e4,e5,e6,e7,e8,dl,dg,dg',hwn,hwv,hwc,List.length_map,go_sem]
  refine QA.nxt (sC _ _ _ _ _) ?_
  cases h1:inZ x.a 0 (s.vars.length-1)
  ·simp (disch:=first|decide|omega) only[hA,go_sem]
   exact ZA (xs:=[.v (.bool false)]) (.inr rfl) (by simp (disch:=first|decide|omega) only[JA,zA,go_sem,hA]) kO hR hB ⟨by simp[one],rfl,rfl⟩
  ·simp (disch:=first|decide|omega) only[hA,go_sem]
   refine QA.nxt (eK _ _ _) ?_
   simp (disch:=first|decide|omega) only[hA,go_sem]
   exact ZA (xs:=[.v (.bool (vlB x.b))]) (.inr rfl) (by simp (disch:=first|decide|omega) only[JA,zA,go_sem,hA]) kO hR hB ⟨by simp[one],rfl,rfl⟩
 have o2:=o
 clear o
 by_cases o:x.op=3
 ·have hr:rE s.vars.length s.code.length p n x=(inZ x.a 0 (s.vars.length-1)&&(inZ x.b 0 (n-1)&&decide (x.b≠p))):=by unfold rE;rw[if_neg oM,if_pos o]
  rw[hr]
  have e1:(x.op==1)=false:=by simp[o]
  have e2:(x.op==2)=false:=by simp[o]
  have e3:(x.op==3)=true:=by simp[o]
  have e4:(x.op==4)=false:=by simp[o]
  have e5:(x.op==5)=false:=by simp[o]
  have e6:(x.op==6)=false:=by simp[o]
  have e7:(x.op==7)=false:=by simp[o]
  have e8:(x.op==8)=false:=by simp[o]
  have dl:decide (x.op<1)=false:=decide_eq_false oM
  have dg:decide (x.op>8)=false:=decide_eq_false oM
  have dg':decide (8<x.op)=false:=dg
  simp (disch:=first|decide|omega) only[a_r54Instr,hA,e1,e2,e3,e4,e5,e6,e7,e8,dl,dg,dg',hwn,hwv,hwc,List.length_map,go_sem]
  refine QA.nxt (sC _ _ _ _ _) ?_
  cases h1:inZ x.a 0 (s.vars.length-1)
  ·simp (disch:=first|decide|omega) only[hA,go_sem]
   exact ZA (xs:=[.v (.bool false)]) (.inr rfl) (by simp (disch:=first|decide|omega) only[JA,zA,go_sem,hA]) kO hR hB ⟨by simp[one],rfl,rfl⟩
  ·simp (disch:=first|decide|omega) only[hA,hwn,go_sem]
   refine QA.nxt (sC _ _ _ _ _) ?_
   cases h2:inZ x.b 0 (n-1)
   ·simp (disch:=first|decide|omega) only[hA,go_sem]
    exact ZA (xs:=[.v (.bool false)]) (.inr rfl) (by simp (disch:=first|decide|omega) only[JA,zA,go_sem,hA]) kO hR hB ⟨by simp[one],rfl,rfl⟩
   ·have hb:(x.b != p)=decide (x.b≠p):=by by_cases h:x.b=p<;>simp[h]
    simp (disch:=first|decide|omega) only[hA,hb,go_sem]
    exact ZA (xs:=[.v (.bool (decide (x.b≠p)))]) (.inr rfl) (by simp (disch:=first|decide|omega) only[JA,zA,go_sem,hA]) kO hR hB ⟨by simp[one],rfl,rfl⟩
 have o3:=o
 clear o
 by_cases o:x.op=4
 ·have hr:rE s.vars.length s.code.length p n x=inZ x.a 0 (s.vars.length-1):=by unfold rE;rw[if_neg oM,if_neg oM,if_pos o]
  rw[hr]
  have e1:(x.op==1)=false:=by simp[o]
  have e2:(x.op==2)=false:=by simp[o]
  have e3:(x.op==3)=false:=by simp[o]
  have e4:(x.op==4)=true:=by simp[o]
  have e5:(x.op==5)=false:=by simp[o]
  have e6:(x.op==6)=false:=by simp[o]
  have e7:(x.op==7)=false:=by simp[o]
  have e8:(x.op==8)=false:=by simp[o]
  have dl:decide (x.op<1)=false:=decide_eq_false oM
  have dg:decide (x.op>8)=false:=decide_eq_false oM
  have dg':decide (8<x.op)=false:=dg
  simp (disch:=first|decide|omega) only[a_r54Instr,hA,e1,e2,e3,e4,e5,e6,e7,e8,dl,dg,dg',hwn,hwv,hwc,List.length_map,go_sem]
  refine QA.nxt (sC _ _ _ _ _) ?_
  simp (disch:=first|decide|omega) only[hA,go_sem]
  exact ZA (xs:=[.v (.bool (inZ x.a 0 (s.vars.length-1)))]) (.inr rfl) (by simp (disch:=first|decide|omega) only[JA,zA,go_sem,hA]) kO hR hB ⟨rfl,rfl,rfl⟩
 have o4:=o
 clear o
 by_cases o:x.op=5
 ·have hr:rE s.vars.length s.code.length p n x=(inZ x.a 0 (s.vars.length-1)&&inZ x.b 0 (s.code.length-1)):=by unfold rE;rw[if_neg oM,if_neg oM,if_neg oM,if_pos o]
  rw[hr]
  have e1:(x.op==1)=false:=by simp[o]
  have e2:(x.op==2)=false:=by simp[o]
  have e3:(x.op==3)=false:=by simp[o]
  have e4:(x.op==4)=false:=by simp[o]
  have e5:(x.op==5)=true:=by simp[o]
  have e6:(x.op==6)=false:=by simp[o]
  have e7:(x.op==7)=false:=by simp[o]
  have e8:(x.op==8)=false:=by simp[o]
  have dl:decide (x.op<1)=false:=decide_eq_false oM
  have dg:decide (x.op>8)=false:=decide_eq_false oM
  have dg':decide (8<x.op)=false:=dg
  simp (disch:=first|decide|omega) only[a_r54Instr,hA,e1,e2,e3,e4,e5,e6,e7,e8,dl,dg,dg',hwn,hwv,hwc,List.length_map,go_sem]
  refine QA.nxt (sC _ _ _ _ _) ?_
  cases h1:inZ x.a 0 (s.vars.length-1)
  ·simp (disch:=first|decide|omega) only[hA,go_sem]
   exact ZA (xs:=[.v (.bool false)]) (.inr rfl) (by simp (disch:=first|decide|omega) only[JA,zA,go_sem,hA]) kO hR hB ⟨by simp[one],rfl,rfl⟩
  ·simp (disch:=first|decide|omega) only[hA,hwv,hwc,go_sem]
   refine QA.nxt (sC _ _ _ _ _) ?_
   simp (disch:=first|decide|omega) only[hA,go_sem]
   exact ZA (xs:=[.v (.bool (inZ x.b 0 (s.code.length-1)))]) (.inr rfl) (by simp (disch:=first|decide|omega) only[JA,zA,go_sem,hA]) kO hR hB ⟨by simp[one],rfl,rfl⟩
 have o5:=o
 clear o
 by_cases o:x.op=6
 ·have hr:rE s.vars.length s.code.length p n x=(inZ x.a 0 (s.code.length-1)&&inZ x.b 0 (s.vars.length-1)):=by unfold rE;rw[if_neg oM,if_neg oM,if_neg oM,if_neg oM,if_pos o]
  rw[hr]
  have e1:(x.op==1)=false:=by simp[o]
  have e2:(x.op==2)=false:=by simp[o]
  have e3:(x.op==3)=false:=by simp[o]
  have e4:(x.op==4)=false:=by simp[o]
  have e5:(x.op==5)=false:=by simp[o]
  have e6:(x.op==6)=true:=by simp[o]
  have e7:(x.op==7)=false:=by simp[o]
  have e8:(x.op==8)=false:=by simp[o]
  have dl:decide (x.op<1)=false:=decide_eq_false oM
  have dg:decide (x.op>8)=false:=decide_eq_false oM
  have dg':decide (8<x.op)=false:=dg
  simp (disch:=first|decide|omega) only[a_r54Instr,hA,e1,e2,e3,e4,e5,e6,e7,e8,dl,dg,dg',hwn,hwv,hwc,List.length_map,go_sem]
  refine QA.nxt (sC _ _ _ _ _) ?_
  cases h1:inZ x.a 0 (s.code.length-1)
  ·simp (disch:=first|decide|omega) only[hA,go_sem]
   exact ZA (xs:=[.v (.bool false)]) (.inr rfl) (by simp (disch:=first|decide|omega) only[JA,zA,go_sem,hA]) kO hR hB ⟨by simp[one],rfl,rfl⟩
  ·simp (disch:=first|decide|omega) only[hA,hwv,hwc,go_sem]
   refine QA.nxt (sC _ _ _ _ _) ?_
   simp (disch:=first|decide|omega) only[hA,go_sem]
   exact ZA (xs:=[.v (.bool (inZ x.b 0 (s.vars.length-1)))]) (.inr rfl) (by simp (disch:=first|decide|omega) only[JA,zA,go_sem,hA]) kO hR hB ⟨by simp[one],rfl,rfl⟩
 have o6:=o
 clear o
 have hr:rE s.vars.length s.code.length p n x=decide (x.op=7∨x.op=8):=by unfold rE;rw[if_neg oM,if_neg oM,if_neg oM,if_neg oM,if_neg oM]
 rw[hr]
 have e1:(x.op==1)=false:=by simpa using o1
 have e2:(x.op==2)=false:=by simpa using o2
 have e3:(x.op==3)=false:=by simpa using o3
 have e4:(x.op==4)=false:=by simpa using o4
 have e5:(x.op==5)=false:=by simpa using o5
 have e6:(x.op==6)=false:=by simpa using o6
 by_cases hl:x.op<1
 ·have dl:=decide_eq_true hl
  simp (disch:=first|decide|omega) only[a_r54Instr,hA,dl,List.length_map,go_sem]
  exact ZA (xs:=[.v (.bool false)]) (.inr rfl) (by simp (disch:=first|decide|omega) only[JA,zA,go_sem,hA]) kO hR hB ⟨by rw[decide_eq_false oM];rfl,rfl,rfl⟩
 have dl:=decide_eq_false hl
 by_cases hg:8<x.op
 ·have dg:=decide_eq_true hg
  simp (disch:=first|decide|omega) only[a_r54Instr,hA,dl,dg,List.length_map,go_sem]
  exact ZA (xs:=[.v (.bool false)]) (.inr rfl) (by simp (disch:=first|decide|omega) only[JA,zA,go_sem,hA]) kO hR hB ⟨by rw[decide_eq_false oM];rfl,rfl,rfl⟩
 have dg:=decide_eq_false hg
 simp (disch:=first|decide|omega) only[a_r54Instr,hA,dl,dg,e1,e2,e3,e4,e5,e6,List.length_map,go_sem]
 exact ZA (xs:=[.v (.bool true)]) (.inr rfl) (by simp (disch:=first|decide|omega) only[JA,zA,go_sem,hA]) kO hR hB ⟨by rw[decide_eq_true oM];rfl,rfl,rfl⟩
theorem FT (s:Sv) (hS:SvS s) (p n:Int) (hn:0≤n∧n≤1000000) (b l:List Row):QA Tryz.prog 64 [.agg [.v (.str s.name),.v (.isl 3 (s.code.map eIn)),.v (.int .i64 s.pc),.v (.isl 1 (s.vars.map eI)),.v (.int .i64 s.off),.v (.int .i64 s.rate)],.v (.int .i64 p),.v (.int .i64 n)] b l (fun r b' l'=>r=.v (.bool (sv1 s p n))∧b'=b∧l'=l):=by
 refine VA zU rfl (by decide) ?_
 intro B g hB hR hE hA;simp only[xA]at hA
 have DX:=hS.name
 have pT:=hS.vars
 have hsc:=hS.code
 simp (disch:=first|decide|omega) only[a_r54Serv,hA,go_sem]
 refine QA.nxt (aY _ (by simp only[maxLen];omega) _ _) ?_
 cases t1:pD s.name
 ·simp (disch:=first|decide|omega) only[hA,go_sem]
  exact ZA (xs:=[.v (.bool false)]) (.inr rfl) (by simp (disch:=first|decide|omega) only[JA,zA,go_sem,hA]) kO hR hB ⟨by unfold sv1;rw[t1];rfl,rfl,rfl⟩
 simp (disch:=first|decide|omega) only[hA,List.length_map,go_sem]
 refine QA.nxt (sC _ _ _ _ _) ?_
 cases t2:inZ s.code.length 1 100
 ·simp (disch:=first|decide|omega) only[hA,go_sem]
  exact ZA (xs:=[.v (.bool false)]) (.inr rfl) (by simp (disch:=first|decide|omega) only[JA,zA,go_sem,hA]) kO hR hB ⟨by unfold sv1;rw[t1,t2];rfl,rfl,rfl⟩
 by_cases t3:s.vars.length≤8
 case neg =>
  have d3:decide ((s.vars.length:Int)>8)=true:=decide_eq_true oM
  have d3':decide ((8:Int)<(s.vars.length:Int))=true:=d3
  simp (disch:=first|decide|omega) only[hA,d3,d3',List.length_map,go_sem]
  exact ZA (xs:=[.v (.bool false)]) (.inr rfl) (by simp (disch:=first|decide|omega) only[JA,zA,go_sem,hA]) kO hR hB ⟨by unfold sv1;rw[t1,t2,decide_eq_false t3];rfl,rfl,rfl⟩
 have d3:decide ((s.vars.length:Int)>8)=false:=decide_eq_false oM
 have d3':decide ((8:Int)<(s.vars.length:Int))=false:=d3
 simp (disch:=first|decide|omega) only[hA,d3,d3',List.length_map,go_sem]
 refine QA.nxt (sC _ _ _ _ _) ?_
 cases t4:inZ s.pc 0 s.code.length
 ·simp (disch:=first|decide|omega) only[hA,go_sem]
  exact ZA (xs:=[.v (.bool false)]) (.inr rfl) (by simp (disch:=first|decide|omega) only[JA,zA,go_sem,hA]) kO hR hB ⟨by unfold sv1;rw[t1,t2,decide_eq_true t3,t4];rfl,rfl,rfl⟩
 simp (disch:=first|decide|omega) only[hA,go_sem]
 refine QA.nxt (JM _ _ _ _ s _ _) ?_
 cases t5:xI s
 ·simp (disch:=first|decide|omega) only[hA,go_sem]
  exact ZA (xs:=[.v (.bool false)]) (.inr rfl) (by simp (disch:=first|decide|omega) only[JA,zA,go_sem,hA]) kO hR hB ⟨by unfold sv1;rw[t1,t2,decide_eq_true t3,t4,t5];rfl,rfl,rfl⟩
 simp (disch:=first|decide|omega) only[hA,List.length_map,go_sem]
 refine tA (ι:=Nat) vQ (fun i=>[(7,.v (.int .i64 i))]) 1 (fun _=>[DF s])
  (fun i=>i≤s.vars.length∧∀j,j<i→vlB (s.vars.getD j 0)=true) (fun i=>s.vars.length-i) 0 ⟨Nat.zero_le _,fun j hj=>by omega⟩ (by (repeat (first|exact hE.mono oM|refine KLt.up ?_ kL))) (by ((try simp (disch:=decide) only[hA,go_sem])<;>exact kH)) (fun e=>qA.refl _ _ _) ?_
 rintro g1 mH wD KB i ⟨hi,h0⟩
 unfold DF
 by_cases LA:i<s.vars.length
 ·have UK:=mE LA
  simp (disch:=first|decide|omega) only[hA,KB,UK,List.length_map,go_sem]
  refine QA.nxt (eK _ _ _) ?_
  cases q:vlB (s.vars.getD i 0)
  ·simp (disch:=first|decide|omega) only[hA,KB,go_sem]
   exact ZA (xs:=[.v (.bool false)]) (.inr rfl) (by simp (disch:=first|decide|omega) only[JA,zA,go_sem,hA,KB]) kO hR hB ⟨by unfold sv1;rw[t1,t2,decide_eq_true t3,t4,t5,show s.vars.all vlB=false from List.all_eq_false.2 ⟨s.vars.getD i 0,by rw[KA LA];exact List.getElem_mem LA,by rw[q];simp⟩];rfl,rfl,rfl⟩
  ·simp (disch:=first|decide|omega) only[hA,KB,go_sem]
   refine⟨i+1,⟨LA,fun j hj=>?_⟩,by simp only;omega,?_⟩
   ·rcases Nat.lt_or_ge j i with fG|fG
    ·exact h0 j fG
    ·obtain rfl:j=i:=by omega
     exact q
   ·exact qA.kround (p:=vQ) (k:=1) (by ((repeat refine (gA rfl).trans ?_);exact wD)) (by ((try simp (disch:=decide) only[hA,KB,go_sem])<;>exact kH)) rfl mH (by simp) kV hR kL
 obtain rfl:i=s.vars.length:=by omega
 have t6:s.vars.all vlB=true:=by
  rw[List.all_eq_true]
  intro x hx
  obtain⟨j,hj,rfl⟩:=List.getElem_of_mem hx
  rw[←KA (d:=0) hj]
  exact h0 j hj
 simp (disch:=first|decide|omega) only[hA,KB,List.length_map,go_sem]
 refine tA (ι:=Nat) jQ (fun i=>[(8,.v (.int .i64 i))]) 1 (fun _=>[DF s])
  (fun i=>i≤s.code.length∧∀j,j<i→rE s.vars.length s.code.length p n (s.code.getD j mN)=true) (fun i=>s.code.length-i) 0 ⟨Nat.zero_le _,fun j hj=>by omega⟩ (by (repeat (first|exact mH.mono oM|refine KLt.up ?_ kL))) (by ((try simp (disch:=decide) only[hA,KB,go_sem])<;>exact kH)) (fun e=>qA.refl _ _ _) ?_
 rintro g2 CM bN IG i ⟨V9,h02⟩
 unfold DF
 by_cases LA:i<s.code.length
 ·have UK:=LL LA
  simp (disch:=first|decide|omega) only[hA,KB,IG,UK,List.length_map,go_sem]
  refine QA.nxt (mR s hS p n hn s.code[i] _ _) ?_
  rw[←KA (d:=mN) LA]
  cases q:rE s.vars.length s.code.length p n (s.code.getD i mN)
  ·simp (disch:=first|decide|omega) only[hA,KB,IG,go_sem]
   exact ZA (xs:=[.v (.bool false)]) (.inr rfl) (by simp (disch:=first|decide|omega) only[JA,zA,go_sem,hA,KB,IG]) kO hR hB ⟨by unfold sv1;rw[t1,t2,decide_eq_true t3,t4,t5,t6,show s.code.all (rE s.vars.length s.code.length p n)=false from List.all_eq_false.2 ⟨s.code.getD i mN,by rw[KA LA];exact List.getElem_mem LA,by rw[q];simp⟩];rfl,rfl,rfl⟩
  ·simp (disch:=first|decide|omega) only[hA,KB,IG,go_sem]
   refine⟨i+1,⟨LA,fun j hj=>?_⟩,by simp only;omega,?_⟩
   ·rcases Nat.lt_or_ge j i with fG|fG
    ·exact h02 j fG
    ·obtain rfl:j=i:=by omega
     exact q
   ·exact qA.kround (p:=jQ) (k:=1) (by ((repeat refine (gA rfl).trans ?_);exact bN)) (by ((try simp (disch:=decide) only[hA,KB,IG,go_sem])<;>exact kH)) rfl CM (by simp) kV hR kL
 obtain rfl:i=s.code.length:=by omega
 have t7:s.code.all (rE s.vars.length s.code.length p n)=true:=by
  rw[List.all_eq_true]
  intro x hx
  obtain⟨j,hj,rfl⟩:=List.getElem_of_mem hx
  rw[←KA (d:=mN) hj]
  exact h02 j hj
 simp (disch:=first|decide|omega) only[hA,KB,IG,List.length_map,go_sem]
 exact ZA (xs:=[.v (.bool true)]) (.inr rfl) (by simp (disch:=first|decide|omega) only[JA,zA,go_sem,hA,KB,IG]) kO hR hB ⟨by unfold sv1;rw[t1,t2,decide_eq_true t3,t4,t5,t6,t7];rfl,rfl,rfl⟩
theorem VM (ls:List Sv) (hS:SvsS ls) (b l:List Row):QA Tryz.prog 17 [.v (.isl 6 (ls.map eSv))] b l (fun r b' l'=>r=.v (.bool (GF ls))∧b'=b∧l'=l):=by
 refine VA bR rfl (by decide) ?_
 intro B g hB hR hE hA;simp only[xA]at hA
 have hln:=hS.len
 simp (disch:=first|decide|omega) only[a_r54Servs,hA,List.length_map,go_sem]
 refine QA.nxt (sC _ _ _ _ _) ?_
 cases ME:inZ ls.length 1 8
 ·simp (disch:=first|decide|omega) only[hA,go_sem]
  exact ZA (xs:=[.v (.bool false)]) (.inr rfl) (by simp (disch:=first|decide|omega) only[JA,zA,go_sem,hA]) kO hR hB ⟨by unfold GF;rw[ME];rfl,rfl,rfl⟩
 simp (disch:=first|decide|omega) only[hA,List.length_map,go_sem]
 refine tA (ι:=Nat) sO (fun i=>[(3,.v (.int .i64 i))]) 0 (fun _=>[])
  (fun i=>i≤ls.length∧∀j,j<i→svB ls j=true) (fun i=>ls.length-i) 0 ⟨Nat.zero_le _,fun j hj=>by omega⟩ (by (repeat (first|exact hE.mono oM|refine KLt.up ?_ kL))) (by ((try simp (disch:=decide) only[hA,go_sem])<;>exact kH)) (fun e=>qA.refl _ _ _) ?_
 rintro g1 mH wD KB i ⟨hi,h0⟩
 by_cases LA:i<ls.length
 case neg =>
  obtain rfl:i=ls.length:=by omega
  simp (disch:=first|decide|omega) only[hA,KB,List.length_map,go_sem]
  exact ZA (xs:=[.v (.bool true)]) (.inr rfl) (by simp (disch:=first|decide|omega) only[JA,zA,go_sem,hA,KB]) kO hR hB ⟨by rw[WS ME h0];rfl,rfl,rfl⟩
 obtain⟨s,hs⟩:∃s,ls[i]=s:=⟨_,rfl⟩
 have vP:ls.getD i dfSv=s:=by rw[KA LA,hs]
 have hSs:=hS.all s (by rw[←hs];exact List.getElem_mem LA)
 have mS:=MH LA
 rw[hs]at mS
 have S0:svB ls i=(sv1 s i ls.length&&(ls.take i).all fun x=>!(x.name==s.name)):=by unfold svB;rw[vP]
 have bad:svB ls i=false→AV.v (.bool (GF ls))=.v (.bool false):=fun h=>by rw[IW LA h]
 simp (disch:=first|decide|omega) only[hA,KB,mS,YA,cellsOf,List.length_map,go_sem]
 refine QA.nxt (FT s hSs _ _ oM _ _) ?_
 cases t1:sv1 s i ls.length
 ·simp (disch:=first|decide|omega) only[hA,KB,go_sem]
  exact ZA (xs:=[.v (.bool false)]) (.inr rfl) (by simp (disch:=first|decide|omega) only[JA,zA,go_sem,hA,KB]) kO hR hB ⟨by rw[bad (by rw[S0,t1];rfl)];rfl,rfl,rfl⟩
 simp (disch:=first|decide|omega) only[hA,KB,List.length_map,go_sem]
 refine tA (ι:=Nat) rO (fun k=>[(4,.v (.int .i64 k))]) 0 (fun _=>[])
  (fun k=>k≤i∧∀j,j<k→((ls.getD j dfSv).name==s.name)=false) (fun k=>i-k) 0 ⟨Nat.zero_le _,fun j hj=>by omega⟩ (by (repeat (first|exact mH.mono oM|refine KLt.up ?_ kL))) (by ((try simp (disch:=decide) only[hA,KB,go_sem])<;>exact kH)) (fun e=>qA.refl _ _ _) ?_
 rintro g2 CM bN IG k ⟨hk,h02⟩
 by_cases qP:k<i
 ·have hgk:=MH (show k<ls.length by omega)
  have ZIS:ls.getD k dfSv=ls[k]:=KA oM
  cases q:(ls[k].name==s.name)
  ·simp (disch:=first|decide|omega) only[hA,KB,IG,mS,hgk,q,YA,cellsOf,List.length_map,go_sem]
   refine⟨k+1,⟨qP,fun j hj=>?_⟩,by simp only;omega,?_⟩
   ·rcases Nat.lt_or_ge j k with fG|fG
    ·exact h02 j fG
    ·obtain rfl:j=k:=by omega
     rw[ZIS];exact q
   ·exact qA.kround (p:=rO) (k:=0) (by ((repeat refine (gA rfl).trans ?_);exact bN)) (by ((try simp (disch:=decide) only[hA,KB,IG,go_sem])<;>exact kH)) rfl CM (by simp) kV hR kL
  ·simp (disch:=first|decide|omega) only[hA,KB,IG,mS,hgk,q,YA,cellsOf,List.length_map,go_sem]
   exact ZA (xs:=[.v (.bool false)]) (.inr rfl) (by simp (disch:=first|decide|omega) only[JA,zA,go_sem,hA,KB,IG]) kO hR hB ⟨by rw[bad (by rw[S0,t1,Bool.true_and,List.all_eq_false];exact⟨ls[k],List.mem_iff_getElem?.2 ⟨k,by rw[List.getElem?_take,if_pos qP,List.getElem?_eq_getElem oM]⟩,by rw[q];simp⟩)];rfl,rfl,rfl⟩
 ·obtain rfl:k=i:=by omega
  have RF:(ls.take k).all (fun x=>!(x.name==s.name))=true:=by
   rw[List.all_eq_true]
   intro x hx
   obtain⟨j,hj,rfl⟩:=List.getElem_of_mem hx
   have hj2:j<k:=by rw[List.length_take]at hj;omega
   have:=h02 j hj2
   rw[KA oM]at this
   rw[List.getElem_take,this];rfl
  simp (disch:=first|decide|omega) only[hA,KB,IG,YA,cellsOf,List.length_map,go_sem]
  refine⟨k+1,⟨LA,fun j hj=>?_⟩,by simp only;omega,?_⟩
  ·rcases Nat.lt_or_ge j k with fG|fG
   ·exact h0 j fG
   ·obtain rfl:j=k:=by omega
    rw[S0,t1,RF];rfl
  ·exact qA.kround (p:=sO) (k:=0) (by ((repeat refine (gA rfl).trans ?_);refine (wJ IG (XK rfl)).trans ?_;(repeat refine (gA rfl).trans ?_);exact wD)) (by ((try simp (disch:=decide) only[hA,KB,IG,go_sem])<;>exact kH)) rfl mH (by simp) kV hR kL
end Go.Proofs.YtoccdlnoaindmaaGreatDoor
