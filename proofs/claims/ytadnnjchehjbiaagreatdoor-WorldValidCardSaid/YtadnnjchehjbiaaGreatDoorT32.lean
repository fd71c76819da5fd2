/- Texts of one proof, laid together: WB, WD, WC, WE, WP, WQ, WZ, E0, WR, BW, DV. No condition. -/
import Derived.Test.YtadnnjchehjbiaaGreatDoorT31
import Derived.Deep.LoopGhost
import Derived.Laws.Cover3
import Derived.RangeFuncCalls
import Derived.RangeFuncIn
import Derived.OrdersIn
import Derived.AtR
import Derived.Sort.LoopGhostIn
set_option linter.unusedSimpArgs false
namespace Go.Proofs.YtadnnjchehjbiaaGreatDoor
set_option linter.unusedVariables false

section
variable {P:Program} {w:World} {F:Nat→Prop} {L:LMap} {o:Oper} {a:Act} {e:List AV} {b l b' l':List Row} {x:AV}

theorem map_some {α β:Type} {f:α→β} {y:Option α} {z:β} (h:y.map f=some z):∃q,y=some q∧z=f q:=by
 cases y with
 |none=>cases h
 |some q=>cases h;exact⟨q,rfl,rfl⟩

theorem bind_some {α β:Type} {f:α→Option β} {y:Option α} {z:β} (h:y >>= f=some z):∃q,y=some q∧f q=some z:=by
 cases y with
 |none=>cases h
 |some q=>exact⟨q,rfl,h⟩

def xT (P:Program) (o:Oper) (a:Act) (w:World) (F:Nat→Prop) (L:LMap) (f:Nat) (args:List AV):Prop:=
 ∃vs:Array Value,bA w F L args vs.toList∧∀fn,P.funcs[f]? = some fn→(fn.name == "runtime.NumGoroutine")=false→fn.body.isSome=true→(execOp a.eval o).run P w=.ok (.enter f vs) w

theorem ZFG (s:Sim F L (b++l) w) (he:PC w F L e a) {c:Call} {f:Operand} {f':Opd} {az':List Opd} (hc:c.callee=.value f) (hf:eB f=some f') (has:EQ c.args.toList=some az') (ho:o.op=.call c)
  {g:Nat} {args:List AV} (h:tD (ev e f') (evs e az')=.call g args):xT P o a w F L g args:=by
 have h1:=jB he hf
 have h2:=dW he has
 generalize ev e f'=q at *
 unfold tD at h
 split at h
 case h_2=>cases h
 rename_i fid caps _
 cases h
 obtain⟨vs,hv,hl⟩:=h1.fnL
 refine⟨c.args.map a.eval++vs,by simpa using h2.append hl,fun fn g1 g2 g3=>?_⟩
 have hn:¬fn.body=none:=fun hb=>by rw[hb]at g3;cases g3
 have hm:¬fn.name = "runtime.NumGoroutine":=by simpa using g2
 simp[execOp,ho,resolve,hc,hv,Deferred.ofValue,invoke,callFunc,g1,hm,hn]

def OpR.plain:OpR→Bool
 |.call .. => false
 |.two .. => false
 |_=>true
def AOp.plain:AOp→Bool
 |.call .. => false
 |.isnil .. => false
 |_=>true
theorem eX (y:Option AV) (b l:List Row):(UJ y b l).plain=true:=by cases y<;>rfl
theorem MJ {ao:AOp} (h:ao.plain=true):(aop e b l ao).plain=true:=by
 cases ao<;>first|(cases h;done)|simp only[aop,mk,sD,pC,SB,ED,LD,rC,sC,DB,tC,IB,QB,SD,dC]
 all_goals (repeat' split)
 all_goals first|rfl|exact eX _ _ _

theorem ZCC (s:Sim F L (b++l) w) (he:PC w F L e a) {op:BinOp} {t u el:TypeId} (ht:P.underlying t=some (.slice el)) (hop:op=.eql∨op=.neq) {y z:Operand} {y':Opd} (ho:o.op=.binOp op t y z u) (hy:eB y=some y') (hz:S5 z=true)
  {c:Bool} {p q:AV} (h:aop e b l (.isnil (op==.neq) y')=.two c p q):(c=true∧LB P o a w F L b l p b l)∨LB P o a w F L b l q b l:=by
 have h1:=jB he hy
 simp only[aop]at h
 generalize ev e y'=r at *
 have hz':a.eval z=.slice none 0 0:=by
  unfold S5 at hz
  split at hz
  ·rfl
  ·cases hz
 have TD:∀ad n m,a.eval y=.slice ad n m→(execOp a.eval o).run P w=.ok (.value (.bool (if op=.neq then !ad.isNone else ad.isNone))) w:=by
  intro ad n m hv
  rcases hop with rfl|rfl
  ·simp[execOp,ho,hv,hz',eqGuard,binOp,run_equal_slice_nil w t el ad n m ht]
  ·simp[execOp,ho,hv,hz',eqGuard,binOp,run_equal_slice_nil w t el ad n m ht]
 have yes:∀n m,a.eval y=.slice none n m→LB P o a w F L b l (.v (.bool (!(op==.neq)))) b l:=by
  intro n m hv
  refine LB.pure s (TD _ _ _ hv) ?_
  have:=jV (w:=w) (F:=F) (L:=L) (!(op==.neq))
  rcases hop with rfl|rfl<;>exact this
 have no:∀ad n m,a.eval y=.slice (some ad) n m→LB P o a w F L b l (.v (.bool (op==.neq))) b l:=by
  intro ad n m hv
  refine LB.pure s (TD _ _ _ hv) ?_
  have:=jV (w:=w) (F:=F) (L:=L) (op==.neq)
  rcases hop with rfl|rfl<;>exact this
 generalize hv:a.eval y=v at h1
 split at h
 ·cases h
  cases h1.vI with
  |zsl ad=>cases ad with
    |none=>exact .inl ⟨rfl,yes _ _ hv⟩
    |some ad=>exact .inr (no _ _ _ hv)
 ·rename_i sz rows
  cases h
  cases h1.vI with
  |isl0 _ ad c=>cases ad with
    |none=>exact .inl ⟨rfl,yes _ _ hv⟩
    |some ad=>exact .inr (no _ _ _ hv)
  |isl=>exact .inr (no _ _ _ hv)
 ·cases h
  cases h1 with
  |sl=>exact .inr (no _ _ _ hv)
  |slz=>exact .inr (no _ _ _ hv)
  |sln _ _ ad hL=>cases ad with
    |none=>exact .inl ⟨rfl,yes _ _ hv⟩
    |some ad=>exact .inr (no _ _ _ hv)
 ·cases h

theorem ZHz {ao:AOp} (hc:cOp P o.op=some ao) (s:Sim F L (b++l) w) (he:PC w F L e a) :
  (∀x b' l',aop e b l ao=.val x b' l'→LB P o a w F L b l x b' l')∧(∀f args,aop e b l ao=.call f args→xT P o a w F L f args) ∧
   (∀c x y,aop e b l ao=.two c x y→(c=true∧LB P o a w F L b l x b l)∨LB P o a w F L b l y b l):=by
 have nocall:ao.plain=true→(∀x b' l',aop e b l ao=.val x b' l'→LB P o a w F L b l x b' l') →
   (∀x b' l',aop e b l ao=.val x b' l'→LB P o a w F L b l x b' l')∧(∀f args,aop e b l ao=.call f args→xT P o a w F L f args) ∧
    (∀c x y,aop e b l ao=.two c x y→(c=true∧LB P o a w F L b l x b l)∨LB P o a w F L b l y b l):=
  fun h1 h2=>⟨h2,⟨fun f args h=>(by have hp:=MJ (e:=e) (b:=b) (l:=l) h1;rw[h]at hp;cases hp),fun c x y h=>(by have hp:=MJ (e:=e) (b:=b) (l:=l) h1;rw[h]at hp;cases hp)⟩⟩
 generalize ho:o.op=op at hc
 cases op<;>simp only[cOp]at hc<;>first|(cases hc;done)|skip
 case move y =>
  obtain⟨z,hz,rfl⟩:=map_some hc
  exact nocall rfl (fun x b' l' h=>by simp only[aop]at h;cases h;exact ZGN s he (.inl ho) hz)
 case assign y =>
  obtain⟨z,hz,rfl⟩:=map_some hc
  exact nocall rfl (fun x b' l' h=>by simp only[aop]at h;cases h;exact ZGN s he (.inr ho) hz)
 case pick c y z =>
  obtain⟨c',h1,hc⟩:=bind_some hc
  obtain⟨y',h2,hc⟩:=bind_some hc
  obtain⟨z',h3,hc⟩:=bind_some hc
  cases hc
  exact nocall rfl (fun x b' l' h=>ZEv s he ho h1 h2 h3 h)
 case alloc t =>
  obtain⟨zs,hz,rfl⟩:=map_some hc
  exact nocall rfl (fun x b' l' h=>ZCH s ho hz h)
 case box t y =>
  obtain⟨z,hz,rfl⟩:=map_some hc
  exact nocall rfl (fun x b' l' h=>ZH5 s he ho hz h)
 case build t ps =>
  split at hc
  ·rename_i fs zs ht hz
   split at hc
   case isFalse=>cases hc
   rename_i uH
   obtain⟨qs,hq,rfl⟩:=map_some hc
   exact nocall rfl (fun x b' l' h=>ZCG s he ht hz uH hq ho h)
  ·rename_i m el zs ht hz
   split at hc
   case h_2=>cases hc
   rename_i n hn
   obtain⟨qs,hq,rfl⟩:=map_some hc
   exact nocall rfl (fun x b' l' h=>x9 s he ht hn hz hq ho h)
  ·cases hc
 case buildSlice t len ps =>
  split at hc
  case h_2=>cases hc
  rename_i el ht
  split at hc
  case h_2=>cases hc
  rename_i n zs hn hz
  split at hc
  case isFalse=>cases hc
  rename_i hb
  obtain⟨qs,hq,rfl⟩:=map_some hc
  exact nocall rfl (fun x b' l' h=>i9 s he ht hn hz hb.1 hb.2.1 hb.2.2 hq ho h)
 case load t y =>
  split at hc
  case h_2=>cases hc
  rename_i n hn
  obtain⟨z,hz,rfl⟩:=map_some hc
  exact nocall rfl (fun x b' l' h=>ZEx s he hn ho hz h)
 case store t y z =>
  split at hc
  case h_2=>cases hc
  rename_i n hn
  obtain⟨y',h1,hc⟩:=bind_some hc
  obtain⟨z',h2,hc⟩:=bind_some hc
  cases hc
  exact nocall rfl (fun x b' l' h=>ZBy s he hn ho h1 h2 h)
 case nilCheck y =>
  obtain⟨z,hz,rfl⟩:=map_some hc
  exact nocall rfl (fun x b' l' h=>ZCA s he ho hz h)
 case binOp op t y z u =>
  split at hc
  ·rename_i fs ht
   split at hc
   case h_2=>cases hc
   rename_i ks hks
   split at hc
   case isFalse=>cases hc
   rename_i hb
   obtain⟨y',h1,hc⟩:=bind_some hc
   obtain⟨z',h2,hc⟩:=bind_some hc
   cases hc
   exact nocall rfl (fun x b' l' h=>ZH4 s he ht hks hb.1 hb.2.1 hb.2.2 ho h1 h2 h)
  ·rename_i m el ht
   split at hc
   case h_2=>cases hc
   rename_i k hk hs
   split at hc
   case isFalse=>cases hc
   rename_i hb
   obtain⟨y',h1,hc⟩:=bind_some hc
   obtain⟨z',h2,hc⟩:=bind_some hc
   cases hc
   exact nocall rfl (fun x b' l' h=>ZFC s he ht hk hs hb.1 hb.2 ho h1 h2 h)
  ·obtain⟨y',h1,hc⟩:=bind_some hc
   obtain⟨z',h2,hc⟩:=bind_some hc
   cases hc
   exact nocall rfl (fun x b' l' h=>ZH6 s he ho h1 h2 h)
  ·rename_i ht
   obtain⟨y',h1,hc⟩:=bind_some hc
   obtain⟨z',h2,hc⟩:=bind_some hc
   cases hc
   exact nocall rfl (fun x b' l' h=>ZFI s he ht ho h1 h2 h)
  ·obtain⟨y',h1,hc⟩:=bind_some hc
   obtain⟨z',h2,hc⟩:=bind_some hc
   cases hc
   exact nocall rfl (fun x b' l' h=>ZFH s he ho h1 h2 h)
  ·rename_i el ht
   split at hc
   case isFalse=>cases hc
   rename_i hb
   obtain⟨y',h1,rfl⟩:=map_some hc
   refine⟨fun x b' l' h=>?_,fun g args h=>?_,fun c x y h=>ZCC s he ht hb.1 ho h1 hb.2 h⟩
   ·simp only[aop]at h
    split at h<;>cases h
   ·simp only[aop]at h
    split at h<;>cases h
  ·cases hc
 case unOp op t y =>
  cases op<;>simp only at hc<;>first|(cases hc;done)|skip
  ·obtain⟨z,hz,rfl⟩:=map_some hc
   exact nocall rfl (fun x b' l' h=>ZH2 s he ho hz h)
  ·obtain⟨z,hz,rfl⟩:=map_some hc
   exact nocall rfl (fun x b' l' h=>ZH1 s he ho hz h)
 case convert t u y =>
  split at hc
  case h_3=>cases hc
  ·rename_i k' k ht hu
   obtain⟨z,hz,rfl⟩:=map_some hc
   exact nocall rfl (fun x b' l' h=>ZFE s he ht hu ho hz h)
  ·rename_i el ht hu
   split at hc
   case h_2=>cases hc
   rename_i vJ
   obtain⟨z,hz,rfl⟩:=map_some hc
   exact nocall rfl (fun x b' l' h=>ZBx s he ht vJ hu ho hz h)
 case makeMap t r =>
  split at hc
  case isFalse=>cases hc
  rename_i hb
  cases hc
  exact nocall rfl (fun x b' l' h=>ZCB s hb.1 hb.2 ho h)
 case lookup t y i c =>
  split at hc
  case h_2=>cases hc
  rename_i kt el ht
  split at hc
  case h_2=>cases hc
  rename_i kk z hk hz
  obtain⟨y',h1,hc⟩:=bind_some hc
  obtain⟨i',h2,hc⟩:=bind_some hc
  cases hc
  exact nocall rfl (fun x b' l' h=>q9 s he ht hk hz ho h1 h2 h)
 case mapUpdate t m y z =>
  split at hc
  case h_2=>cases hc
  rename_i kt el ht
  split at hc
  case h_2=>cases hc
  rename_i kk hk
  obtain⟨m',h1,hc⟩:=bind_some hc
  obtain⟨y',h2,hc⟩:=bind_some hc
  obtain⟨z',h3,hc⟩:=bind_some hc
  cases hc
  exact nocall rfl (fun x b' l' h=>V1 s he ht hk ho h1 h2 h3 h)
 case makeFunc fn first caps =>
  cases fn<;>simp only at hc<;>first|(cases hc;done)|skip
  split at hc
  case isFalse=>cases hc
  rename_i h0
  obtain⟨cs,PN,rfl⟩:=map_some hc
  exact nocall rfl (fun x b' l' h=>by simp only[aop]at h;cases h;exact ZEw s he h0 ho PN)
 case makeSlice t y z =>
  split at hc
  case h_2=>cases hc
  rename_i el ht
  split at hc
  case h_2=>cases hc
  rename_i sz zs bytes hs hz gO
  split at hc
  case isFalse=>cases hc
  rename_i hb
  obtain⟨y',h1,hc⟩:=bind_some hc
  obtain⟨z',h2,hc⟩:=bind_some hc
  cases hc
  exact nocall rfl (fun x b' l' h=>U1 s he ht hs gO hz hb.1 ho h1 h2 h)
 case slice t y lo hi mx =>
  split at hc
  ·rename_i el ht
   split at hc
   ·split at hc
    case h_2=>cases hc
    rename_i n hn
    obtain⟨y',h1,hc⟩:=bind_some hc
    obtain⟨lo',h2,hc⟩:=bind_some hc
    obtain⟨hi',h3,hc⟩:=bind_some hc
    cases hc
    exact nocall rfl (fun x b' l' h=>ZBz s he ht hn ho h1 h2 h3 h)
   ·rename_i q
    split at hc
    case isFalse=>cases hc
    rename_i hb
    simp only[ar]at hb
    obtain⟨⟨⟨uI,RO⟩,hb3⟩,hb4⟩:=hb
    obtain⟨y',h1,rfl⟩:=map_some hc
    obtain⟨n,hn⟩:=Option.isSome_iff_exists.1 hb4
    have hlo:lo=none:=by cases lo<;>first|rfl|cases hb3
    subst hlo
    exact nocall rfl (fun x b' l' h=>z9 s he ht hn ho RO uI h1 h)
  ·rename_i ht
   split at hc
   case h_2=>cases hc
   obtain⟨y',h1,hc⟩:=bind_some hc
   obtain⟨lo',h2,hc⟩:=bind_some hc
   obtain⟨hi',h3,hc⟩:=bind_some hc
   cases hc
   exact nocall rfl (fun x b' l' h=>K9 s he ht ho h1 h2 h3 h)
  ·cases hc
 case fieldAddr t y i =>
  split at hc
  case h_2=>cases hc
  rename_i fs ht
  split at hc
  case h_2=>cases hc
  rename_i f hf
  split at hc
  case h_2=>cases hc
  rename_i n hn
  split at hc
  case isFalse=>cases hc
  rename_i h0
  obtain⟨z,hz,rfl⟩:=map_some hc
  exact nocall rfl (fun x b' l' h=>ZCF s he ht hf hn h0 ho hz h)
 case field t y i =>
  split at hc
  case h_2=>cases hc
  rename_i fs ht
  split at hc
  case h_2=>cases hc
  rename_i f hf
  split at hc
  case h_2=>cases hc
  rename_i n hn
  obtain⟨z,hz,rfl⟩:=map_some hc
  exact nocall rfl (fun x b' l' h=>ZCE s he ht hf hn ho hz h)
 case indexAddr t y i =>
  split at hc
  ·rename_i el ht
   split at hc
   case h_2=>cases hc
   rename_i n hn
   obtain⟨y',h1,hc⟩:=bind_some hc
   obtain⟨i',h2,hc⟩:=bind_some hc
   cases hc
   exact nocall rfl (fun x b' l' h=>ZCD s he ht hn ho h1 h2 h)
  ·rename_i len el ht
   split at hc
   case h_2=>cases hc
   rename_i n hn
   obtain⟨y',h1,hc⟩:=bind_some hc
   obtain⟨i',h2,hc⟩:=bind_some hc
   cases hc
   exact nocall rfl (fun x b' l' h=>g9 s he ht hn ho h1 h2 h)
  ·cases hc
 case index t y i =>
  split at hc
  ·rename_i ht
   obtain⟨y',h1,hc⟩:=bind_some hc
   obtain⟨i',h2,hc⟩:=bind_some hc
   cases hc
   exact nocall rfl (fun x b' l' h=>j9 s he ht ho h1 h2 h)
  ·rename_i len el ht
   split at hc
   case h_2=>cases hc
   rename_i n sh hn dY
   obtain⟨y',h1,hc⟩:=bind_some hc
   obtain⟨i',h2,hc⟩:=bind_some hc
   cases hc
   exact nocall rfl (fun x b' l' h=>y9 s he ht hn dY ho h1 h2 h)
  ·cases hc
 case extract y i =>
  obtain⟨z,hz,rfl⟩:=map_some hc
  exact nocall rfl (fun x b' l' h=>K1 s he ho hz h)
 case call c =>
  split at hc
  ·rename_i f hf
   obtain⟨f',h1,hc⟩:=bind_some hc
   obtain⟨az',h2,hc⟩:=bind_some hc
   cases hc
   refine⟨fun x b' l' h=>?_,fun g args h=>?_,fun c x y h=>?_⟩
   ·simp only[aop]at h
    unfold tD at h
    split at h<;>cases h
   ·simp only[aop]at h
    exact ZFG s he hf h1 h2 ho h
   ·simp only[aop]at h
    unfold tD at h
    split at h<;>cases h
  ·rename_i hcal
   split at hc
   case h_2=>cases hc
   rename_i y t ha XW
   split at hc
   ·rename_i ht
    obtain⟨z,hz,rfl⟩:=map_some hc
    exact nocall rfl (fun x b' l' h=>ZEy s he ht hcal ha XW ho hz h)
   ·rename_i el ht
    obtain⟨z,hz,rfl⟩:=map_some hc
    exact nocall rfl (fun x b' l' h=>ZH3 s he ht hcal ha XW ho hz h)
   ·rename_i n el ht
    cases hc
    exact nocall rfl (fun x b' l' h=>by simp only[aop,ev]at h;cases h;exact ZFA s ht hcal ha XW ho)
   ·rename_i kt el ht
    obtain⟨z,hz,rfl⟩:=map_some hc
    exact nocall rfl (fun x b' l' h=>ZEz s he ht hcal ha XW ho hz h)
   ·cases hc
  ·rename_i hcal
   split at hc
   case h_2=>cases hc
   rename_i y z t u ha XW
   split at hc
   case h_2=>cases hc
   rename_i el ht
   split at hc
   case h_2=>cases hc
   rename_i n bytes zs hn gO hz
   split at hc
   case isFalse =>
    split at hc
    case isFalse=>cases hc
    rename_i hb
    obtain⟨y',h1,hc⟩:=bind_some hc
    obtain⟨z',h2,hc⟩:=bind_some hc
    cases hc
    exact nocall rfl (fun x b' l' h=>ZFJ s he ht hb.2.2.2 hn gO hz hb.2.2.1 hb.1 hb.2.1 hcal ha XW ho h1 h2 h)
   rename_i hb
   obtain⟨y',h1,hc⟩:=bind_some hc
   obtain⟨z',h2,hc⟩:=bind_some hc
   cases hc
   exact nocall rfl (fun x b' l' h=>d9 s he ht hb.2.2.2 hn gO hz hb.2.2.1 hb.1 hb.2.1 hcal ha XW ho h1 h2 h)
  ·rename_i hcal
   split at hc
   case h_2=>cases hc
   rename_i y z t u ha XW
   split at hc
   case h_2=>cases hc
   rename_i el ht
   split at hc
   case h_2=>cases hc
   rename_i n hn
   split at hc
   case isFalse=>cases hc
   rename_i h0
   obtain⟨y',h1,hc⟩:=bind_some hc
   obtain⟨z',h2,hc⟩:=bind_some hc
   cases hc
   exact nocall rfl (fun x b' l' h=>ZFD s he ht hn h0 hcal ha XW ho h1 h2 h)
  ·rename_i hcal
   split at hc
   case h_2=>cases hc
   rename_i y z ha
   obtain⟨y',h1,hc⟩:=bind_some hc
   obtain⟨z',h2,hc⟩:=bind_some hc
   cases hc
   exact nocall rfl (fun x b' l' h=>ZGO (t:=true) s he hcal ha ho h1 h2 h)
  ·rename_i hcal
   split at hc
   case h_2=>cases hc
   rename_i y z ha
   obtain⟨y',h1,hc⟩:=bind_some hc
   obtain⟨z',h2,hc⟩:=bind_some hc
   cases hc
   exact nocall rfl (fun x b' l' h=>ZGO (t:=false) s he hcal ha ho h1 h2 h)
  ·rename_i hcal
   split at hc
   case h_2=>cases hc
   rename_i y t ha XW
   split at hc
   case h_2=>cases hc
   rename_i el ht
   obtain⟨z,hz,rfl⟩:=map_some hc
   exact nocall rfl (fun x b' l' h=>ZFF s he ht hcal ha XW ho hz h)
  ·cases hc

theorem j3 {o:Op} {n len:Nat} {zs:List AV} {qs:List (Nat×Opd)} (hc:cOp P o=some (.bslice n zs len qs)) :
  ∃(t el:TypeId) (parts:Array (Nat×Operand)),o=.buildSlice t len parts∧P.underlying t=some (.slice el)∧jE P el=some n∧vG P el=some zs∧(0<n∧len*n≤16777216∧zs.length=n)∧aJ parts.toList=some qs:=by
 unfold cOp at hc
 repeat' split at hc
 all_goals first
  |(cases hc;done)
  |(obtain⟨qs,hq,h⟩:=map_some hc;cases h;exact⟨_,_,_,rfl,by assumption,by assumption,by assumption,by assumption,hq⟩)
  |(obtain⟨_,_,h⟩:=map_some hc;cases h;done)
  |(obtain⟨_,_,hc⟩:=bind_some hc;cases hc;done)
  |(obtain⟨_,_,hc⟩:=bind_some hc;obtain⟨_,_,hc⟩:=bind_some hc;cases hc;done)
  |(obtain⟨_,_,hc⟩:=bind_some hc;obtain⟨_,_,hc⟩:=bind_some hc;obtain⟨_,_,hc⟩:=bind_some hc;cases hc;done)
theorem GS:∀{r:List AV} {x:List IV},dF r=some x→x.length=r.length∧∀(j:Nat) (c:IV),x[j]? = some c→r[j]? = some (.v c)
 |[],x,h=>by cases h;simp
 |.v y::r,x,h=>by
   unfold dF at h
   split at h
   case h_2=>cases h
   rename_i ys hy
   cases h
   obtain⟨h1,h2⟩:=GS hy
   refine⟨by simp[h1],fun j c hj=>?_⟩
   cases j with
   |zero=>simp at hj;subst hj;rfl
   |succ j=>simpa using h2 j c (by simpa using hj)
 |.any::_,x,h=>by cases h
 |.agg _::_,x,h=>by cases h
 |.tup _::_,x,h=>by cases h
 |.sl .. :: _,x,h=>by cases h
 |.ptr .. :: _,x,h=>by cases h
 |.fn .. :: _,x,h=>by cases h
 |.mp .. :: _,x,h=>by cases h
theorem pU:∀{r:List (List AV)} {x:List (List IV)},ID r=some x→x.length=r.length∧∀(k:Nat) (y:List IV),x[k]? = some y→∃z,r[k]? = some z∧dF z=some y
 |[],x,h=>by cases h;simp
 |z::r,x,h=>by
   unfold ID at h
   split at h
   case h_2=>cases h
   rename_i y ys hy hys
   cases h
   obtain⟨h1,h2⟩:=pU hys
   refine⟨by simp[h1],fun k c hk=>?_⟩
   cases k with
   |zero=>simp at hk;subst hk;exact⟨z,rfl,hy⟩
   |succ k=>simpa using h2 k c (by simpa using hk)
theorem ZCf {w:World} {k:Nat} {cs:Array Value} {T:TypeId} {fr:Nat×Nat} (hb:w.heap[k]? = some (.cells cs T fr)) {j:Nat}:w.cell? ⟨k,j,none⟩=cs[j]?:=by
 simp[World.cell?,hb]
theorem ZFB (s:Sim F L (b++l) w) (he:PC w F L e a) {t el:TypeId} {n len:Nat} {zs:List AV} {parts:Array (Nat×Operand)} {qs:List (Nat×Opd)} (ht:P.underlying t=some (.slice el)) (hn:jE P el=some n) (hz:vG P el=some zs)
  (h0:0<n) (nL:len*n≤16777216) (z6:zs.length=n) (hq:aJ parts.toList=some qs) (ho:o.op=.buildSlice t len parts)
  (h:aop e b l (.islb n zs len qs)=.val x b' l'):TP P o a w F L b l x b' l':=by
 obtain⟨i,z,hi,YW,eZ⟩:=aE hz
 obtain⟨c1,c2⟩:=tF (w:=w) (F:=F) (L:=L) eZ
 obtain⟨q1,q2⟩:=iK hq
 simp only[aop]at h
 split at h
 case h_2=>cases h
 rename_i els sV
 split at h
 case h_2=>cases h
 rename_i rows hrows
 cases h
 obtain⟨vs,h1,h2,h3,h4⟩:=ES he (ps:=parts.toList) (qs:=qs) q2 q1 (cur:=madeCells z.cells (len*n)) (by simp[size_madeCells]) (iO c1 c2 z6 _ (ah _)) sV
 have jD:els.length=len:=by simpa using h3
 have hm:(parts.map fun (j,y)=>(j,a.eval y)).toList=parts.toList.map fun p=>(p.1,a.eval p.2):=by simp
 have hlm:len≤16777216:=by
  rcases kg len with h|h
  ·omega
  ·have:=Nat.le_mul_of_pos_right len h0;omega
 obtain⟨r1,r2⟩:=pU hrows
 have ZAr:Ends P o a w (.slice (some ⟨w.heap.size,0,none⟩) len len) (w.alloc (.cells vs el)):=by
  refine .inl ?_
  have bB:¬(len*n>2 ^ 24):=by omega
  by_cases h00:len*n=0
  ·have hmc:madeCells z.cells (len*n)=#[]:=by rw[h00];simp[madeCells,Array.range_zero']
   rw[hmc]at h1
   have hmd:(Array.range (len*n)).map (((#[]:Array Value)[· % (#[]:Array Value).size]!))=#[]:=by rw[h00];simp[Array.range_zero']
   have hlt':¬(len*n>16777216):=by omega
   simp only[execOp,ho,Instr.buildSlice,Sem.run_bind,run_underlying ht,Result.andThen_ok,aB hn,Sem.run_ite,h00,if_true,Sem.run_pure,hm]
   rw[h00]at hmd
   simp only[hmd,h1,newRow,Sem.run_bind]
   simp
  ·simp only[execOp,ho,Instr.buildSlice,Sem.run_bind,run_underlying ht,Result.andThen_ok,aB hn,Sem.run_ite,bB,if_false,h00,Sem.run_pure,hm,bH hi YW]
   have h1':=h1
   unfold madeCells at h1'
   simp only[h1',newRow,Sem.run_bind]
   simp
 have JG:∀k,k<w.heap.size→(w.alloc (.cells vs el)).heap[k]? = w.heap[k]?:=fun k hk=>by
  show (w.heap.push _)[k]? = _
  rw[lj];split
  ·omega
  ·rfl
 have pH:(w.alloc (.cells vs el)).heap[w.heap.size]? = some (.cells vs el (0,0)):=Array.getElem?_push_size
 have ZEN:∀k,F k→k<w.heap.size:=fun k hk=>(s.imm k hk).1
 have hFo:∀k,F k→(w.alloc (.cells vs el)).heap[k]? = w.heap[k]?:=fun k hk=>JG k (ZEN k hk)
 have own:∀k,gD L (b++l) k→k<w.heap.size:=by
  rintro k ⟨id,v,z1,e1,q,g1,g2,g3⟩
  obtain⟨q',g4,g5⟩:=s.row id v z1 e1 g1
  rw[g2]at g4;cases g4
  exact g5.lt g3
 have NN:(w.alloc (.cells vs el)).heap.size=w.heap.size+1:=by show (w.heap.push _).size=_;simp
 refine⟨_,_,fun k=>F k∨k=w.heap.size,L,ZAr,.v _ _ ?_,?_,?_,rfl⟩
 ·by_cases hz0:rows=[]
  ·subst hz0
   have:len=0:=by rw[←jD,←r1];rfl
   subst this
   exact .isl0 _ _ _ kE
  ·have uT:rows.length=len:=by rw[r1,jD]
   have key:∀(k:Nat) (row:List IV) (j:Nat) (c:IV),rows[k]? = some row→row[j]? = some c→∃u,vs[k*n+j]? = some u∧RepI w F c u:=by
    intro k row j c hk hj
    obtain⟨z1,g1,g2⟩:=r2 k row hk
    obtain⟨u1,u2⟩:=GS g2
    obtain⟨_,u,g4,g5⟩:=h4.2 k z1 j _ g1 (u2 j c hj)
    cases g5 with
    |v _ _ g5=>exact⟨u,g4,g5⟩
   have tY:RepI (w.alloc (.cells vs el)) (fun k=>F k∨k=w.heap.size) (.isl n rows) (.slice (some ⟨w.heap.size,0,none⟩) rows.length len):=by
    refine .isl rows w.heap.size 0 n len (fun k j=>(vs[k*n+j]?).getD undef) (.inr rfl) oM (by unfold maxLen;omega) ?_ ?_ ?_
    ·intro k row hk
     obtain⟨z1,g1,g2⟩:=r2 k row hk
     rw[(GS g2).1];exact h4.1 k z1 g1
    ·intro k row j c hk hj
     obtain⟨u,g1,g2⟩:=key k row j c hk hj
     rw[ZCf pH]
     simp only[br,g1,gp]
    ·intro k row j c hk hj
     obtain⟨u,g1,g2⟩:=key k row j c hk hj
     simp only[g1,gp]
     exact g2.mono (fun _ h=>.inl h) hFo
   rw[uT]at tY
   exact tY
 ·refine⟨fun id v z1 e1 g=>?_,s.born,s.apart,fun k hk=>?_,s.glob.mono (fun _ h=>.inl h) hFo⟩
  ·obtain⟨q,g1,g2⟩:=s.row id v z1 e1 g
   exact⟨q,g1,g2.mono (fun k hk=>JG k (g2.lt hk)) (fun _ _ hx=>hx.mono (fun _ h=>.inl h) hFo (fun _ _ _ h=>h))⟩
  ·rcases hk with hk|rfl
   ·exact⟨by rw[NN];have:=ZEN k hk;omega,(s.imm k hk).2⟩
   ·exact⟨by rw[NN];omega,fun h=>by have:=own _ h;omega⟩
 ·exact⟨fun _ h=>.inl h,fun _ _ _ _ h=>h,rfl,rfl,rfl,by rw[NN];omega,fun k hk _=>JG k hk,fun _ _ h=>h,fun _ _ _ h=>h,fun k hk hf=>hf.elim .inl (fun e=>by omega)⟩
theorem ZFi {imm:Bool} {ao:AOp} (hc:uV P imm o.op=some ao) (s:Sim F L (b++l) w) (he:PC w F L e a) :
  (∀x b' l',aop e b l ao=.val x b' l'→TP P o a w F L b l x b' l')∧(∀f args,aop e b l ao=.call f args→xT P o a w F L f args) ∧
   (∀c x y,aop e b l ao=.two c x y→(c=true∧TP P o a w F L b l x b l)∨TP P o a w F L b l y b l):=by
 have plain:∀{ao:AOp},cOp P o.op=some ao→(∀x b' l',aop e b l ao=.val x b' l'→TP P o a w F L b l x b' l')∧(∀f args,aop e b l ao=.call f args→xT P o a w F L f args) ∧
   (∀c x y,aop e b l ao=.two c x y→(c=true∧TP P o a w F L b l x b l)∨TP P o a w F L b l y b l):=fun h=>by
  obtain⟨h1,h2,h3⟩:=ZHz h s he
  exact⟨fun x b' l' h=>(h1 x b' l' h).toF,h2,fun c x y h=>(h3 c x y h).imp (fun h=>⟨h.1,h.2.toF⟩) (fun h=>h.toF)⟩
 unfold uV at hc
 split at hc
 ·obtain⟨ao0,h0,h1⟩:=map_some hc
  by_cases hb:∃n zs len qs,ao0=.bslice n zs len qs
  ·obtain⟨n,zs,len,qs,rfl⟩:=hb
   cases h1
   obtain⟨t,el,parts,g1,g2,g3,g4,g5,g6⟩:=j3 h0
   refine⟨fun x b' l' h=>ZFB s he g2 g3 g4 g5.1 g5.2.1 g5.2.2 g6 g1 h,?_,?_⟩
   ·intro f args h
    simp only[ZDj,aop]at h
    repeat' split at h
    all_goals cases h
   ·intro c x y h
    simp only[ZDj,aop]at h
    repeat' split at h
    all_goals cases h
  ·have:ao=ao0:=by
    rw[h1]
    cases ao0<;>first|rfl|exact absurd ⟨_,_,_,_,rfl⟩ hb
   subst this
   exact plain h0
 ·exact plain hc
end

section
variable {e e':List AV} {b l b' l':List Row}

theorem KE {x:Opd} (h:∀s∈x.slot,nth e s=nth e' s):ev e x=ev e' x:=by
 cases x with
 |t n=>exact h n (by simp[Opd.slot])
 |c x=>rfl
theorem fP:∀{xs:List Opd},(∀s∈rJ xs,nth e s=nth e' s)→evs e xs=evs e' xs
 |[],_=>rfl
 |x::xs,h=>by
   simp only[evs]
   rw[KE (x:=x) (fun s hs=>h s (by simp[rJ,hs])),fP (xs:=xs) (fun s hs=>h s (by simp[rJ,hs]))]
theorem eM {x:Option Opd} (h:∀s∈BZ x,nth e s=nth e' s):evo e x=evo e' x:=by
 cases x with
 |none=>rfl
 |some x=>simp only[evo];rw[KE (x:=x) h]
theorem yQ:∀{ps:List (Nat×Nat×Opd)} {row:List AV},(∀s∈rJ (ps.map (·.2.2)),nth e s=nth e' s)→yD e row ps=yD e' row ps
 |[],_,_=>rfl
 |(i,n,x)::ps,row,h=>by
   simp only[yD]
   rw[KE (x:=x) (fun s hs=>h s (by simp[rJ,hs]))]
   split
   ·split
    ·exact yQ (fun s hs=>h s (by simp[rJ,hs]))
    ·rfl
   ·rfl
theorem EL {sz:Nat}:∀{ps:List (Nat×Opd)} {els:List (List AV)},(∀s∈rJ (ps.map (·.2)),nth e s=nth e' s)→KD e sz els ps=KD e' sz els ps
 |[],_,_=>rfl
 |(i,x)::ps,els,h=>by
   simp only[KD]
   rw[KE (x:=x) (fun s hs=>h s (by simp[rJ,hs]))]
   split
   ·split
    ·exact EL (fun s hs=>h s (by simp[rJ,hs]))
    ·rfl
   ·rfl

theorem ZAH {o:AOp} (h:∀s∈o.looks,nth e s=nth e' s):aop e b l o=aop e' b l o:=by
 cases o<;>simp only[AOp.looks,bn]at h<;>simp only[aop]
 case mv x=>rw[KE (x:=x) h]
 case nilck x=>rw[KE (x:=x) h]
 case pick c x y=>rw[KE (x:=c) (fun s hs=>h s (.inl (.inl hs))),KE (x:=x) (fun s hs=>h s (.inl (.inr hs))),KE (x:=y) (fun s hs=>h s (.inr hs))]
 case mupdate kk m x y=>rw[KE (x:=m) (fun s hs=>h s (.inl (.inl hs))),KE (x:=x) (fun s hs=>h s (.inl (.inr hs))),KE (x:=y) (fun s hs=>h s (.inr hs))]
 case build zs ps=>rw[yQ (ps:=ps) h]
 case bslice sz zs len ps=>rw[EL (ps:=ps) h]
 case islb sz zs len ps=>rw[EL (ps:=ps) h]
 case slice sz x lo hi=>rw[KE (x:=x) (fun s hs=>h s (.inl (.inl hs))),eM (x:=lo) (fun s hs=>h s (.inl (.inr hs))),eM (x:=hi) (fun s hs=>h s (.inr hs))]
 case sliceS x lo hi=>rw[KE (x:=x) (fun s hs=>h s (.inl (.inl hs))),eM (x:=lo) (fun s hs=>h s (.inl (.inr hs))),eM (x:=hi) (fun s hs=>h s (.inr hs))]
 case mkfn f cs=>rw[fP (xs:=cs) h]
 case call f az=>rw[KE (x:=f) (fun s hs=>h s (.inl hs)),fP (xs:=az) (fun s hs=>h s (.inr hs))]
 all_goals first
  |rfl
  |(rename_i x;rw[KE (x:=x) h];done)
  |(rename_i x y;rw[KE (x:=x) (fun s hs=>h s (.inl hs)),KE (x:=y) (fun s hs=>h s (.inr hs))];done)

theorem ZCV {g:Option (Nat×Bool)} (h:∀s∈(match g with|some (g,_)=>[g]|none=>[]),nth e s=nth e' s):gd e g=gd e' g:=by
 cases g with
 |none=>rfl
 |some gw=>obtain⟨g,w⟩:=gw;simp only[gd];rw[h g kS]

theorem EF {o:AOper} (h:∀s∈o.looks,nth e s=nth e' s):aop e b l o.op=aop e' b l o.op∧gd e o.guard=gd e' o.guard:=
 ⟨ZAH (fun s hs=>h s (by simp[AOper.looks,hs])),ZCV (fun s hs=>h s (by simp only[AOper.looks,bn];exact .inr hs))⟩

theorem ML {o:AOp} (h:o.quiet=true):o.plain=true:=by cases o<;>first|rfl|cases h

theorem wJ {o:AOp} (h:o.quiet=true) {x:AV} (hv:aop e b l o=.val x b' l'):b'=b∧l'=l:=by
 have opt:∀(y:Option AV),UJ y b l=.val x b' l'→b'=b∧l'=l:=fun y hy=>(eE hy).2
 cases o<;>first|(cases h;done)|skip
 all_goals simp only[aop,sD,rC,sC,DB,tC,IB,SD,dC]at hv
 all_goals (repeat' split at hv)
 all_goals first|exact opt _ hv|(cases hv;exact⟨rfl,rfl⟩)|(cases hv;done)

theorem G1 {e:List AV} {d s:Nat} {x:AV} (h:d≠s):nth (upd e d x) s=nth e s:=by
 rw[LN,LN,IJ,bq h]
theorem VF {e:List AV} {d:Option Nat} {s:Nat} {x:AV} (h:∀n,d=some n→n≠s):nth (put e d x) s=nth e s:=by
 cases d with
 |none=>rfl
 |some n=>exact G1 (h n rfl)
theorem EY {e:List AV} {d d':Option Nat} {x y:AV} (h:∀n,d=some n→d'≠some n):put (put e d x) d' y=put (put e d' y) d x:=by
 cases d with
 |none=>cases d'<;>rfl
 |some n =>
   cases d' with
   |none=>rfl
   |some m =>
     have YH:n≠m:=fun e=>h n rfl (by rw[e])
     simp only[put,IJ]
     rw[List.set_comm _ _ YH]
def pI:List DOper→List AV→List Row→List Row→Option (List AV)
 |[],e,_,_=>some e
 |d::ds,e,b,l =>
   match gd e d.o.guard with
   |some true=>match aop e b l d.o.op with
     |.val x _ _=>pI ds (put e d.o.dst x) b l
     |_=>none
   |some false=>pI ds (put e d.o.dst (.tup [])) b l
   |none=>none

theorem mN {C:CallP} {K:List AV→List Row→List Row→Prop}:∀{ps qs:List DOper} {e:List AV},(∀d∈ps,d.o.op.quiet=true)→zH C (ps++qs) e b l K→∃e1,pI ps e b l=some e1∧zH C qs e1 b l K
 |[],qs,e,_,h=>⟨e,rfl,h⟩
 |d::ps,qs,e,hq,h=>by
   simp only[bw,zH]at h
   simp only[pI]
   unfold ZF at h
   split at h
   case h_2=>exact h.elim
   rename_i t hg
   have hd:=hq d kS
   rw[hg]
   cases t
   ·simp only[bx,if_false]at h
    exact mN (fun x hx=>hq x (by simp[hx])) h
   ·simp only[if_true]at h
    cases hr:aop e b l d.o.op with
    |val x b1 l1 =>
      rw[hr]at h
      obtain⟨k1,k2⟩:=wJ hd hr
      rw[k1,k2]at h
      exact mN (fun x hx=>hq x (by simp[hx])) h.2
    |bad=>rw[hr]at h;exact h.elim
    |call f az=>have:=MJ (e:=e) (b:=b) (l:=l) (ML hd);rw[hr]at this;cases this
    |two c x y=>have:=MJ (e:=e) (b:=b) (l:=l) (ML hd);rw[hr]at this;cases this

theorem iJ {C:CallP} {K:List AV→List Row→List Row→Prop}:∀{ps qs:List DOper} {e e1:List AV},(∀d∈ps,d.o.op.quiet=true∧d.re=[])→pI ps e b l=some e1→zH C qs e1 b l K→zH C (ps++qs) e b l K
 |[],qs,e,e1,_,he,h=>by cases he;exact h
 |d::ps,qs,e,e1,hq,he,h=>by
   simp only[bw,zH]
   simp only[pI]at he
   have hd:=hq d kS
   unfold ZF
   split at he
   ·rename_i hg
    rw[hg]
    simp only[if_true]
    split at he
    ·rename_i x b1 l1 hr
     rw[hr]
     obtain⟨k1,k2⟩:=wJ hd.1 hr
     rw[k1,k2]
     exact⟨by rw[hd.2];trivial,iJ (fun x hx=>hq x (by simp[hx])) he h⟩
    ·cases he
   ·rename_i hg
    rw[hg]
    simp only[bx,if_false]
    exact iJ (fun x hx=>hq x (by simp[hx])) he h
   ·cases he

theorem EH:∀{ps:List DOper} {e e1:List AV} {s:Nat},pI ps e b l=some e1→(∀d∈ps,d.o.dst≠some s)→nth e1 s=nth e s
 |[],e,e1,s,he,_=>by cases he;rfl
 |d::ps,e,e1,s,he,h=>by
   simp only[pI]at he
   have hd:∀n,d.o.dst=some n→n≠s:=fun n hn e=>h d kS (by rw[hn,e])
   split at he
   ·split at he
    ·rw[EH he (fun x hx=>h x (by simp[hx])),VF hd]
    ·cases he
   ·rw[EH he (fun x hx=>h x (by simp[hx])),VF hd]
   ·cases he

def gT:List DOper→Prop
 |[]=>True
 |d::ds=>(∀n,d.o.dst=some n→n∉d.o.looks)∧(∀c∈ds,∀n,c.o.dst=some n→n∉d.o.looks∧d.o.dst≠some n)∧gT ds

theorem MK {e:List AV} {d:Option Nat} {x:AV}:(put e d x).length=e.length:=by
 cases d with
 |none=>rfl
 |some d=>simp[put,IJ]
theorem bM:∀{ps:List DOper} {e e1:List AV},pI ps e b l=some e1→e1.length=e.length
 |[],e,e1,he=>by cases he;rfl
 |d::ps,e,e1,he=>by
   simp only[pI]at he
   split at he
   ·split at he
    ·rw[bM he,MK]
    ·cases he
   ·rw[bM he,MK]
   ·cases he
theorem ZBu {e:List AV} {d:Nat} {x v:AV} (h:nth (put e (some d) x) d=v∨e.length≤d):put e (some d) v=put e (some d) x:=by
 simp only[put,IJ,LN]at h⊢
 rcases cq d e.length with hl|hl
 ·rcases h with h|h
  ·rw[bf hl]at h
   have:x=v:=h
   rw[this]
  ·omega
 ·rw[List.set_eq_of_length_le hl,List.set_eq_of_length_le hl]
theorem ZCI {e:List AV} {d:Nat} {x:AV}:nth (put e (some d) x) d=x∨e.length≤d:=by
 simp only[put,IJ,LN]
 rcases cq d e.length with hl|hl
 ·rw[bf hl];exact .inl rfl
 ·exact .inr hl

theorem aN {di:Option Nat} {v:AV}:∀{ps:List DOper} {e e1:List AV},pI ps e b l=some e1→gT ps→(∀d∈ps,d.o.op.quiet=true∧∀n,di=some n→n∉d.o.looks∧d.o.dst≠some n) →
  (∀d∈ps,QD e1 b' l' d.o)→pI ps (put e di v) b' l'=some (put e1 di v)
 |[],e,e1,he,_,_,_=>by cases he;rfl
 |d::ps,e,e1,he,hap,hi,U8=>by
   obtain⟨hq,hdi⟩:=hi d kS
   obtain⟨HW,ZEO,ZEP⟩:=hap
   have ZEQ:=U8 d kS
   have hi':∀c∈ps,c.o.op.quiet=true∧∀n,di=some n→n∉c.o.looks∧c.o.dst≠some n:=fun c hc=>hi c (by simp[hc])
   have hre':∀c∈ps,QD e1 b' l' c.o:=fun c hc=>U8 c (by simp[hc])
   simp only[pI]at he⊢
   have ZJT:∀s∈d.o.looks,nth (put e di v) s=nth e s:=fun s hs=>VF (fun n hn=>fun hns=>(hdi n hn).1 (hns▸hs))
   obtain⟨qL,Q5⟩:=EF (b:=b') (l:=l') (o:=d.o) ZJT
   rw[Q5,qL]
   have ZAa:∀{x:AV},pI ps (put e d.o.dst x) b l=some e1→∀s∈d.o.looks,nth e1 s=nth e s:=by
    intro x hx s hs
    rw[EH hx (fun c hc PN=>(ZEO c hc s PN).1 hs)]
    exact VF (fun n hn=>fun hns=>HW n hn (hns▸hs))
   have ZR:∀u,put (put e di v) d.o.dst u=put (put e d.o.dst u) di v:=fun u=>EY (fun n hn=>(hdi n hn).2)
   split at he
   ·rename_i hg
    split at he
    case h_2=>cases he
    rename_i x b1 l1 hr
    obtain⟨k1,k2⟩:=EF (b:=b') (l:=l') (o:=d.o) (ZAa he)
    unfold QD ZF at ZEQ
    rw[k2,hg]at ZEQ
    simp only[if_true]at ZEQ
    rw[k1]at ZEQ
    obtain⟨u,hu,hun⟩:=ZEQ
    rw[hu]
    simp only
    rw[ZR]
    have QR:put e d.o.dst u=put e d.o.dst x:=by
     cases hd:d.o.dst with
     |none=>rfl
     |some n =>
       rw[hd]at hun he
       simp only at hun
       rw[EH he (fun c hc PN=>(ZEO c hc n PN).2 hd),bM he,MK]at hun
       exact ZBu hun
    rw[QR]
    exact aN he ZEP hi' hre'
   ·rename_i hg
    rw[ZR]
    exact aN he ZEP hi' hre'
   ·cases he

theorem CL:∀{ps:List DOper} {e e1:List AV},pI ps e b l=some e1→gT ps→(∀d∈ps,d.o.op.quiet=true)→∀d∈ps,QD e1 b l d.o
 |[],e,e1,he,_,_,d,hd=>by simp at hd
 |c::ps,e,e1,he,hap,hq,d,hd=>by
   obtain⟨HW,ZEO,ZEP⟩:=hap
   have hqc:=hq c kS
   simp only[pI]at he
   have ZAa:∀{x:AV},pI ps (put e c.o.dst x) b l=some e1→∀s∈c.o.looks,nth e1 s=nth e s:=by
    intro x hx s hs
    rw[EH hx (fun c' hc PN=>(ZEO c' hc s PN).1 hs)]
    exact VF (fun n hn=>fun hns=>HW n hn (hns▸hs))
   rcases dx.1 hd with rfl|hd'
   ·split at he
    ·rename_i hg
     split at he
     case h_2=>cases he
     rename_i x b1 l1 hr
     obtain⟨k1,k2⟩:=EF (b:=b) (l:=l) (o:=d.o) (ZAa he)
     obtain⟨q1,q2⟩:=wJ hqc hr
     unfold QD ZF
     rw[k2,hg,k1,hr,q1,q2]
     simp only[if_true]
     refine⟨x,rfl,?_⟩
     cases hdd:d.o.dst with
     |none=>trivial
     |some n =>
       rw[hdd]at he
       simp only
       rw[EH he (fun c' hc PN=>(ZEO c' hc n PN).2 hdd),bM he,MK]
       exact ZCI
    ·rename_i hg
     obtain⟨k1,k2⟩:=EF (b:=b) (l:=l) (o:=d.o) (ZAa he)
     unfold QD ZF
     rw[k2,hg]
     simp
    ·cases he
   ·split at he
    ·split at he
     ·exact CL he ZEP (fun c' hc=>hq c' (by simp[hc])) d hd'
     ·cases he
    ·exact CL he ZEP (fun c' hc=>hq c' (by simp[hc])) d hd'
    ·cases he

theorem lN:∀{rs:List AOper} {e:List AV},JH e b l rs→∀r∈rs,QD e b l r
 |[],_,_,r,hr=>by simp at hr
 |x::rs,e,h,r,hr=>by
   rcases dx.1 hr with rfl|hr
   ·exact h.1
   ·exact lN h.2 r hr

theorem ZD1 {C:CallP} (RQ:∀f args b l (Q Q':AV→List Row→List Row→Prop),C f args b l Q→(∀x b' l',Q x b' l'→Q' x b' l')→C f args b l Q')
  {K:List AV→List Row→List Row→Prop} {p1 p2:List DOper} {i:DOper} (h:zH C (p1++i::p2) e b l K) (hq:∀d∈p1,d.o.op.quiet=true∧d.re=[]) (hap:gT p1)
  (h1:∀d∈p1,∀n,i.o.dst=some n→n∉d.o.looks∧d.o.dst≠some n) (h2:∀d∈p1,∀n,d.o.dst=some n→n∉i.o.looks) (U8:i.o.op.quiet=true∨∀d∈p1,d.o∈i.re) :
  ZF (gd e i.o.guard) (YK C b l (fun x b' l'=>zH C (p1++p2) (put e i.o.dst x) b' l' K) (aop e b l i.o.op)) (zH C (p1++p2) (put e i.o.dst (.tup [])) b l K):=by
 obtain⟨e1,he,h⟩:=mN (fun d hd=>(hq d hd).1) h
 obtain⟨k1,k2⟩:=EF (e:=e1) (e':=e) (b:=b) (l:=l) (o:=i.o) (fun s hs=>EH he (fun d hd RN=>h2 d hd s RN hs))
 have wO:=CL he hap (fun d hd=>(hq d hd).1)
 have move:∀{b' l':List Row} (x:AV),(∀d∈p1,QD e1 b' l' d.o)→zH C p2 (put e1 i.o.dst x) b' l' K→zH C (p1++p2) (put e i.o.dst x) b' l' K:=by
  intro b' l' x hr hk
  exact iJ hq (aN he hap (fun d hd=>⟨(hq d hd).1,fun n hn=>h1 d hd n hn⟩) hr) hk
 simp only[zH]at h
 rw[k1,k2]at h
 unfold ZF at h⊢
 split at h
 case h_2=>exact h.elim
 rename_i t hg
 cases t
 ·simp only[bx,if_false]at h⊢
  exact move _ wO h
 ·simp only[if_true]at h⊢
  cases hr:aop e b l i.o.op with
  |bad=>rw[hr]at h;exact h.elim
  |val x b' l' =>
    rw[hr]at h
    refine move _ ?_ h.2
    rcases U8 with U8|U8
    ·obtain⟨q1,q2⟩:=wJ U8 hr
     rw[q1,q2];exact wO
    ·exact fun d hd=>lN h.1 _ (U8 d hd)
  |two c x y =>
    rw[hr]at h
    exact⟨fun hc=>move _ wO (h.1 hc).2,move _ wO h.2.2⟩
  |call f az =>
    rw[hr]at h
    refine RQ _ _ _ _ _ _ h ?_
    rintro x b' l' ⟨g1,g2⟩
    refine move _ ?_ g2
    rcases U8 with U8|U8
    ·have:=MJ (e:=e) (b:=b) (l:=l) (ML U8);rw[hr]at this;cases this
    ·exact fun d hd=>lN g1 _ (U8 d hd)

theorem lX {e e':List AV} {b l:List Row} {r:AOper} (h:∀s∈r.looks,nth e s=nth e' s) (hd:∀n,r.dst=some n→nth e n=nth e' n) (hl:e.length=e'.length) (hr:QD e b l r):QD e' b l r:=by
 obtain⟨k1,k2⟩:=EF (b:=b) (l:=l) h
 unfold QD at hr⊢
 rw[k1,k2]at hr
 cases hdd:r.dst with
 |none=>rw[hdd]at hr;exact hr
 |some n=>rw[hdd]at hr;simp only at hr⊢;rw[hd n hdd,hl]at hr;exact hr

theorem wK {e e':List AV} {b l:List Row}:∀{rs:List AOper},(∀r∈rs,(∀s∈r.looks,nth e s=nth e' s)∧∀n,r.dst=some n→nth e n=nth e' n)→e.length=e'.length→JH e b l rs→JH e' b l rs
 |[],_,_,_=>trivial
 |r::rs,h,hl,hr=>⟨lX (h r kS).1 (h r kS).2 hl hr.1,wK (fun x hx=>h x (by simp[hx])) hl hr.2⟩

theorem FJ {C:CallP} (RQ:∀f args b l (Q Q':AV→List Row→List Row→Prop),C f args b l Q→(∀x b' l',Q x b' l'→Q' x b' l')→C f args b l Q')
  {K:List AV→List Row→List Row→Prop} {d:Nat} {zs:List AV} {i:Nat} {re:List AOper} {p2:List DOper} (U8:∀r∈re,d∉r.looks∧r.dst≠some d) :
  ∀{p1:List DOper} {e:List AV} {b l:List Row} {x:AV},(∀c∈p1,d∉c.o.looks∧c.o.dst≠some d∧∀r∈c.re,d∉r.looks∧r.dst≠some d) →
   zH C (p1++⟨i,⟨some d,.alloc zs,none⟩,re⟩::p2) e b l K→zH C (p1++⟨i,⟨some d,.alloc zs,none⟩,re⟩::p2) (put e (some d) x) b l K
 |[],e,b,l,x,_,h=>by
   simp only[cg,zH,gd,ZF,if_true,aop,mk,YK]at h⊢
   obtain⟨h1,h2⟩:=h
   refine⟨wK (fun r hr=>⟨fun s hs=>?_,fun n hn=>?_⟩) (by simp[MK]) h1,?_⟩
   ·rw[VF];intro n hn hns;cases hn;exact (U8 r hr).1 (hns▸hs)
   ·rw[VF];intro m hm hmn;cases hm;exact (U8 r hr).2 (by rw[hn,hmn])
   ·simp only[put,IJ,jn]at h2⊢;exact h2
 |c::p1,e,b,l,x,hp,h=>by
   obtain⟨c1,c2,c3⟩:=hp c kS
   have hp':∀c'∈p1,d∉c'.o.looks∧c'.o.dst≠some d∧∀r∈c'.re,d∉r.looks∧r.dst≠some d:=fun c' hc=>hp c' (by simp[hc])
   simp only[bw,zH]at h⊢
   obtain⟨k1,k2⟩:=EF (e:=put e (some d) x) (e':=e) (b:=b) (l:=l) (o:=c.o) (fun s hs=>VF (fun n hn hns=>by cases hn;exact c1 (hns▸hs)))
   rw[k1,k2]
   have ZR:∀v,put (put e (some d) x) c.o.dst v=put (put e c.o.dst v) (some d) x:=fun v=>EY (fun n hn=>by cases hn;exact c2)
   have hrs:∀{b' l':List Row},JH e b' l' c.re→JH (put e (some d) x) b' l' c.re:=fun hr=>wK (fun r hrr=>⟨fun s hs=>by rw[VF];intro n hn hns;cases hn;exact (c3 r hrr).1 (hns▸hs),fun n hn=>by rw[VF];intro m hm hmn;cases hm;exact (c3 r hrr).2 (by rw[hn,hmn])⟩) (by simp[MK]) hr
   unfold ZF at h⊢
   split at h
   case h_2=>exact h.elim
   rename_i t hg
   cases t
   ·simp only[bx,if_false]at h⊢
    rw[ZR]
    exact FJ RQ U8 hp' h
   ·simp only[if_true]at h⊢
    cases hr:aop e b l c.o.op with
    |bad=>rw[hr]at h;exact h.elim
    |val y b' l' =>
      rw[hr]at h
      simp only[YK]at h⊢
      rw[ZR]
      exact⟨hrs h.1,FJ RQ U8 hp' h.2⟩
    |two t y z =>
      rw[hr]at h
      simp only[YK]at h⊢
      rw[ZR,ZR]
      exact⟨fun ht=>⟨hrs (h.1 ht).1,FJ RQ U8 hp' (h.1 ht).2⟩,hrs h.2.1,FJ RQ U8 hp' h.2.2⟩
    |call f az =>
      rw[hr]at h
      simp only[YK]at h⊢
      refine RQ _ _ _ _ _ _ h ?_
      rintro y b' l' ⟨g1,g2⟩
      rw[ZR]
      exact⟨hrs g1,FJ RQ U8 hp' g2⟩
end

def ZA (P:Program):CallP:=fun f args b l Q =>
 (∃fn,P.funcs[f]? = some fn∧(fn.name == "runtime.NumGoroutine")=false∧fn.body.isSome=true) ∧
 ∀F L w (vs:Array Value),Sim F L (b++l) w→bA w F L args vs.toList→Calls P f vs w fun en w' =>
  ∃v x b' l' F' L',en=.returned v∧RepA w' F' L' x v∧Sim F' L' (b'++l') w'∧Step (b++l).length F L (b++l) w F' L' (b'++l') w'∧b'.length=b.length∧Q x b' l'

def KA:WeakP:=fun e b l e' b' l' =>
 ∀F L w a,Sim F L (b++l) w→PC w F L e a→∃F' L',Sim F' L' (b'++l') w∧PC w F' L' e' a∧Step b.length F L (b++l) w F' L' (b'++l') w∧b'.length=b.length

def ExR:Exit→AExit→Prop
 |.normal,.normal=>True
 |.exit i,.exit j=>i=j
 |.ret,.ret=>True
 |_,_=>False

def Aft (nb:Nat) (F:Nat→Prop) (L:LMap) (h:List Row) (w:World) (Q:AExit→List AV→List Row→List Row→Prop):Exit→Act→World→Prop:=fun ex a' w' =>
 ∃ax e' b' l' F' L',ExR ex ax∧Sim F' L' (b'++l') w'∧PC w' F' L' e' a'∧Step nb F L h w F' L' (b'++l') w'∧b'.length=nb∧Q ax e' b' l'

section
variable {P:Program}

theorem ZDl {w:World} {F:Nat→Prop} {L:LMap} {e:List AV} {a:Act} (he:PC w F L e a) {ops:Array Oper} {o:Oper} {g:Option (Nat×Bool)} (hg:GQ ops o.guard=some g) {t:Bool} (h:gd e g=some t) :
  Region.wanted o (yielded ops a.tmps)=t:=by
 unfold GQ at hg
 unfold Region.wanted
 cases hgu:o.guard with
 |none=>rw[hgu]at hg;simp at hg;subst hg;simp[gd]at h;subst h;rfl
 |some jw =>
   obtain⟨j,want⟩:=jw
   rw[hgu]at hg
   simp only at hg
   cases hd:(ops[j]?).bind (·.dst) with
   |none=>rw[hd]at hg;cases hg
   |some d =>
     rw[hd]at hg
     cases hg
     simp only[gd]at h
     have hr:=he.nth d
     simp only[yielded,hd,Option.bind_some]
     have hget:a.tmps.getD d undef=(a.tmps[d]?).getD undef:=by simp[Array.getD_eq_getD_getElem?]
     rw[hget]at hr
     generalize nth e d=q at *
     split at h
     ·rename_i t'
      cases h
      have:=dL hr
      cases hq:a.tmps[d]? with
      |none=>rw[hq]at this;cases this
      |some v=>rw[hq]at this;simp only[gp]at this;subst this;cases t'<;>cases want<;>rfl
     ·cases h
      obtain⟨vs,hv,hl⟩:=hr.tupL
      cases hq:a.tmps[d]? with
      |none=>cases want<;>rfl
      |some v=>rw[hq]at hv;simp only[gp]at hv;subst hv;cases want<;>rfl
     ·cases h

theorem ZGM {imm:Bool} {o:Oper} {ao:AOp} (hc:uV P imm o.op=some ao) {C:CallP} (hC:∀f args b l Q,C f args b l Q→ZA P f args b l Q)
  {e:List AV} {b l:List Row} {K:List AV→List Row→List Row→Prop} (h:YK C b l (fun x b' l'=>K (put e o.dst x) b' l') (aop e b l ao))
  {F:Nat→Prop} {L:LMap} {w:World} {a:Act} (s:Sim F L (b++l) w) (he:PC w F L e a) (Q:Exit→Act→World→Prop) {next:Act→World→Prop}
  (hn:∀e' b' l' F' L' a' w',K e' b' l'→Sim F' L' (b'++l') w'→PC w' F' L' e' a'→Step b.length F L (b++l) w F' L' (b'++l') w'→b'.length=b.length→(∃v,a'=a.put o.dst v)→next a' w'):o.wp P a w next Q:=by
 have jD:b.length≤(b++l).length:=by simp
 obtain⟨h1,h2,h3⟩:=ZFi (P:=P) hc s he
 unfold Oper.wp
 have key:∀x b' l',TP P o a w F L b l x b' l'→K (put e o.dst x) b' l'→o.upon P a next Q ((execOp a.eval o).run P w):=by
  rintro x b' l' ⟨v,w',F',L',ZAr,hx,s',st,hb⟩ hk
  have he':=(he.step s st).put o.dst hx
  rcases ZAr with ZAr|⟨ZAr,rfl⟩
  ·rw[ZAr];exact hn _ _ _ _ _ _ _ hk s' he' (st.weaken jD) hb ⟨_,rfl⟩
  ·rw[ZAr];exact hn _ _ _ _ _ _ _ hk s' he' (st.weaken jD) hb ⟨_,rfl⟩
 cases hr:aop e b l ao with
 |bad=>rw[hr]at h;exact h.elim
 |two c x y =>
   rw[hr]at h
   rcases h3 c x y hr with ⟨qL,hk⟩|hk
   ·exact key x b l hk (h.1 qL)
   ·exact key y b l hk h.2
 |val x b' l' =>
   rw[hr]at h
   exact key x b' l' (h1 x b' l' hr) h
 |call f args =>
   rw[hr]at h
   obtain⟨⟨fn,g1,g2,g3⟩,g4⟩:=hC _ _ _ _ _ h
   obtain⟨vs,k1,k2⟩:=h2 f args hr
   rw[k2 fn g1 g2 g3]
   refine Calls.mono (g4 F L w vs s k1) ?_
   rintro en w' ⟨v,x,b',l',F',L',rfl,hx,s',st,hb,hq⟩
   exact hn _ _ _ _ _ _ _ hq s' ((he.step s st).put o.dst hx) (st.weaken jD) hb ⟨_,rfl⟩

theorem qT {imm:Bool} {C:CallP} (hC:∀f args b l Q,C f args b l Q→ZA P f args b l Q) (ops:Array Oper) {nb:Nat} {F0:Nat→Prop} {L0:LMap} {h0:List Row} {w0:World} {Q:List AV→List Row→List Row→Prop} {Q':Exit→Act→World→Prop} :
  ∀(os:List Oper) (is:List Nat) (aos:List AOper),AO P imm ops os=some aos→is.map (ops[·]?)=os.map some→∀e b l,GF C aos e b l Q→b.length=nb→∀F L w a,Sim F L (b++l) w→PC w F L e a→Step nb F0 L0 h0 w0 F L (b++l) w →
   (∀e' b' l' F' L' a' w',Q e' b' l'→Sim F' L' (b'++l') w'→PC w' F' L' e' a'→Step nb F0 L0 h0 w0 F' L' (b'++l') w'→b'.length=nb→Q' .normal a' w')→wpOps P ops Q' is a w
 |[],is,aos,hc,hi,e,b,l,h,hb,F,L,w,a,s,he,st,hQ=>by
   have:is=[]:=by simpa using hi
   subst this
   simp[AO]at hc
   subst hc
   exact hQ _ _ _ _ _ _ _ h s he st hb
 |o::os,[],aos,hc,hi,e,b,l,h,hb,F,L,w,a,s,he,st,hQ=>by simp at hi
 |o::os,i::is,aos,hc,hi,e,b,l,h,hb,F,L,w,a,s,he,st,hQ=>by
   simp only[ba,List.cons.injEq]at hi
   obtain⟨hi1,V8⟩:=hi
   unfold AO at hc
   split at hc
   case h_2=>cases hc
   rename_i ao g aos' c1 c2 c3
   cases hc
   simp only[GF]at h
   simp only[wpOps,hi1]
   unfold ZF at h
   split at h
   case h_2=>exact h.elim
   rename_i t hg
   rw[ZDl he c2 hg]
   cases t
   ·simp only[bx,if_false]at h⊢
    exact qT hC ops os is aos' c3 V8 _ _ _ h hb F L w _ s (he.put o.dst (RepA.undef _ _ _)) st hQ
   ·simp only[if_true]at h⊢
    refine .inl (ZGM c1 hC (K:=fun e b l=>GF C aos' e b l Q) h s he Q' ?_)
    intro e' b' l' F' L' a' w' hk s' he' st' hb' _
    exact qT hC ops os is aos' c3 V8 _ _ _ hk (hb'.trans hb) F' L' w' a' s' he' (st.trans (hb▸st')) hQ

theorem AC:∀f args b l (Q Q':AV→List Row→List Row→Prop),ZA P f args b l Q→(∀x b' l',Q x b' l'→Q' x b' l')→ZA P f args b l Q':=by
 rintro f args b l Q Q' ⟨h1,h2⟩ hq
 refine⟨h1,fun F L w vs s hr=>Calls.mono (h2 F L w vs s hr) ?_⟩
 rintro en w' ⟨v,x,b',l',F',L',k1,k2,k3,k4,k5,k6⟩
 exact⟨v,x,b',l',F',L',k1,k2,k3,k4,k5,hq _ _ _ k6⟩

theorem aO {imm:Bool} {ops:Array Oper}:∀{os:List Oper} {aos:List AOper},AO P imm ops os=some aos→aos.length=os.length∧∀(i:Nat) (ao:AOper),aos[i]? = some ao→∃(o:Oper),os[i]? = some o∧uV P imm o.op=some ao.op∧GQ ops o.guard=some ao.guard∧ao.dst=o.dst
 |[],aos,h=>by simp[AO]at h;subst h;simp
 |o::os,aos,h=>by
   unfold AO at h
   split at h
   case h_2=>cases h
   rename_i x g xs h1 h2 h3
   cases h
   obtain⟨h4,h5⟩:=aO h3
   refine⟨by simp[h4],fun i ao hi=>?_⟩
   cases i with
   |zero=>simp at hi;subst hi;exact⟨o,rfl,h1,h2,rfl⟩
   |succ i=>simp at hi;simpa using h5 i ao hi

theorem IY {ops:Array Oper} {aos:List AOper} {i:Nat}:∀{js:List Nat} {j:Nat} {r:AOper},j∈js→aos[j]? = some r→r.op.quiet=true→anc ops j ops.size i=false→r∈ZB2 ops aos i js
 |[],j,r,h,_,_,_=>by simp at h
 |k::js,j,r,h,hr,hq,ha=>by
   simp only[ZB2]
   rcases dx.1 h with rfl|h
   ·rw[hr];simp[hq,ha]
   ·have:=IY h hr hq ha
    split
    ·split
     ·exact lw _ this
     ·exact this
    ·exact this

def ZA8 (ops:Array Oper) (fin:List Nat) (a c:DOper):Prop:=
 zT ops fin a c=true∧(a.o.op.quiet=true→anc ops a.i ops.size c.i=false→c.o.op.quiet=true∨a.o∈c.re)

theorem RU {ops:Array Oper} {aos:List AOper}:∀{is done:List Nat},(∀d∈mkD ops aos done is,aos[d.i]? = some d.o∧(d.o.op.quiet=true→d.re=[])∧(∀j∈done,∀(r:AOper),aos[j]? = some r→r.op.quiet=true→anc ops j ops.size d.i=false→d.o.op.quiet=true∨r∈d.re)) ∧
  (mkD ops aos done is).Pairwise (fun a c=>a.o.op.quiet=true→anc ops a.i ops.size c.i=false→c.o.op.quiet=true∨a.o∈c.re)
 |[],done=>by simp[mkD]
 |i::is,done=>by
   simp only[mkD]
   cases hi:aos[i]? with
   |none=>simp
   |some o =>
     simp only
     obtain⟨h1,h2⟩:=RU (ops:=ops) (aos:=aos) (is:=is) (done:=done++[i])
     refine⟨fun d hd=>?_,List.Pairwise.cons (fun c hc hq ha=>?_) h2⟩
     ·rcases dx.1 hd with rfl|hd
      ·refine⟨hi,fun hq=>by simp only at hq⊢;rw[if_pos hq],fun j hj r hr hq ha=>?_⟩
       simp only
       cases hqq:o.op.quiet
       ·rw[if_neg kS]
        exact .inr (IY hj hr hq ha)
       ·exact .inl rfl
      ·obtain⟨g1,g2,g3⟩:=h1 d hd
       exact⟨g1,g2,fun j hj=>g3 j (by simp[hj])⟩
     ·exact (h1 c hc).2.2 i kS o hi hq ha

theorem JO {ops:Array Oper} {fin:List Nat}:∀{ds:List DOper},jR ops fin ds=true→(∀d∈ds,fQ d=true)∧ds.Pairwise (fun a c=>zT ops fin a c=true)
 |[],_=>by simp
 |a::ds,h=>by
   simp only[jR,ar]at h
   obtain⟨⟨h1,h2⟩,h3⟩:=h
   obtain⟨g1,g2⟩:=JO h3
   exact ⟨fun d hd => by rcases dx.1 hd with rfl | hd
                         ·exact h1
                         ·exact g1 d hd,List.Pairwise.cons (fun c hc=>bo.1 h2 c hc) g2⟩

theorem JD {ops:Array Oper} {fin:List Nat} {a c:DOper} (h:zT ops fin a c=true):(∀n,c.o.dst=some n→(a.o.op.quiet=true∨c.o.op.isAlloc=true→c.i∉fin∨anc ops a.i ops.size c.i=false∨c.o.op.isAlloc=true→n∉a.o.looks)∧a.o.dst≠some n∧(c.o.op.isAlloc=true→∀r∈a.re,n∉r.looks∧r.dst≠some n)) ∧
  (anc ops a.i ops.size c.i=false→(a.o.op.quiet=true∨c.o.op.isAlloc=true)∧∀n,a.o.dst=some n→n∉c.o.looks)∧(a.i∈fin→anc ops a.i ops.size c.i=true):=by
 simp only[zT,ar]at h
 obtain⟨⟨hf,h1⟩,h2⟩:=h
 refine⟨fun n hn=>?_,fun ha=>?_,fun hm=>by
  rw[iy]at hf
  refine hf.resolve_left (fun h=>?_)
  rw[List.contains_iff_mem.2 hm]at h
  cases h⟩
 ·rw[hn]at h1
  simp only[ar]at h1
  refine⟨fun hqa hw=>?_,by simpa using h1.1.2,fun hal r hr=>?_⟩
  ·have h3:=h1.1.1
   rw[show (a.o.op.quiet||c.o.op.isAlloc)=true by simpa using hqa]at h3
   have h4:(fin.contains c.i&&!c.o.op.isAlloc&&anc ops a.i ops.size c.i)=false:=by
    rcases hw with hw|hw|hw
    ·simp[hw]
    ·rw[hw];simp
    ·rw[hw];simp
   rw[h4]at h3
   simpa using h3
  ·have h3:=h1.2
   rw[hal]at h3
   simp only[dq,jr]at h3
   have:=bo.1 h3 r hr
   simpa using this
 ·rw[ha]at h2
  simp only[jr,ar,iy]at h2
  refine⟨h2.1,fun n hn=>?_⟩
  have:=h2.2
  rw[hn]at this
  simpa using this

theorem IN {ops:Array Oper} {listed:Array Bool} (EP:∀j o,ops[j]? = some o→listed.getD j false=true→∀ed∈o.after,Region.binds .any ed=true→listed.getD ed.on false=true) {x:Nat} :
  ∀{n i:Nat},(∀o,ops[i]? = some o→∀ed∈o.after,Region.binds .any ed=true→listed.getD ed.on false=true)→anc ops x n i=true→listed.getD x false=true
 |0,i,_,h=>by cases h
 |n+1,i,hi,h=>by
   simp only[anc]at h
   split at h
   case h_2=>cases h
   rename_i o ho
   obtain⟨ed,hed,hb⟩:=ga.1 h
   simp only[ar,iy,beq_iff_eq]at hb
   have hl:=hi o ho ed (by simpa using hed) hb.1
   rcases hb.2 with rfl|hb
   ·exact hl
   ·exact IN EP (n:=n) (i:=ed.on) (fun o' ho'=>EP ed.on o' ho' hl) hb

theorem JQ {a:DOper} (h:fQ a=true) (hqa:a.o.op.quiet=true∨a.o.op.isAlloc=true):∀n,a.o.dst=some n→n∉a.o.looks∧∀r∈a.re,n∉r.looks∧r.dst≠some n:=by
 intro n hn
 unfold fQ at h
 rw[hn,show (a.o.op.quiet||a.o.op.isAlloc)=true by simpa using hqa]at h
 simp only[dq,jr,ar]at h
 refine⟨by simpa using h.1,fun r hr=>?_⟩
 have:=bo.1 h.2 r hr
 simpa using this

theorem jI {o:AOp} (h:o.quiet=true):o.isAlloc=false:=by cases o<;>first|rfl|cases h

theorem FS {listed:Array Bool} {i:Nat} {ps:List DOper} (h:∀x∈ps,i≠x.i):ps.filter (fun d=>!(listed.setIfInBounds i true).getD d.i false)=ps.filter (fun d=>!listed.getD d.i false):=
 List.filter_congr (fun x hx=>by rw[getD_set_ne false (h x hx)])

theorem ZGU:∀{vs:List Value} {xs:List AV},cvL vs=some xs→∀x∈xs,∃y,x=.v y
 |[],xs,h=>by cases h;simp
 |v::vs,xs,h=>by
   unfold cvL at h
   split at h
   case h_2=>cases h
   rename_i y ys h1 h2
   cases h
   intro x hx
   rcases dx.1 hx with rfl|hx
   ·exact⟨y,rfl⟩
   ·exact ZGU h2 x hx

theorem ZEn {F:Nat→Prop} {L:LMap} {h:List Row} {w:World} (s:Sim F L h w) (blk:Obj) (nb:Nat) :
  Sim F L h (w.alloc blk)∧Step nb F L h w F L h (w.alloc blk)∧¬F w.heap.size∧¬gD L h w.heap.size:=by
 have hh:∀k,k<w.heap.size→(w.alloc blk).heap[k]? = w.heap[k]?:=fun k hk=>by
  show (w.heap.push blk)[k]? = _
  rw[Array.getElem?_push_lt hk,gv hk]
 have NN:(w.alloc blk).heap.size=w.heap.size+1:=by show (w.heap.push blk).size=_;simp
 have hF:¬F w.heap.size:=fun hf=>Nat.lt_irrefl _ (s.imm _ hf).1
 have hO:∀k,gD L h k→k<w.heap.size:=by
  rintro k ⟨i,v,z,e1,q1,h1,h2,h3⟩
  obtain⟨q,g1,g2⟩:=s.row _ _ _ _ h1
  rw[h2]at g1
  cases g1
  exact g2.lt h3
 refine⟨⟨fun i v z els hi=>?_,s.born,s.apart,fun b hb=>⟨by have:=(s.imm b hb).1;omega,(s.imm b hb).2⟩,s.glob.mono (fun _ h=>h) (fun b hb=>hh b (s.imm b hb).1)⟩,
  ⟨fun _ h=>h,fun _ _ _ _ h=>h,rfl,rfl,rfl,by omega,fun b hb _=>hh b hb,fun _ _ h=>h,fun _ _ _ h=>h,fun _ _ h=>.inl h⟩,hF,fun ho=>Nat.lt_irrefl _ (hO _ ho)⟩
 obtain⟨q,g1,g2⟩:=s.row i v z els hi
 exact⟨q,g1,g2.mono (fun b hb=>hh b (g2.lt hb)) (fun _ _ hx=>hx.mono (fun _ h=>h) (fun b hb=>hh b (s.imm b hb).1) (fun _ _ _ h=>h))⟩

theorem wP {ops:Array Oper} {fin:List Nat}:∀{ps:List DOper},(∀d∈ps,d.o.op.quiet=true∧d.i∉fin)→(∀d∈ps,fQ d=true)→ps.Pairwise (ZA8 ops fin)→gT ps
 |[],_,_,_=>trivial
 |d::ps,hq,hs,hp=>by
   cases hp with
   |cons h1 h2 =>
     refine⟨fun n hn=>?_,fun c hc n hn=>⟨((JD (h1 c hc).1).1 n hn).1 (.inl (hq d kS).1) (.inl (hq c (by simp[hc])).2),((JD (h1 c hc).1).1 n hn).2.1⟩,wP (fun x hx=>hq x (by simp[hx])) (fun x hx=>hs x (by simp[hx])) h2⟩
     exact (JQ (hs d kS) (.inl (hq d kS).1) n hn).1

def wT (w0 w:World) (F:Nat→Prop) (L:LMap) (h:List Row) (a:Act) (d:DOper) (k:Nat):Prop:=
 ∃zs dd cur T,d.o=⟨some dd,.alloc zs,none⟩∧(dd<a.tmps.size→a.tmps[dd]? = some (.pointer (some ⟨k,0,none⟩)))∧w0.heap.size≤k∧w.heap[k]? = some (.cells cur T (0,0))∧zs.length≤cur.size ∧
  (∀(j:Nat) (x:AV),zs[j]? = some x→∃y v,x=.v y∧cur[j]? = some v∧RepI w F y v)∧¬F k∧¬gD L h k

theorem wT.step {w0 w w':World} {F F':Nat→Prop} {L L':LMap} {h h':List Row} {a a':Act} {d:DOper} {k nb:Nat} (r:wT w0 w F L h a d k) (s:Sim F L h w) (st:Step nb F L h w F' L' h' w')
  (ha:∀dd,d.o.dst=some dd→a'.tmps.size=a.tmps.size∧a'.tmps[dd]? = a.tmps[dd]?):wT w0 w' F' L' h' a' d k:=by
 obtain⟨zs,dd,cur,T,h1,h2,h3,h4,h5,h6,h7,h8⟩:=r
 have hk:k<w.heap.size:=(bp.1 h4).1
 obtain⟨e1,e2⟩:=ha dd (by rw[h1])
 refine⟨zs,dd,cur,T,h1,fun hd=>by rw[e2];exact h2 oM,h3,by rw[st.block k hk h8];exact h4,h5,fun j x hx=>?_,fun hf=>(st.fnew k hk hf).elim h7 h8,fun ho=>h8 (st.own k hk ho)⟩
 obtain⟨y,v,g1,g2,g3⟩:=h6 j x hx
 exact⟨y,v,g1,g2,g3.mono st.imm (st.immEq s)⟩

theorem adopt {nb:Nat} {F0 F:Nat→Prop} {L0 L:LMap} {h0 b l:List Row} {w0 w:World} (s:Sim F L (b++l) w) (st:Step nb F0 L0 h0 w0 F L (b++l) w) (hb:b.length=nb) {k:Nat} {zs:List AV} {cur:Array Value} {T:TypeId}
  (hk:w0.heap.size≤k) (PZ:w.heap[k]? = some (.cells cur T (0,0))) (jD:zs.length≤cur.size) (hz:∀(j:Nat) (x:AV),zs[j]? = some x→∃y v,x=.v y∧cur[j]? = some v∧RepI w F y v) (hF:¬F k) (hO:¬gD L (b++l) k) :
  ∃L':LMap,Sim F L' (b++(l++[.live 0 zs.length [zs]])) w∧Step nb F0 L0 h0 w0 F L' (b++(l++[.live 0 zs.length [zs]])) w∧L' (b.length+l.length) 0=some (.pl k 0 zs.length 1)∧(∀i v q,L i v=some q→L' i v=some q) ∧
   ∀k',gD L' (b++(l++[.live 0 zs.length [zs]])) k'→k'=k∨gD L (b++l) k':=by
 have ZLz:(b++l).length=b.length+l.length:=by simp
 have Q0:L (b.length+l.length) 0=none:=by
  cases hq:L (b.length+l.length) 0 with
  |none=>rfl
  |some q=>exact absurd (s.lt hq) oM
 obtain⟨L',JT,IW,DT⟩:∃L':LMap,L' (b.length+l.length) 0=some (.pl k 0 zs.length 1)∧(∀i v q,L i v=some q→L' i v=some q)∧∀i v,(i≠b.length+l.length∨v≠0)→L' i v=L i v:=by
  refine⟨fun i v=>if i=b.length+l.length∧v=0 then some (.pl k 0 zs.length 1) else L i v,by simp,?_,?_⟩
  ·intro i v q hl
   by_cases hi:i=b.length+l.length∧v=0
   ·obtain⟨rfl,rfl⟩:=hi
    rw[Q0]at hl;cases hl
   ·simp[hi,hl]
  ·intro i v hi
   have:¬(i=b.length+l.length∧v=0):=fun ⟨a,b⟩=>hi.elim (fun h=>h a) (fun h=>h b)
   simp[this]
 have JG:∀j,j≠b.length+l.length→(b++(l++[Row.live 0 zs.length [zs]]))[j]? = (b++l)[j]?:=by
  intro j hj
  rw[←ay]
  by_cases fG:j<(b++l).length
  ·rw[aw fG]
  ·rw[ce kT,ce oM]
 have pH:(b++(l++[Row.live 0 zs.length [zs]]))[b.length+l.length]? = some (.live 0 zs.length [zs]):=by
  rw[←ay,au oM];simp
 have own:∀k',gD L' (b++(l++[Row.live 0 zs.length [zs]])) k'→k'=k∨gD L (b++l) k':=by
  rintro k' ⟨i,v,z,e1,q1,h1,h2,h3⟩
  by_cases hi:i=b.length+l.length
  ·subst hi
   rw[pH]at h1;cases h1
   rw[JT]at h2;cases h2
   exact .inl h3.symm
  ·rw[JG i hi]at h1
   rw[DT i v (.inl hi)]at h2
   exact .inr ⟨i,v,z,e1,q1,h1,h2,h3⟩
 have mono:∀{x:AV} {v:Value},RepA w F L x v→RepA w F L' x v:=fun hx=>hx.mono (fun _ h=>h) (fun _ _=>rfl) IW
 have notk:∀{j v z els q1},(b++l)[j]? = some (.live v z els)→L j v=some q1→¬q1.on k:=fun h1 h2 e=>hO ⟨_,_,_,_,_,h1,h2,e⟩
 refine⟨L',⟨?_,?_,?_,fun q hq=>⟨(s.imm q hq).1,fun ho=>(own q ho).elim (fun e=>hF (e▸hq)) (fun ho=>(s.imm q hq).2 ho)⟩,s.glob⟩,
  ⟨st.imm,fun i v q hi hq=>IW i v q (st.loc i v q hi hq),st.os,st.tape,st.output,st.size,st.block,fun q hq ho=>(own q ho).elim (fun e=>by omega) (fun ho=>st.own q hq ho),fun i hi v hv=>?_,st.fnew⟩,JT,IW,own⟩
 ·intro j v z e1 hj
  by_cases PI:j=b.length+l.length
  ·subst PI
   rw[pH]at hj
   cases hj
   refine⟨_,JT,rfl,by simp,by decide,cur,T,PZ,by omega,fun k' row hk'=>?_,fun k' row jj c hk' hj'=>?_⟩
   ·cases k' with
    |zero=>simp at hk';subst hk';rfl
    |succ k'=>simp at hk'
   ·cases k' with
    |zero =>
      simp at hk';subst hk'
      obtain⟨y,v,g1,g2,g3⟩:=hz jj c hj'
      subst g1
      exact⟨rfl,v,by simpa using g2,.v _ _ g3⟩
    |succ k'=>simp at hk'
  ·rw[JG j PI]at hj
   obtain⟨q,sQ,uT⟩:=s.row j v z e1 hj
   exact⟨q,IW _ _ _ sQ,uT.mono (fun _ _=>rfl) (fun _ _=>mono)⟩
 ·intro i v q sQ
  by_cases hi:i=b.length+l.length
  ·subst hi
   refine⟨_,pH,?_⟩
   by_cases hv:v=0
   ·subst hv;exact ah _
   ·rw[DT _ v (.inr hv)]at sQ
    exact absurd (s.lt sQ) oM
  ·rw[DT i v (.inl hi)]at sQ
   obtain⟨r,h1,h2⟩:=s.born _ _ _ sQ
   exact⟨r,by rw[JG i hi];exact h1,h2⟩
 ·intro i i' v v' z z' e1 e2 bb q1 q2 h1 h2 h3 h4 h5 h6
  by_cases hi:i=b.length+l.length
  ·by_cases hi':i'=b.length+l.length
   ·rw[hi,hi']
   ·subst hi
    rw[pH]at h1;cases h1
    rw[JT]at h3;cases h3
    rw[JG i' hi']at h2
    rw[DT i' v' (.inl hi')]at h4
    have h5:k=bb:=h5
    exact absurd (h5▸h6) (notk h2 h4)
  ·by_cases hi':i'=b.length+l.length
   ·subst hi'
    rw[pH]at h2;cases h2
    rw[JT]at h4;cases h4
    rw[JG i hi]at h1
    rw[DT i v (.inl hi)]at h3
    have h6:k=bb:=h6
    exact absurd (h6▸h5) (notk h1 h3)
   ·rw[JG i hi]at h1
    rw[JG i' hi']at h2
    rw[DT i v (.inl hi)]at h3
    rw[DT i' v' (.inl hi')]at h4
    exact s.apart i i' v v' z z' e1 e2 bb q1 q2 h1 h2 h3 h4 h5 h6
 ·rw[JG i oM];exact st.base i hi v hv

structure DSt (P:Program) (imm:Bool) (ops:Array Oper) (fin:List Nat) (π:List DOper) (listed:Array Bool):Prop where
 size:listed.size=ops.size
 unl:∀j,j<ops.size→listed.getD j true=false→j∈π.map (·.i)
 al:∀d∈π,listed.getD d.i false=true→d.o.op.isAlloc=true
 lt:∀d∈π,d.i<ops.size
 cl:∀(j:Nat) (o:Oper),ops[j]? = some o→listed.getD j false=true→∀ed∈o.after,Region.binds .any ed=true→listed.getD ed.on false=true
 nd:(π.map (·.i)).Nodup
 facts:∀d∈π,fQ d=true∧(d.o.op.quiet=true→d.re=[])∧tR d.o=true∧∃o,ops[d.i]? = some o∧uV P imm o.op=some d.o.op∧GQ ops o.guard=some d.o.guard∧d.o.dst=o.dst
 pw:π.Pairwise (ZA8 ops fin)

theorem DSt.sub {imm:Bool} {ops:Array Oper} {fin:List Nat} {π π':List DOper} {listed:Array Bool} (h:DSt P imm ops fin π listed) (hs:π'.Sublist π) (hu:∀j,j<ops.size→listed.getD j true=false→j∈π'.map (·.i)):DSt P imm ops fin π' listed:=
 ⟨h.size,hu,fun d hd=>h.al d (hs.subset hd),fun d hd=>h.lt d (hs.subset hd),h.cl,h.nd.sublist (hs.map _),fun d hd=>h.facts d (hs.subset hd),h.pw.sublist hs⟩

structure DInv (C:CallP) (Q:List AV→List Row→List Row→Prop) (nb:Nat) (F0:Nat→Prop) (L0:LMap) (h0:List Row) (w0:World) (π:List DOper) (listed:Array Bool)
  (e:List AV) (b l:List Row) (F:Nat→Prop) (L:LMap) (w:World) (a:Act) (f:Nat→Nat):Prop where
 run:zH C π e b l Q
 len:b.length=nb
 sim:Sim F L (b++l) w
 env:PC w F L e a
 step:Step nb F0 L0 h0 w0 F L (b++l) w
 res:∀d∈π,listed.getD d.i false=true→wT w0 w F L (b++l) a d (f d.i)
 inj:∀d∈π,∀d'∈π,listed.getD d.i false=true→listed.getD d'.i false=true→f d.i=f d'.i→d.i=d'.i

theorem pZ {o:AOper} (h:tR o=true) (ha:o.op.isAlloc=true):∃zs dd,o=⟨some dd,.alloc zs,none⟩:=by
 obtain⟨d,op,g⟩:=o
 cases op<;>first|(cases ha;done)|skip
 rename_i zs
 simp only[tR,AOp.isAlloc,dq,jr,ar,Option.isNone_iff_eq_none]at h
 obtain⟨h1,h2⟩:=h
 cases d with
 |none=>cases h2
 |some d=>exact⟨zs,d,by rw[h1]⟩

theorem zV {o:Op} {zs:List AV} (qL:cOp P o=some (.alloc zs)):∃t,o=.alloc t∧vG P t=some zs:=by
 unfold cOp at qL
 repeat' split at qL
 all_goals first
  |(cases qL;done)
  |(obtain⟨y,h1,h2⟩:=map_some qL;cases h2;exact⟨_,rfl,h1⟩)
  |(obtain⟨_,_,h⟩:=map_some qL;cases h;done)
  |(obtain⟨_,_,qL⟩:=bind_some qL;obtain⟨_,_,qL⟩:=bind_some qL;cases qL;done)
  |(obtain⟨_,_,qL⟩:=bind_some qL;obtain⟨_,_,qL⟩:=bind_some qL;obtain⟨_,_,qL⟩:=bind_some qL;cases qL;done)

theorem i3 {imm:Bool} {o:Op} {zs:List AV} (qL:uV P imm o=some (.alloc zs)):∃t,o=.alloc t∧vG P t=some zs:=by
 unfold uV at qL
 split at qL
 ·obtain⟨y,h1,h2⟩:=map_some qL
  cases y<;>first|(cases h2;done)|skip
  cases h2
  exact zV h1
 ·exact zV qL

theorem lZ {imm:Bool} {C:CallP} (RQ:∀f args b l (Q Q':AV→List Row→List Row→Prop),C f args b l Q→(∀x b' l',Q x b' l'→Q' x b' l')→C f args b l Q')
  {ops:Array Oper} {fin:List Nat} {nb:Nat} {F0:Nat→Prop} {L0:LMap} {h0:List Row} {w0:World} {Q:List AV→List Row→List Row→Prop} {listed:Array Bool} {rest:List DOper} {a:Act} {w:World} {f:Nat→Nat} {F:Nat→Prop} :
  ∀(n:Nat) (p1:List DOper) (e:List AV) (b l:List Row) (L:LMap),p1.length=n→(∀d∈p1,d.o.op.quiet=true∨listed.getD d.i false=true)→DSt P imm ops fin (p1++rest) listed→DInv C Q nb F0 L0 h0 w0 (p1++rest) listed e b l F L w a f →
   ∃p1' e' l' L',(∀d∈p1',d.o.op.quiet=true∧d∈p1)∧p1'.Sublist p1∧p1'.filter (fun d=>!listed.getD d.i false)=p1.filter (fun d=>!listed.getD d.i false)∧DSt P imm ops fin (p1'++rest) listed∧DInv C Q nb F0 L0 h0 w0 (p1'++rest) listed e' b l' F L' w a f:=by
 intro n
 induction n with
 |zero =>
   intro p1 e b l L hn _ hd hi
   have:p1=[]:=cu hn
   subst this
   exact⟨[],e,l,L,by simp,iz _,rfl,hd,hi⟩
 |succ n ih =>
   intro p1 e b l L hn hq hd hi
   by_cases uH:∀d∈p1,d.o.op.quiet=true
   ·exact⟨p1,e,l,L,fun d hdd=>⟨uH d hdd,hdd⟩,iz _,rfl,hd,hi⟩
   ·-- the first that is not quiet
    obtain⟨q1,A,q2,hp1,hq1,hA⟩:∃q1 A q2,p1=q1++A::q2∧(∀d∈q1,d.o.op.quiet=true)∧¬A.o.op.quiet=true:=by
     clear ih hn hd hi hq
     induction p1 with
     |nil=>exact absurd kS uH
     |cons x p1 ihp =>
       by_cases hx:x.o.op.quiet=true
       ·obtain⟨q1,A,q2,h1,h2,h3⟩:=ihp (fun h=>uH (by
         intro d hd
         rcases dx.1 hd with rfl|hd
         ·exact hx
         ·exact h d hd))
        exact⟨x::q1,A,q2,by rw[h1];rfl,fun d hd=>by
         rcases dx.1 hd with rfl|hd
         ·exact hx
         ·exact h2 d hd,h3⟩
       ·exact⟨[],x,p1,rfl,by simp,hx⟩
    subst hp1
    have hAl:listed.getD A.i false=true:=(hq A kS).resolve_left hA
    have ZAb:A∈(q1++A::q2)++rest:=by simp
    obtain⟨HW,_,DN,_⟩:=hd.facts A ZAb
    obtain⟨zs,dd,hAo⟩:=pZ DN (hd.al A ZAb hAl)
    obtain⟨zs',dd',cur,T,g1,g2,g3,g4,g5,g6,g7,g8⟩:=hi.res A ZAb hAl
    rw[hAo]at g1
    cases g1
    have hpw:=hd.pw
    rw[ay,bw]at hpw
    have gX:=ja.1 hpw
    have K8:∀x∈q1,ZA8 ops fin x A:=fun x hx=>gX.2.2 x hx A kS
    have hun:∀x∈q1,anc ops x.i ops.size A.i=false:=by
     intro x hx
     cases ha:anc ops x.i ops.size A.i with
     |false=>rfl
     |true =>
       exfalso
       have hl:=IN hd.cl (fun o2 ho2 ed hed hbd=>hd.cl A.i o2 ho2 hAl ed hed hbd) ha
       have:=hd.al x (by simp[hx]) hl
       have hxq:=hq1 x hx
       rw[jI hxq]at this;cases this
    have TD:=hi.run
    rw[ay,bw]at TD
    have mI:=ZD1 RQ TD (fun x hx=>⟨hq1 x hx,(hd.facts x (by simp[hx])).2.1 (hq1 x hx)⟩) (wP (fun x hx=>⟨hq1 x hx,fun hm=>by
     have:=(JD (K8 x hx).1).2.2 hm
     rw[hun x hx]at this;cases this⟩) (fun x hx=>(hd.facts x (by simp[hx])).1) gX.1)
     (fun x hx n hn=>⟨((JD (K8 x hx).1).1 n hn).1 (.inl (hq1 x hx)) (.inr (.inl (hun x hx))),((JD (K8 x hx).1).1 n hn).2.1⟩) (fun x hx n hn=>((JD (K8 x hx).1).2.1 (hun x hx)).2 n hn)
     (.inr fun x hx=>((K8 x hx).2 (hq1 x hx) (hun x hx)).resolve_left hA)
    rw[hAo]at mI
    simp only[gd,ZF,if_true,aop,mk,YK]at mI
    obtain⟨L',r1,r2,r3,r4,r5⟩:=adopt hi.sim hi.step hi.len g3 g4 g5 g6 g7 g8
    have LQ:(q1++q2++rest).Sublist ((q1++A::q2)++rest):=ki (ki (iz _) (lx _ _)) (iz _)
    have ZJU:∀x∈q1++q2++rest,x.i≠A.i:=by
     intro x hx pR
     have hnd:=hd.nd
     simp only[ci,ba,ay,bw]at hnd
     rw[jo]at hnd
     obtain⟨n1,n2,n3⟩:=hnd
     simp only[ay,bn]at hx
     rcases hx with hx|hx
     ·exact n3 _ (de.2 ⟨x,hx,rfl⟩) _ kS pR
     ·exact (kj.1 n2).1 (by rw[←pR,bn];exact hx.elim (fun hx=>.inl (de.2 ⟨x,hx,rfl⟩)) (fun hx=>.inr (de.2 ⟨x,hx,rfl⟩)))
    have hd':DSt P imm ops fin (q1++q2++rest) listed:=hd.sub LQ (fun j hj fG=>by
     have:=hd.unl j hj fG
     simp only[ci,ba,bn,dx]at this⊢
     rcases this with (h|h|h)|h
     ·exact .inl (.inl h)
     ·exfalso
      subst h
      have:A.i<listed.size:=by rw[hd.size];exact hj
      simp[this]at hAl fG
      rw[hAl]at fG;cases fG
     ·exact .inl (.inr h)
     ·exact .inr h)
    have ZIW:PC w F L' (put e (some dd) (.ptr (b.length+l.length) 0 0 0)) a:=by
     have he:=hi.env.mono (L':=L') (fun _ h=>h) (fun _ _=>rfl) r4
     refine⟨he.1,by rw[he.2.1,MK],fun i x v hx hv=>?_⟩
     simp only[put,IJ]at hx
     by_cases hid:dd=i
     ·subst hid
      have RN:dd<a.tmps.size:=(bp.1 hv).1
      rw[bf (by rw[←he.2.1];exact RN)]at hx
      cases hx
      rw[g2 RN]at hv
      cases hv
      have:=RepA.ptr (w:=w) (F:=F) (b.length+l.length) 0 0 0 _ _ _ _ r3
      simpa using this
     ·rw[bq hid]at hx
      exact he.2.2 i x v hx hv
    have ZIX:∀d∈q1++q2++rest,listed.getD d.i false=true→wT w0 w F L' (b++(l++[.live 0 zs.length [zs]])) a d (f d.i):=by
     intro d Y5 hdl
     obtain⟨zs2,dd2,cur2,T2,h1,h2,h3,h4,h5,h6,h7,h8⟩:=hi.res d (LQ.subset Y5) hdl
     refine⟨zs2,dd2,cur2,T2,h1,h2,h3,h4,h5,h6,h7,fun ho=>(r5 _ ho).elim (fun hk=>?_) h8⟩
     exact ZJU d Y5 (hi.inj d (LQ.subset Y5) A ZAb hdl hAl hk)
    have hi':DInv C Q nb F0 L0 h0 w0 (q1++q2++rest) listed (put e (some dd) (.ptr (b.length+l.length) 0 0 0)) b (l++[.live 0 zs.length [zs]]) F L' w a f:=
     ⟨by rw[ay];exact mI,hi.len,r1,ZIW,r2,ZIX,fun d Y5 d' hdm' h1 h2 h3=>hi.inj d (LQ.subset Y5) d' (LQ.subset hdm') h1 h2 h3⟩
    have hmv:∀d∈q1++q2,d∈q1++A::q2:=fun d Y5=>by
     rw[bn]at Y5⊢
     exact Y5.elim .inl (fun h=>.inr (lw _ h))
    obtain⟨p1',e',l',L2,k1,k2,k3,k4,k5⟩:=ih (q1++q2) _ b _ L' (by simp at hn⊢;omega) (fun d Y5=>hq d (hmv d Y5)) hd' hi'
    refine⟨p1',e',l',L2,fun d Y5=>⟨(k1 d Y5).1,hmv d (k1 d Y5).2⟩,k2.trans (ki (iz _) (lx _ _)),?_,k4,k5⟩
    rw[k3]
    rw[ij,ij,jt]
    simp only[hAl,dq,bx,if_false]

theorem ZC5 {imm:Bool} {C:CallP} (hC:∀f args b l Q,C f args b l Q→ZA P f args b l Q) (RQ:∀f args b l (Q Q':AV→List Row→List Row→Prop),C f args b l Q→(∀x b' l',Q x b' l'→Q' x b' l')→C f args b l Q')
  {ops:Array Oper} {fin:List Nat} {rk:Nat→Nat} (ZDo:∀(i:Nat) (o:Oper),ops[i]? = some o→∀ed∈o.after,Region.binds .any ed=true→ed.on<ops.size∧rk ed.on<rk i) {nb:Nat} {F0:Nat→Prop} {L0:LMap} {h0:List Row} {w0:World} {Q:List AV→List Row→List Row→Prop} {Q':Exit→Act→World→Prop}
  (hQ:∀e' b' l' F' L' a' w',Q e' b' l'→Sim F' L' (b'++l') w'→PC w' F' L' e' a'→Step nb F0 L0 h0 w0 F' L' (b'++l') w'→b'.length=nb→Q' .normal a' w') :
  ∀(n:Nat) (π:List DOper) (listed:Array Bool),(π.filter (fun d=>!listed.getD d.i false)).length=n→DSt P imm ops fin π listed →
   ∀e b l F L w a f,DInv C Q nb F0 L0 h0 w0 π listed e b l F L w a f→wpAny P .any ops Q' n listed a w:=by
 intro n
 induction n with
 |zero =>
   intro π listed hn hd e b l F L w a f hi
   have ZGc:∀d∈π,listed.getD d.i false=true:=by
    intro d Y5
    have:=cu hn
    have:=List.filter_eq_nil_iff.1 this d Y5
    simpa using this
   obtain⟨p1',e',l',L',k1,k2,k3,k4,k5⟩:=lZ RQ π.length π e b l L rfl (fun d Y5=>.inr (ZGc d Y5)) (rest:=[]) (by simpa using hd) (by simpa using hi)
   have ZLC:p1'=[]:=by
    cases hp:p1' with
    |nil=>rfl
    |cons d ds =>
      exfalso
      have hd1:=k1 d (by rw[hp];simp)
      have ha:=hd.al d hd1.2 (ZGc d hd1.2)
      rw[jI hd1.1]at ha;cases ha
   subst ZLC
   refine⟨?_,hQ _ _ _ _ _ _ _ k5.run k5.sim k5.env k5.step k5.len⟩
   cases hr:Region.ready .any ops listed with
   |nil=>rfl
   |cons j js =>
     have hj:j∈Region.ready .any ops listed:=by rw[hr];simp
     obtain⟨h1,o,h2,_⟩:=mem_ready.1 hj
     have:=k4.unl j (bp.1 h2).1 h1
     simp at this
 |succ n ih =>
   intro π listed hn hd e b l F L w a f hi
   have unlD:∀d∈π,listed.getD d.i false=false→listed.getD d.i true=false:=by
    intro d Y5 hl
    have:d.i<listed.size:=by rw[hd.size];exact hd.lt d Y5
    simp[this]at hl⊢;exact hl
   refine⟨fun hr=>?_,fun j hj=>?_⟩
   ·-- there is always one that is ready: the least that is left
    exfalso
    have hex:∃m,(m<ops.size∧listed.getD m true=false)∧∀m',(m'<ops.size∧listed.getD m' true=false)→rk m≤rk m':=by
     cases hπ:π.filter (fun d=>!listed.getD d.i false) with
     |nil=>rw[hπ]at hn;simp at hn
     |cons d ds =>
       have hdf:d∈π.filter (fun d=>!listed.getD d.i false):=by rw[hπ];simp
       obtain⟨hd1,hd2⟩:=km.1 hdf
       obtain⟨r,⟨m,hm1,SW,hm3⟩,ZIC⟩:=exists_least (p:=fun r=>∃m,m<ops.size∧listed.getD m true=false∧rk m=r) ⟨rk d.i,d.i,hd.lt d hd1,unlD d hd1 (by simpa using hd2),rfl⟩
       exact⟨m,⟨hm1,SW⟩,fun m' h'=>by rw[hm3];exact ZIC _ ⟨m',h'.1,h'.2,rfl⟩⟩
    obtain⟨m,⟨hm1,SW⟩,hm3⟩:=hex
    have hmr:m∈Region.ready .any ops listed:=by
     refine mem_ready.2 ⟨SW,ops[m],gv hm1,fun ed hed hbd=>?_⟩
     obtain⟨ZJs,hon⟩:=ZDo m _ (gv hm1) ed hed hbd
     cases hl:listed.getD ed.on false with
     |true=>rfl
     |false =>
       have ZLD:ed.on<listed.size:=by rw[hd.size];exact ZJs
       have hlf:listed.getD ed.on true=false:=by simp[ZLD]at hl⊢;exact hl
       have:=hm3 ed.on ⟨ZJs,hlf⟩
       omega
    rw[hr]at hmr
    cases hmr
   ·obtain⟨hj1,o,ho,hj2⟩:=mem_ready.1 hj
    have hjs:j<ops.size:=(bp.1 ho).1
    obtain⟨d,Y5,rfl⟩:=de.1 (hd.unl j hjs hj1)
    have ZGB:d.i<listed.size:=by rw[hd.size];exact hjs
    have hdl:listed.getD d.i false=false:=by simp[ZGB]at hj1⊢;exact hj1
    obtain⟨HW,ZKz,DN,o',ho',qL,Q5,J5⟩:=hd.facts d Y5
    rw[ho]at ho'
    cases ho'
    have setSize:(listed.setIfInBounds d.i true).size=ops.size:=by simp[hd.size]
    have setCl:∀(j:Nat) (o:Oper),ops[j]? = some o→(listed.setIfInBounds d.i true).getD j false=true→∀ed∈o.after,Region.binds .any ed=true→(listed.setIfInBounds d.i true).getD ed.on false=true:=by
     intro j o2 ho2 fG ed hed hbd
     by_cases hjd:d.i=j
     ·subst hjd
      rw[ho]at ho2;cases ho2
      exact getD_set_true (hj2 ed hed hbd)
     ·rw[getD_set_ne false hjd]at fG
      exact getD_set_true (hd.cl j o2 ho2 fG ed hed hbd)
    by_cases hal:d.o.op.isAlloc=true
    ·-- a new variable,ahead of its turn
     obtain⟨zs,dd,hdo⟩:=pZ DN hal
     rw[hdo]at qL Q5 J5
     obtain⟨t,hot,hzt⟩:∃t,o.op=.alloc t∧vG P t=some zs:=by
      exact i3 qL
     obtain⟨p1,p2,hπ⟩:=ko Y5
     have ZLE:d=⟨d.i,⟨some dd,.alloc zs,none⟩,d.re⟩:=by rw[←hdo]
     have hw:Region.wanted o (yielded ops a.tmps)=true:=ZDl hi.env Q5 rfl
     unfold wpOp
     rw[ho]
     simp only[hw,if_true]
     unfold vG at hzt
     split at hzt
     case h_2=>cases hzt
     rename_i inf nV
     split at hzt
     case h_2=>cases hzt
     rename_i z YW
     have hex:(execOp a.eval o).run P w=.ok (.value (.pointer (some ⟨w.heap.size,0,none⟩))) (w.alloc (.cells z.cells t)):=by
      simp[execOp,hot,Instr.alloc,zeroValue,typeInfo,nV,YW,newVar,newRow]
     refine .inl ?_
     unfold Oper.wp
     rw[hex]
     show wpAny P .any ops Q' n (listed.setIfInBounds d.i true) (a.put o.dst (.pointer (some ⟨w.heap.size,0,none⟩))) (w.alloc (.cells z.cells t))
     have ZLF:o.dst=some dd:=J5.symm
     rw[ZLF]
     obtain⟨s1,st1,nF,nO⟩:=ZEn hi.sim (.cells z.cells t) nb
     obtain⟨c1,c2⟩:=tF (w:=w.alloc (.cells z.cells t)) (F:=F) (L:=L) hzt
     have hpw:=hd.pw
     have hnd:=hd.nd
     rw[hπ]at hpw hnd
     have gX:=ja.1 hpw
     rw[ci,ba,jo]at hnd
     obtain⟨n1,n2,n3⟩:=hnd
     have ne1:∀x∈p1,d.i≠x.i:=fun x hx pR=>n3 _ (de.2 ⟨x,hx,rfl⟩) _ kS pR.symm
     have ne2:∀x∈p2,d.i≠x.i:=fun x hx pR=>(kj.1 n2).1 (by rw[pR];exact de.2 ⟨x,hx,rfl⟩)
     have ZAc:d.o.dst=some dd:=by rw[hdo]
     have ZLG:∀x∈π,x.i≠d.i→x.o.dst≠some dd:=by
      intro x hx pR
      rw[hπ,bn]at hx
      rcases hx with hx|hx
      ·exact ((JD (gX.2.2 x hx d kS).1).1 dd ZAc).2.1
      ·rcases dx.1 hx with rfl|hx
       ·exact absurd rfl pR
       ·intro hxd
        exact ((JD ((List.pairwise_cons.1 gX.2.1).1 x hx).1).1 dd hxd).2.1 ZAc
     have hps:(a.put (some dd) (.pointer (some ⟨w.heap.size,0,none⟩))).tmps.size=a.tmps.size:=by simp[Act.put]
     have hpo:∀j,dd≠j→(a.put (some dd) (.pointer (some ⟨w.heap.size,0,none⟩))).tmps[j]? = a.tmps[j]?:=fun j hj=>by
      simp only[Act.put];rw[jh hj]
     have TD:zH C π (put e (some dd) .any) b l Q:=by
      have hr:=hi.run
      rw[hπ,ZLE]at hr⊢
      refine FJ RQ (JQ HW (.inr hal) dd ZAc).2 (fun c hc=>?_) hr
      have:=(JD (gX.2.2 c hc d kS).1).1 dd ZAc
      exact⟨this.1 (.inr hal) (.inr (.inr hal)),this.2.1,this.2.2 hal⟩
     have old:∀c∈π,c.i≠d.i→(listed.setIfInBounds d.i true).getD c.i false=true→listed.getD c.i false=true:=fun c hc iT EP=>by rw[getD_set_ne false iT.symm]at EP;exact EP
     have lt:∀c∈π,listed.getD c.i false=true→f c.i<w.heap.size:=fun c hc EP=>by
      obtain⟨_,_,cur,T,_,_,_,h4,_⟩:=hi.res c hc EP
      exact (bp.1 h4).1
     have uniq:∀c∈π,c.i=d.i→c=d:=by
      intro c hc iT
      rw[hπ,bn]at hc
      rcases hc with hc|hc
      ·exact absurd iT.symm (ne1 c hc)
      ·rcases dx.1 hc with h|hc
       ·exact h
       ·exact absurd iT.symm (ne2 c hc)
     refine ih π (listed.setIfInBounds d.i true) ?_ ⟨setSize,fun j hj fG=>?_,fun c hc EP=>?_,hd.lt,setCl,hd.nd,hd.facts,hd.pw⟩ (put e (some dd) .any) b l F L _ _ (fun i=>if i=d.i then w.heap.size else f i)
      ⟨TD,hi.len,s1,(hi.env.mono (fun _ h=>h) (st1.immEq hi.sim) (fun _ _ _ h=>h)).put (some dd) (RepA.any _),hi.step.trans st1,fun c hc EP=>?_,fun c hc c' hc' EP hcl' SQ=>?_⟩
     ·have e1:=FS (listed:=listed) ne1
      have e2:=FS (listed:=listed) ne2
      rw[hπ,ij,jt]at hn⊢
      rw[e1,e2]
      rw[hdl]at hn
      have:(listed.setIfInBounds d.i true).getD d.i false=true:=by simp[ZGB]
      rw[this]
      simp at hn⊢
      omega
     ·by_cases hjd:d.i=j
      ·subst hjd;simp[ZGB]at fG
      ·rw[getD_set_ne true hjd]at fG;exact hd.unl j hj fG
     ·by_cases iT:c.i=d.i
      ·rw[uniq c hc iT];exact hal
      ·exact hd.al c hc (old c hc iT EP)
     ·by_cases iT:c.i=d.i
      ·rw[if_pos iT,uniq c hc iT]
       refine⟨zs,dd,z.cells,t,hdo,fun hdd=>?_,hi.step.size,?_,?_,fun j x hx=>?_,nF,nO⟩
       ·simp only[Act.put]at hdd⊢
        rw[kc]
        simp at hdd⊢
        exact hdd
       ·show (w.heap.push _)[w.heap.size]? = _
        simp
       ·have:=c1.1;simp at this;omega
       ·obtain⟨y,rfl⟩:=ZGU hzt x (cd hx)
        obtain⟨u,hu,hr⟩:=c1.get hx
        cases hr with
        |v _ _ hr=>exact⟨y,u,rfl,by simpa using hu,hr⟩
      ·rw[if_neg iT]
       refine (hi.res c hc (old c hc iT EP)).step hi.sim st1 (fun j hj=>⟨hps,hpo j ?_⟩)
       rintro rfl
       exact ZLG c hc iT hj
     ·by_cases iT:c.i=d.i
      ·by_cases hci':c'.i=d.i
       ·rw[iT,hci']
       ·rw[if_pos iT,if_neg hci']at SQ
        have:=lt c' hc' (old c' hc' hci' hcl')
        omega
      ·by_cases hci':c'.i=d.i
       ·rw[if_neg iT,if_pos hci']at SQ
        have:=lt c hc (old c hc iT EP)
        omega
       ·rw[if_neg iT,if_neg hci']at SQ
        exact hi.inj c hc c' hc' (old c hc iT EP) (old c' hc' hci' hcl') SQ
    ·obtain⟨p1,p2,hπ⟩:=ko Y5
     subst hπ
     have hal:d.o.op.isAlloc=false:=by simpa using hal
     have ZGd:∀x,x∈p1→listed.getD x.i false=false→anc ops x.i ops.size d.i=false:=by
      intro x hx hxl
      cases ha:anc ops x.i ops.size d.i with
      |false=>rfl
      |true =>
        have hl:=IN hd.cl (fun o2 ho2 ed hed hbd=>by rw[ho]at ho2;cases ho2;exact hj2 ed hed hbd) ha
        rw[hxl]at hl;cases hl
     have ZLH:=ja.1 hd.pw
     have hqO:∀x∈p1,x.o.op.quiet=true∨listed.getD x.i false=true:=by
      intro x hx
      cases hxl:listed.getD x.i false with
      |true=>exact .inr rfl
      |false =>
        refine .inl ((((JD (ZLH.2.2 x hx d kS).1).2.1 (ZGd x hx hxl)).1).resolve_right ?_)
        rw[hal];simp
     obtain⟨q1,e',l',L',k1,k2,k3,hd',hi'⟩:=lZ RQ p1.length p1 e b l L rfl hqO (rest:=d::p2) hd hi
     have gX:=ja.1 hd'.pw
     have hq:∀x∈q1,x.o.op.quiet=true:=fun x hx=>(k1 x hx).1
     have j6:∀x∈q1,listed.getD x.i false=false:=by
      intro x hx
      cases hxl:listed.getD x.i false with
      |false=>rfl
      |true =>
        have:=hd'.al x (by simp[hx]) hxl
        rw[jI (hq x hx)]at this;cases this
     have ZGC:∀x∈q1,anc ops x.i ops.size d.i=false:=fun x hx=>ZGd x (k1 x hx).2 (j6 x hx)
     have K8:∀x∈q1,ZA8 ops fin x d:=fun x hx=>gX.2.2 x hx d kS
     have mI:=ZD1 RQ hi'.run (fun x hx=>⟨hq x hx,(hd'.facts x (by simp[hx])).2.1 (hq x hx)⟩) (wP (fun x hx=>⟨hq x hx,fun hm=>by
      have:=(JD (K8 x hx).1).2.2 hm
      rw[ZGC x hx]at this;cases this⟩) (fun x hx=>(hd'.facts x (by simp[hx])).1) gX.1)
      (fun x hx n hn=>⟨((JD (K8 x hx).1).1 n hn).1 (.inl (hq x hx)) (.inr (.inl (ZGC x hx))),((JD (K8 x hx).1).1 n hn).2.1⟩) (fun x hx n hn=>((JD (K8 x hx).1).2.1 (ZGC x hx)).2 n hn)
      (by
       cases hqd:d.o.op.quiet with
       |true=>exact .inl rfl
       |false=>exact .inr fun x hx=>((K8 x hx).2 (hq x hx) (ZGC x hx)).resolve_left (by rw[hqd];simp))
     have LQ:(q1++p2).Sublist (q1++d::p2):=ki (iz _) (lx _ _)
     have hnd:=hd'.nd
     rw[ci,ba,jo]at hnd
     obtain⟨n1,n2,n3⟩:=hnd
     have ne1:∀x∈q1,d.i≠x.i:=fun x hx pR=>n3 _ (de.2 ⟨x,hx,rfl⟩) _ kS pR.symm
     have ne2:∀x∈p2,d.i≠x.i:=fun x hx pR=>(kj.1 n2).1 (by rw[pR];exact de.2 ⟨x,hx,rfl⟩)
     have ne:∀x∈q1++p2,d.i≠x.i:=fun x hx=>(bn.1 hx).elim (ne1 x) (ne2 x)
     have old:∀c∈q1++p2,(listed.setIfInBounds d.i true).getD c.i false=true→listed.getD c.i false=true:=fun c hc EP=>by rw[getD_set_ne false (ne c hc)]at EP;exact EP
     have next:∀e2 b2 l2 F2 L2 a2 w2,zH C (q1++p2) e2 b2 l2 Q→Sim F2 L2 (b2++l2) w2→PC w2 F2 L2 e2 a2→Step nb F L' (b++l') w F2 L2 (b2++l2) w2→b2.length=nb→(∃v,a2=a.put d.o.dst v)→wpAny P .any ops Q' n (listed.setIfInBounds d.i true) a2 w2:=by
      rintro e2 b2 l2 F2 L2 a2 w2 hk s2 QI st2 RO ⟨v,rfl⟩
      refine ih (q1++p2) (listed.setIfInBounds d.i true) ?_ ⟨setSize,fun j hj fG=>?_,fun c hc EP=>hd'.al c (LQ.subset hc) (old c hc EP),fun c hc=>hd'.lt c (LQ.subset hc),setCl,hd'.nd.sublist (LQ.map _),fun c hc=>hd'.facts c (LQ.subset hc),hd'.pw.sublist LQ⟩ e2 b2 l2 F2 L2 w2 _ f
       ⟨hk,RO,s2,QI,hi'.step.trans st2,fun c hc EP=>?_,fun c hc c' hc' EP hcl' SQ=>hi'.inj c (LQ.subset hc) c' (LQ.subset hc') (old c hc EP) (old c' hc' hcl') SQ⟩
      ·rw[ij,jt,hdl]at hn
       rw[FS ne,ij,k3]
       simp at hn⊢
       omega
      ·by_cases hjd:d.i=j
       ·subst hjd;simp[ZGB]at fG
       ·rw[getD_set_ne true hjd]at fG
        have:=hd'.unl j hj fG
        simp only[ci,ba,bn,dx]at this⊢
        rcases this with h1|h1|h1
        ·exact .inl h1
        ·exact absurd h1.symm hjd
        ·exact .inr h1
      ·refine (hi'.res c (LQ.subset hc) (old c hc EP)).step hi'.sim st2 (fun j hj=>⟨by cases hdd:d.o.dst<;>simp[Act.put],?_⟩)
       have hcp:c∈p2:=by
        refine (bn.1 hc).resolve_left (fun h=>?_)
        have:=j6 c h
        rw[old c hc EP]at this;cases this
       have hdj:d.o.dst≠some j:=((JD ((List.pairwise_cons.1 gX.2.1).1 c hcp).1).1 j hj).2.1
       cases hdd:d.o.dst with
       |none=>rfl
       |some m =>
         have:m≠j:=fun e=>hdj (by rw[hdd,e])
         simp only[Act.put]
         rw[jh this]
     unfold wpOp
     rw[ho]
     simp only
     unfold ZF at mI
     split at mI
     case h_2=>exact mI.elim
     rename_i t hg
     rw[ZDl hi'.env Q5 hg]
     cases t
     ·simp only[bx,if_false]at mI⊢
      rw[←J5]
      exact next _ _ _ F L' _ w mI hi'.sim (hi'.env.put d.o.dst (RepA.undef _ _ _)) (Step.refl _ _ _ _ _) hi'.len ⟨_,rfl⟩
     ·simp only[if_true]at mI⊢
      rw[J5]at mI
      refine .inl (ZGM qL hC (K:=fun e b l=>zH C (q1++p2) e b l Q) mI hi'.sim hi'.env Q' ?_)
      intro e2 b2 l2 F2 L2 a2 w2 hk s2 QI st2 RO ha2
      exact next e2 b2 l2 F2 L2 a2 w2 hk s2 QI (hi'.len▸st2) (RO.trans hi'.len) (by rw[J5];exact ha2)

theorem J3 {ops:Array Oper} {is:List Nat} (h:nW ops is=true) (jD:is.length=ops.size) (bB:∀j∈is,j<ops.size):∀(i:Nat) (o:Oper),ops[i]? = some o→∀ed∈o.after,Region.binds .any ed=true→ed.on<ops.size∧SM is ed.on<SM is i:=by
 intro i o ho ed hed hbd
 have hi:i<ops.size:=(bp.1 ho).1
 unfold nW at h
 have h1:=bo.1 h i (by simpa using hi)
 rw[ho]at h1
 have h2:=bo.1 h1 ed (by simpa using hed)
 rw[hbd]at h2
 have h3:SM is ed.on<SM is i:=by simpa using h2
 refine⟨?_,h3⟩
 have h4:SM is i≤is.length:=List.findIdx_le_length
 have h5:is.findIdx (· == ed.on)<is.length:=by unfold SM at h3 h4;omega
 have h6:=List.findIdx_getElem (w:=h5)
 have h7:is[is.findIdx (· == ed.on)]=ed.on:=by simpa using h6
 rw[←h7]
 exact bB _ (ap h5)
inductive Path (ops:Array Oper):Nat→Array Bool→List Nat→Prop
 |out {listed:Array Bool}:Path ops 0 listed []
 |stop {n:Nat} {listed:Array Bool}:Region.ready .any ops listed=[]→Path ops n listed []
 |cons {n j:Nat} {listed:Array Bool} {is:List Nat}:j∈Region.ready .any ops listed→Path ops n (listed.setIfInBounds j true) is→Path ops (n+1) listed (j::is)
theorem ZCg {ops:Array Oper} {Q:Exit→Act→World→Prop} {n:Nat} {listed:Array Bool} {is:List Nat} (p:Path ops n listed is):∀{a:Act} {w:World},wpAny P .any ops Q n listed a w→wpOps P ops Q is a w:=by
 induction p with
 |out=>intro a w h;exact h.2
 |@stop n listed hr =>
   intro a w h
   cases n with
   |zero=>exact h.2
   |succ n=>exact h.1 hr
 |cons hj _ ih =>
   intro a w h
   rw[wpOps_cons]
   exact wpOp_mono (fun a w h=>ih h) (h.2 _ hj)
theorem gR {ops:Array Oper}:∀(n t:Nat) (listed:Array Bool),Path ops n listed (Region.linearise.go .any ops n t listed [])
 |0,t,listed=>by simpa [Region.linearise.go] using Path.out
 |n+1,t,listed=>by
   have hr:Region.ready .any ops listed=(List.range ops.size).filter fun i=>!listed.getD i true&&((ops[i]?).map (·.after.all fun e=>!Region.binds .any e||listed.getD e.on false)).getD false:=rfl
   unfold Region.linearise.go
   rw[←hr]
   simp only
   split
   ·rename_i i hi
    rw[linearise_go_acc]
    exact Path.cons (cd hi) (gR n _ _)
   ·rename_i hi
    refine Path.stop ?_
    cases h:Region.ready .any ops listed with
    |nil=>rfl
    |cons x xs =>
      rw[h]at hi
      rw[List.getElem?_eq_none_iff]at hi
      have:=jq t (show 0<(x::xs).length by simp)
      omega
theorem zN {ops:Array Oper} {k i:Nat}:(zD ops k i).size=ops.size:=by
 unfold zD
 split
 ·rw[ly]
 ·rfl
theorem xJ {ops:Array Oper} {k i j:Nat} (h:j≠k):(zD ops k i)[j]? = ops[j]?:=by
 unfold zD
 split
 ·rw[jh (fun e=>h e.symm)]
 ·rfl
theorem uJ {ops:Array Oper} {k i:Nat} {o:Oper} (h:ops[k]? = some o):(zD ops k i)[k]? = some {o with after:=o.after.push ⟨i,.data⟩}:=by
 unfold zD
 rw[h]
 exact mn (bp.1 h).1
theorem MR {ops:Array Oper} {k i j:Nat} {listed:Array Bool} (h:j∈Region.ready .any (zD ops k i) listed):j∈Region.ready .any ops listed:=by
 obtain⟨h1,o,h2,h3⟩:=mem_ready.1 h
 by_cases e:j=k
 ·subst e
  cases ho:ops[j]? with
  |none=>unfold zD at h2;rw[ho]at h2;simp only at h2;rw[ho]at h2;cases h2
  |some o' =>
    rw[uJ ho]at h2
    cases h2
    exact mem_ready.2 ⟨h1,o',ho,fun ed hed hb=>h3 ed (Array.mem_push_of_mem _ hed) hb⟩
 ·rw[xJ e]at h2
  exact mem_ready.2 ⟨h1,o,h2,h3⟩
theorem wM {ops:Array Oper} {k i j:Nat} {listed:Array Bool} (h:j∈Region.ready .any ops listed) (hk:j≠k∨listed.getD i false=true):j∈Region.ready .any (zD ops k i) listed:=by
 obtain⟨h1,o,h2,h3⟩:=mem_ready.1 h
 by_cases e:j=k
 ·subst e
  refine mem_ready.2 ⟨h1,_,uJ h2,fun ed hed hb=>?_⟩
  rcases Array.mem_push.1 hed with hed|rfl
  ·exact h3 ed hed hb
  ·exact hk.resolve_left (fun h=>h rfl)
 ·exact mem_ready.2 ⟨h1,o,by rw[xJ e];exact h2,h3⟩
theorem P9 {listed:Array Bool} {i j:Nat} (h:listed.getD i false=true):(listed.setIfInBounds j true).getD i false=true:=getD_set_true h
theorem bU {ops:Array Oper} {k i n:Nat} {listed:Array Bool} {is:List Nat} (p:Path ops n listed is) (hi:listed.getD i false=true):Path (zD ops k i) n listed is:=by
 induction p with
 |out=>exact .out
 |stop hr =>
   refine .stop ?_
   cases h:Region.ready .any (zD ops k i) _ with
   |nil=>rfl
   |cons x xs =>
     have:=MR (h▸List.mem_cons_self (a:=x) (l:=xs))
     rw[hr]at this;cases this
 |cons hj _ ih=>exact .cons (wM hj (.inr hi)) (ih (P9 hi))
theorem path_split {ops:Array Oper} {k i n:Nat} (hik:i≠k) {listed:Array Bool} {is:List Nat} (p:Path ops n listed is) (hs:i<listed.size∧k<listed.size):Path (zD ops k i) n listed is∨Path (zD ops i k) n listed is:=by
 induction p with
 |out=>exact .inl .out
 |stop hr =>
   refine .inl (.stop ?_)
   cases h:Region.ready .any (zD ops k i) _ with
   |nil=>rfl
   |cons x xs =>
     have:=MR (h▸List.mem_cons_self (a:=x) (l:=xs))
     rw[hr]at this;cases this
 |@cons n j listed is hj p ih =>
   by_cases h1:j=i
   ·subst h1
    exact .inl (.cons (wM hj (.inl hik)) (bU p (by simp[hs.1])))
   ·by_cases h2:j=k
    ·subst h2
     exact .inr (.cons (wM hj (.inl h1)) (bU p (by simp[hs.2])))
    ·rcases ih (by rw[ly];exact hs) with h|h
     ·exact .inl (.cons (wM hj (.inl h2)) h)
     ·exact .inr (.cons (wM hj (.inl h1)) h)
theorem IL {ops:Array Oper} {Q:Exit→Act→World→Prop} {k i:Nat}:∀{is:List Nat} {a:Act} {w:World},wpOps P (zD ops k i) Q is a w→wpOps P ops Q is a w
 |[],a,w,h=>h
 |j::is,a,w,h=>by
   rw[wpOps_cons]at h⊢
   have hy:yielded (zD ops k i) a.tmps=yielded ops a.tmps:=by
    funext g
    unfold yielded
    by_cases e:g=k
    ·subst e
     cases ho:ops[g]? with
     |none=>unfold zD;rw[ho];simp only;rw[ho]
     |some o=>rw[uJ ho];rfl
    ·rw[xJ e]
   have hm:=wpOp_mono (K':=wpOps P ops Q is) (fun a w h=>IL h) h
   unfold wpOp at hm⊢
   rw[hy]at hm
   by_cases e:j=k
   ·subst e
    cases ho:ops[j]? with
    |none =>
      have:(zD ops j i)[j]? = none:=by unfold zD;rw[ho];exact ho
      rw[this]at hm;exact hm
    |some o=>rw[uJ ho]at hm;exact hm
   ·rw[xJ e]at hm;exact hm
def ZK (P:Program) (ops:Array Oper) (Q:Exit→Act→World→Prop) (a:Act) (w:World):Prop:=∀is,Path ops ops.size (Array.replicate ops.size false) is→wpOps P ops Q is a w
theorem bX {ops:Array Oper} {Q:Exit→Act→World→Prop} {a:Act} {w:World} {i k:Nat} (hik:i≠k) (hi:i<ops.size) (hk:k<ops.size) (h1:ZK P (zD ops k i) Q a w) (h2:ZK P (zD ops i k) Q a w):ZK P ops Q a w:=by
 intro is p
 rcases path_split hik p (by simp[hi,hk]) with p|p
 ·exact IL (h1 is (by rw[zN];exact p))
 ·exact IL (h2 is (by rw[zN];exact p))
theorem GV {id:Nat} {ops:Array Oper} {Q:Exit→Act→World→Prop} {a:Act} {w:World} (hm:P.follows .mixedOrders=true) (h:ZK P ops Q a {w with drawn:=w.drawn+1}):(Code.region id ops true).wp P Q a w:=
 wp_region_draw fun t=>by
  simp only[Region.schedule,hm,kp,if_true]
  exact h _ (gR _ _ _)
theorem jS {imm:Bool} {ops:Array Oper} {ds:List DOper} (RN:yO P imm ops=some ds):P.follows .mixedOrders=true:=by
 unfold yO at RN
 split at RN
 case h_2=>cases RN
 simp only at RN
 split at RN
 case isFalse=>cases RN
 rename_i hb
 exact hb.1
theorem qS {imm:Bool} {C:CallP} (hC:∀f args b l Q,C f args b l Q→ZA P f args b l Q) (RQ:∀f args b l (Q Q':AV→List Row→List Row→Prop),C f args b l Q→(∀x b' l',Q x b' l'→Q' x b' l')→C f args b l Q')
  {ops:Array Oper} {ds:List DOper} (RN:yO P imm ops=some ds) (e:List AV) (b l:List Row) {Q:AExit→List AV→List Row→List Row→Prop}
  (h:run C KA (.draw ds) e b l Q) {F:Nat→Prop} {L:LMap} {w:World} {a:Act} (s:Sim F L (b++l) w) (he:PC w F L e a) :
  ZK P ops (Aft b.length F L (b++l) w Q) a {w with drawn:=w.drawn+1}:=by
 unfold yO at RN
 split at RN
 case h_2=>cases RN
 rename_i aos pS
 simp only at RN
 split at RN
 case isFalse=>cases RN
 rename_i hb
 obtain⟨ZNr,ZDo,ZJV,ZID,jD,hnd,uH⟩:=hb
 cases RN
 obtain⟨m1,m2⟩:=RU (ops:=ops) (aos:=aos) (is:=eQ ops (aos.map (·.op.quiet)) (aos.map (·.op.isAlloc)) ops.size (List.range ops.size) []) (done:=[])
 generalize ZNs:mkD ops aos [] (eQ ops (aos.map (·.op.quiet)) (aos.map (·.op.isAlloc)) ops.size (List.range ops.size) [])=ds at *
 obtain⟨g1,g2⟩:=JO ZID
 obtain⟨k1,k2⟩:=aO pS
 have QP:∀j,j<ops.size→j∈ds.map (·.i):=fun j hj=>by
  have:=bo.1 uH j (by simpa using hj)
  simpa using this
 have PM:∀d∈ds,d.i<ops.size∧∃o,ops[d.i]? = some o∧uV P imm o.op=some d.o.op∧GQ ops o.guard=some d.o.guard∧d.o.dst=o.dst:=by
  intro d hd
  obtain⟨o,ho,h1,h2,h3⟩:=k2 d.i d.o (m1 d hd).1
  have ho':ops[d.i]? = some o:=by simpa using ho
  exact⟨(bp.1 ho').1,o,ho',h1,h2,h3⟩
 have hs':Sim F L (b++l) {w with drawn:=w.drawn+1}:=s.same rfl
 have he':PC {w with drawn:=w.drawn+1} F L e a:=he.mono (fun _ h=>h) (fun _ _=>rfl) (fun _ _ _ h=>h)
 have hnl:∀i:Nat,(Array.replicate ops.size false).getD i false=false:=fun i=>by
  by_cases hi:i<ops.size<;>simp[hi]
 refine fun is p=>ZCg p (ZC5 hC RQ (J3 ZDo (by rw[jD]) (fun j hj=>by
  obtain⟨d,hd,rfl⟩:=de.1 hj
  exact (PM d hd).1)) (nb:=b.length) (F0:=F) (L0:=L) (h0:=b++l) (w0:=w) (Q:=Q .normal) (Q':=Aft b.length F L (b++l) w Q) ?_ ops.size ds (Array.replicate ops.size false) ?_
  ⟨by simp,fun j hj _=>QP j hj,fun d _ hl=>(by rw[hnl]at hl;cases hl),fun d hd=>(PM d hd).1,fun j o _ hl=>(by rw[hnl]at hl;cases hl),hnd,fun d hd=>⟨g1 d hd,(m1 d hd).2.1,bo.1 ZJV _ (cd (m1 d hd).1),(PM d hd).2⟩,List.Pairwise.and g2 m2 |>.imp (fun h=>⟨h.1,h.2⟩)⟩
  e b l F L _ a (fun _=>0) ⟨h,rfl,hs',he',Step.same rfl rfl rfl rfl,fun d _ hl=>(by rw[hnl]at hl;cases hl),fun d _ _ _ hl=>(by rw[hnl]at hl;cases hl)⟩)
 ·intro e2 b2 l2 F2 L2 a2 w2 hq s2 QI st2 RO
  exact⟨.normal,e2,b2,l2,F2,L2,trivial,s2,QI,st2,RO,hq⟩
 ·rw[List.filter_eq_self.2 (fun d _=>by rw[hnl];rfl)]
  simpa using jD

theorem AL {imm:Bool} {C:CallP} (hC:∀f args b l Q,C f args b l Q→ZA P f args b l Q) (RQ:∀f args b l (Q Q':AV→List Row→List Row→Prop),C f args b l Q→(∀x b' l',Q x b' l'→Q' x b' l')→C f args b l Q') :
  ∀(n:Nat) (ops:Array Oper) (c:ACode),PG P imm n ops=some c→∀(e:List AV) (b l:List Row) (Q:AExit→List AV→List Row→List Row→Prop),run C KA c e b l Q→∀(F:Nat→Prop) (L:LMap) (w:World) (a:Act),Sim F L (b++l) w→PC w F L e a →
   P.follows .mixedOrders=true∧ZK P ops (Aft b.length F L (b++l) w Q) a {w with drawn:=w.drawn+1}:=by
 intro n
 induction n with
 |zero =>
   intro ops c hc e b l Q h F L w a s he
   obtain⟨ds,RN,rfl⟩:=map_some hc
   exact⟨jS RN,qS hC RQ RN e b l h s he⟩
 |succ n ih =>
   intro ops c hc e b l Q h F L w a s he
   unfold PG at hc
   split at hc
   ·rename_i ds RN
    cases hc
    exact⟨jS RN,qS hC RQ RN e b l h s he⟩
   ·split at hc
    case h_2=>cases hc
    split at hc
    case h_2=>cases hc
    split at hc
    case isFalse=>cases hc
    rename_i hik
    split at hc
    case h_2=>cases hc
    rename_i x y hx hy
    cases hc
    obtain⟨hm,h1⟩:=ih _ x hx e b l Q h.1 F L w a s he
    exact⟨hm,bX hik.1 hik.2.1 hik.2.2 h1 (ih _ y hy e b l Q h.2 F L w a s he).2⟩

theorem uD {C:CallP} {W:WeakP} {e:List AV} {b l:List Row} {Q:AExit→List AV→List Row→List Row→Prop} (h:run C W PW e b l Q):False:=by
 simp[PW,run,GF,gd,ZF,aop,ev,YK]at h

theorem L8 {C:CallP} (hC:∀f args b l Q,C f args b l Q→ZA P f args b l Q) (RQ:∀f args b l (Q Q':AV→List Row→List Row→Prop),C f args b l Q→(∀x b' l',Q x b' l'→Q' x b' l')→C f args b l Q'):∀(code:Code) (ac:ACode),DG P code=some ac→∀e b l Q,run C KA ac e b l Q →
  ∀F L w a,Sim F L (b++l) w→PC w F L e a→code.wp P (Aft b.length F L (b++l) w Q) a w:=by
 intro code
 induction code with
 |skip =>
   intro ac hc e b l Q h F L w a s he
   cases hc
   exact wp_skip ⟨.normal,e,b,l,F,L,trivial,s,he,Step.refl _ _ _ _ _,rfl,h⟩
 |region id ops draw =>
   intro ac hc e b l Q h F L w a s he
   cases hc
   cases hc:ZAl P ops draw with
   |none=>rw[hc]at h;exact (uD h).elim
   |some ac =>
   rw[hc]at h
   replace h:run C KA ac e b l Q:=h
   simp only[ZAl]at hc
   cases draw
   case true =>
    simp only[if_true]at hc
    obtain⟨imm,hc⟩:∃imm,PG P imm 6 ops=some ac:=by
     cases hf:PG P false 6 ops with
     |some c=>rw[hf]at hc;cases hc;exact⟨false,hf⟩
     |none=>rw[hf]at hc;exact⟨true,hc⟩
    obtain⟨hm,hp⟩:=AL hC RQ 6 ops ac hc e b l Q h F L w a s he
    exact GV hm hp
   simp only[bx,if_false]at hc
   obtain⟨aos,hao,rfl⟩:=map_some hc
   refine wp_region (qT hC ops ops.toList (List.range ops.size) aos hao ?_ e b l h rfl F L w a s he (Step.refl _ _ _ _ _) ?_)
   ·apply ek
    intro i
    simp only[ai]
    by_cases hi:i<ops.size
    ·simp[hi]
    ·simp[hi]
   ·intro e' b' l' F' L' a' w' hq s' he' st hb
    exact⟨.normal,e',b',l',F',L',trivial,s',he',st,hb,hq⟩
 |seq x y ihx ihy =>
   intro ac hc e b l Q h F L w a s he
   simp only[DG]at hc
   split at hc
   case h_2=>cases hc
   rename_i x' y' hx hy
   cases hc
   refine wp_seq (wp_mono (ihx x' hx e b l _ h F L w a s he) ?_)
   rintro ex a1 w1 ⟨ax,e1,b1,l1,F1,L1,hex,s1,iH,st1,uI,hq⟩
   cases ex<;>cases ax<;>first|exact hex.elim|skip
   ·simp only[Exit.then]
    refine wp_mono (ihy y' hy e1 b1 l1 Q hq F1 L1 w1 a1 s1 iH) ?_
    rintro ex2 a2 w2 ⟨ax2,e2,b2,l2,F2,L2,ZER,s2,QI,st2,RO,MN⟩
    exact⟨ax2,e2,b2,l2,F2,L2,ZER,s2,QI,st1.trans (uI▸st2),RO.trans uI,MN⟩
   ·exact⟨_,e1,b1,l1,F1,L1,hex,s1,iH,st1,uI,hq⟩
   ·exact⟨_,e1,b1,l1,F1,L1,hex,s1,iH,st1,uI,hq⟩
 |cond c x y ihx ihy =>
   intro ac hc e b l Q h F L w a s he
   simp only[DG]at hc
   split at hc
   case h_2=>cases hc
   rename_i c' x' y' SQ hx hy
   cases hc
   simp only[run]at h
   have hr:=jB he SQ
   generalize ev e c'=q at *
   split at h
   case h_2=>exact h.elim
   rename_i t
   refine wp_cond (dL hr) ?_
   cases t
   ·simp only[bx,if_false]at h⊢
    exact ihy y' hy e b l Q h F L w a s he
   ·simp only[if_true]at h⊢
    exact ihx x' hx e b l Q h F L w a s he
 |block id c ih =>
   intro ac hc e b l Q h F L w a s he
   simp only[DG]at hc
   obtain⟨c',SQ,rfl⟩:=map_some hc
   refine wp_block (wp_mono (ih c' SQ e b l _ h F L w a s he) ?_)
   rintro ex a1 w1 ⟨ax,e1,b1,l1,F1,L1,hex,s1,iH,st1,uI,hq⟩
   cases ex<;>cases ax<;>first|exact hex.elim|skip
   ·exact⟨.normal,e1,b1,l1,F1,L1,trivial,s1,iH,st1,uI,hq⟩
   ·rename_i i j
    have hij:i=j:=hex
    subst hij
    simp only[Exit.inBlock]
    simp only[yX]at hq
    split
    ·rename_i hi;rw[if_pos hi]at hq;exact⟨.normal,e1,b1,l1,F1,L1,trivial,s1,iH,st1,uI,hq⟩
    ·rename_i hi;rw[if_neg hi]at hq;exact⟨.exit i,e1,b1,l1,F1,L1,rfl,s1,iH,st1,uI,hq⟩
   ·exact⟨.ret,e1,b1,l1,F1,L1,trivial,s1,iH,st1,uI,hq⟩
 |loop c ih =>
   intro ac hc e b l Q h F L w a s he
   simp only[DG]at hc
   obtain⟨c',SQ,rfl⟩:=map_some hc
   obtain⟨I,⟨e0,b0,l0,m0,JW,hI0⟩,tT⟩:=h
   obtain⟨F0,L0,s0,he0,st0,hb0⟩:=JW F L w a s he
   refine wp_loop_ghost (fun n a1 w1=>∃e1 b1 l1 F1 L1,Sim F1 L1 (b1++l1) w1∧PC w1 F1 L1 e1 a1∧Step b.length F L (b++l) w F1 L1 (b1++l1) w1∧b1.length=b.length∧I e1 b1 l1 n) m0 ⟨e0,b0,l0,F0,L0,s0,he0,st0,hb0,hI0⟩ ?_
   rintro n a1 w1 ⟨e1,b1,l1,F1,L1,s1,iH,st1,uI,hI1⟩
   refine wp_mono (ih c' SQ e1 b1 l1 _ (tT e1 b1 l1 n hI1) F1 L1 w1 a1 s1 iH) ?_
   rintro ex a2 w2 ⟨ax,e2,b2,l2,F2,L2,hex,s2,QI,st2,RO,hq⟩
   have st12:=st1.trans (uI▸st2)
   cases ex<;>cases ax<;>first|exact hex.elim|skip
   ·obtain⟨e3,b3,l3,m3,hw3,hI3,bB⟩:=hq
    obtain⟨F3,L3,s3,z8,st3,hb3⟩:=hw3 F2 L2 w2 a2 s2 QI
    have hbb:b2.length=b.length:=RO.trans uI
    exact⟨m3,bB,e3,b3,l3,F3,L3,s3,z8,st12.trans (hbb▸st3),hb3.trans hbb,hI3⟩
   ·exact⟨_,e2,b2,l2,F2,L2,hex,s2,QI,st12,RO.trans uI,hq⟩
   ·exact⟨_,e2,b2,l2,F2,L2,hex,s2,QI,st12,RO.trans uI,hq⟩
 |exit i =>
   intro ac hc e b l Q h F L w a s he
   cases hc
   exact wp_exit ⟨.exit i,e,b,l,F,L,rfl,s,he,Step.refl _ _ _ _ _,rfl,h⟩
 |ret =>
   intro ac hc e b l Q h F L w a s he
   cases hc
   exact wp_ret ⟨.ret,e,b,l,F,L,trivial,s,he,Step.refl _ _ _ _ _,rfl,h⟩
 |rangeFunc f ps az c ih1 ih2=>intro ac hc e b l Q h;cases hc;exact (uD h).elim
 |scope c ih=>intro ac hc e b l Q h;cases hc;exact (uD h).elim
 |label i=>intro ac hc e b l Q h;cases hc;exact (uD h).elim
 |goto i=>intro ac hc e b l Q h;cases hc;exact (uD h).elim
 |refuse y=>intro ac hc e b l Q h;cases hc;exact (uD h).elim

theorem aR {C:CallP} (RQ:∀f args b l (Q Q':AV→List Row→List Row→Prop),C f args b l Q→(∀x b' l',Q x b' l'→Q' x b' l')→C f args b l Q') {b l:List Row} {K K':AV→List Row→List Row→Prop} {r:OpR} (h:YK C b l K r) (hk:∀x b l,K x b l→K' x b l):YK C b l K' r:=by
 cases r with
 |val x b' l'=>exact hk _ _ _ h
 |two c x y=>exact⟨fun hc=>hk _ _ _ (h.1 hc),hk _ _ _ h.2⟩
 |call f az=>exact RQ _ _ _ _ _ _ h hk
 |bad=>exact h
theorem US {t:Option Bool} {A B A' B':Prop} (h:ZF t A B) (h1:A→A') (h2:B→B'):ZF t A' B':=by
 unfold ZF at *
 cases t with
 |none=>exact h
 |some t=>cases t<;>simp at h⊢ <;> first|exact h1 h|exact h2 h
theorem PL {C:CallP} (RQ:∀f args b l (Q Q':AV→List Row→List Row→Prop),C f args b l Q→(∀x b' l',Q x b' l'→Q' x b' l')→C f args b l Q') {K K':List AV→List Row→List Row→Prop} (hk:∀e b l,K e b l→K' e b l) :
  ∀{os:List AOper} {e:List AV} {b l:List Row},GF C os e b l K→GF C os e b l K'
 |[],e,b,l,h=>hk _ _ _ h
 |o::os,e,b,l,h=>US h (fun h=>aR RQ h (fun x b l h=>PL RQ hk h)) (fun h=>PL RQ hk h)
theorem jP {C:CallP} (RQ:∀f args b l (Q Q':AV→List Row→List Row→Prop),C f args b l Q→(∀x b' l',Q x b' l'→Q' x b' l')→C f args b l Q') {K K':List AV→List Row→List Row→Prop} (hk:∀e b l,K e b l→K' e b l) :
  ∀{ds:List DOper} {e:List AV} {b l:List Row},zH C ds e b l K→zH C ds e b l K'
 |[],e,b,l,h=>hk _ _ _ h
 |d::ds,e,b,l,h=>US h (fun h=>aR RQ h (fun x b l h=>⟨h.1,jP RQ hk h.2⟩)) (fun h=>jP RQ hk h)
theorem qP {C:CallP} (RQ:∀f args b l (Q Q':AV→List Row→List Row→Prop),C f args b l Q→(∀x b' l',Q x b' l'→Q' x b' l')→C f args b l Q') {W:WeakP}:∀{c:ACode} {e:List AV} {b l:List Row} {Q Q':AExit→List AV→List Row→List Row→Prop},
  run C W c e b l Q→(∀ex e b l,Q ex e b l→Q' ex e b l)→run C W c e b l Q':=by
 intro c
 induction c with
 |skip=>intro e b l Q Q' h hq;exact hq _ _ _ _ h
 |region ops=>intro e b l Q Q' h hq;exact PL RQ (fun _ _ _ h=>hq _ _ _ _ h) h
 |draw ds=>intro e b l Q Q' h hq;exact jP RQ (fun _ _ _ h=>hq _ _ _ _ h) h
 |both x y ihx ihy=>intro e b l Q Q' h hq;exact⟨ihx h.1 hq,ihy h.2 hq⟩
 |seq x y ihx ihy =>
   intro e b l Q Q' h hq
   refine ihx (Q:=OT (fun e b l=>run C W y e b l Q) Q) h ?_
   intro ex e b l h
   cases ex with
   |normal=>exact ihy (Q:=Q) h hq
   |exit i=>exact hq _ _ _ _ h
   |ret=>exact hq _ _ _ _ h
 |cond c x y ihx ihy =>
   intro e b l Q Q' h hq
   simp only[run]at h⊢
   split at h
   ·split at h
    ·rename_i ht;rw[if_pos ht];exact ihx h hq
    ·rename_i ht;rw[if_neg ht];exact ihy h hq
   ·exact h
 |block i c ih =>
   intro e b l Q Q' h hq
   refine ih (Q:=yX i Q) h ?_
   intro ex e b l h
   cases ex with
   |normal=>exact hq _ _ _ _ h
   |exit j =>
     simp only[yX]at h⊢
     split
     ·rename_i hj;rw[if_pos hj]at h;exact hq _ _ _ _ h
     ·rename_i hj;rw[if_neg hj]at h;exact hq _ _ _ _ h
   |ret=>exact hq _ _ _ _ h
 |loop c ih =>
   rintro e b l Q Q' ⟨I,h1,h2⟩ hq
   refine⟨I,h1,fun e b l m hI=>ih (h2 e b l m hI) ?_⟩
   intro ex e b l h
   cases ex with
   |normal=>exact h
   |exit j=>exact hq _ _ _ _ h
   |ret=>exact hq _ _ _ _ h
 |exit i=>intro e b l Q Q' h hq;exact hq _ _ _ _ h
 |ret=>intro e b l Q Q' h hq;exact hq _ _ _ _ h

theorem j5 {w:World} {F:Nat→Prop} {L:LMap} {b l:List Row} {e:List AV} {a:Act} (s:Sim F L (b++l) w) (he:PC w F L e a) (g:ResultVar→Sem Value)
  (aC:∀t,g (.tmp t)=pure (a.tmps.getD t undef)) (NI:∀p t,g (.cell p t)=(do loadVar t (←asAddr (a.tmps.getD p undef)))):∀{rs:List ResultVar} {ars:List ARes} {xs:List AV},ZAk P rs=some ars→resVs e b l ars=some xs →
  ∃vs:List Value,(rs.mapM g).run P w=.ok vs w∧bA w F L xs vs
 |[],ars,xs,hc,h=>by
   simp[ZAk]at hc
   subst hc
   simp[resVs]at h
   subst h
   exact⟨[],by simp,bA.nil⟩
 |.tmp t::rs,ars,xs,hc,h=>by
   simp only[ZAk]at hc
   obtain⟨ars',hc',rfl⟩:=map_some hc
   simp only[resVs,resV]at h
   split at h
   case h_2=>cases h
   rename_i x ys h1 h2
   cases h1
   cases h
   obtain⟨vs,h3,h4⟩:=j5 s he g aC NI hc' h2
   refine⟨a.tmps.getD t undef::vs,?_,bA.cons (he.nth t) h4⟩
   rw[List.mapM_cons]
   simp only[Sem.run_bind,Sem.run_pure,Result.andThen_ok,aC,h3]
 |.cell p t::rs,ars,xs,hc,h=>by
   simp only[ZAk]at hc
   split at hc
   case h_2=>cases hc
   rename_i n ars' hn hc'
   cases hc
   simp only[resVs,resV]at h
   split at h
   case h_2=>cases h
   rename_i x ys h1 h2
   cases h
   split at h1
   case h_2=>cases h1
   rename_i x' b1 l1 hld
   cases h1
   obtain⟨blk,q,u,g1,g2,g3,_,_⟩:=nZ (P:=P) s hn (he.nth p) hld
   obtain⟨vs,h3,h4⟩:=j5 s he g aC NI hc' h2
   refine⟨u::vs,?_,bA.cons g3 h4⟩
   rw[List.mapM_cons]
   have hra:(asAddr (a.tmps.getD p undef)).run P w=.ok ⟨blk,q,none⟩ w:=by rw[g1];rfl
   simp only[Sem.run_bind,Sem.run_pure,Result.andThen_ok,NI,hra,g2,h3]

def KH (rs:List ARes) (Q:AV→List Row→List Row→Prop) (nb:Nat):AExit→List AV→List Row→List Row→Prop:=fun ex e b l =>
 (ex=.normal∨ex=.ret)∧∃xs,resVs e b l rs=some xs∧∃y b' l',KA [one xs] b l [y] b' l'∧Q y (b'.take nb) (b'.drop nb++l')

inductive AVlt (m:Nat):AV→Prop where
 |any:AVlt m AV.any
 |v (x:IV):AVlt m (.v x)
 |agg (cs:List AV) (h:∀c∈cs,AVlt m c):AVlt m (.agg cs)
 |tup (cs:List AV) (h:∀c∈cs,AVlt m c):AVlt m (.tup cs)
 |sl (id ver off len:Nat) (h:id<m):AVlt m (.sl id ver off len)
 |ptr (id ver k j:Nat) (h:id<m):AVlt m (.ptr id ver k j)
 |fn (f:Nat) (cs:List AV) (h:∀c∈cs,AVlt m c):AVlt m (.fn f cs)
 |mp (id ver:Nat) (h:id<m):AVlt m (.mp id ver)
def YB (m:Nat) (h:List Row):Prop:=∀(id ver sz:Nat) (els:List (List AV)),h[id]? = some (Row.live ver sz els)→∀row∈els,∀c∈row,AVlt m c

theorem RepA.lt {w:World} {F:Nat→Prop} {L:LMap} {x:AV} {v:Value} (h:RepA w F L x v) {m:Nat} (hL:∀id ver l,L id ver=some l→id<m):AVlt m x:=by
 have sub:∀{cs:List AV} {vs:Array Value},cs.length=vs.size→(∀(i:Nat) (a:AV) (v:Value),cs[i]? = some a→vs[i]? = some v→AVlt m a)→∀c∈cs,AVlt m c:=by
  intro cs vs hl h c hc
  obtain⟨i,hi⟩:=ey.1 hc
  have bB:i<vs.size:=by rw[←hl];exact (aj.1 hi).1
  exact h i c vs[i] hi (gv bB)
 induction h with
 |any v=>exact .any
 |v x v h=>exact .v x
 |agg cs vs hl _ ih=>exact .agg cs (sub hl ih)
 |tup cs vs hl _ ih=>exact .tup cs (sub hl ih)
 |sl id ver off len b o sz cap h1 h2 h3=>exact .sl id ver off len (hL _ _ _ h1)
 |slz id ver off b o sz cap x h1 h2=>exact .sl id ver off 0 (hL _ _ _ h1)
 |sln id ver ad h1=>exact .sl id ver 0 0 (hL _ _ _ h1)
 |ptr id ver k j b o sz cap h1=>exact .ptr id ver k j (hL _ _ _ h1)
 |fn f cs vs hl _ ih=>exact .fn f cs (sub hl ih)
 |mp id ver b h1=>exact .mp id ver (hL _ _ _ h1)

theorem RepA.cut {w:World} {F:Nat→Prop} {L L':LMap} {x:AV} {v:Value} (h:RepA w F L x v) {m:Nat} (hx:AVlt m x) (hL:∀id ver,id<m→L' id ver=L id ver):RepA w F L' x v:=by
 induction h with
 |any v=>exact .any v
 |v x v h=>exact .v x v h
 |agg cs vs hl _ ih=>cases hx with|agg _ h=>exact .agg cs vs hl (fun i a v hi hv=>ih i a v hi hv (h a (cd hi)))
 |tup cs vs hl _ ih=>cases hx with|tup _ h=>exact .tup cs vs hl (fun i a v hi hv=>ih i a v hi hv (h a (cd hi)))
 |sl id ver off len b o sz cap h1 h2 h3=>cases hx with|sl _ _ _ _ h=>exact .sl id ver off len b o sz cap (by rw[hL _ _ h];exact h1) h2 h3
 |slz id ver off b o sz cap x h1 h2=>cases hx with|sl _ _ _ _ h=>exact .slz id ver off b o sz cap x (by rw[hL _ _ h];exact h1) h2
 |sln id ver ad h1=>cases hx with|sl _ _ _ _ h=>exact .sln id ver ad (by rw[hL _ _ h];exact h1)
 |ptr id ver k j b o sz cap h1=>cases hx with|ptr _ _ _ _ h=>exact .ptr id ver k j b o sz cap (by rw[hL _ _ h];exact h1)
 |fn f cs vs hl _ ih=>cases hx with|fn _ _ h=>exact .fn f cs vs hl (fun i a v hi hv=>ih i a v hi hv (h a (cd hi)))
 |mp id ver b h1=>cases hx with|mp _ _ h=>exact .mp id ver b (by rw[hL _ _ h];exact h1)

theorem Sim.rowsLt {F:Nat→Prop} {L:LMap} {h:List Row} {w:World} (s:Sim F L h w):YB h.length h:=by
 intro id ver sz els hr row RE c hc
 obtain⟨l,h1,h2⟩:=s.row id ver sz els hr
 cases l with
 |nil =>
   have h2:els=[]:=h2
   subst h2
   simp at RE
 |pl b o z cap =>
   obtain⟨_,_,_,cur,T,_,_,_,k8⟩:=h2
   obtain⟨k,hk⟩:=ey.1 RE
   obtain⟨j,hj⟩:=ey.1 hc
   obtain⟨_,v,_,hv⟩:=k8 k row j c hk hj
   exact hv.lt (fun id ver l hl=>s.lt hl)
 |mp b =>
   obtain⟨es,clk,_,k4,k5⟩:=h2
   obtain⟨k,hk⟩:=ey.1 RE
   have hke:k<es.size:=by rw[k4];exact (aj.1 hk).1
   obtain⟨x,y,rfl,e1,e2⟩:=k5 k row es[k] hk (gv hke)
   simp only[dx,ju,or_false]at hc
   rcases hc with rfl|rfl
   ·exact e1.lt (fun id ver l hl=>s.lt hl)
   ·exact e2.lt (fun id ver l hl=>s.lt hl)

theorem YJ {f:Nat} {af:AFunc} (hf:CA P f=some af) {args:List AV} (ha:args.length=af.nargs) {b l:List Row} {Q:AV→List Row→List Row→Prop}
  (h:∀B,B=b++l→YB B.length B→(∀x∈args,AVlt B.length x)→run (ZA P) KA af.body (args++List.replicate (af.ntmps-args.length) (.tup [])) B [] (KH af.res Q b.length)):ZA P f args b l Q:=by
 unfold CA at hf
 split at hf
 case h_2=>cases hf
 rename_i fn hfn
 split at hf
 case isTrue=>cases hf
 rename_i wU
 split at hf
 case h_2=>cases hf
 rename_i c hbody
 split at hf
 case h_2=>cases hf
 rename_i ac rs SQ hrs
 cases hf
 refine⟨⟨fn,hfn,by simpa using wU,by rw[hbody];rfl⟩,fun F L w vs s hr=>?_⟩
 refine calls_of_wp hfn hbody ?_
 have QW:vs.size=args.length:=by have:=hr.1;simpa using this.symm
 have ZIW:PC w F L (args++List.replicate (fn.ntmps-args.length) (.tup [])) {tmps:=vs++Array.replicate (fn.ntmps-vs.size) undef,defers:=[]}:=by
  refine⟨rfl,by simp[QW],fun i x v hx hv=>?_⟩
  by_cases hi:i<args.length
  ·rw[aw hi]at hx
   rw[cn oM]at hv
   exact hr.2 i x v hx (by simpa using hv)
  ·rw[au oM,jl]at hx
   rw[ez oM,Array.getElem?_replicate]at hv
   split at hx
   ·split at hv
    ·cases hx;cases hv;exact RepA.undef _ _ _
    ·cases hv
   ·cases hx
 refine wp_mono (L8 (P:=P) (fun _ _ _ _ _ h=>h) AC c ac SQ _ (b++l) [] _ (h _ rfl s.rowsLt (fun x hx=>by
  obtain⟨i,hi⟩:=ey.1 hx
  obtain⟨v,_,hv⟩:=hr.get hi
  exact hv.lt (fun id ver l hl=>s.lt hl))) F L w _ (by simpa using s) ZIW) ?_
 rintro ex a1 w1 ⟨ax,e1,b1,l1,F1,L1,hex,s1,iH,st1,uI,hax,xs,sY,y,b2,l2,ZJW,hq⟩
 obtain⟨us,hu1,hu2⟩:=j5 (P:=P) s1 iH (fun
  |.tmp t=>pure (a1.tmps.getD t undef)
  |.cell a t=>do loadVar t (←asAddr (a1.tmps.getD a undef))) (fun _=>rfl) (fun _ _=>rfl) hrs sY
 have ZIX:(results fn a1.tmps).run P w1=.ok (if h:us.toArray.size=1 then us.toArray[0] else .tuple us.toArray) w1:=by
  have hm:(fn.results.mapM (fun
    |.tmp t=>pure (a1.tmps.getD t undef)
    |.cell a t=>do loadVar t (←asAddr (a1.tmps.getD a undef)):ResultVar→Sem Value)).run P w1=.ok us.toArray w1:=by
   rw[Array.mapM_eq_mapM_toList]
   simp only[map_eq_pure_bind,Sem.run_bind,hu1,Result.andThen_ok,Sem.run_pure]
  unfold results
  rw[Sem.run_bind]
  erw[hm]
  rfl
 have ZAp:RepA w1 F1 L1 (one xs) (if h:us.toArray.size=1 then us.toArray[0] else .tuple us.toArray):=by
  have hl:=hu2.1
  cases xs with
  |nil =>
    have:us=[]:=cu (by simpa using hl.symm)
    subst this
    exact bA.tup (by simpa using bA.nil)
  |cons x xs =>
    cases xs with
    |nil =>
      cases us with
      |nil=>simp at hl
      |cons u us =>
        have:us=[]:=cu (by simpa using hl)
        subst this
        simpa [one] using hu2.2 0 x u rfl rfl
    |cons x2 xs =>
      have h2:¬us.toArray.size=1:=by simp at hl⊢;omega
      rw[dif_neg h2]
      exact bA.tup (by simpa [one] using hu2)
 generalize nJ:(if h:us.toArray.size=1 then us.toArray[0] else Value.tuple us.toArray)=val at *
 obtain⟨F2,L2,s2,QI,st2,RO⟩:=ZJW F1 L1 w1 {tmps:=#[val],defers:=[]} s1 ⟨rfl,rfl,fun i x v hx hv=>by
  cases i with
  |zero=>simp at hx hv;subst hx;subst hv;exact ZAp
  |succ i=>simp at hx⟩
 have hd:a1.defers=[]:=iH.1
 have SH:∃v,(results fn a1.tmps).run P w1=.ok v w1∧∃v' x b' l' F' L',Ending.returned v=.returned v'∧RepA w1 F' L' x v'∧Sim F' L' (b'++l') w1∧Step (b++l).length F L (b++l) w F' L' (b'++l') w1∧b'.length=b.length∧Q x b' l':=by
  have ZDe:b2.take b.length++(b2.drop b.length++l2)=b2++l2:=by rw[←ay,gq]
  refine⟨val,ZIX,val,y,b2.take b.length,b2.drop b.length++l2,F2,L2,rfl,QI.2.2 0 y val rfl rfl,by rw[ZDe];exact s2,?_,?_,hq⟩
  ·rw[ZDe]
   have h1:b1.length=(b++l).length:=uI
   have:=st1.trans (uI▸st2)
   simpa using this
  ·have h1:b1.length=(b++l).length:=uI
   have:b2.length=b.length+l.length:=by rw[RO,h1];simp
   simp;omega
 cases ex<;>cases ax<;>first|exact hex.elim|skip
 ·obtain⟨v,q1,q2⟩:=SH
  exact⟨hd,v,q1,q2⟩
 ·rcases hax with h|h<;>cases h
 ·obtain⟨v,q1,q2⟩:=SH
  exact⟨hd,v,q1,q2⟩
end

section
variable (C:CallP) (W:WeakP)
def seqC (y:ACode) (Q:AExit→List AV→List Row→List Row→Prop):AExit→List AV→List Row→List Row→Prop:=OT (fun e b l=>run C W y e b l Q) Q
def atN (Q:AExit→List AV→List Row→List Row→Prop):List AV→List Row→List Row→Prop:=Q .normal
def opK (d:Option Nat) (os:List AOper) (e:List AV) (K:List AV→List Row→List Row→Prop):AV→List Row→List Row→Prop:=fun x b l=>GF C os (put e d x) b l K
def opS (r:OpR) (d:Option Nat) (os:List AOper) (e:List AV) (b l:List Row) (K:List AV→List Row→List Row→Prop):Prop:=YK C b l (opK C d os e K) r
def ZEB (t:Option Bool) (d:Option Nat) (op:AOp) (os:List AOper) (e:List AV) (b l:List Row) (K:List AV→List Row→List Row→Prop):Prop:=
 ZF t (opS C (aop e b l op) d os e b l K) (GF C os (put e d (.tup [])) b l K)
def dK (d:Option Nat) (re:List AOper) (ds:List DOper) (e:List AV) (K:List AV→List Row→List Row→Prop):AV→List Row→List Row→Prop:=fun x b l=>JH e b l re∧zH C ds (put e d x) b l K
def dS (r:OpR) (d:Option Nat) (re:List AOper) (ds:List DOper) (e:List AV) (b l:List Row) (K:List AV→List Row→List Row→Prop):Prop:=YK C b l (dK C d re ds e K) r
def ZEC (t:Option Bool) (d:Option Nat) (op:AOp) (re:List AOper) (ds:List DOper) (e:List AV) (b l:List Row) (K:List AV→List Row→List Row→Prop):Prop:=
 ZF t (dS C (aop e b l op) d re ds e b l K) (zH C ds (put e d (.tup [])) b l K)
def ifC (v:AV) (x y:ACode) (e:List AV) (b l:List Row) (Q:AExit→List AV→List Row→List Row→Prop):Prop:=match v with
 |.v (.bool t)=>ZF (some t) (run C W x e b l Q) (run C W y e b l Q)
 |_=>False
end

theorem nr.{u} {α:Sort u} {x y:α} (h:x=y):x=y:=h
section
variable {C:CallP} {W:WeakP} {e:List AV} {b l b' l':List Row} {Q:AExit→List AV→List Row→List Row→Prop} {K R:List AV→List Row→List Row→Prop} {KV:AV→List Row→List Row→Prop} {A B:Prop}
 {d:Option Nat} {op:AOp} {os:List AOper} {ds:List DOper} {re:List AOper} {x y:AV} {cx cy:ACode}
theorem xB:run C W .skip e b l Q=Q .normal e b l:=nr rfl
theorem tA {ops:List AOper}:run C W (.region ops) e b l Q=GF C ops e b l (atN Q):=nr rfl
theorem iB {ops:List DOper}:run C W (.draw ops) e b l Q=zH C ops e b l (atN Q):=nr rfl
theorem rB:run C W (.both cx cy) e b l Q=(run C W cx e b l Q∧run C W cy e b l Q):=nr rfl
theorem EB:run C W (.seq cx cy) e b l Q=run C W cx e b l (seqC C W cy Q):=nr rfl
theorem SA {i:Nat}:run C W (.block i cx) e b l Q=run C W cx e b l (yX i Q):=nr rfl
theorem uB {i:Nat}:run C W (.exit i) e b l Q=Q (.exit i) e b l:=nr rfl
theorem CB:run C W .ret e b l Q=Q .ret e b l:=nr rfl
theorem dB {c:Opd}:run C W (.cond c cx cy) e b l Q=ifC C W (ev e c) cx cy e b l Q:=by
 simp only[run,ifC]
 generalize ev e c=q
 cases q with
 |v z=>cases z<;>rfl
 |_=>rfl
theorem UC:atN Q e b l=Q .normal e b l:=nr rfl
theorem gA:seqC C W cy Q .normal e b l=run C W cy e b l Q:=nr rfl
theorem RA {i:Nat}:seqC C W cy Q (.exit i) e b l=Q (.exit i) e b l:=nr rfl
theorem wB:seqC C W cy Q .ret e b l=Q .ret e b l:=nr rfl
theorem yA:OT R Q .normal e b l=R e b l:=nr rfl
theorem DA {i:Nat}:OT R Q (.exit i) e b l=Q (.exit i) e b l:=nr rfl
theorem yB:OT R Q .ret e b l=Q .ret e b l:=nr rfl
theorem dA {i:Nat}:yX i Q .normal e b l=Q .normal e b l:=nr rfl
theorem FA {i j:Nat}:yX i Q (.exit j) e b l=if j=i then Q .normal e b l else Q (.exit j) e b l:=nr rfl
theorem lB {i:Nat}:yX i Q .ret e b l=Q .ret e b l:=nr rfl
theorem nA:GF C [] e b l K=K e b l:=nr rfl
theorem xA {g:Option (Nat×Bool)}:GF C (⟨d,op,g⟩::os) e b l K=ZEB C (gd e g) d op os e b l K:=nr rfl
theorem sB:zH C [] e b l K=K e b l:=nr rfl
theorem TA {i:Nat} {g:Option (Nat×Bool)}:zH C (⟨i,⟨d,op,g⟩,re⟩::ds) e b l K=ZEC C (gd e g) d op re ds e b l K:=nr rfl
theorem MA:ZEB C (some true) d op os e b l K=opS C (aop e b l op) d os e b l K:=by simp[ZEB,ZF]
theorem lA:ZEB C (some false) d op os e b l K=GF C os (put e d (.tup [])) b l K:=by simp[ZEB,ZF]
theorem LA:ZEC C (some true) d op re ds e b l K=dS C (aop e b l op) d re ds e b l K:=by simp[ZEC,ZF]
theorem fA:ZEC C (some false) d op re ds e b l K=zH C ds (put e d (.tup [])) b l K:=by simp[ZEC,ZF]
theorem vB:ifC C W (.v (.bool true)) cx cy e b l Q=run C W cx e b l Q:=by simp[ifC,ZF]
theorem aA:ifC C W (.v (.bool false)) cx cy e b l Q=run C W cy e b l Q:=by simp[ifC,ZF]
theorem AB:opS C (.val x b' l') d os e b l K=GF C os (put e d x) b' l' K:=nr rfl
theorem tB {f:Nat} {az:List AV}:opS C (.call f az) d os e b l K=C f az b l (opK C d os e K):=nr rfl
theorem OB {c:Bool}:opS C (.two c x y) d os e b l K=((c=true→GF C os (put e d x) b l K)∧GF C os (put e d y) b l K):=nr rfl
theorem ZC:opK C d os e K x b l=GF C os (put e d x) b l K:=nr rfl
theorem LC:dS C (.val x b' l') d re ds e b l K=(JH e b' l' re∧zH C ds (put e d x) b' l' K):=nr rfl
theorem VC {f:Nat} {az:List AV}:dS C (.call f az) d re ds e b l K=C f az b l (dK C d re ds e K):=nr rfl
theorem FC {c:Bool}:dS C (.two c x y) d re ds e b l K=((c=true→JH e b l re∧zH C ds (put e d x) b l K)∧(JH e b l re∧zH C ds (put e d y) b l K)):=nr rfl
theorem EC:dK C d re ds e K x b l=(JH e b l re∧zH C ds (put e d x) b l K):=nr rfl
theorem S9 {t:Bool} (h1:t=true→run C W cx e b l Q) (h2:t=false→run C W cy e b l Q):ifC C W (.v (.bool t)) cx cy e b l Q:=by
 cases t
 ·rw[aA];exact h2 rfl
 ·rw[vB];exact h1 rfl
theorem XC:gd e none=some true:=nr rfl
theorem QC {s:Nat} {w:Bool}:gd e (some (s,w))=(match nth e s with
  |.v (.bool t)=>some (t==w)
  |.tup []=>some false
  |_=>none):=nr rfl
theorem pA:JH e b l []=True:=nr rfl
theorem uA {r:AOper} {rs:List AOper}:JH e b l (r::rs)=(QD e b l r∧JH e b l rs):=nr rfl
theorem eD {a:AV} {l:List AV}:nth (a::l) 0=a:=nr rfl
theorem bD {a:AV} {l:List AV} {n:Nat}:nth (a::l) (n+1)=nth l n:=nr rfl
theorem jC {a x:AV} {l:List AV}:upd (a::l) 0 x=x::l:=nr rfl
theorem vC {a x:AV} {l:List AV} {n:Nat}:upd (a::l) (n+1) x=a::upd l n x:=nr rfl
theorem rD {n:Nat} {x:AV}:put e (some n) x=upd e n x:=nr rfl
theorem fD {x:AV}:put e none x=e:=nr rfl
theorem nG {n:Nat}:ev e (.t n)=nth e n:=nr rfl
theorem pG {x:AV}:ev e (.c x)=x:=nr rfl
theorem JC:evs e []=[]:=nr rfl
theorem nB {x:Opd} {xs:List Opd}:evs e (x::xs)=ev e x::evs e xs:=nr rfl
theorem pB {x:Opd}:evo e (some x)=some (ev e x):=nr rfl
theorem mB:evo e none=none:=nr rfl
theorem MB {i:Nat}:hget b l (b.length+i)=l[i]?:=by
 unfold hget;rw[if_neg oM,co]
theorem UA:hget b l b.length=l[0]?:=MB (i:=0)
theorem KB {i:Nat} {r:Row}:pE b (b.length+i) r=b:=by unfold pE;rw[if_neg oM]
theorem jA {r:Row}:pE b b.length r=b:=KB (i:=0)
theorem UB {i:Nat} {r:Row}:IE b l (b.length+i) r=l.set i r:=by unfold IE;rw[if_neg oM,co]
theorem qA {r:Row}:IE b l b.length r=l.set 0 r:=UB (i:=0)
theorem mA:UJ (some x) b l=.val x b l:=nr rfl
end

theorem eA {A B:Prop}:ZF (some true) A B=A:=by simp[ZF]
theorem iA {A B:Prop}:ZF (some false) A B=B:=by simp[ZF]
theorem MC {x:AV} {b l:List Row} {A:Prop}:(∃v,OpR.val x b l=.val v b l∧(x=v∨A))=True:=eq_true ⟨x,rfl,.inl rfl⟩
theorem YC {x:AV} {b l:List Row}:(∃v,OpR.val x b l=.val v b l∧True)=True:=eq_true ⟨x,rfl,trivial⟩

theorem zB {n:Int} (h1:-9223372036854775808≤n) (h2:n≤9223372036854775807):IntKind.i64.wrap n=n:=by rw[IntKind.wrap_i64];omega

theorem IH {a b:Nat} (h:a≤b):(a≤b)=True:=eq_true h
theorem nH {a b:Nat} (h:a<b):(a<b)=True:=eq_true h
theorem DH {a b:Nat} (h:¬a≤b):(a≤b)=False:=eq_false h
theorem HH {a b:Nat} (h:¬a<b):(a<b)=False:=eq_false h
theorem EE {a b:Int} (h:a≤b):(a≤b)=True:=eq_true h
theorem ME {a b:Int} (h:a<b):(a<b)=True:=eq_true h
theorem CE {a b:Int} (h:¬a≤b):(a≤b)=False:=eq_false h
theorem LE {a b:Int} (h:¬a<b):(a<b)=False:=eq_false h
theorem geI {a b:Int}:(a≥b)=(b≤a):=rfl
theorem gtI {a b:Int}:(a>b)=(b<a):=rfl
theorem AE {α:Type} {l:List α} {i:Nat} (h:i<l.length):l[i]? = some l[i]:=ae h
theorem zP {α:Type} {l:List α} {k:Nat} (h:k<l.length):l.take (k+1)=l.take k++[l[k]]:=lh h

def vs (rows:List (List IV)):List (List AV):=rows.map (·.map .v)
theorem mD {rows:List (List IV)}:rows.map (fun r=>r.map AV.v)=vs rows:=nr rfl
theorem gC {rows:List (List IV)}:(vs rows).length=rows.length:=by simp[vs]
theorem TB {rows:List (List IV)} {i:Nat}:(vs rows)[i]? = (rows[i]?).map (·.map .v):=by simp[vs]
theorem GC {rows:List (List IV)} {i:Nat}:(vs rows).take i=vs (rows.take i):=by simp[vs,gx]
theorem RC {rows:List (List IV)} {i:Nat}:(vs rows).drop i=vs (rows.drop i):=by simp[vs,jb]
theorem ZDA {r q:List (List IV)}:vs r++vs q=vs (r++q):=by simp[vs]
theorem qC {r:List (List IV)} {a:IV}:vs r++[[.v a]]=vs (r++[[a]]):=by simp[vs]
theorem zC {r:List (List IV)} {a c:IV}:vs r++[[.v a,.v c]]=vs (r++[[a,c]]):=by simp[vs]
theorem FB {r:List (List IV)} {a c d:IV}:vs r++[[.v a,.v c,.v d]]=vs (r++[[a,c,d]]):=by simp[vs]
theorem KC {r:List (List IV)} {a c d f g:IV}:vs r++[[.v a,.v c,.v d,.v f,.v g]]=vs (r++[[a,c,d,f,g]]):=by simp[vs]
theorem DC {r:List (List IV)} {i:Nat} {a:IV}:(vs r).set i [.v a]=vs (r.set i [a]):=by rw[vs,vs,ie];rfl
theorem IC {r:List (List IV)} {i:Nat} {a c:IV}:(vs r).set i [.v a,.v c]=vs (r.set i [a,c]):=by rw[vs,vs,ie];rfl
theorem nD {n:Nat} {a:IV}:List.replicate n [AV.v a]=vs (List.replicate n [a]):=by rw[vs,List.map_replicate];rfl
theorem rP {α β:Type} {f:α→β} {l:List α} {k:Nat} (h:k<l.length):(l.take k).map f++[f l[k]]=(l.take (k+1)).map f:=by rw[zP h,ci];rfl
theorem YL {m:Nat} {rows:List (List IV)}:(∀row∈vs rows,∀c∈row,AVlt m c)↔True:=by
 refine⟨fun _=>trivial,fun _ row hr c hc=>?_⟩
 simp[vs]at hr
 obtain⟨r,_,rfl⟩:=hr
 simp at hc
 obtain⟨x,_,rfl⟩:=hc
 exact .v x

section
variable {e e':List AV} {b b' l l':List Row}

theorem KA.refl (e:List AV) (b l:List Row):KA e b l e b l:=fun F L w a s he=>⟨F,L,s,he,Step.refl _ _ _ _ _,rfl⟩
theorem kF {b l:List Row}:∀e,KA e b l e b l:=fun e=>KA.refl e b l
theorem KA.trans {e1 e2 e3:List AV} {b1 b2 b3 l1 l2 l3:List Row} (h:KA e1 b1 l1 e2 b2 l2) (k:KA e2 b2 l2 e3 b3 l3):KA e1 b1 l1 e3 b3 l3:=by
 intro F L w a s he
 obtain⟨F1,L1,s1,iH,st1,uI⟩:=h F L w a s he
 obtain⟨F2,L2,s2,QI,st2,RO⟩:=k F1 L1 w a s1 iH
 exact⟨F2,L2,s2,QI,st1.trans (uI▸st2),RO.trans uI⟩

def Fgt:List AV→List AV→Prop
 |[],[]=>True
 |a::az,c::cs=>(c=AV.any∨a=c)∧Fgt az cs
 |_,_=>False
theorem Fgt.len:∀{az cs:List AV},Fgt az cs→az.length=cs.length
 |[],[],_=>rfl
 |_::az,_::cs,h=>by simp[Fgt.len h.2]
 |[],_::_,h=>h.elim
 |_::_,[],h=>h.elim
theorem Fgt.get:∀{az cs:List AV},Fgt az cs→∀(i:Nat) (c:AV),cs[i]? = some c→c=AV.any∨az[i]? = some c
 |[],[],_,i,c,h=>by simp at h
 |a::az,x::cs,h,i,c,hc=>by
   cases i with
   |zero =>
     simp at hc
     subst hc
     rcases h.1 with h1|h1
     ·exact .inl h1
     ·exact .inr (by simp[h1])
   |succ i=>simp at hc⊢;exact Fgt.get h.2 i c hc
 |[],_::_,h,_,_,_=>h.elim
 |_::_,[],h,_,_,_=>h.elim
theorem KA.forget (h:Fgt e e'):KA e b l e' b l:=by
 intro F L w a s he
 refine⟨F,L,s,⟨he.1,by rw[he.2.1,h.len],fun i x v hx hv=>?_⟩,Step.refl _ _ _ _ _,rfl⟩
 rcases h.get i x hx with rfl|hi
 ·exact .any v
 ·exact he.2.2 i x v hi hv

theorem JX {m:Nat} {x:IV}:AVlt m (.v x)↔True:=⟨fun _=>trivial,fun _=>.v x⟩
theorem ZCu {m:Nat}:AVlt m AV.any↔True:=⟨fun _=>trivial,fun _=>.any⟩
theorem nR {m id ver off len:Nat}:AVlt m (.sl id ver off len)↔id<m:=⟨fun h=>by cases h;assumption,fun h=>.sl _ _ _ _ h⟩
theorem ZCt {m id ver k j:Nat}:AVlt m (.ptr id ver k j)↔id<m:=⟨fun h=>by cases h;assumption,fun h=>.ptr _ _ _ _ h⟩
theorem ZFk {m id ver:Nat}:AVlt m (.mp id ver)↔id<m:=⟨fun h=>by cases h;assumption,.mp id ver⟩
theorem ZCv {m:Nat} {cs:List AV}:AVlt m (.agg cs)↔∀c∈cs,AVlt m c:=⟨fun h=>by cases h;assumption,fun h=>.agg _ h⟩
theorem ZCs {m:Nat} {cs:List AV}:AVlt m (.tup cs)↔∀c∈cs,AVlt m c:=⟨fun h=>by cases h;assumption,fun h=>.tup _ h⟩
theorem ZFl {m f:Nat} {cs:List AV}:AVlt m (.fn f cs)↔∀c∈cs,AVlt m c:=⟨fun h=>by cases h;assumption,fun h=>.fn _ _ h⟩
theorem wE {m:Nat}:YB m []:=fun id ver sz els h=>by simp at h
theorem iQ {m:Nat} {r:Row} {h:List Row}:YB m (r::h)↔(∀ver sz els,r=.live ver sz els→∀row∈els,∀c∈row,AVlt m c)∧YB m h:=by
 refine⟨fun hh=>⟨fun ver sz els hr=>hh 0 ver sz els (by rw[hr];rfl),fun id ver sz els hi=>hh (id+1) ver sz els (by simpa using hi)⟩,fun ⟨h1,h2⟩ id ver sz els hi=>?_⟩
 cases id with
 |zero=>simp at hi;exact h1 ver sz els hi
 |succ id=>simp at hi;exact h2 id ver sz els hi
theorem TE {m ver sz:Nat} {els:List (List AV)} {h:List Row}:YB m (.live ver sz els::h)↔(∀row∈els,∀c∈row,AVlt m c)∧YB m h:=by
 rw[iQ]
 exact⟨fun ⟨h1,h2⟩=>⟨h1 ver sz els rfl,h2⟩,fun ⟨h1,h2⟩=>⟨fun v s e he=>by cases he;exact h1,h2⟩⟩
theorem iY {m ver:Nat} {h:List Row}:YB m (.dead ver::h)↔YB m h:=by
 rw[iQ]
 exact⟨fun ⟨_,h2⟩=>h2,fun h2=>⟨fun v s e he=>(by cases he),h2⟩⟩
theorem AVlt.mono {m m':Nat} {x:AV} (h:AVlt m x) (hm:m≤m'):AVlt m' x:=by
 induction h with
 |any=>exact .any
 |v x=>exact .v x
 |agg cs _ ih=>exact .agg cs ih
 |tup cs _ ih=>exact .tup cs ih
 |sl id ver off len h=>exact .sl _ _ _ _ oM
 |ptr id ver k j h=>exact .ptr _ _ _ _ oM
 |fn f cs _ ih=>exact .fn f cs ih
 |mp id ver h=>exact .mp _ _ oM
theorem YB.mono {m m':Nat} {h:List Row} (hh:YB m h) (hm:m≤m'):YB m' h:=fun id ver sz els hr row RE c hc=>(hh id ver sz els hr row RE c hc).mono hm

theorem KA.trim {l1 junk:List Row} (hl:l=l1++junk) (he:∀x∈e,AVlt (b.length+l1.length) x) (hb:YB (b.length+l1.length) b) (h1:YB (b.length+l1.length) l1):KA e b l e b l1:=by
 subst hl
 intro F L w a s VT
 have hm:(b++l1).length=b.length+l1.length:=by simp
 obtain⟨L',hL1,hL2⟩:∃L':LMap,(∀id ver,id<b.length+l1.length→L' id ver=L id ver)∧∀id ver,¬id<b.length+l1.length→L' id ver=none:=
  ⟨fun id ver=>if id<b.length+l1.length then L id ver else none,fun id ver h=>by simp[h],fun id ver h=>by simp[h]⟩
 have QR:∀{id ver q},L' id ver=some q→id<b.length+l1.length∧L id ver=some q:=by
  intro id ver q hq
  by_cases hid:id<b.length+l1.length
  ·rw[hL1 id ver hid]at hq;exact⟨hid,hq⟩
  ·rw[hL2 id ver hid]at hq;cases hq
 have hget:∀id,id<b.length+l1.length→(b++(l1++junk))[id]? = (b++l1)[id]?:=by
  intro id hid
  rw[←ay,aw oM]
 have VG:∀k,gD L' (b++l1) k→gD L (b++(l1++junk)) k:=by
  rintro k ⟨id,ver,sz,els,q,q1,q2,q4⟩
  obtain⟨hid,q3⟩:=QR q2
  exact⟨id,ver,sz,els,q,by rw[hget id hid];exact q1,q3,q4⟩
 have rY:YB (b.length+l1.length) (b++l1):=by
  intro id ver sz els hr
  by_cases hid:id<b.length
  ·rw[aw hid]at hr;exact hb id ver sz els hr
  ·rw[au oM]at hr;exact h1 _ ver sz els hr
 refine⟨F,L',⟨?_,?_,?_,fun k hk=>⟨(s.imm k hk).1,fun ho=>(s.imm k hk).2 (VG k ho)⟩,s.glob⟩,⟨VT.1,VT.2.1,fun i x v hx hv=>(VT.2.2 i x v hx hv).cut (he x (cd hx)) hL1⟩,
  ⟨fun _ h=>h,fun id ver q hid hq=>by rw[hL1 id ver oM];exact hq,rfl,rfl,rfl,ah _,fun _ _ _=>rfl,fun k _ ho=>VG k ho,fun id hid v hv=>by
   rw[aw hid]at hv⊢;exact hv,fun _ _ h=>.inl h⟩,rfl⟩
 ·intro id ver sz els hr
  have hid:id<b.length+l1.length:=by rw[←hm];exact (aj.1 hr).1
  obtain⟨q,q1,q2⟩:=s.row id ver sz els (by rw[hget id hid];exact hr)
  refine⟨q,by rw[hL1 id ver hid];exact q1,?_⟩
  cases q with
  |nil=>exact q2
  |pl blk o z cap =>
    obtain⟨k1,k2,k3,cur,T,k4,k5,k6,k7⟩:=q2
    exact⟨k1,k2,k3,cur,T,k4,k5,k6,fun k row j c hk hj=>by
     obtain⟨g1,v,g2,g3⟩:=k7 k row j c hk hj
     exact⟨g1,v,g2,g3.cut (rY id ver sz els hr row (cd hk) c (cd hj)) hL1⟩⟩
  |mp blk =>
    obtain⟨es,clk,k4,k5,k6⟩:=q2
    refine⟨es,clk,k4,k5,fun k row e1 hk he=>?_⟩
    obtain⟨x,y,rfl,g2,g3⟩:=k6 k row e1 hk he
    exact⟨x,y,rfl,g2.cut (rY id ver sz els hr _ (cd hk) x kS) hL1,g3.cut (rY id ver sz els hr _ (cd hk) y kS) hL1⟩
 ·intro id ver q hq
  obtain⟨hid,q1⟩:=QR hq
  obtain⟨r,r1,r2⟩:=s.born id ver q q1
  exact⟨r,by rw[←hget id hid];exact r1,r2⟩
 ·intro id id' ver ver' z z' e1 e2 bb l1' l2' q1 q2 q3 q4 q7 q8
  obtain⟨i1,q5⟩:=QR q3
  obtain⟨i2,q6⟩:=QR q4
  exact s.apart id id' ver ver' z z' e1 e2 bb l1' l2' (by rw[hget id i1];exact q1) (by rw[hget id' i2];exact q2) q5 q6 q7 q8

theorem CY {sz:Nat} (F:Nat→Prop) (L:LMap) (w:World) (s:Sim F L (b++l) w):∃L':LMap,Sim F L' (b++(l++[.live 0 sz []])) w∧L' (b.length+l.length) 0=some .nil∧(∀i v q,L i v=some q→L' i v=some q) ∧
  Step b.length F L (b++l) w F L' (b++(l++[.live 0 sz []])) w:=by
 have jD:(b++l).length=b.length+l.length:=by simp
 have Q0:L (b.length+l.length) 0=none:=by
  cases hq:L (b.length+l.length) 0 with
  |none=>rfl
  |some q=>exact absurd (s.lt hq) oM
 obtain⟨L',JT,IW,DT⟩:∃L':LMap,L' (b.length+l.length) 0=some .nil∧(∀i v q,L i v=some q→L' i v=some q)∧∀i v,(i≠b.length+l.length∨v≠0)→L' i v=L i v:=by
  refine⟨fun i v=>if i=b.length+l.length∧v=0 then some .nil else L i v,by simp,?_,?_⟩
  ·intro i v q hl
   by_cases hi:i=b.length+l.length∧v=0
   ·obtain⟨rfl,rfl⟩:=hi
    rw[Q0]at hl;cases hl
   ·simp[hi,hl]
  ·intro i v hi
   have:¬(i=b.length+l.length∧v=0):=fun ⟨a,b⟩=>hi.elim (fun h=>h a) (fun h=>h b)
   simp[this]
 have JG:∀j,j≠b.length+l.length→(b++(l++[Row.live 0 sz []]))[j]? = (b++l)[j]?:=by
  intro j hj
  rw[←ay]
  by_cases fG:j<(b++l).length
  ·rw[aw fG]
  ·rw[ce kT,ce oM]
 have pH:(b++(l++[Row.live 0 sz []]))[b.length+l.length]? = some (.live 0 sz []):=by
  rw[←ay,au oM];simp
 have own:∀k,gD L' (b++(l++[Row.live 0 sz []])) k→gD L (b++l) k:=by
  rintro k ⟨i,v,z,e1,q1,h1,h2,h3⟩
  by_cases hi:i=b.length+l.length
  ·subst hi
   rw[pH]at h1;cases h1
   rw[JT]at h2;cases h2
   exact h3.elim
  ·rw[JG i hi]at h1
   rw[DT i v (.inl hi)]at h2
   exact⟨i,v,z,e1,q1,h1,h2,h3⟩
 have mono:∀{x:AV} {v:Value},RepA w F L x v→RepA w F L' x v:=fun hx=>hx.mono (fun _ h=>h) (fun _ _=>rfl) IW
 refine⟨L',⟨?_,?_,?_,fun k hk=>⟨(s.imm k hk).1,fun ho=>(s.imm k hk).2 (own k ho)⟩,s.glob⟩,JT,IW,⟨fun _ h=>h,fun i v q _ hl=>IW i v q hl,rfl,rfl,rfl,ah _,fun _ _ _=>rfl,fun k _ ho=>own k ho,fun i hi v hv=>by rw[JG i oM];exact hv,fun _ _ h=>.inl h⟩⟩
 ·intro j v z e1 hj
  by_cases PI:j=b.length+l.length
  ·subst PI
   rw[pH]at hj
   cases hj
   exact⟨.nil,JT,rfl⟩
  ·rw[JG j PI]at hj
   obtain⟨q,sQ,uT⟩:=s.row j v z e1 hj
   exact⟨q,IW _ _ _ sQ,uT.mono (fun _ _=>rfl) (fun _ _=>mono)⟩
 ·intro i v q sQ
  by_cases hi:i=b.length+l.length
  ·subst hi
   refine⟨_,pH,?_⟩
   by_cases hv:v=0
   ·subst hv;exact ah _
   ·rw[DT _ v (.inr hv)]at sQ
    exact absurd (s.lt sQ) oM
  ·rw[DT i v (.inl hi)]at sQ
   obtain⟨r,h1,h2⟩:=s.born _ _ _ sQ
   exact⟨r,by rw[JG i hi];exact h1,h2⟩
 ·intro i i' v v' z z' e1 e2 bb q1 q2 h1 h2 h3 h4 h5 h6
  by_cases hi:i=b.length+l.length
  ·subst hi
   rw[pH]at h1;cases h1
   rw[JT]at h3;cases h3
   exact h5.elim
  ·by_cases hi':i'=b.length+l.length
   ·subst hi'
    rw[pH]at h2;cases h2
    rw[JT]at h4;cases h4
    exact h6.elim
   ·rw[JG i hi]at h1
    rw[JG i' hi']at h2
    rw[DT i v (.inl hi)]at h3
    rw[DT i' v' (.inl hi')]at h4
    exact s.apart i i' v v' z z' e1 e2 bb q1 q2 h1 h2 h3 h4 h5 h6
theorem KA.nilrow {k sz:Nat} (hk:nth e k=.v .zsl) (bB:k<e.length):KA e b l (upd e k (.sl (b.length+l.length) 0 0 0)) b (l++[.live 0 sz []]):=by
 intro F L w a s VT
 obtain⟨L',s',JT,IW,st⟩:=CY (sz:=sz) F L w s
 have mono:∀{x:AV} {v:Value},RepA w F L x v→RepA w F L' x v:=fun hx=>hx.mono (fun _ h=>h) (fun _ _=>rfl) IW
 refine⟨F,L',s',?_,st,rfl⟩
 ·rw[IJ]
  refine⟨VT.1,by simp[VT.2.1],fun i x v hx hv=>?_⟩
  by_cases hi:k=i
  ·subst hi
   rw[bf bB]at hx
   cases hx
   rw[LN]at hk
   cases hq:e[k]? with
   |none=>rw[hq]at hk;cases hk
   |some y =>
     rw[hq]at hk
     have hy:y=.v .zsl:=hk
     subst hy
     have:=VT.2.2 k _ v hq hv
     cases this.vI
     exact .sln _ _ _ JT
  ·rw[bq hi]at hx
   exact mono (VT.2.2 i x v hx hv)


theorem Sim.setCell {F:Nat→Prop} {L:LMap} {h:List Row} {w:World} (s:Sim F L h w) {i ver z k j:Nat} {els:List (List AV)} {row:List AV} {x y:AV} (hi:h[i]? = some (.live ver z els)) (hk:els[k]? = some row) (hj:row[j]? = some x)
  (hy:∀v,RepA w F L x v→RepA w F L y v) (hc:y.cell=true):Sim F L (h.set i (.live ver z (els.set k (row.set j y)))) w∧∀b,gD L (h.set i (.live ver z (els.set k (row.set j y)))) b→gD L h b:=by
 have mR:i<h.length:=(aj.1 hi).1
 have back:∀{i' v z':Nat} {e':List (List AV)},(h.set i (Row.live ver z (els.set k (row.set j y))))[i']? = some (Row.live v z' e')→∃e0,h[i']? = some (Row.live v z' e0)∧(e'=e0∨(e0=els∧e'=els.set k (row.set j y))):=by
  intro i' v z' e' h1
  by_cases hii:i=i'
  ·subst hii
   rw[bf mR]at h1
   cases h1
   exact⟨els,hi,.inr ⟨rfl,rfl⟩⟩
  ·rw[bq hii]at h1
   exact⟨e',h1,.inl rfl⟩
 have own:∀b,gD L (h.set i (.live ver z (els.set k (row.set j y)))) b→gD L h b:=by
  rintro b ⟨i',v,z',e1,q1,h1,h2,h4⟩
  obtain⟨e0,h3,_⟩:=back h1
  exact⟨i',v,z',e0,q1,h3,h2,h4⟩
 refine⟨⟨fun i' v z' e' h1=>?_,fun i' v q hq=>?_,fun i1 i2 v v' z1 z2 e1 e2 bb q1 q2 h1 h2 h3 h4 h5 h6=>?_,fun b hb=>⟨(s.imm b hb).1,fun ho=>(s.imm b hb).2 (own b ho)⟩,s.glob⟩,own⟩
 ·obtain⟨e0,h2,h3⟩:=back h1
  obtain⟨q,g1,g2⟩:=s.row _ _ _ _ h2
  refine⟨q,g1,?_⟩
  rcases h3 with rfl|⟨rfl,rfl⟩
  ·exact g2
  ·cases q with
   |nil=>have g2:e0=[]:=g2;subst g2;simp at hk
   |pl blk o z1 c =>
     obtain⟨q1,q2,q3,cur,T,q4,q5,q6,q7⟩:=g2
     refine⟨q1,by simpa using q2,q3,cur,T,q4,q5,fun k' r hk'=>?_,fun k' r jj c hk' hjj=>?_⟩
     ·by_cases VP:k=k'
      ·subst VP
       rw[bf (aj.1 hk).1]at hk'
       cases hk'
       simpa using q6 k row hk
      ·rw[bq VP]at hk';exact q6 k' r hk'
     ·by_cases VP:k=k'
      ·subst VP
       rw[bf (aj.1 hk).1]at hk'
       cases hk'
       by_cases hjk:j=jj
       ·subst hjk
        rw[bf (aj.1 hj).1]at hjj
        cases hjj
        obtain⟨_,u,t2,t3⟩:=q7 k row j x hk hj
        exact⟨hc,u,t2,hy u t3⟩
       ·rw[bq hjk]at hjj;exact q7 k row jj c hk hjj
      ·rw[bq VP]at hk';exact q7 k' r jj c hk' hjj
   |mp blk =>
     obtain⟨es,clk,q4,q5,q6⟩:=g2
     refine⟨es,clk,q4,by simpa using q5,fun k' r e1 hk' he=>?_⟩
     by_cases VP:k=k'
     ·subst VP
      rw[bf (aj.1 hk).1]at hk'
      cases hk'
      obtain⟨x1,y1,rfl,t2,t3⟩:=q6 k row e1 hk he
      cases j with
      |zero=>simp at hj;subst hj;exact⟨y,y1,rfl,hy _ t2,t3⟩
      |succ j =>
        cases j with
        |zero=>simp at hj;subst hj;exact⟨x1,y,rfl,t2,hy _ t3⟩
        |succ j=>simp at hj
     ·rw[bq VP]at hk';exact q6 k' r e1 hk' he
 ·obtain⟨r,h1,h2⟩:=s.born i' v q hq
  by_cases hii:i=i'
  ·subst hii
   rw[hi]at h1;cases h1
   exact⟨_,bf mR,h2⟩
  ·exact⟨r,by rw[bq hii];exact h1,h2⟩
 ·obtain⟨_,k1,_⟩:=back h1
  obtain⟨_,k2,_⟩:=back h2
  exact s.apart i1 i2 v v' z1 z2 _ _ bb q1 q2 k1 k2 h3 h4 h5 h6

theorem KA.nilcell {i ver z k j sz:Nat} {els:List (List AV)} {row:List AV} (hi:l[i]? = some (.live ver z els)) (hk:els[k]? = some row) (hj:row[j]? = some (.v .zsl)) :
  KA e b l e b (l.set i (.live ver z (els.set k (row.set j (.sl (b.length+l.length) 0 0 0))))++[.live 0 sz []]):=by
 intro F L w a s VT
 obtain⟨L',s',JT,IW,st⟩:=CY (sz:=sz) F L w s
 have mR:i<l.length:=(aj.1 hi).1
 have hi':(b++(l++[Row.live 0 sz []]))[b.length+i]? = some (.live ver z els):=by
  rw[au oM,co,aw mR];exact hi
 obtain⟨s2,own⟩:=s'.setCell hi' hk hj (y:=.sl (b.length+l.length) 0 0 0) (fun v hv=>by cases hv.vI;exact .sln _ _ _ JT) rfl
 have tV:(b++(l++[Row.live 0 sz []])).set (b.length+i) (.live ver z (els.set k (row.set j (.sl (b.length+l.length) 0 0 0))))=b++(l.set i (.live ver z (els.set k (row.set j (.sl (b.length+l.length) 0 0 0))))++[.live 0 sz []]):=by
  rw[ke _ _ oM,co,List.set_append_left _ _ mR]
 rw[tV]at s2 own
 refine⟨F,L',s2,VT.mono (fun _ h=>h) (fun _ _=>rfl) IW,⟨st.imm,st.loc,st.os,st.tape,st.output,st.size,st.block,fun q hq ho=>st.own q hq (own q ho),fun id hid v hv=>?_,st.fnew⟩,rfl⟩
 have:=st.base id hid v hv
 rw[aw hid]at this⊢
 exact this

def QF (id ver sz:Nat) (rows:List (List IV)):AV→AV
 |.sl i v off len=>if i=id∧v=ver∧off+len≤rows.length then .v (.isl sz ((rows.drop off).take len)) else .sl i v off len
 |x=>x
def frz (id ver sz:Nat) (rows:List (List IV)):AV→AV
 |.agg cs=>.agg (cs.map (QF id ver sz rows))
 |.tup cs=>.tup (cs.map (QF id ver sz rows))
 |x=>QF id ver sz rows x

theorem ZI {i ver sz:Nat} {rows:List (List IV)} (hi:l[i]? = some (.live ver sz (rows.map (·.map .v)))) (F:Nat→Prop) (L:LMap) (w:World) (a:Act) (s:Sim F L (b++l) w) (VT:PC w F L e a) :
  ∃F':Nat→Prop,Sim F' L (b++l.set i (.dead ver)) w∧PC w F' L (e.map (frz (b.length+i) ver sz rows)) a∧Step b.length F L (b++l) w F' L (b++l.set i (.dead ver)) w ∧
   ∀(x:AV) (v:Value),RepA w F' L x v→RepA w F' L (QF (b.length+i) ver sz rows x) v:=by
 have mR:i<l.length:=(aj.1 hi).1
 have RE:(b++l)[b.length+i]? = some (.live ver sz (rows.map (·.map .v))):=by rw[au oM,co];exact hi
 have tV:b++l.set i (.dead ver)=(b++l).set (b.length+i) (.dead ver):=by rw[ke _ _ oM,co]
 have ZAs:b.length+i<(b++l).length:=by simp;omega
 obtain⟨lc,k1,k2⟩:=s.row _ _ _ _ RE
 have X0:∀{j v z els},((b++l).set (b.length+i) (.dead ver))[j]? = some (.live v z els)→j≠b.length+i∧(b++l)[j]? = some (.live v z els):=by
  intro j v z els hj
  by_cases PI:b.length+i=j
  ·subst PI
   rw[bf ZAs]at hj
   cases hj
  ·rw[bq PI]at hj
   exact⟨fun h=>PI h.symm,hj⟩
 have VG:∀k,gD L ((b++l).set (b.length+i) (.dead ver)) k→gD L (b++l) k:=by
  rintro k ⟨j,v,z,els,q,h1,h2,h3⟩
  exact⟨j,v,z,els,q,(X0 h1).2,h2,h3⟩
 obtain⟨F',hFF,ZJX,hF',ZJY⟩:∃F':Nat→Prop,(∀k,F k→F' k)∧(∀k,F' k→F k∨gD L (b++l) k)∧(∀k,F' k→k<w.heap.size∧¬gD L ((b++l).set (b.length+i) (.dead ver)) k)∧∀blk o z c,lc=.pl blk o z c→F' blk:=by
  cases lc with
  |nil=>exact⟨F,fun _ h=>h,fun _ h=>.inl h,fun k hk=>⟨(s.imm k hk).1,fun ho=>(s.imm k hk).2 (VG k ho)⟩,fun blk o z c h=>by cases h⟩
  |mp blk=>exact⟨F,fun _ h=>h,fun _ h=>.inl h,fun k hk=>⟨(s.imm k hk).1,fun ho=>(s.imm k hk).2 (VG k ho)⟩,fun blk o z c h=>by cases h⟩
  |pl blk o z c =>
    obtain⟨_,_,_,cur,T,k4,_⟩:=k2
    refine⟨fun k=>F k∨k=blk,fun k h=>.inl h,fun k hk=>hk.imp id (fun h=>by subst h;exact⟨_,_,_,_,_,RE,k1,rfl⟩),fun k hk=>?_,fun blk' o' z' c' h=>by cases h;exact .inr rfl⟩
    rcases hk with hk|rfl
    ·exact⟨(s.imm k hk).1,fun ho=>(s.imm k hk).2 (VG k ho)⟩
    ·refine⟨(bp.1 k4).1,?_⟩
     rintro⟨j,v,z',els,q',h1,h2,h4⟩
     obtain⟨YH,h3⟩:=X0 h1
     exact YH (s.apart j (b.length+i) v ver z' sz els _ k q' _ h3 RE h2 k1 h4 rfl)
 have mono:∀{x:AV} {v:Value},RepA w F L x v→RepA w F' L x v:=fun hx=>hx.mono hFF (fun _ _=>rfl) (fun _ _ _ h=>h)
 have f0:∀{x:AV} {v:Value},RepA w F' L x v→RepA w F' L (QF (b.length+i) ver sz rows x) v:=by
  intro x v hx
  cases x with
  |sl id ver' off len =>
    simp only[QF]
    split
    ·rename_i hc
     obtain⟨rfl,rfl,nL⟩:=hc
     refine .v _ _ ?_
     have jD:((rows.drop off).take len).length=len:=by simp;omega
     cases hx with
     |sl _ _ _ _ blk o z cap hL h1 h2 =>
       rw[k1]at hL;cases hL
       obtain⟨q1,q2,q3,cur,T,q4,q5,q6,q7⟩:=k2
       subst q1
       have RG:∀(k:Nat) (row:List IV) (j:Nat) (c:IV),((rows.drop off).take len)[k]? = some row→row[j]? = some c→∃u,w.cell? ⟨blk,o+off*z+k*z+j,none⟩=some u∧RepI w F c u:=by
        intro k row j c hk hj
        rw[cw]at hk
        split at hk
        ·rw[dl]at hk
         obtain⟨_,u,g1,g2⟩:=q7 (off+k) (row.map .v) j (.v c) (by rw[ai,hk];rfl) (by rw[ai,hj];rfl)
         refine⟨u,?_,g2.vI⟩
         rw[ca]at g1
         simp only[World.cell?,q4]
         rw[←g1]
         simp[da]
        ·cases hk
       have:=RepI.isl (w:=w) (F:=F') ((rows.drop off).take len) blk (o+off*z) z (cap-off) (fun k j=>(w.cell? ⟨blk,o+off*z+k*z+j,none⟩).getD undef) (ZJY _ _ _ _ rfl) oM oM
        (fun k row hk=>by
         rw[cw]at hk
         split at hk
         ·rw[dl]at hk
          have:=q6 (off+k) (row.map .v) (by rw[ai,hk];rfl)
          simpa using this
         ·cases hk)
        (fun k row j c hk hj=>by
         obtain⟨u,g1,_⟩:=RG k row j c hk hj
         rw[g1];rfl)
        (fun k row j c hk hj=>by
         obtain⟨u,g1,g2⟩:=RG k row j c hk hj
         rw[g1];exact g2.mono hFF (fun _ _=>rfl))
       rw[jD]at this
       exact this
     |slz =>
       have:(rows.drop off).take 0=[]:=by simp
       rw[this];exact .isl0 _ _ _ oM
     |sln =>
       have:(rows.drop 0).take 0=[]:=by simp
       rw[this];exact .isl0 _ _ _ oM
    ·exact hx
  |_=>exact hx
 have fl:∀{cs:List AV} {vs:Array Value},bA w F L cs vs.toList→bA w F' L (cs.map (QF (b.length+i) ver sz rows)) vs.toList:=by
  intro cs vs h
  refine⟨by simpa using h.1,fun j x v hx hv=>?_⟩
  rw[ai]at hx
  cases hq:cs[j]? with
  |none=>simp[hq]at hx
  |some y=>simp[hq]at hx;subst hx;exact f0 (mono (h.2 j y v hq hv))
 have ff:∀{x:AV} {v:Value},RepA w F L x v→RepA w F' L (frz (b.length+i) ver sz rows x) v:=by
  intro x v hx
  cases x with
  |agg cs=>obtain⟨vs,rfl,hl⟩:=hx.aggL;exact bA.agg (fl hl)
  |tup cs=>obtain⟨vs,rfl,hl⟩:=hx.tupL;exact bA.tup (fl hl)
  |_=>exact f0 (mono hx)
 refine⟨F',?_,⟨VT.1,by simpa using VT.2.1,fun j x v hx hv=>?_⟩,⟨hFF,fun _ _ _ _ h=>h,rfl,rfl,rfl,ah _,fun _ _ _=>rfl,fun k _ ho=>by rw[tV]at ho;exact VG k ho,fun id hid v hv=>?_,fun k hk hf=>ZJX k hf⟩,fun x v h=>f0 h⟩
 ·rw[tV]
  refine⟨fun j v z els hj=>?_,fun j v q hq=>?_,fun j j' v v' z z' e1 e2 bb q1 q2 h1 h2 h3 h4 h5 h6=>s.apart j j' v v' z z' e1 e2 bb q1 q2 (X0 h1).2 (X0 h2).2 h3 h4 h5 h6,hF',s.glob.mono hFF (fun _ _=>rfl)⟩
  ·obtain⟨_,h3⟩:=X0 hj
   obtain⟨q,g1,g2⟩:=s.row j v z els h3
   exact⟨q,g1,g2.mono (fun _ _=>rfl) (fun _ _=>mono)⟩
  ·obtain⟨r,h1,h2⟩:=s.born j v q hq
   by_cases PI:b.length+i=j
   ·subst PI
    rw[RE]at h1;cases h1
    exact⟨.dead ver,bf ZAs,h2⟩
   ·exact⟨r,by rw[bq PI];exact h1,h2⟩
 ·rw[ai]at hx
  cases hq:e[j]? with
  |none=>simp[hq]at hx
  |some y=>simp[hq]at hx;subst hx;exact ff (VT.2.2 j y v hq hv)
 ·rw[aw hid]at hv⊢;exact hv

theorem KA.freeze {i ver sz:Nat} {rows:List (List IV)} (hi:l[i]? = some (.live ver sz (rows.map (·.map .v)))):KA e b l (e.map (frz (b.length+i) ver sz rows)) b (l.set i (.dead ver)):=by
 intro F L w a s VT
 obtain⟨F',h1,h2,h3,_⟩:=ZI hi F L w a s VT
 exact⟨F',L,h1,h2,h3,rfl⟩

def qF (g:AV→AV):Row→Row
 |.live v s els=>.live v s (els.map (·.map g))
 |.dead v=>.dead v
theorem nK {g:AV→AV} {b l:List Row} {j v z:Nat} {els:List (List AV)} (h:(b++l.map (qF g))[j]? = some (.live v z els)):∃els0,(b++l)[j]? = some (.live v z els0)∧(els=els0∨els=els0.map (·.map g)):=by
 by_cases hj:j<b.length
 ·rw[aw hj]at h⊢
  exact⟨els,h,.inl rfl⟩
 ·rw[au oM,ai]at h
  rw[au oM]
  cases hq:l[j-b.length]? with
  |none=>rw[hq]at h;cases h
  |some r =>
    rw[hq]at h
    cases r with
    |live v' z' els0=>cases h;exact⟨els0,rfl,.inr rfl⟩
    |dead v'=>cases h
theorem Sim.mapRows {F:Nat→Prop} {L:LMap} {b l:List Row} {w:World} (s:Sim F L (b++l) w) {g:AV→AV} (hg:∀(x:AV) (v:Value),RepA w F L x v→RepA w F L (g x) v) (hc:∀x:AV,x.cell=true→(g x).cell=true) :
  Sim F L (b++l.map (qF g)) w∧∀k,gD L (b++l.map (qF g)) k→gD L (b++l) k:=by
 have own:∀k,gD L (b++l.map (qF g)) k→gD L (b++l) k:=by
  rintro k ⟨i,v,z,e1,q1,h1,h2,h4⟩
  obtain⟨els0,h3,_⟩:=nK h1
  exact⟨i,v,z,els0,q1,h3,h2,h4⟩
 refine⟨⟨fun j v z els hj=>?_,fun i v q hq=>?_,fun i i' v v' z z' e1 e2 bb q1 q2 h1 h2 h3 h4 h5 h6=>?_,fun k hk=>⟨(s.imm k hk).1,fun ho=>(s.imm k hk).2 (own k ho)⟩,s.glob⟩,own⟩
 ·obtain⟨els0,h1,h2⟩:=nK hj
  obtain⟨q,g1,g2⟩:=s.row _ _ _ _ h1
  refine⟨q,g1,?_⟩
  rcases h2 with rfl|rfl
  ·exact g2
  ·cases q with
   |nil=>have g2:els0=[]:=g2;subst g2;rfl
   |pl blk o z1 c =>
     obtain⟨q1,q2,q3,cur,T,q4,q5,q6,q7⟩:=g2
     refine⟨q1,by simpa using q2,q3,cur,T,q4,q5,fun k row hk=>?_,fun k row jj c hk hjj=>?_⟩
     ·rw[ai]at hk
      cases hr:els0[k]? with
      |none=>rw[hr]at hk;cases hk
      |some r0=>rw[hr]at hk;cases hk;simpa using q6 k r0 hr
     ·rw[ai]at hk
      cases hr:els0[k]? with
      |none=>rw[hr]at hk;cases hk
      |some r0 =>
        rw[hr]at hk;cases hk
        rw[ai]at hjj
        cases hx:r0[jj]? with
        |none=>rw[hx]at hjj;cases hjj
        |some x =>
          rw[hx]at hjj;cases hjj
          obtain⟨t1,u,t2,t3⟩:=q7 k r0 jj x hr hx
          exact⟨hc x t1,u,t2,hg x u t3⟩
   |mp blk =>
     obtain⟨es,clk,q4,q5,q6⟩:=g2
     refine⟨es,clk,q4,by simpa using q5,fun k row e1 hk he=>?_⟩
     rw[ai]at hk
     cases hr:els0[k]? with
     |none=>rw[hr]at hk;cases hk
     |some r0 =>
       rw[hr]at hk;cases hk
       obtain⟨x1,y1,rfl,t2,t3⟩:=q6 k r0 e1 hr he
       exact⟨g x1,g y1,rfl,hg _ _ t2,hg _ _ t3⟩
 ·obtain⟨r,h1,h2⟩:=s.born i v q hq
  by_cases hj:i<b.length
  ·rw[aw hj]at h1⊢;exact⟨r,h1,h2⟩
  ·rw[au oM]at h1⊢
   rw[ai,h1]
   refine⟨_,rfl,?_⟩
   cases r<;>exact h2
 ·obtain⟨_,k1,_⟩:=nK h1
  obtain⟨_,k2,_⟩:=nK h2
  exact s.apart i i' v v' z z' _ _ bb q1 q2 k1 k2 h3 h4 h5 h6

theorem FU {id ver sz:Nat} {rows:List (List IV)} (x:AV) (h:x.cell=true):(QF id ver sz rows x).cell=true:=by
 cases x<;>first|exact h|skip
 simp only[QF]
 split<;>rfl

theorem KA.freezeAll {i ver sz:Nat} {rows:List (List IV)} (hi:l[i]? = some (.live ver sz (vs rows))) :
  KA e b l (e.map (frz (b.length+i) ver sz rows)) b ((l.set i (.dead ver)).map (qF (QF (b.length+i) ver sz rows))):=by
 intro F L w a s VT
 obtain⟨F',h1,h2,h3,h4⟩:=ZI hi F L w a s VT
 obtain⟨s2,own⟩:=h1.mapRows h4 (fun x hx=>FU x hx)
 refine⟨F',L,s2,h2,⟨h3.imm,h3.loc,h3.os,h3.tape,h3.output,h3.size,h3.block,fun k hk ho=>h3.own k hk (own k ho),fun id hid v hv=>?_,h3.fnew⟩,rfl⟩
 have:=h3.base id hid v hv
 rw[aw hid]at this⊢
 exact this

theorem KA.round {l1 junk:List Row} (hf:Fgt e e') (hl:l=l1++junk) (he:∀x∈e',AVlt (b.length+l1.length) x) (hb:YB b.length b) (h1:YB (b.length+l1.length) l1):KA e b l e' b l1:=
 (KA.forget hf).trans (KA.trim hl he (hb.mono oM) h1)

def ZG6 {ι:Type} (E:ι→List AV) (B L:ι→List Row) (Cd:ι→Prop) (μ:ι→Nat) (i:ι):List AV→List Row→List Row→Prop:=
 fun e b l=>∃i',Cd i'∧μ i'<μ i∧KA e b l (E i') (B i') (L i')

theorem II {P:Program} {c:ACode} {Q:AExit→List AV→List Row→List Row→Prop} {ι:Type} (E:ι→List AV) (B L:ι→List Row) (Cd:ι→Prop) (μ:ι→Nat) (i0:ι) (h0:Cd i0) (hw:KA e b l (E i0) (B i0) (L i0))
  (step:∀i,Cd i→run (ZA P) KA c (E i) (B i) (L i) (OT (ZG6 E B L Cd μ i) Q)):run (ZA P) KA (.loop c) e b l Q:=by
 refine⟨fun e b l m=>∃i,Cd i∧μ i=m∧e=E i∧b=B i∧l=L i,⟨E i0,B i0,L i0,μ i0,hw,i0,h0,rfl,rfl,rfl,rfl⟩,?_⟩
 rintro e b l m ⟨i,hi,rfl,rfl,rfl,rfl⟩
 refine qP AC (step i hi) ?_
 intro ex e b l h
 cases ex with
 |normal =>
   obtain⟨i',h1,h2,h3⟩:=h
   exact⟨E i',B i',L i',μ i',h3,⟨i',h1,rfl,rfl,rfl,rfl⟩,h2⟩
 |exit j=>exact h
 |ret=>exact h

theorem IP {rs:List ARes} {Q:AV→List Row→List Row→Prop} {B:List Row} {ex:AExit} (hex:ex=.normal∨ex=.ret) {xs:List AV} (hx:resVs e B l rs=some xs) {y:AV} {l':List Row} (hw:KA [one xs] B l [y] B l') {b0 l0:List Row} (hB:B=b0++l0) (hq:Q y b0 (l0++l')) :
  KH rs Q b0.length ex e B l:=by
 refine⟨hex,xs,hx,y,B,l',hw,?_⟩
 subst hB
 simpa using hq

theorem wC {rs:List ARes} {Q:AV→List Row→List Row→Prop} {B:List Row} {ex:AExit} (hex:ex=.normal∨ex=.ret) {xs:List AV} (hx:resVs e B l rs=some xs) (bB:AVlt B.length (one xs)) (hR:YB B.length B) {b0 l0:List Row} (hB:B=b0++l0) (hq:Q (one xs) b0 l0) :
  KH rs Q b0.length ex e B l:=
 IP hex hx (KA.trim (l1:=[]) rfl (by simpa using bB) (by simpa using hR) wE) hB (by simpa using hq)

theorem UQ {e : List AV} {l : List Row} {rs : List ARes} {Q : AV → List Row → List Row → Prop} {B : List Row} {ex : AExit} {xs : List AV} {b0 l0 : List Row} (bB : AVlt B.length (one xs)) (hR : YB B.length B) (hB : B = b0 ++ l0) (hq : Q (one xs) b0 l0)
    (hx:resVs e B l rs=some xs:=by first|simp (disch:=first|decide|omega) only[resVs,resV,go_sem,hA,aC,NI,IQ]|simp (disch:=first|decide|omega) only[resVs,resV,go_sem,hA,aC,NI]|simp (disch:=first|decide|omega) only[resVs,resV,go_sem,hA,aC]|simp (disch:=first|decide|omega) only[resVs,resV,go_sem,hA])
    (hex:ex=.normal∨ex=.ret:=by first|exact .inr rfl|exact .inl rfl):KH rs Q b0.length ex e B l:=wC hex hx bB hR hB hq
theorem iM {id ver sz n:Nat} {rows:List (List IV)} (hn:n=rows.length):QF id ver sz rows (.sl id ver 0 n)=.v (.isl sz rows):=by
 subst hn
 simp[QF]

theorem nM {rs:List ARes} {Q:AV→List Row→List Row→Prop} {B:List Row} {ex:AExit} (hex:ex=.normal∨ex=.ret) {i ver sz n:Nat} {rows:List (List IV)} (hx:resVs e B l rs=some [.sl (B.length+i) ver 0 n]) (hi:l[i]? = some (.live ver sz (vs rows))) (hn:n=rows.length)
  (hR:YB B.length B) {b0 l0:List Row} (hB:B=b0++l0) (hq:Q (.v (.isl sz rows)) b0 l0):KH rs Q b0.length ex e B l:=by
 refine IP hex hx (y:=.v (.isl sz rows)) ((KA.freeze (i:=i) (rows:=rows) hi).trans ?_) (l':=[]) hB (by simpa using hq)
 have h1:List.map (frz (B.length+i) ver sz rows) [one [AV.sl (B.length+i) ver 0 n]]=[.v (.isl sz rows)]:=by
  simp only[ba,bl,one,frz,iM hn]
 rw[h1]
 exact KA.trim (l1:=[]) rfl (by intro x hx;simp at hx;subst hx;exact .v _) (by simpa using hR) wE

theorem Z2 {rs:List ARes} {Q:AV→List Row→List Row→Prop} {B:List Row} {ex:AExit} (hex:ex=.normal∨ex=.ret) {i ver sz n:Nat} {rows:List (List IV)} {z:IV} (hx:resVs e B l rs=some [.sl (B.length+i) ver 0 n,.v z]) (hi:l[i]? = some (.live ver sz (vs rows))) (hn:n=rows.length)
  (hR:YB B.length B) {b0 l0:List Row} (hB:B=b0++l0) (hq:Q (.tup [.v (.isl sz rows),.v z]) b0 l0):KH rs Q b0.length ex e B l:=by
 refine IP hex hx (y:=.tup [.v (.isl sz rows),.v z]) ((KA.freeze (i:=i) (rows:=rows) hi).trans ?_) (l':=[]) hB (by simpa using hq)
 have h1:List.map (frz (B.length+i) ver sz rows) [one [AV.sl (B.length+i) ver 0 n,.v z]]=[.tup [.v (.isl sz rows),.v z]]:=by
  subst hn
  simp[one,frz,QF]
 rw[h1]
 refine KA.trim (l1:=[]) rfl (by intro x hx;simp at hx;subst hx;exact .tup _ (by intro c hc;simp at hc;rcases hc with rfl|rfl<;>exact .v _)) (by simpa using hR) wE
end
def lts:=PLift.up <| And.intro @JX <| And.intro @ZCu <| And.intro @nR <| And.intro @ZCt <| And.intro @ZFk <| And.intro @ZCv <| And.intro @ZCs <| And.intro @ZFl <| And.intro @wE <| And.intro @TE <| And.intro @iY <| And.intro @List.mem_cons.{0} <| And.intro @List.not_mem_nil.{0} <| And.intro @List.forall_mem_cons.{0} <| And.intro @List.forall_mem_nil.{0} <| And.intro @or_false <| And.intro @false_or <| And.intro @forall_eq_or_imp.{1} <| And.intro @forall_eq.{1} <| And.intro @YL <| And.intro @Nat.add_lt_add_iff_left <| And.intro @true_and <| And.intro @and_true <| And.intro @and_self <| And.intro @List.length_cons.{0} <| And.intro @List.length_nil.{0} <| And.intro @br <| And.intro @implies_true.{1} <| And.intro @false_imp_iff <| And.intro @nH <| @List.mem_map.{0,0}
theorem kL {p:Prop} (h:p:=by simp (disch:=omega) only[lts.down,Nat.reduceLT,Nat.reduceAdd]):p:=h
theorem kO {p:Prop} (h:p:=by simp only[one,lts.down,Nat.reduceLT,Nat.reduceAdd]):p:=h
theorem QA {e:List AV} {l:List Row} {rs:List ARes} {Q:AV→List Row→List Row→Prop} {B:List Row} {ex:AExit} {xs:List AV} {b0 l0:List Row} (hq:Q (one xs) b0 l0:=by exact⟨rfl,rfl,rfl⟩) (hx:resVs e B l rs=some xs:=by exact kR) (bB:AVlt B.length (one xs):=by exact kO) (hR:YB B.length B:=by assumption) (hB:B=b0++l0:=by assumption) (hex:ex=.normal∨ex=.ret:=by first|exact .inr rfl|exact .inl rfl):KH rs Q b0.length ex e B l:=wC hex hx bB hR hB hq
theorem kN {p:Prop} (h:p:=by simp only[lts.down,Nat.reduceLT,Nat.reduceAdd]):p:=h

def iV:List Bool→List AV→List AV
 |true::m,_::l=>.any::iV m l
 |false::m,a::l=>a::iV m l
 |_,l=>l
theorem tI {m:List Bool} {a:AV} {l:List AV}:iV (true::m) (a::l)=.any::iV m l:=nr rfl
theorem nI {m:List Bool} {a:AV} {l:List AV}:iV (false::m) (a::l)=a::iV m l:=nr rfl
theorem lF {l:List AV}:iV [] l=l:=by cases l<;>rfl
def ovr:List (Nat×AV)→List AV→List AV
 |[],e=>e
 |(n,x)::r,e=>ovr r (upd e n x)
theorem AG {e:List AV}:ovr [] e=e:=nr rfl
theorem pF {n:Nat} {x:AV} {r:List (Nat×AV)} {e:List AV}:ovr ((n,x)::r) e=ovr r (upd e n x):=nr rfl

theorem sP {P:Program} {c:ACode} {Q:AExit→List AV→List Row→List Row→Prop} {e:List AV} {b l:List Row} {ι:Type} (m:List Bool) (ov:ι→List (Nat×AV)) (L:ι→List Row) (Cd:ι→Prop) (μ:ι→Nat) (i0:ι) (h0:Cd i0)
  (hw:KA e b l (ovr (ov i0) (iV m e)) b (L i0))
  (step:∀i,Cd i→run (ZA P) KA c (ovr (ov i) (iV m e)) b (L i) (OT (ZG6 (fun i=>ovr (ov i) (iV m e)) (fun _=>b) L Cd μ i) Q)):run (ZA P) KA (.loop c) e b l Q:=
 II (fun i=>ovr (ov i) (iV m e)) (fun _=>b) L Cd μ i0 h0 hw step

def kOf (N:Nat) (f:Nat→AV):List AV:=(List.range N).map f
def kUp (f:Nat→AV) (n:Nat) (x:AV):Nat→AV:=fun m=>if n=m then x else f m
theorem OC {f:Nat→AV} {n:Nat} {x:AV}:kUp f n x n=x:=by unfold kUp;rw[if_pos rfl]
theorem VD {f:Nat→AV} {n m:Nat} {x:AV} (h:n≠m):kUp f n x m=f m:=by unfold kUp;rw[if_neg h]
theorem TI {N:Nat} {f:Nat→AV}:(kOf N f).length=N:=by simp[kOf]
theorem rF {N:Nat} {f:Nat→AV} {i:Nat}:(kOf N f)[i]? = if i<N then some (f i) else none:=by
 unfold kOf
 rw[ai]
 split
 ·rename_i h;rw[jv h];rfl
 ·rename_i h;rw[ce kT];rfl
theorem qE {N:Nat} {f:Nat→AV} {m:Nat} (h:m<N):nth (kOf N f) m=f m:=by
 rw[LN,rF,if_pos h];rfl
theorem JE {N:Nat} {f:Nat→AV} {n:Nat} {x:AV}:put (kOf N f) (some n) x=kOf N (kUp f n x):=by
 apply ek
 intro i
 rw[rD,IJ,rF]
 by_cases hi:n=i
 ·subst hi
  rw[jp,TI]
  simp only[if_true]
  split
  ·rw[OC]
  ·rfl
 ·rw[bq hi,rF,VD hi]
theorem uE {N:Nat} {f:Nat→AV} {x:AV}:put (kOf N f) none x=kOf N f:=nr rfl

def kIn:List (Nat×Nat)→Nat→Bool
 |[],_=>false
 |(a,c)::r,n=>(Nat.ble a n&&Nat.ble n c)||kIn r n
def xG (p:List (Nat×Nat)) (f:Nat→AV):Nat→AV:=fun m=>if kIn p m=true then .any else f m
theorem kAny_up {p:List (Nat×Nat)} {f:Nat→AV} {n:Nat} {x:AV} (h:kIn p n=true):xG p (kUp f n x)=xG p f:=by
 funext m
 unfold xG kUp
 by_cases hn:n=m
 ·subst hn;rw[if_pos h,if_pos h]
 ·rw[if_neg hn]
theorem MU {p:List (Nat×Nat)} {f:Nat→AV}:xG p (xG p f)=xG p f:=by
 funext m;unfold xG;split<;>rfl
theorem NS {p:List (Nat×Nat)} {f:Nat→AV} {n:Nat} (h:kIn p n=false):xG p f n=f n:=by unfold xG;rw[h];simp

def bG (f:Nat→AV):List (Nat×AV)→Prop
 |[]=>True
 |(n,x)::r=>f n=x∧bG f r
def kOv:List (Nat×AV)→(Nat→AV)→Nat→AV
 |[],f=>f
 |(n,x)::r,f=>kUp (kOv r f) n x
theorem vE {f:Nat→AV}:kOv [] f=f:=nr rfl
theorem mC {n:Nat} {x:AV} {r:List (Nat×AV)} {f:Nat→AV}:kOv ((n,x)::r) f=kUp (kOv r f) n x:=nr rfl
def KLt (m:Nat) (f:Nat→AV):Prop:=∀i,AVlt m (f i)
theorem KLt.up {m n:Nat} {f:Nat→AV} {x:AV} (h:KLt m f) (hx:AVlt m x):KLt m (kUp f n x):=by
 intro i;unfold kUp;split
 ·exact hx
 ·exact h i
theorem KLt.mono {m m':Nat} {f:Nat→AV} (h:KLt m f) (hm:m≤m'):KLt m' f:=fun i=>(h i).mono hm
theorem KLt.any {m:Nat} {p:List (Nat×Nat)} {f:Nat→AV} (h:KLt m f):KLt m (xG p f):=by
 intro i;unfold xG;split
 ·exact .any
 ·exact h i
def KM (m:Nat):List (Nat×AV)→Prop
 |[]=>True
 |(_,x)::r=>AVlt m x∧KM m r
theorem KLt.ov {m:Nat} {f:Nat→AV} (h:KLt m f):∀{ov:List (Nat×AV)},KM m ov→KLt m (kOv ov f)
 |[],_=>h
 |(n,x)::r,ho=>by rw[mC];exact KLt.up (KLt.ov h ho.2) ho.1
theorem KLt.env {m N:Nat} {f:Nat→AV} (h:KLt m f):∀x∈kOf N f,AVlt m x:=by
 intro x hx
 unfold kOf at hx
 obtain⟨i,_,rfl⟩:=de.1 hx
 exact h i

theorem kOv_get {f:Nat→AV} {i:Nat}:∀{ov:List (Nat×AV)},kOv ov f i=f i∨(i,kOv ov f i)∈ov
 |[]=>.inl rfl
 |(n,x)::r=>by
   rw[mC]
   by_cases hi:n=i
   ·subst hi;rw[OC];exact .inr kS
   ·rw[VD hi];exact (kOv_get (ov:=r)).imp id (fun h=>by simp[h])
theorem bG.mem {f:Nat→AV} {n:Nat} {x:AV}:∀{ov:List (Nat×AV)},bG f ov→(n,x)∈ov→f n=x
 |[],_,h=>by simp at h
 |(m,y)::r,hh,h=>by
   rcases dx.1 h with h|h
   ·cases h;exact hh.1
   ·exact bG.mem hh.2 h
theorem KA.named {N:Nat} {f:Nat→AV} {b l:List Row} (p:List (Nat×Nat)) (ov:List (Nat×AV)) (h:bG f ov):KA (kOf N f) b l (kOf N (kOv ov (xG p f))) b l:=by
 intro F L w a s he
 refine⟨F,L,s,⟨he.1,by rw[he.2.1,TI,TI],fun i x v hx hv=>?_⟩,Step.refl _ _ _ _ _,rfl⟩
 rw[rF]at hx
 split at hx
 ·rename_i hi
  cases hx
  rcases kOv_get (ov:=ov) (f:=xG p f) (i:=i) with hg|hg
  ·rw[hg]
   unfold xG
   split
   ·exact .any v
   ·exact he.2.2 i _ v (by rw[rF,if_pos hi]) hv
  ·rw[←h.mem hg]
   exact he.2.2 i _ v (by rw[rF,if_pos hi]) hv
 ·cases hx

def Q6 {ι:Type} (N:Nat) (g:Nat→AV) (ov:ι→List (Nat×AV)) (B:List Row) (L:ι→List Row) (Cd:ι→Prop) (μ:ι→Nat) (i:ι):List AV→List Row→List Row→Prop:=
 fun e b l=>∃i',Cd i'∧μ i'<μ i∧KA e b l (kOf N (kOv (ov i') g)) B (L i')

theorem ZB {P:Program} {c:ACode} {Q:AExit→List AV→List Row→List Row→Prop} {N:Nat} {f:Nat→AV} {b l:List Row} {ι:Type} (p:List (Nat×Nat)) (ov:ι→List (Nat×AV)) (k:Nat) (L:ι→List Row) (Cd:ι→Prop) (μ:ι→Nat) (i0:ι) (h0:Cd i0)
  (bB:KLt (b.length+k) f) (hov:bG f (ov i0)) (hw:∀e,KA e b l e b (L i0))
  (step:∀g,KLt (b.length+k) g→xG p g=g→(∀n,kIn p n=false→g n=f n)→∀i,Cd i→run (ZA P) KA c (kOf N (kOv (ov i) g)) b (L i) (OT (Q6 N g ov b L Cd μ i) Q)):run (ZA P) KA (.loop c) (kOf N f) b l Q:=
 II (fun i=>kOf N (kOv (ov i) (xG p f))) (fun _=>b) L Cd μ i0 h0 ((KA.named p _ hov).trans (hw _))
  (step (xG p f) bB.any MU (fun _ h=>NS h))

theorem KA.kround {N:Nat} {p:List (Nat×Nat)} {ov:List (Nat×AV)} {f g:Nat→AV} {b l l1 junk:List Row} {k:Nat} (he:xG p f=g) (h:bG f ov) (hl:l=l1++junk) (hE:KLt (b.length+k) g) (hk:k≤l1.length) (ho:KM (b.length+l1.length) ov) (hb:YB b.length b) (h1:YB (b.length+l1.length) l1) :
  KA (kOf N f) b l (kOf N (kOv ov g)) b l1:=by
 subst he
 exact (KA.named p ov h).trans (KA.trim hl (((hE.mono oM).ov ho).env) (hb.mono oM) h1)

def EA (f:Nat→AV):Nat→List AV→Prop
 |_,[]=>True
 |i,a::r=>f i=a∧EA f (i+1) r
theorem zZ {args:List AV}:∀{r pre:List AV},args=pre++r→EA (fun i=>args.getD i (.tup [])) pre.length r
 |[],_,_=>trivial
 |a::r,pre,h=>by
   refine⟨?_,?_⟩
   ·simp only[h,aq];rw[au (ah _)];simp
   ·have:=zZ (args:=args) (r:=r) (pre:=pre++[a]) (by rw[h];simp)
    simpa using this
theorem XA {P:Program} {f:Nat} {af:AFunc} (hf:CA P f=some af) {args:List AV} (ha:args.length=af.nargs) (hn:af.nargs≤af.ntmps) {b l:List Row} {Q:AV→List Row→List Row→Prop}
  (h:∀B g,B=b++l→YB B.length B→KLt B.length g→EA g 0 args→run (ZA P) KA af.body (kOf af.ntmps g) B [] (KH af.res Q b.length)):ZA P f args b l Q:=by
 refine YJ hf ha (fun B hB hR hA=>?_)
 have:=h B (fun i=>args.getD i (.tup [])) hB hR ?_ (zZ (pre:=[]) rfl)
 ·have e:kOf af.ntmps (fun i=>args.getD i (.tup []))=args++List.replicate (af.ntmps-args.length) (.tup []):=by
   apply ek
   intro i
   rw[rF]
   by_cases hi:i<args.length
   ·rw[if_pos oM,aw hi,aq,ae hi];rfl
   ·rw[au oM,jl,aq,ce oM]
    by_cases h2:i<af.ntmps
    ·rw[if_pos h2,if_pos oM];rfl
    ·rw[if_neg h2,if_neg oM]
  rw[←e];exact this
 ·intro i
  simp only[aq]
  cases hq:args[i]? with
  |none=>exact .tup _ kS
  |some x=>exact hA x (cd hq)
theorem kAny_sub {p q:List (Nat×Nat)} {g f:Nat→AV} (hg:∀n,kIn q n=false→g n=f n) (hs:∀n,kIn q n=true→kIn p n=true):xG p g=xG p f:=by
 funext m
 unfold xG
 cases hq:kIn q m with
 |true=>rw[hs m hq];simp
 |false=>rw[hg m hq]
theorem i7 {p:List (Nat×Nat)} {a c n:Nat}:∀{p:List (Nat×Nat)},p.any (fun y=>Nat.ble y.1 a&&Nat.ble c y.2)=true→a≤n→n≤c→kIn p n=true
 |[],h,_,_=>by simp at h
 |(x,y)::r,h,h1,h2=>by
   simp only[List.any_cons,iy,ar,Nat.ble_eq]at h
   simp only[kIn,iy,ar,Nat.ble_eq]
   rcases h with h|h
   ·exact .inl ⟨by omega,by omega⟩
   ·exact .inr (i7 (p:=p) h h1 h2)
theorem kIn_sub {p:List (Nat×Nat)}:∀{q:List (Nat×Nat)},q.all (fun x=>p.any (fun y=>Nat.ble y.1 x.1&&Nat.ble x.2 y.2))=true→∀n,kIn q n=true→kIn p n=true
 |[],_,n,hn=>by simp[kIn]at hn
 |(a,c)::r,h,n,hn=>by
   simp only[ea,ar]at h
   simp only[kIn,iy,ar,Nat.ble_eq]at hn
   rcases hn with hn|hn
   ·exact i7 (p:=p) h.1 hn.1 hn.2
   ·exact kIn_sub h.2 n hn
theorem kV {p:Prop} (h:p:=by simp (disch:=omega) only[KM,lts.down,Nat.reduceLT,Nat.reduceAdd]):p:=h
theorem ZFU {N:Nat} {f:Nat→AV} {n:Nat} {x:AV}:upd (kOf N f) n x=kOf N (kUp f n x):=JE (n:=n)
theorem KA.knil {N:Nat} {f:Nat→AV} {b l:List Row} (s sz:Nat) (hs:f s=.v .zsl) (hN:s<N):KA (kOf N f) b l (kOf N (kUp f s (.sl (b.length+l.length) 0 0 0))) b (l++[.live 0 sz []]):=by
 have:=KA.nilrow (e:=kOf N f) (b:=b) (l:=l) (k:=s) (sz:=sz) (by rw[qE hN,hs]) (by rw[TI];exact hN)
 rwa [ZFU]at this
theorem aL {P:Program} {c:ACode} {Q:AExit→List AV→List Row→List Row→Prop} {N:Nat} {f f':Nat→AV} {b l l':List Row} {ι:Type} (p:List (Nat×Nat)) (ov:ι→List (Nat×AV)) (k:Nat) (L:ι→List Row) (Cd:ι→Prop) (μ:ι→Nat) (i0:ι) (h0:Cd i0)
  (JW:KA (kOf N f) b l (kOf N f') b l') (bB:KLt (b.length+k) f') (hov:bG f' (ov i0)) (hw:∀e,KA e b l' e b (L i0))
  (step:∀g,KLt (b.length+k) g→xG p g=g→(∀n,kIn p n=false→g n=f' n)→∀i,Cd i→run (ZA P) KA c (kOf N (kOv (ov i) g)) b (L i) (OT (Q6 N g ov b L Cd μ i) Q)):run (ZA P) KA (.loop c) (kOf N f) b l Q:=
 II (fun i=>kOf N (kOv (ov i) (xG p f'))) (fun _=>b) L Cd μ i0 h0 (JW.trans ((KA.named p _ hov).trans (hw _)))
  (step (xG p f') bB.any MU (fun _ h=>NS h))
theorem GH {P:Program} {c:ACode} {Q:AExit→List AV→List Row→List Row→Prop} {N:Nat} {f:Nat→AV} {b l:List Row} {ι:Type} (s sz:Nat) (p:List (Nat×Nat)) (ov:ι→List (Nat×AV)) (k:Nat) (L:ι→List Row) (Cd:ι→Prop) (μ:ι→Nat) (i0:ι) (h0:Cd i0)
  (hs:f s=.v .zsl) (hN:s<N) (hp:kIn p s=true) (bB:KLt (b.length+k) (kUp f s (.sl (b.length+l.length) 0 0 0))) (hov:bG (kUp f s (.sl (b.length+l.length) 0 0 0)) (ov i0)) (hw:∀e,KA e b (l++[.live 0 sz []]) e b (L i0))
  (step:∀g,KLt (b.length+k) g→xG p g=g→(∀n,kIn p n=false→g n=f n)→∀i,Cd i→run (ZA P) KA c (kOf N (kOv (ov i) g)) b (L i) (OT (Q6 N g ov b L Cd μ i) Q)):run (ZA P) KA (.loop c) (kOf N f) b l Q:=
 aL p ov k L Cd μ i0 h0 (KA.knil s sz hs hN) bB hov hw (fun g h1 h2 h3=>step g h1 h2 (fun n hn=>by
  rw[h3 n hn,VD]
  intro e;subst e;rw[hp]at hn;cases hn))
theorem ZA.nxt {P:Program} {f:Nat} {args:List AV} {b l B' L':List Row} {x:AV} {K:AV→List Row→List Row→Prop} (h:ZA P f args b l (fun r b' l'=>r=x∧b'=B'∧l'=L')) (k:K x B' L'):ZA P f args b l K:=by
 refine AC _ _ _ _ _ _ h ?_
 rintro r b' l' ⟨rfl,rfl,rfl⟩
 exact k
theorem ZA.frzA {P:Program} {f i ver sz:Nat} {args:List AV} {rows:List (List IV)} {b l:List Row} {Q:AV→List Row→List Row→Prop} (hi:l[i]? = some (.live ver sz (vs rows))) (h:ZA P f (args.map (frz (b.length+i) ver sz rows)) b (l.set i (.dead ver)) Q):ZA P f args b l Q:=by
 refine⟨h.1,fun F L w us s hr=>?_⟩
 obtain⟨F',s1,iH,st1,_⟩:=ZI (e:=args) hi F L w {tmps:=us,defers:=[]} s ⟨rfl,by have:=hr.1;simpa using this.symm,fun j x v hx hv=>hr.2 j x v hx (by simpa using hv)⟩
 refine Calls.mono (h.2 F' L w us s1 ⟨by have:=hr.1;simpa using this,fun j x v hx hv=>iH.2.2 j x v hx (by simpa using hv)⟩) ?_
 rintro en w' ⟨v,x,b',l',F2,L2,h1,h2,h3,h4,h5,h6⟩
 have jD:(b++l.set i (.dead ver)).length=(b++l).length:=by simp
 have st:Step (b++l).length F L (b++l) w F' L (b++l.set i (.dead ver)) w:=by
  refine⟨st1.imm,fun _ _ _ _ hl=>hl,rfl,rfl,rfl,ah _,fun _ _ _=>rfl,st1.own,fun id hid v hv=>?_,st1.fnew⟩
  by_cases hj:id<b.length
  ·rw[aw hj]at hv⊢;exact hv
  ·rw[au oM]at hv⊢
   by_cases PI:i=id-b.length
   ·rw[←PI,hi]at hv;cases hv
   ·rw[bq PI];exact hv
 exact⟨v,x,b',l',F2,L2,h1,h2,h3,st.trans (jD▸h4),h5,h6⟩

theorem ZA.frzB {P:Program} {f i ver sz:Nat} {args args':List AV} {rows:List (List IV)} {b l:List Row} {Q:AV→List Row→List Row→Prop} (hi:l[i]? = some (.live ver sz (vs rows))) (ha:args.map (frz (b.length+i) ver sz rows)=args') (h:ZA P f args' b (l.set i (.dead ver)) Q):ZA P f args b l Q:=by
 subst ha
 exact ZA.frzA hi h

def ltB (m:Nat):Nat→AV→Bool
 |0,_=>false
 |n+1,x=>match x with
   |.any=>true
   |.v _=>true
   |.agg cs=>cs.all (ltB m n)
   |.tup cs=>cs.all (ltB m n)
   |.sl id _ _ _=>decide (id<m)
   |.ptr id _ _ _=>decide (id<m)
   |.fn _ cs=>cs.all (ltB m n)
   |.mp id _=>decide (id<m)
inductive XV where
 |bad
 |ok (y:AV) (b l:List Row) (t:Bool)

def unV:AV→Option IV
 |.v x=>some x
 |_=>none
def mapO {α β:Type} (f:α→Option β):List α→Option (List β)
 |[]=>some []
 |a::az=>match f a,mapO f az with
   |some x,some xs=>some (x::xs)
   |_,_=>none
def deep (g:AV→AV):Nat→AV→AV
 |0,x=>x
 |n+1,x=>match x with
   |.agg cs=>.agg (cs.map (deep g n))
   |.tup cs=>.tup (cs.map (deep g n))
   |x=>g x
def xR (nb:Nat):List Nat→AV→List Row→AV×List Row
 |[],y,l=>(y,l)
 |i::is,y,l=>match l[i]? with
   |some (.live ver sz els)=>match mapO (mapO unV) els with
     |some rows=>xR nb is (deep (QF (nb+i) ver sz rows) 6 y) ((l.set i (.dead ver)).map (qF (QF (nb+i) ver sz rows)))
     |none=>xR nb is y l
   |_=>xR nb is y l
def ZDg {α:Type}:Nat→List α→List α
 |0,_=>[]
 |n+1,l=>l++ZDg n l

def fin (z:Nat) (b l:List Row) (y:AV) (B l':List Row) (t:Bool):XV:=
 let p:=xR (b.length+l.length) (ZDg z (List.range l'.length).reverse) y l'
 if t=false∧ltB (b.length+l.length) 20 p.1=true then .ok p.1 b l false
 else if B.length=b.length+l.length then .ok p.1 (B.take b.length) (B.drop b.length++p.2) t else .bad

section
variable (T:Nat→Option AFunc) (O:Nat→List AV→Option AV) (Z:Nat→Nat)
end

section
variable {P:Program} {T:Nat→Option AFunc} {O:Nat→List AV→Option AV} {Z:Nat→Nat}

end

def fl {α:Type} (n:Nat) (f:Nat→α):List α:=(List.range n).map f
section
variable {α β:Type}
theorem fC {n:Nat} {f:Nat→α}:(fl n f).length=n:=by simp[fl]
theorem IF {n:Nat} {f:Nat→α} {i:Nat} (h:i<n):(fl n f)[i]? = some (f i):=by
 unfold fl;rw[ai,jv h];rfl
theorem CK {n:Nat} {f:Nat→α} {i:Nat} (h:n≤i):(fl n f)[i]? = none:=by
 rw[ce];rw[fC];exact h
theorem ZCX {n:Nat} {f g:Nat→α} (h:∀i,i<n→f i=g i):fl n f=fl n g:=by
 unfold fl
 refine jx (fun i hi=>h i (bc.1 hi))
theorem ZDW {n:Nat} {f:Nat→α} {g:α→β}:(fl n f).map g=fl n (fun i=>g (f i)):=by simp[fl]
theorem ZF4 {l:List α} {d:α}:fl l.length (fun i=>l.getD i d)=l:=by
 apply ek
 intro j
 by_cases hj:j<l.length
 ·rw[IF hj,aq,ae hj];rfl
 ·rw[CK oM,ce oM]
theorem D7 {n i:Nat} {f:Nat→α} {d:α} (h:i<n):(fl n f).getD i d=f i:=by
 rw[aq,IF h];rfl
end

theorem KA.freezeR {e:List AV} {b l:List Row} {i ver sz:Nat} {rows:List (List IV)} (hi:l[i]? = some (.live ver sz (vs rows))) :
  KA e b l (e.map (frz (b.length+i) ver sz rows)) b ((l.set i (.dead ver)).map (qF (QF (b.length+i) ver sz rows))):=by
 intro F L w a s VT
 obtain⟨F',h1,h2,h3,h4⟩:=ZI hi F L w a s VT
 obtain⟨s2,own⟩:=h1.mapRows h4 (fun x hx=>FU x hx)
 refine⟨F',L,s2,h2,⟨h3.imm,h3.loc,h3.os,h3.tape,h3.output,h3.size,h3.block,fun k hk ho=>h3.own k hk (own k ho),fun id hid v hv=>?_,h3.fnew⟩,rfl⟩
 have:=h3.base id hid v hv
 rw[aw hid]at this⊢
 exact this
section
variable {P:Program} {nn:Nat}

theorem UR {f:Nat} {args:Array Value} {w:World} {R:Ending→World→Prop} {m:Nat} (h:Calls P f args w R):CallsIn Fence.wide m P f args w R:=callsIn_wide.2 h
theorem pT {row:String} {args:Array Value} {w:World} {R:Value→World→Prop} {m:Nat} (h:Rows P row args w R):RowsIn Fence.wide m P row args w R:=by
 intro c cs _
 obtain⟨v,w',r,s⟩:=h c cs
 exact⟨v,w',r,(stepsIn_wide.2 s:StepsIn (Machine.fenced P Fence.wide) P _ _)⟩
theorem V9 {o:Oper} {a:Act} {w:World} {next:Act→World→Prop} {Q:Exit→Act→World→Prop} (hd:∀c,o.op≠.defer c) (h:o.wp P a w next Q):o.wpIn Fence.wide nn P a w next Q:=by
 refine⟨fun _ _=>trivial,?_⟩
 rw[Oper.semAt_eq _ _ _ hd]
 unfold Oper.wp at h
 generalize (execOp a.eval o).run P w=r at *
 cases r with
 |ok x w' =>
   cases x<;>simp only[Oper.upon,Oper.uponIn]at h⊢ <;>
    first
     |exact h
     |exact⟨fun hh=>(by cases hh),UR h⟩
     |exact⟨fun hh=>(by cases hh),pT h⟩
     |exact h.elim
 |halt x w'=>cases x<;>simp only[Oper.upon,Oper.uponIn]at h⊢ <;> exact h
theorem jH {ops:Array Oper} {Q:Exit→Act→World→Prop} (hQ:¬LetsOut Q) (hd:∀(i:Nat) (o:Oper),ops[i]? = some o→∀c,o.op≠.defer c):∀{is:List Nat} {a:Act} {w:World},wpOps P ops Q is a w→wpOpsIn Fence.wide nn P ops Q is a w
 |[],a,w,h=>h
 |i::is,a,w,h=>by
   simp only[wpOps]at h
   simp only[wpOpsIn]
   cases ho:ops[i]? with
   |none=>rw[ho]at h;exact jH hQ hd h
   |some o =>
     rw[ho]at h
     simp only at h⊢
     split
     ·rename_i hw
      rw[if_pos hw]at h
      exact Oper.wpIn_mono (fun a w h=>jH hQ hd h) (V9 (hd i o ho) (h.resolve_right (fun hh=>hQ hh.2)))
     ·rename_i hw
      rw[if_neg hw]at h
      exact⟨fun _ _=>trivial,jH hQ hd h⟩
theorem mZ {nb:Nat} {F:Nat→Prop} {L:LMap} {h:List Row} {w:World} {Q:AExit→List AV→List Row→List Row→Prop}:¬LetsOut (Aft nb F L h w Q):=by
 intro hh
 obtain⟨a,w1,ax,_,_,_,_,_,hex,_⟩:=hh
 exact hex
theorem SK {imm:Bool} {ops:Array Oper} {aos:List AOper} (h:AO P imm ops ops.toList=some aos) {i:Nat} {o:Oper} (ho:ops[i]? = some o):∀c,o.op≠.defer c:=by
 intro c hc
 obtain⟨k1,k2⟩:=aO h
 have bB:i<aos.length:=by rw[k1];simpa using (bp.1 ho).1
 obtain⟨o',g1,g2,_⟩:=k2 i aos[i] (ae bB)
 have:o'=o:=by
  have h1:ops[i]? = some o':=by simpa using g1
  rw[ho]at h1;cases h1;rfl
 subst this
 rw[hc]at g2
 simp[uV,cOp]at g2

theorem V3 {imm:Bool} {ops:Array Oper} {n:Nat} {c:ACode} (h:PG P imm n ops=some c):∃aos,AO P imm ops ops.toList=some aos:=by
 have one:∀ds,yO P imm ops=some ds→∃aos,AO P imm ops ops.toList=some aos:=fun ds RN=>by
  unfold yO at RN
  split at RN
  case h_2=>cases RN
  rename_i aos pS
  exact⟨aos,pS⟩
 cases n with
 |zero =>
   obtain⟨ds,RN,_⟩:=map_some h
   exact one ds RN
 |succ n =>
   unfold PG at h
   split at h
   ·rename_i ds RN;exact one ds RN
   ·split at h
    case h_2=>cases h
    rename_i aos pS
    exact⟨aos,pS⟩
theorem M0 {C:CallP} (hC:∀f args b l Q,C f args b l Q→ZA P f args b l Q) (RQ:∀f args b l (Q Q':AV→List Row→List Row→Prop),C f args b l Q→(∀x b' l',Q x b' l'→Q' x b' l')→C f args b l Q'):∀(code:Code) (ac:ACode),DG P code=some ac→∀e b l Q,run C KA ac e b l Q →
  ∀F L w a,Sim F L (b++l) w→PC w F L e a→code.wpIn Fence.wide nn P (Aft b.length F L (b++l) w Q) a w:=by
 intro code
 induction code with
 |skip =>
   intro ac hc e b l Q h F L w a s he
   cases hc
   exact wpIn_skip ⟨.normal,e,b,l,F,L,trivial,s,he,Step.refl _ _ _ _ _,rfl,h⟩
 |region id ops draw =>
   intro ac hc e b l Q h F L w a s he
   cases hc
   cases hc:ZAl P ops draw with
   |none=>rw[hc]at h;exact (uD h).elim
   |some ac =>
   rw[hc]at h
   replace h:run C KA ac e b l Q:=h
   simp only[ZAl]at hc
   cases draw
   case true =>
    simp only[if_true]at hc
    obtain⟨imm,hc⟩:∃imm,PG P imm 6 ops=some ac:=by
     cases hf:PG P false 6 ops with
     |some c=>rw[hf]at hc;cases hc;exact⟨false,hf⟩
     |none=>rw[hf]at hc;exact⟨true,hc⟩
    obtain⟨hm,hp⟩:=AL hC RQ 6 ops ac hc e b l Q h F L w a s he
    obtain⟨aos,pS⟩:=V3 hc
    refine wpIn_region_draw fun t=>?_
    simp only[Region.schedule,hm,kp,if_true]
    exact jH mZ (fun i o ho=>SK pS ho) (hp _ (gR _ _ _))
   simp only[bx,if_false]at hc
   obtain⟨aos,hao,rfl⟩:=map_some hc
   refine wpIn_region (jH mZ (fun i o ho=>SK hao ho) (qT hC ops ops.toList (List.range ops.size) aos hao ?_ e b l h rfl F L w a s he (Step.refl _ _ _ _ _) ?_))
   ·apply ek
    intro i
    simp only[ai]
    by_cases hi:i<ops.size
    ·simp[hi]
    ·simp[hi]
   ·intro e' b' l' F' L' a' w' hq s' he' st hb
    exact⟨.normal,e',b',l',F',L',trivial,s',he',st,hb,hq⟩
 |seq x y ihx ihy =>
   intro ac hc e b l Q h F L w a s he
   simp only[DG]at hc
   split at hc
   case h_2=>cases hc
   rename_i x' y' hx hy
   cases hc
   refine wpIn_seq (wpIn_mono (ihx x' hx e b l _ h F L w a s he) ?_)
   rintro ex a1 w1 ⟨ax,e1,b1,l1,F1,L1,hex,s1,iH,st1,uI,hq⟩
   cases ex<;>cases ax<;>first|exact hex.elim|skip
   ·simp only[Exit.then]
    refine wpIn_mono (ihy y' hy e1 b1 l1 Q hq F1 L1 w1 a1 s1 iH) ?_
    rintro ex2 a2 w2 ⟨ax2,e2,b2,l2,F2,L2,ZER,s2,QI,st2,RO,MN⟩
    exact⟨ax2,e2,b2,l2,F2,L2,ZER,s2,QI,st1.trans (uI▸st2),RO.trans uI,MN⟩
   ·exact⟨_,e1,b1,l1,F1,L1,hex,s1,iH,st1,uI,hq⟩
   ·exact⟨_,e1,b1,l1,F1,L1,hex,s1,iH,st1,uI,hq⟩
 |cond c x y ihx ihy =>
   intro ac hc e b l Q h F L w a s he
   simp only[DG]at hc
   split at hc
   case h_2=>cases hc
   rename_i c' x' y' SQ hx hy
   cases hc
   simp only[run]at h
   have hr:=jB he SQ
   generalize ev e c'=q at *
   split at h
   case h_2=>exact h.elim
   rename_i t
   refine wpIn_cond (dL hr) ?_
   cases t
   ·simp only[bx,if_false]at h⊢
    exact ihy y' hy e b l Q h F L w a s he
   ·simp only[if_true]at h⊢
    exact ihx x' hx e b l Q h F L w a s he
 |block id c ih =>
   intro ac hc e b l Q h F L w a s he
   simp only[DG]at hc
   obtain⟨c',SQ,rfl⟩:=map_some hc
   refine wpIn_block (wpIn_mono (ih c' SQ e b l _ h F L w a s he) ?_)
   rintro ex a1 w1 ⟨ax,e1,b1,l1,F1,L1,hex,s1,iH,st1,uI,hq⟩
   cases ex<;>cases ax<;>first|exact hex.elim|skip
   ·exact⟨.normal,e1,b1,l1,F1,L1,trivial,s1,iH,st1,uI,hq⟩
   ·rename_i i j
    have hij:i=j:=hex
    subst hij
    simp only[Exit.inBlock]
    simp only[yX]at hq
    split
    ·rename_i hi;rw[if_pos hi]at hq;exact⟨.normal,e1,b1,l1,F1,L1,trivial,s1,iH,st1,uI,hq⟩
    ·rename_i hi;rw[if_neg hi]at hq;exact⟨.exit i,e1,b1,l1,F1,L1,rfl,s1,iH,st1,uI,hq⟩
   ·exact⟨.ret,e1,b1,l1,F1,L1,trivial,s1,iH,st1,uI,hq⟩
 |loop c ih =>
   intro ac hc e b l Q h F L w a s he
   simp only[DG]at hc
   obtain⟨c',SQ,rfl⟩:=map_some hc
   obtain⟨I,⟨e0,b0,l0,m0,JW,hI0⟩,tT⟩:=h
   obtain⟨F0,L0,s0,he0,st0,hb0⟩:=JW F L w a s he
   refine wpIn_loop_ghost (fun n a1 w1=>∃e1 b1 l1 F1 L1,Sim F1 L1 (b1++l1) w1∧PC w1 F1 L1 e1 a1∧Step b.length F L (b++l) w F1 L1 (b1++l1) w1∧b1.length=b.length∧I e1 b1 l1 n) m0 ⟨e0,b0,l0,F0,L0,s0,he0,st0,hb0,hI0⟩ ?_
   rintro n a1 w1 ⟨e1,b1,l1,F1,L1,s1,iH,st1,uI,hI1⟩
   refine wpIn_mono (ih c' SQ e1 b1 l1 _ (tT e1 b1 l1 n hI1) F1 L1 w1 a1 s1 iH) ?_
   rintro ex a2 w2 ⟨ax,e2,b2,l2,F2,L2,hex,s2,QI,st2,RO,hq⟩
   have st12:=st1.trans (uI▸st2)
   cases ex<;>cases ax<;>first|exact hex.elim|skip
   ·obtain⟨e3,b3,l3,m3,hw3,hI3,bB⟩:=hq
    obtain⟨F3,L3,s3,z8,st3,hb3⟩:=hw3 F2 L2 w2 a2 s2 QI
    have hbb:b2.length=b.length:=RO.trans uI
    exact⟨m3,bB,e3,b3,l3,F3,L3,s3,z8,st12.trans (hbb▸st3),hb3.trans hbb,hI3⟩
   ·exact⟨_,e2,b2,l2,F2,L2,hex,s2,QI,st12,RO.trans uI,hq⟩
   ·exact⟨_,e2,b2,l2,F2,L2,hex,s2,QI,st12,RO.trans uI,hq⟩
 |exit i =>
   intro ac hc e b l Q h F L w a s he
   cases hc
   exact wpIn_exit ⟨.exit i,e,b,l,F,L,rfl,s,he,Step.refl _ _ _ _ _,rfl,h⟩
 |ret =>
   intro ac hc e b l Q h F L w a s he
   cases hc
   exact wpIn_ret ⟨.ret,e,b,l,F,L,trivial,s,he,Step.refl _ _ _ _ _,rfl,h⟩
 |rangeFunc f ps az c ih1 ih2=>intro ac hc e b l Q h;cases hc;exact (uD h).elim
 |scope c ih=>intro ac hc e b l Q h;cases hc;exact (uD h).elim
 |label i=>intro ac hc e b l Q h;cases hc;exact (uD h).elim
 |goto i=>intro ac hc e b l Q h;cases hc;exact (uD h).elim
 |refuse y=>intro ac hc e b l Q h;cases hc;exact (uD h).elim

end
set_option linter.unusedSimpArgs false
inductive Dv (n:Nat) (l:List Row):AV→AV→Prop where
 |v (x:IV):Dv n l (.v x) (.v x)
 |z (sz:Nat):Dv n l (.v .zsl) (.v (.isl sz []))
 |sl (i ver off len sz:Nat) (els:List (List AV)) (rows:List (List IV)) (hi:l[i]? = some (.live ver sz els)) (nL:off+len≤els.length) (hl:rows.length=len)
   (h1:∀(k:Nat) (r:List AV) (row:List IV),els[off+k]? = some r→rows[k]? = some row→r.length=row.length)
   (h2:∀(k:Nat) (r:List AV) (row:List IV) (j:Nat) (a:AV) (c:IV),els[off+k]? = some r→rows[k]? = some row→r[j]? = some a→row[j]? = some c→Dv n l a (.v c)):Dv n l (.sl (n+i) ver off len) (.v (.isl sz rows))
 |agg (cs ds:List AV) (hl:cs.length=ds.length) (h:∀(i:Nat) (c d:AV),cs[i]? = some c→ds[i]? = some d→Dv n l c d):Dv n l (.agg cs) (.agg ds)
 |tup (cs ds:List AV) (hl:cs.length=ds.length) (h:∀(i:Nat) (c d:AV),cs[i]? = some c→ds[i]? = some d→Dv n l c d):Dv n l (.tup cs) (.tup ds)
def DvR (n:Nat) (l:List Row) (r:List AV) (row:List IV):Prop:=r.length=row.length∧∀(j:Nat) (a:AV) (c:IV),r[j]? = some a→row[j]? = some c→Dv n l a (.v c)
theorem DvR.nil {n:Nat} {l:List Row}:DvR n l [] []:=⟨rfl,fun j a c h=>by simp at h⟩
theorem DvR.cons {n:Nat} {l:List Row} {a:AV} {c:IV} {r:List AV} {row:List IV} (h:Dv n l a (.v c)) (t:DvR n l r row):DvR n l (a::r) (c::row):=by
 refine⟨by simp[t.1],fun j x y hx hy=>?_⟩
 cases j with
 |zero=>simp at hx hy;subst hx;subst hy;exact h
 |succ j=>exact t.2 j x y (by simpa using hx) (by simpa using hy)
theorem DvR.plain {n:Nat} {l:List Row} {row:List IV}:DvR n l (row.map .v) row:=by
 refine⟨by simp,fun j a c ha hc=>?_⟩
 rw[ai,hc]at ha
 cases ha
 exact .v c
def DvL (n:Nat) (l:List Row) (cs ds:List AV):Prop:=cs.length=ds.length∧∀(i:Nat) (c d:AV),cs[i]? = some c→ds[i]? = some d→Dv n l c d
theorem DvL.nil {n:Nat} {l:List Row}:DvL n l [] []:=⟨rfl,fun j a c h=>by simp at h⟩
theorem DvL.cons {n:Nat} {l:List Row} {a d:AV} {cs ds:List AV} (h:Dv n l a d) (t:DvL n l cs ds):DvL n l (a::cs) (d::ds):=by
 refine⟨by simp[t.1],fun j x y hx hy=>?_⟩
 cases j with
 |zero=>simp at hx hy;subst hx;subst hy;exact h
 |succ j=>exact t.2 j x y (by simpa using hx) (by simpa using hy)
theorem Dv.aggL {n:Nat} {l:List Row} {cs ds:List AV} (h:DvL n l cs ds):Dv n l (.agg cs) (.agg ds):=.agg cs ds h.1 h.2
theorem Dv.tupL {n:Nat} {l:List Row} {cs ds:List AV} (h:DvL n l cs ds):Dv n l (.tup cs) (.tup ds):=.tup cs ds h.1 h.2
theorem Dv.slR {n:Nat} {l:List Row} {i ver off len sz:Nat} {els:List (List AV)} {rows:List (List IV)} (hi:l[i]? = some (.live ver sz els)) (nL:off+len≤els.length) (hl:rows.length=len)
  (h:∀(k:Nat) (r:List AV) (row:List IV),els[off+k]? = some r→rows[k]? = some row→DvR n l r row):Dv n l (.sl (n+i) ver off len) (.v (.isl sz rows)):=
 .sl i ver off len sz els rows hi nL hl (fun k r row h1 h2=>(h k r row h1 h2).1) (fun k r row j a c h1 h2=>(h k r row h1 h2).2 j a c)
theorem Dv.slV {n:Nat} {l:List Row} {i ver sz len:Nat} {rows:List (List IV)} (hi:l[i]? = some (.live ver sz (vs rows))) (hl:len=rows.length):Dv n l (.sl (n+i) ver 0 len) (.v (.isl sz rows)):=by
 refine Dv.slR hi (by rw[gC];omega) hl.symm (fun k r row h1 h2=>?_)
 rw[br,TB,h2]at h1
 cases h1
 exact DvR.plain
theorem Dv.slVoff {n:Nat} {l:List Row} {i ver sz off len:Nat} {rows:List (List IV)} (hi:l[i]? = some (.live ver sz (vs rows))) (hl:off+len=rows.length):Dv n l (.sl (n+i) ver off len) (.v (.isl sz (rows.drop off))):=by
 refine Dv.slR hi (by rw[gC];omega) (by rw[fp];omega) (fun k r row h1 h2=>?_)
 rw[dl]at h2
 rw[TB,h2]at h1
 cases h1
 exact DvR.plain
theorem Dv.lt {n:Nat} {l:List Row} {x y:AV} (h:Dv n l x y) (m:Nat):AVlt m y:=by
 induction h with
 |v x=>exact .v x
 |z sz=>exact .v _
 |sl=>exact .v _
 |agg cs ds hl _ ih =>
   refine .agg _ (fun d hd=>?_)
   obtain⟨i,hi⟩:=ey.1 hd
   have uT:=(aj.1 hi).1
   exact ih i cs[i] d (ae oM) hi
 |tup cs ds hl _ ih =>
   refine .tup _ (fun d hd=>?_)
   obtain⟨i,hi⟩:=ey.1 hd
   have uT:=(aj.1 hi).1
   exact ih i cs[i] d (ae oM) hi
theorem Dv.more {n:Nat} {l:List Row} (k:List Row) {x y:AV} (h:Dv n l x y):Dv n (l++k) x y:=by
 induction h with
 |v x=>exact .v x
 |z sz=>exact .z sz
 |sl i ver off len sz els rows hi nL hl h1 _ ih =>
   exact .sl i ver off len sz els rows (by rw[aw (aj.1 hi).1];exact hi) nL hl h1 ih
 |agg cs ds hl _ ih=>exact .agg cs ds hl ih
 |tup cs ds hl _ ih=>exact .tup cs ds hl ih
def FD (F:Nat→Prop) (L:LMap) (n:Nat) (l:List Row) (k:Nat):Prop:=F k∨∃i ver sz els q,l[i]? = some (.live ver sz els)∧L (n+i) ver=some q∧q.on k
theorem Dv.rep {F:Nat→Prop} {L:LMap} {b l:List Row} {w:World} (s:Sim F L (b++l) w) {x y:AV} (h:Dv b.length l x y):∀v,RepA w F L x v→RepA w (FD F L b.length l) L y v:=by
 have mono:∀{x:AV} {v:Value},RepA w F L x v→RepA w (FD F L b.length l) L x v:=fun hx=>hx.mono (fun _ h=>.inl h) (fun _ _=>rfl) (fun _ _ _ h=>h)
 induction h with
 |v x=>exact fun v hv=>mono hv
 |z sz =>
   intro v hv
   cases hv.vI
   exact .v _ _ (.isl0 _ _ _ (an _))
 |sl i ver off len sz els rows hi nL hl h1 h2 ih =>
   intro v hv
   have RE:(b++l)[b.length+i]? = some (.live ver sz els):=by rw[au oM,co];exact hi
   obtain⟨q,k1,k2⟩:=s.row _ _ _ _ RE
   refine .v _ _ ?_
   cases hv with
   |sl _ _ _ _ blk o z cap hL g1 g2 =>
     rw[k1]at hL;cases hL
     obtain⟨q1,q2,q3,cur,T,q4,q5,q6,q7⟩:=k2
     subst q1
     have RG:∀(k:Nat) (row:List IV) (j:Nat) (c:IV),rows[k]? = some row→row[j]? = some c→∃u,w.cell? ⟨blk,o+off*z+k*z+j,none⟩=some u∧RepI w (FD F L b.length l) c u:=by
      intro k row j c hk hj
      have YM:=(aj.1 hk).1
      have fG:=(aj.1 hj).1
      have hr:els[off+k]? = some els[off+k]:=ae oM
      have hlr:=h1 k _ row hr hk
      have ha:els[off+k][j]? = some els[off+k][j]:=ae oM
      obtain⟨_,u,g3,g4⟩:=q7 (off+k) _ j _ hr ha
      refine⟨u,?_,(ih k _ row j _ c hr hk ha hj u g4).vI⟩
      rw[ca]at g3
      simp only[World.cell?,q4]
      rw[←g3]
      simp[da]
     have:=RepI.isl (w:=w) (F:=FD F L b.length l) rows blk (o+off*z) z (cap-off) (fun k j=>(w.cell? ⟨blk,o+off*z+k*z+j,none⟩).getD undef) (.inr ⟨i,ver,z,els,_,hi,k1,rfl⟩) oM oM
      (fun k row hk=>by
       have YM:=(aj.1 hk).1
       have hr:els[off+k]? = some els[off+k]:=ae oM
       rw[←h1 k _ row hr hk]
       exact q6 _ _ hr)
      (fun k row j c hk hj=>by
       obtain⟨u,g3,_⟩:=RG k row j c hk hj
       rw[g3];rfl)
      (fun k row j c hk hj=>by
       obtain⟨u,g3,g4⟩:=RG k row j c hk hj
       rw[g3];exact g4)
     rw[hl]at this
     exact this
   |slz =>
     have:rows=[]:=cu hl
     rw[this];exact .isl0 _ _ _ oM
   |sln =>
     have:rows=[]:=cu hl
     rw[this];exact .isl0 _ _ _ oM
 |agg cs ds hl _ ih =>
   intro v hv
   obtain⟨us,rfl,hu⟩:=hv.aggL
   refine bA.agg ⟨by rw[←hl];exact hu.1,fun j d u hd hju=>?_⟩
   have fG:=(aj.1 hd).1
   have hc:cs[j]? = some cs[j]:=ae oM
   exact ih j _ d hc hd u (hu.2 j _ u hc hju)
 |tup cs ds hl _ ih =>
   intro v hv
   obtain⟨us,rfl,hu⟩:=hv.tupL
   refine bA.tup ⟨by rw[←hl];exact hu.1,fun j d u hd hju=>?_⟩
   have fG:=(aj.1 hd).1
   have hc:cs[j]? = some cs[j]:=ae oM
   exact ih j _ d hc hd u (hu.2 j _ u hc hju)
def yG (r:Row):Row:=.dead r.ver
theorem PJ {b l:List Row} {j v z:Nat} {els:List (List AV)} (h:(b++l.map yG)[j]? = some (.live v z els)):j<b.length∧(b++l)[j]? = some (.live v z els):=by
 by_cases hj:j<b.length
 ·rw[aw hj]at h⊢
  exact⟨hj,h⟩
 ·rw[au oM,ai]at h
  cases hq:l[j-b.length]? with
  |none=>rw[hq]at h;cases h
  |some r=>rw[hq]at h;cases h
theorem KA.deep {b l:List Row} {e e':List AV} (hl:e.length=e'.length) (hd:∀(i:Nat) (x y:AV),e[i]? = some x→e'[i]? = some y→Dv b.length l x y) (hR:YB b.length b):KA e b l e' b []:=by
 refine KA.trans (e2:=e') (b2:=b) (l2:=l.map yG) ?_ (KA.trim (l1:=[]) rfl (fun y hy=>?_) (by simpa using hR) wE)
 ·intro F L w a s VT
  have VG:∀k,gD L (b++l.map yG) k→gD L (b++l) k:=by
   rintro k ⟨j,v,z,els,q,h1,h2,h3⟩
   exact⟨j,v,z,els,q,(PJ h1).2,h2,h3⟩
  have yF:∀{i ver sz els},l[i]? = some (.live ver sz els)→(b++l)[b.length+i]? = some (.live ver sz els):=fun hi=>by
   rw[au oM,co];exact hi
  refine⟨FD F L b.length l,L,⟨fun j v z els hj=>?_,fun j v q hq=>?_,fun j j' v v' z z' e1 e2 bb q1 q2 h1 h2=>s.apart j j' v v' z z' e1 e2 bb q1 q2 (PJ h1).2 (PJ h2).2,fun k hk=>?_,s.glob.mono (fun _ h=>.inl h) (fun _ _=>rfl)⟩,
   ⟨VT.1,by rw[←hl];exact VT.2.1,fun i y v hy hv=>?_⟩,⟨fun _ h=>.inl h,fun _ _ _ _ h=>h,rfl,rfl,rfl,ah _,fun _ _ _=>rfl,fun k _ ho=>VG k ho,fun id hid v hv=>?_,fun k hk hf=>?_⟩,rfl⟩
  ·obtain⟨q,g1,g2⟩:=s.row j v z els (PJ hj).2
   exact⟨q,g1,g2.mono (fun _ _=>rfl) (fun _ _ h=>h.mono (fun _ h=>.inl h) (fun _ _=>rfl) (fun _ _ _ h=>h))⟩
  ·obtain⟨r,h1,h2⟩:=s.born j v q hq
   by_cases hj:j<b.length
   ·exact⟨r,by rw[aw hj]at h1⊢;exact h1,h2⟩
   ·rw[au oM]at h1
    exact⟨yG r,by rw[au oM,ai,h1];rfl,h2⟩
  ·rcases hk with hk|⟨i,ver,sz,els,q,h1,h2,h3⟩
   ·exact⟨(s.imm k hk).1,fun ho=>(s.imm k hk).2 (VG k ho)⟩
   ·obtain⟨q',g1,g2⟩:=s.row _ _ _ _ (yF h1)
    rw[h2]at g1;cases g1
    refine⟨g2.lt h3,?_⟩
    rintro⟨j,v,z,els',q2,k1,k2,k3⟩
    obtain⟨hj,k4⟩:=PJ k1
    have:=s.apart j (b.length+i) v ver z sz els' els k q2 q k4 (yF h1) k2 h2 k3 h3
    omega
  ·have mR:=(aj.1 hy).1
   have hx:e[i]? = some e[i]:=ae oM
   exact (hd i _ y hx hy).rep s v (VT.2.2 i _ v hx hv)
  ·rw[aw hid]at hv⊢;exact hv
  ·rcases hf with hf|⟨i,ver,sz,els,q,h1,h2,h3⟩
   ·exact .inl hf
   ·exact .inr ⟨_,_,_,_,_,yF h1,h2,h3⟩
 ·obtain⟨i,hi⟩:=ey.1 hy
  have mR:=(aj.1 hi).1
  exact (hd i _ y (ae (show i<e.length by omega)) hi).lt _
theorem yC {e:List AV} {l:List Row} {rs:List ARes} {Q:AV→List Row→List Row→Prop} {B:List Row} {ex:AExit} (hex:ex=.normal∨ex=.ret) {xs:List AV} (hx:resVs e B l rs=some xs) {y:AV} (hd:Dv B.length l (one xs) y) (hR:YB B.length B) {b0 l0:List Row} (hB:B=b0++l0) (hq:Q y b0 l0) :
  KH rs Q b0.length ex e B l:=
 IP hex hx (y:=y) (l':=[]) (KA.deep rfl (fun i x z hx hz=>by
  cases i with
  |zero=>simp at hx hz;subst hx;subst hz;exact hd
  |succ i=>simp at hx) hR) hB (by rw[cj];exact hq)
theorem ZA.deep {P:Program} {f:Nat} {args:List AV} {b l N:List Row} {x y:AV} (hd:Dv (b.length+l.length) N x y)
  (h:ZA P f args b l (fun r b' l'=>r=x∧b'=b∧l'=l++N)):ZA P f args b l (fun r b' l'=>r=y∧b'=b∧l'=l):=by
 refine⟨h.1,fun F L w vs s hr=>Calls.mono (h.2 F L w vs s hr) ?_⟩
 rintro en w' ⟨v,x',b',l',F',L',h1,h2,h3,h4,h5,rfl,rfl,rfl⟩
 have hbl:(b'++l).length=b'.length+l.length:=am
 have ZIY:Sim F' L' ((b'++l)++N) w':=by rw[ay];exact h3
 have hw:KA [x'] (b'++l) N [y] (b'++l) []:=KA.deep rfl (fun i x z hx hz=>by
  cases i with
  |zero=>simp at hx hz;subst hx;subst hz;rw[hbl];exact hd
  |succ i=>simp at hx) s.rowsLt
 obtain⟨F3,L3,k1,k2,k3,k5⟩:=hw F' L' w' {tmps:=#[v],defers:=[]} ZIY ⟨rfl,rfl,fun j z u hz hu=>by
  cases j with
  |zero=>simp at hz hu;subst hz;subst hu;exact h2
  |succ j=>simp at hz⟩
 rw[cj]at k1 k3
 refine⟨v,y,b',l,F3,L3,h1,k2.2.2 0 _ v rfl rfl,k1,?_,h5,rfl,rfl,rfl⟩
 refine h4.trans ?_
 rw[←ay]
 exact k3
end Go.Proofs.YtadnnjchehjbiaaGreatDoor
