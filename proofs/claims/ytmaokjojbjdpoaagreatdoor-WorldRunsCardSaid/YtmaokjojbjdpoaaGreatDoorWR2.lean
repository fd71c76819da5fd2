/- Texts of one proof, laid together: WB, WD, WC, WE, WP, WQ, WZ, E0, WR, BW, DV. No condition. -/
import Derived.Test.YtmaokjojbjdpoaaGreatDoorWR1
import Derived.Deep.LoopGhost
import Derived.Laws.Cover3
import Derived.RangeFuncCalls
import Derived.RangeFuncIn
import Derived.OrdersIn
import Derived.AtR
import Derived.Sort.LoopGhostIn
set_option linter.unusedSimpArgs false
namespace Go.Proofs.YtmaokjojbjdpoaaGreatDoor
set_option linter.unusedVariables false

section
variable {P:Program} {w:World} {F:Nat→Prop} {L:LMap} {o:Oper} {a:Act} {e:List AV} {b l b' l':List Row} {x:AV}

theorem map_some {α β:Type} {f:α→β} {y:Option α} {z:β} (h:y.map f=some z):∃q,y=some q∧z=f q:=by
 cases y with
 |none=>cases h
 |some q=>cases h;exact⟨q,rfl,rfl⟩

theorem bind_some {α β:Type} {f:α→Option β} {y:Option α} {z:β} (h:y >>= f=some z):∃q,y=some q∧f q=some z:=by
 cases y with
 |none=>cases h
 |some q=>exact⟨q,rfl,h⟩

def VU (P:Program) (o:Oper) (a:Act) (w:World) (F:Nat→Prop) (L:LMap) (f:Nat) (args:List AV):Prop:=
 ∃vs:Array Value,GA w F L args vs.toList∧∀fn,P.funcs[f]? = some fn→(fn.name == "runtime.NumGoroutine")=false→fn.body.isSome=true→(execOp a.eval o).run P w=.ok (.enter f vs) w

theorem ZHE (s:Sim F L (b++l) w) (he:FB w F L e a) {c:Call} {f:Operand} {f':Opd} {az':List Opd} (hc:c.callee=.value f) (hf:aA f=some f') (has:uR c.args.toList=some az') (ho:o.op=.call c)
  {g:Nat} {args:List AV} (h:zF (ev e f') (evs e az')=.call g args):VU P o a w F L g args:=by
 have h1:=fA he hf
 have h2:=OX he has
 generalize ev e f'=q at *
 unfold zF at h
 split at h
 case h_2=>cases h
 rename_i fid caps _
 cases h
 obtain⟨vs,hv,hl⟩:=h1.fnL
 refine⟨c.args.map a.eval++vs,by simpa using h2.append hl,fun fn g1 g2 g3=>?_⟩
 have hn:¬fn.body=none:=fun hb=>by rw[hb]at g3;cases g3
 have hm:¬fn.name = "runtime.NumGoroutine":=by simpa using g2
 simp[execOp,ho,resolve,hc,hv,Deferred.ofValue,invoke,callFunc,g1,hm,hn]

def OpR.plain:OpR→Bool
 |.call .. => false
 |.two .. => false
 |_=>true
def AOp.plain:AOp→Bool
 |.call .. => false
 |.isnil .. => false
 |_=>true
theorem jZ (y:Option AV) (b l:List Row):(VJ y b l).plain=true:=by cases y<;>rfl
theorem UK {ao:AOp} (h:ao.plain=true):(aop e b l ao).plain=true:=by
 cases ao<;>first|(cases h;done)|simp only[aop,mk,AE,QE,LC,IF,GF,TD,MD,GC,LD,aC,MB,sF,SD]
 all_goals (repeat' split)
 all_goals first|rfl|exact jZ _ _ _

theorem ZDs (s:Sim F L (b++l) w) (he:FB w F L e a) {op:BinOp} {t u el:TypeId} (ht:P.underlying t=some (.slice el)) (hop:op=.eql∨op=.neq) {y z:Operand} {y':Opd} (ho:o.op=.binOp op t y z u) (hy:aA y=some y') (hz:k9 z=true)
  {c:Bool} {p q:AV} (h:aop e b l (.isnil (op==.neq) y')=.two c p q):(c=true∧VB P o a w F L b l p b l)∨VB P o a w F L b l q b l:=by
 have h1:=fA he hy
 simp only[aop]at h
 generalize ev e y'=r at *
 have hz':a.eval z=.slice none 0 0:=by
  unfold k9 at hz
  split at hz
  ·rfl
  ·cases hz
 have VD:∀ad n m,a.eval y=.slice ad n m→(execOp a.eval o).run P w=.ok (.value (.bool (if op=.neq then !ad.isNone else ad.isNone))) w:=by
  intro ad n m hv
  rcases hop with rfl|rfl
  ·simp[execOp,ho,hv,hz',eqGuard,binOp,run_equal_slice_nil w t el ad n m ht]
  ·simp[execOp,ho,hv,hz',eqGuard,binOp,run_equal_slice_nil w t el ad n m ht]
 have yes:∀n m,a.eval y=.slice none n m→VB P o a w F L b l (.v (.bool (!(op==.neq)))) b l:=by
  intro n m hv
  refine VB.pure s (VD _ _ _ hv) ?_
  have:=tW (w:=w) (F:=F) (L:=L) (!(op==.neq))
  rcases hop with rfl|rfl<;>exact this
 have no:∀ad n m,a.eval y=.slice (some ad) n m→VB P o a w F L b l (.v (.bool (op==.neq))) b l:=by
  intro ad n m hv
  refine VB.pure s (VD _ _ _ hv) ?_
  have:=tW (w:=w) (F:=F) (L:=L) (op==.neq)
  rcases hop with rfl|rfl<;>exact this
 generalize hv:a.eval y=v at h1
 split at h
 ·cases h
  cases h1.vI with
  |zsl ad=>cases ad with
    |none=>exact .inl ⟨rfl,yes _ _ hv⟩
    |some ad=>exact .inr (no _ _ _ hv)
 ·rename_i sz rows
  cases h
  cases h1.vI with
  |isl0 _ ad c=>cases ad with
    |none=>exact .inl ⟨rfl,yes _ _ hv⟩
    |some ad=>exact .inr (no _ _ _ hv)
  |isl=>exact .inr (no _ _ _ hv)
 ·cases h
  cases h1 with
  |sl=>exact .inr (no _ _ _ hv)
  |slz=>exact .inr (no _ _ _ hv)
  |sln _ _ ad hL=>cases ad with
    |none=>exact .inl ⟨rfl,yes _ _ hv⟩
    |some ad=>exact .inr (no _ _ _ hv)
 ·cases h

theorem ZJr {ao:AOp} (hc:cOp P o.op=some ao) (s:Sim F L (b++l) w) (he:FB w F L e a) :
  (∀x b' l',aop e b l ao=.val x b' l'→VB P o a w F L b l x b' l')∧(∀f args,aop e b l ao=.call f args→VU P o a w F L f args) ∧
   (∀c x y,aop e b l ao=.two c x y→(c=true∧VB P o a w F L b l x b l)∨VB P o a w F L b l y b l):=by
 have nocall:ao.plain=true→(∀x b' l',aop e b l ao=.val x b' l'→VB P o a w F L b l x b' l') →
   (∀x b' l',aop e b l ao=.val x b' l'→VB P o a w F L b l x b' l')∧(∀f args,aop e b l ao=.call f args→VU P o a w F L f args) ∧
    (∀c x y,aop e b l ao=.two c x y→(c=true∧VB P o a w F L b l x b l)∨VB P o a w F L b l y b l):=
  fun h1 h2=>⟨h2,⟨fun f args h=>(by have hp:=UK (e:=e) (b:=b) (l:=l) h1;rw[h]at hp;cases hp),fun c x y h=>(by have hp:=UK (e:=e) (b:=b) (l:=l) h1;rw[h]at hp;cases hp)⟩⟩
 generalize ho:o.op=op at hc
 cases op<;>simp only[cOp]at hc<;>first|(cases hc;done)|skip
 case move y =>
  obtain⟨z,hz,rfl⟩:=map_some hc
  exact nocall rfl (fun x b' l' h=>by simp only[aop]at h;cases h;exact ZIN s he (.inl ho) hz)
 case assign y =>
  obtain⟨z,hz,rfl⟩:=map_some hc
  exact nocall rfl (fun x b' l' h=>by simp only[aop]at h;cases h;exact ZIN s he (.inr ho) hz)
 case pick c y z =>
  obtain⟨c',h1,hc⟩:=bind_some hc
  obtain⟨y',h2,hc⟩:=bind_some hc
  obtain⟨z',h3,hc⟩:=bind_some hc
  cases hc
  exact nocall rfl (fun x b' l' h=>ZGt s he ho h1 h2 h3 h)
 case alloc t =>
  obtain⟨zs,hz,rfl⟩:=map_some hc
  exact nocall rfl (fun x b' l' h=>ZDx s ho hz h)
 case box t y =>
  obtain⟨z,hz,rfl⟩:=map_some hc
  exact nocall rfl (fun x b' l' h=>ZJ4 s he ho hz h)
 case build t ps =>
  split at hc
  ·rename_i fs zs ht hz
   split at hc
   case isFalse=>cases hc
   rename_i xF
   obtain⟨qs,hq,rfl⟩:=map_some hc
   exact nocall rfl (fun x b' l' h=>ZDw s he ht hz xF hq ho h)
  ·rename_i m el zs ht hz
   split at hc
   case h_2=>cases hc
   rename_i n hn
   obtain⟨qs,hq,rfl⟩:=map_some hc
   exact nocall rfl (fun x b' l' h=>ZB9 s he ht hn hz hq ho h)
  ·cases hc
 case buildSlice t len ps =>
  split at hc
  case h_2=>cases hc
  rename_i el ht
  split at hc
  case h_2=>cases hc
  rename_i n zs hn hz
  split at hc
  case isFalse=>cases hc
  rename_i hb
  obtain⟨qs,hq,rfl⟩:=map_some hc
  exact nocall rfl (fun x b' l' h=>ZBa s he ht hn hz hb.1 hb.2.1 hb.2.2 hq ho h)
 case load t y =>
  split at hc
  case h_2=>cases hc
  rename_i n hn
  obtain⟨z,hz,rfl⟩:=map_some hc
  exact nocall rfl (fun x b' l' h=>ZGv s he hn ho hz h)
 case store t y z =>
  split at hc
  case h_2=>cases hc
  rename_i n hn
  obtain⟨y',h1,hc⟩:=bind_some hc
  obtain⟨z',h2,hc⟩:=bind_some hc
  cases hc
  exact nocall rfl (fun x b' l' h=>ZDo s he hn ho h1 h2 h)
 case nilCheck y =>
  obtain⟨z,hz,rfl⟩:=map_some hc
  exact nocall rfl (fun x b' l' h=>ZDq s he ho hz h)
 case binOp op t y z u =>
  split at hc
  ·rename_i fs ht
   split at hc
   case h_2=>cases hc
   rename_i ks hks
   split at hc
   case isFalse=>cases hc
   rename_i hb
   obtain⟨y',h1,hc⟩:=bind_some hc
   obtain⟨z',h2,hc⟩:=bind_some hc
   cases hc
   exact nocall rfl (fun x b' l' h=>ZJ3 s he ht hks hb.1 hb.2.1 hb.2.2 ho h1 h2 h)
  ·rename_i m el ht
   split at hc
   case h_2=>cases hc
   rename_i k hk hs
   split at hc
   case isFalse=>cases hc
   rename_i hb
   obtain⟨y',h1,hc⟩:=bind_some hc
   obtain⟨z',h2,hc⟩:=bind_some hc
   cases hc
   exact nocall rfl (fun x b' l' h=>ZHA s he ht hk hs hb.1 hb.2 ho h1 h2 h)
  ·obtain⟨y',h1,hc⟩:=bind_some hc
   obtain⟨z',h2,hc⟩:=bind_some hc
   cases hc
   exact nocall rfl (fun x b' l' h=>ZJ5 s he ho h1 h2 h)
  ·rename_i ht
   obtain⟨y',h1,hc⟩:=bind_some hc
   obtain⟨z',h2,hc⟩:=bind_some hc
   cases hc
   exact nocall rfl (fun x b' l' h=>ZHG s he ht ho h1 h2 h)
  ·obtain⟨y',h1,hc⟩:=bind_some hc
   obtain⟨z',h2,hc⟩:=bind_some hc
   cases hc
   exact nocall rfl (fun x b' l' h=>ZHF s he ho h1 h2 h)
  ·rename_i el ht
   split at hc
   case isFalse=>cases hc
   rename_i hb
   obtain⟨y',h1,rfl⟩:=map_some hc
   refine⟨fun x b' l' h=>?_,fun g args h=>?_,fun c x y h=>ZDs s he ht hb.1 ho h1 hb.2 h⟩
   ·simp only[aop]at h
    split at h<;>cases h
   ·simp only[aop]at h
    split at h<;>cases h
  ·cases hc
 case unOp op t y =>
  cases op<;>simp only at hc<;>first|(cases hc;done)|skip
  ·obtain⟨z,hz,rfl⟩:=map_some hc
   exact nocall rfl (fun x b' l' h=>ZJ1 s he ho hz h)
  ·obtain⟨z,hz,rfl⟩:=map_some hc
   exact nocall rfl (fun x b' l' h=>ZJ0 s he ho hz h)
 case convert t u y =>
  split at hc
  case h_3=>cases hc
  ·rename_i k' k ht hu
   obtain⟨z,hz,rfl⟩:=map_some hc
   exact nocall rfl (fun x b' l' h=>ZHC s he ht hu ho hz h)
  ·rename_i el ht hu
   split at hc
   case h_2=>cases hc
   rename_i XJ
   obtain⟨z,hz,rfl⟩:=map_some hc
   exact nocall rfl (fun x b' l' h=>ZDn s he ht XJ hu ho hz h)
 case makeMap t r =>
  split at hc
  case isFalse=>cases hc
  rename_i hb
  cases hc
  exact nocall rfl (fun x b' l' h=>ZDr s hb.1 hb.2 ho h)
 case lookup t y i c =>
  split at hc
  case h_2=>cases hc
  rename_i kt el ht
  split at hc
  case h_2=>cases hc
  rename_i kk z hk hz
  obtain⟨y',h1,hc⟩:=bind_some hc
  obtain⟨i',h2,hc⟩:=bind_some hc
  cases hc
  exact nocall rfl (fun x b' l' h=>ZB5 s he ht hk hz ho h1 h2 h)
 case mapUpdate t m y z =>
  split at hc
  case h_2=>cases hc
  rename_i kt el ht
  split at hc
  case h_2=>cases hc
  rename_i kk hk
  obtain⟨m',h1,hc⟩:=bind_some hc
  obtain⟨y',h2,hc⟩:=bind_some hc
  obtain⟨z',h3,hc⟩:=bind_some hc
  cases hc
  exact nocall rfl (fun x b' l' h=>K6 s he ht hk ho h1 h2 h3 h)
 case makeFunc fn first caps =>
  cases fn<;>simp only at hc<;>first|(cases hc;done)|skip
  split at hc
  case isFalse=>cases hc
  rename_i h0
  obtain⟨cs,TY,rfl⟩:=map_some hc
  exact nocall rfl (fun x b' l' h=>by simp only[aop]at h;cases h;exact ZGu s he h0 ho TY)
 case makeSlice t y z =>
  split at hc
  case h_2=>cases hc
  rename_i el ht
  split at hc
  case h_2=>cases hc
  rename_i sz zs bytes hs hz yO
  split at hc
  case isFalse=>cases hc
  rename_i hb
  obtain⟨y',h1,hc⟩:=bind_some hc
  obtain⟨z',h2,hc⟩:=bind_some hc
  cases hc
  exact nocall rfl (fun x b' l' h=>z6 s he ht hs yO hz hb.1 ho h1 h2 h)
 case slice t y lo hi mx =>
  split at hc
  ·rename_i el ht
   split at hc
   ·split at hc
    case h_2=>cases hc
    rename_i n hn
    obtain⟨y',h1,hc⟩:=bind_some hc
    obtain⟨lo',h2,hc⟩:=bind_some hc
    obtain⟨hi',h3,hc⟩:=bind_some hc
    cases hc
    exact nocall rfl (fun x b' l' h=>ZDp s he ht hn ho h1 h2 h3 h)
   ·rename_i q
    split at hc
    case isFalse=>cases hc
    rename_i hb
    simp only[ar]at hb
    obtain⟨⟨⟨xJ,vR⟩,hb3⟩,hb4⟩:=hb
    obtain⟨y',h1,rfl⟩:=map_some hc
    obtain⟨n,hn⟩:=Option.isSome_iff_exists.1 hb4
    have hlo:lo=none:=by cases lo<;>first|rfl|cases hb3
    subst hlo
    exact nocall rfl (fun x b' l' h=>ZB4 s he ht hn ho vR xJ h1 h)
  ·rename_i ht
   split at hc
   case h_2=>cases hc
   obtain⟨y',h1,hc⟩:=bind_some hc
   obtain⟨lo',h2,hc⟩:=bind_some hc
   obtain⟨hi',h3,hc⟩:=bind_some hc
   cases hc
   exact nocall rfl (fun x b' l' h=>ZB3 s he ht ho h1 h2 h3 h)
  ·cases hc
 case fieldAddr t y i =>
  split at hc
  case h_2=>cases hc
  rename_i fs ht
  split at hc
  case h_2=>cases hc
  rename_i f hf
  split at hc
  case h_2=>cases hc
  rename_i n hn
  split at hc
  case isFalse=>cases hc
  rename_i h0
  obtain⟨z,hz,rfl⟩:=map_some hc
  exact nocall rfl (fun x b' l' h=>ZDv s he ht hf hn h0 ho hz h)
 case field t y i =>
  split at hc
  case h_2=>cases hc
  rename_i fs ht
  split at hc
  case h_2=>cases hc
  rename_i f hf
  split at hc
  case h_2=>cases hc
  rename_i n hn
  obtain⟨z,hz,rfl⟩:=map_some hc
  exact nocall rfl (fun x b' l' h=>ZDu s he ht hf hn ho hz h)
 case indexAddr t y i =>
  split at hc
  ·rename_i el ht
   split at hc
   case h_2=>cases hc
   rename_i n hn
   obtain⟨y',h1,hc⟩:=bind_some hc
   obtain⟨i',h2,hc⟩:=bind_some hc
   cases hc
   exact nocall rfl (fun x b' l' h=>ZDt s he ht hn ho h1 h2 h)
  ·rename_i len el ht
   split at hc
   case h_2=>cases hc
   rename_i n hn
   obtain⟨y',h1,hc⟩:=bind_some hc
   obtain⟨i',h2,hc⟩:=bind_some hc
   cases hc
   exact nocall rfl (fun x b' l' h=>ZB8 s he ht hn ho h1 h2 h)
  ·cases hc
 case index t y i =>
  split at hc
  ·rename_i ht
   obtain⟨y',h1,hc⟩:=bind_some hc
   obtain⟨i',h2,hc⟩:=bind_some hc
   cases hc
   exact nocall rfl (fun x b' l' h=>ZB6 s he ht ho h1 h2 h)
  ·rename_i len el ht
   split at hc
   case h_2=>cases hc
   rename_i n sh hn hsh
   obtain⟨y',h1,hc⟩:=bind_some hc
   obtain⟨i',h2,hc⟩:=bind_some hc
   cases hc
   exact nocall rfl (fun x b' l' h=>ZB7 s he ht hn hsh ho h1 h2 h)
  ·cases hc
 case extract y i =>
  obtain⟨z,hz,rfl⟩:=map_some hc
  exact nocall rfl (fun x b' l' h=>j6 s he ho hz h)
 case call c =>
  split at hc
  ·rename_i f hf
   obtain⟨f',h1,hc⟩:=bind_some hc
   obtain⟨az',h2,hc⟩:=bind_some hc
   cases hc
   refine⟨fun x b' l' h=>?_,fun g args h=>?_,fun c x y h=>?_⟩
   ·simp only[aop]at h
    unfold zF at h
    split at h<;>cases h
   ·simp only[aop]at h
    exact ZHE s he hf h1 h2 ho h
   ·simp only[aop]at h
    unfold zF at h
    split at h<;>cases h
  ·rename_i hcal
   split at hc
   case h_2=>cases hc
   rename_i y t ha sX
   split at hc
   ·rename_i ht
    obtain⟨z,hz,rfl⟩:=map_some hc
    exact nocall rfl (fun x b' l' h=>ZGw s he ht hcal ha sX ho hz h)
   ·rename_i el ht
    obtain⟨z,hz,rfl⟩:=map_some hc
    exact nocall rfl (fun x b' l' h=>ZJ2 s he ht hcal ha sX ho hz h)
   ·rename_i n el ht
    cases hc
    exact nocall rfl (fun x b' l' h=>by simp only[aop,ev]at h;cases h;exact ZGy s ht hcal ha sX ho)
   ·rename_i kt el ht
    obtain⟨z,hz,rfl⟩:=map_some hc
    exact nocall rfl (fun x b' l' h=>ZGx s he ht hcal ha sX ho hz h)
   ·cases hc
  ·rename_i hcal
   split at hc
   case h_2=>cases hc
   rename_i y z t u ha sX
   split at hc
   case h_2=>cases hc
   rename_i el ht
   split at hc
   case h_2=>cases hc
   rename_i n bytes zs hn yO hz
   split at hc
   case isFalse =>
    split at hc
    case isFalse=>cases hc
    rename_i hb
    obtain⟨y',h1,hc⟩:=bind_some hc
    obtain⟨z',h2,hc⟩:=bind_some hc
    cases hc
    exact nocall rfl (fun x b' l' h=>ZHH s he ht hb.2.2.2 hn yO hz hb.2.2.1 hb.1 hb.2.1 hcal ha sX ho h1 h2 h)
   rename_i hb
   obtain⟨y',h1,hc⟩:=bind_some hc
   obtain⟨z',h2,hc⟩:=bind_some hc
   cases hc
   exact nocall rfl (fun x b' l' h=>ZBb s he ht hb.2.2.2 hn yO hz hb.2.2.1 hb.1 hb.2.1 hcal ha sX ho h1 h2 h)
  ·rename_i hcal
   split at hc
   case h_2=>cases hc
   rename_i y z t u ha sX
   split at hc
   case h_2=>cases hc
   rename_i el ht
   split at hc
   case h_2=>cases hc
   rename_i n hn
   split at hc
   case isFalse=>cases hc
   rename_i h0
   obtain⟨y',h1,hc⟩:=bind_some hc
   obtain⟨z',h2,hc⟩:=bind_some hc
   cases hc
   exact nocall rfl (fun x b' l' h=>ZHB s he ht hn h0 hcal ha sX ho h1 h2 h)
  ·rename_i hcal
   split at hc
   case h_2=>cases hc
   rename_i y z ha
   obtain⟨y',h1,hc⟩:=bind_some hc
   obtain⟨z',h2,hc⟩:=bind_some hc
   cases hc
   exact nocall rfl (fun x b' l' h=>ZIO (t:=true) s he hcal ha ho h1 h2 h)
  ·rename_i hcal
   split at hc
   case h_2=>cases hc
   rename_i y z ha
   obtain⟨y',h1,hc⟩:=bind_some hc
   obtain⟨z',h2,hc⟩:=bind_some hc
   cases hc
   exact nocall rfl (fun x b' l' h=>ZIO (t:=false) s he hcal ha ho h1 h2 h)
  ·rename_i hcal
   split at hc
   case h_2=>cases hc
   rename_i y t ha sX
   split at hc
   case h_2=>cases hc
   rename_i el ht
   obtain⟨z,hz,rfl⟩:=map_some hc
   exact nocall rfl (fun x b' l' h=>ZHD s he ht hcal ha sX ho hz h)
  ·cases hc

theorem z7 {o:Op} {n len:Nat} {zs:List AV} {qs:List (Nat×Opd)} (hc:cOp P o=some (.bslice n zs len qs)) :
  ∃(t el:TypeId) (parts:Array (Nat×Operand)),o=.buildSlice t len parts∧P.underlying t=some (.slice el)∧lD P el=some n∧aF P el=some zs∧(0<n∧len*n≤16777216∧zs.length=n)∧MJ parts.toList=some qs:=by
 unfold cOp at hc
 repeat' split at hc
 all_goals first
  |(cases hc;done)
  |(obtain⟨qs,hq,h⟩:=map_some hc;cases h;exact⟨_,_,_,rfl,by assumption,by assumption,by assumption,by assumption,hq⟩)
  |(obtain⟨_,_,h⟩:=map_some hc;cases h;done)
  |(obtain⟨_,_,hc⟩:=bind_some hc;cases hc;done)
  |(obtain⟨_,_,hc⟩:=bind_some hc;obtain⟨_,_,hc⟩:=bind_some hc;cases hc;done)
  |(obtain⟨_,_,hc⟩:=bind_some hc;obtain⟨_,_,hc⟩:=bind_some hc;obtain⟨_,_,hc⟩:=bind_some hc;cases hc;done)
theorem xT:∀{r:List AV} {x:List IV},NI r=some x→x.length=r.length∧∀(j:Nat) (c:IV),x[j]? = some c→r[j]? = some (.v c)
 |[],x,h=>by cases h;simp
 |.v y::r,x,h=>by
   unfold NI at h
   split at h
   case h_2=>cases h
   rename_i ys hy
   cases h
   obtain⟨h1,h2⟩:=xT hy
   refine⟨by simp[h1],fun j c hj=>?_⟩
   cases j with
   |zero=>simp at hj;subst hj;rfl
   |succ j=>simpa using h2 j c (by simpa using hj)
 |.any::_,x,h=>by cases h
 |.agg _::_,x,h=>by cases h
 |.tup _::_,x,h=>by cases h
 |.sl .. :: _,x,h=>by cases h
 |.ptr .. :: _,x,h=>by cases h
 |.fn .. :: _,x,h=>by cases h
 |.mp .. :: _,x,h=>by cases h
theorem mV:∀{r:List (List AV)} {x:List (List IV)},iF r=some x→x.length=r.length∧∀(k:Nat) (y:List IV),x[k]? = some y→∃z,r[k]? = some z∧NI z=some y
 |[],x,h=>by cases h;simp
 |z::r,x,h=>by
   unfold iF at h
   split at h
   case h_2=>cases h
   rename_i y ys hy hys
   cases h
   obtain⟨h1,h2⟩:=mV hys
   refine⟨by simp[h1],fun k c hk=>?_⟩
   cases k with
   |zero=>simp at hk;subst hk;exact⟨z,rfl,hy⟩
   |succ k=>simpa using h2 k c (by simpa using hk)
theorem ZE7 {w:World} {k:Nat} {cs:Array Value} {T:TypeId} {fr:Nat×Nat} (hb:w.heap[k]? = some (.cells cs T fr)) {j:Nat}:w.cell? ⟨k,j,none⟩=cs[j]?:=by
 simp[World.cell?,hb]
theorem ZGz (s:Sim F L (b++l) w) (he:FB w F L e a) {t el:TypeId} {n len:Nat} {zs:List AV} {parts:Array (Nat×Operand)} {qs:List (Nat×Opd)} (ht:P.underlying t=some (.slice el)) (hn:lD P el=some n) (hz:aF P el=some zs)
  (h0:0<n) (LJ:len*n≤16777216) (N9:zs.length=n) (hq:MJ parts.toList=some qs) (ho:o.op=.buildSlice t len parts)
  (h:aop e b l (.islb n zs len qs)=.val x b' l'):OP P o a w F L b l x b' l':=by
 obtain⟨i,z,hi,tX,wV⟩:=qE hz
 obtain⟨c1,c2⟩:=JF (w:=w) (F:=F) (L:=L) wV
 obtain⟨q1,q2⟩:=bK hq
 simp only[aop]at h
 split at h
 case h_2=>cases h
 rename_i els xN
 split at h
 case h_2=>cases h
 rename_i rows hrows
 cases h
 obtain⟨vs,h1,h2,h3,h4⟩:=fT he (ps:=parts.toList) (qs:=qs) q2 q1 (cur:=madeCells z.cells (len*n)) (by simp[size_madeCells]) (uO c1 c2 N9 _ (ai _)) xN
 have IB:els.length=len:=by simpa using h3
 have hm:(parts.map fun (j,y)=>(j,a.eval y)).toList=parts.toList.map fun p=>(p.1,a.eval p.2):=by simp
 have hlm:len≤16777216:=by
  rcases ju len with h|h
  ·omega
  ·have:=Nat.le_mul_of_pos_right len h0;omega
 obtain⟨r1,r2⟩:=mV hrows
 have ZCt:Ends P o a w (.slice (some ⟨w.heap.size,0,none⟩) len len) (w.alloc (.cells vs el)):=by
  refine .inl ?_
  have yA:¬(len*n>2 ^ 24):=by omega
  by_cases P9:len*n=0
  ·have hmc:madeCells z.cells (len*n)=#[]:=by rw[P9];simp[madeCells,Array.range_zero']
   rw[hmc]at h1
   have hmd:(Array.range (len*n)).map (((#[]:Array Value)[· % (#[]:Array Value).size]!))=#[]:=by rw[P9];simp[Array.range_zero']
   have hlt':¬(len*n>16777216):=by omega
   simp only[execOp,ho,Instr.buildSlice,Sem.run_bind,run_underlying ht,Result.andThen_ok,IA hn,Sem.run_ite,P9,if_true,Sem.run_pure,hm]
   rw[P9]at hmd
   simp only[hmd,h1,newRow,Sem.run_bind]
   simp
  ·simp only[execOp,ho,Instr.buildSlice,Sem.run_bind,run_underlying ht,Result.andThen_ok,IA hn,Sem.run_ite,yA,if_false,P9,Sem.run_pure,hm,iH hi tX]
   have h1':=h1
   unfold madeCells at h1'
   simp only[h1',newRow,Sem.run_bind]
   simp
 have JH:∀k,k<w.heap.size→(w.alloc (.cells vs el)).heap[k]? = w.heap[k]?:=fun k hk=>by
  show (w.heap.push _)[k]? = _
  rw[kr];split
  ·omega
  ·rfl
 have GG:(w.alloc (.cells vs el)).heap[w.heap.size]? = some (.cells vs el (0,0)):=Array.getElem?_push_size
 have ZLj:∀k,F k→k<w.heap.size:=fun k hk=>(s.imm k hk).1
 have hFo:∀k,F k→(w.alloc (.cells vs el)).heap[k]? = w.heap[k]?:=fun k hk=>JH k (ZLj k hk)
 have own:∀k,DC L (b++l) k→k<w.heap.size:=by
  rintro k ⟨id,v,z1,e1,q,g1,g2,g3⟩
  obtain⟨q',g4,g5⟩:=s.row id v z1 e1 g1
  rw[g2]at g4;cases g4
  exact g5.lt g3
 have NN:(w.alloc (.cells vs el)).heap.size=w.heap.size+1:=by show (w.heap.push _).size=_;simp
 refine⟨_,_,fun k=>F k∨k=w.heap.size,L,ZCt,.v _ _ ?_,?_,?_,rfl⟩
 ·by_cases hz0:rows=[]
  ·subst hz0
   have:len=0:=by rw[←IB,←r1];rfl
   subst this
   exact .isl0 _ _ _ kE
  ·have cU:rows.length=len:=by rw[r1,IB]
   have key:∀(k:Nat) (row:List IV) (j:Nat) (c:IV),rows[k]? = some row→row[j]? = some c→∃u,vs[k*n+j]? = some u∧RepI w F c u:=by
    intro k row j c hk hj
    obtain⟨z1,g1,g2⟩:=r2 k row hk
    obtain⟨u1,u2⟩:=xT g2
    obtain⟨_,u,g4,g5⟩:=h4.2 k z1 j _ g1 (u2 j c hj)
    cases g5 with
    |v _ _ g5=>exact⟨u,g4,g5⟩
   have aU:RepI (w.alloc (.cells vs el)) (fun k=>F k∨k=w.heap.size) (.isl n rows) (.slice (some ⟨w.heap.size,0,none⟩) rows.length len):=by
    refine .isl rows w.heap.size 0 n len (fun k j=>(vs[k*n+j]?).getD undef) (.inr rfl) oM (by unfold maxLen;omega) ?_ ?_ ?_
    ·intro k row hk
     obtain⟨z1,g1,g2⟩:=r2 k row hk
     rw[(xT g2).1];exact h4.1 k z1 g1
    ·intro k row j c hk hj
     obtain⟨u,g1,g2⟩:=key k row j c hk hj
     rw[ZE7 GG]
     simp only[cn,g1,fu]
    ·intro k row j c hk hj
     obtain⟨u,g1,g2⟩:=key k row j c hk hj
     simp only[g1,fu]
     exact g2.mono (fun _ h=>.inl h) hFo
   rw[cU]at aU
   exact aU
 ·refine⟨fun id v z1 e1 g=>?_,s.born,s.apart,fun k hk=>?_,s.glob.mono (fun _ h=>.inl h) hFo⟩
  ·obtain⟨q,g1,g2⟩:=s.row id v z1 e1 g
   exact⟨q,g1,g2.mono (fun k hk=>JH k (g2.lt hk)) (fun _ _ hx=>hx.mono (fun _ h=>.inl h) hFo (fun _ _ _ h=>h))⟩
  ·rcases hk with hk|rfl
   ·exact⟨by rw[NN];have:=ZLj k hk;omega,(s.imm k hk).2⟩
   ·exact⟨by rw[NN];omega,fun h=>by have:=own _ h;omega⟩
 ·exact⟨fun _ h=>.inl h,fun _ _ _ _ h=>h,rfl,rfl,rfl,by rw[NN];omega,fun k hk _=>JH k hk,fun _ _ h=>h,fun _ _ _ h=>h,fun k hk hf=>hf.elim .inl (fun e=>by omega)⟩
theorem ZHd {imm:Bool} {ao:AOp} (hc:IY P imm o.op=some ao) (s:Sim F L (b++l) w) (he:FB w F L e a) :
  (∀x b' l',aop e b l ao=.val x b' l'→OP P o a w F L b l x b' l')∧(∀f args,aop e b l ao=.call f args→VU P o a w F L f args) ∧
   (∀c x y,aop e b l ao=.two c x y→(c=true∧OP P o a w F L b l x b l)∨OP P o a w F L b l y b l):=by
 have plain:∀{ao:AOp},cOp P o.op=some ao→(∀x b' l',aop e b l ao=.val x b' l'→OP P o a w F L b l x b' l')∧(∀f args,aop e b l ao=.call f args→VU P o a w F L f args) ∧
   (∀c x y,aop e b l ao=.two c x y→(c=true∧OP P o a w F L b l x b l)∨OP P o a w F L b l y b l):=fun h=>by
  obtain⟨h1,h2,h3⟩:=ZJr h s he
  exact⟨fun x b' l' h=>(h1 x b' l' h).toF,h2,fun c x y h=>(h3 c x y h).imp (fun h=>⟨h.1,h.2.toF⟩) (fun h=>h.toF)⟩
 unfold IY at hc
 split at hc
 ·obtain⟨ao0,h0,h1⟩:=map_some hc
  by_cases hb:∃n zs len qs,ao0=.bslice n zs len qs
  ·obtain⟨n,zs,len,qs,rfl⟩:=hb
   cases h1
   obtain⟨t,el,parts,g1,g2,g3,g4,g5,g6⟩:=z7 h0
   refine⟨fun x b' l' h=>ZGz s he g2 g3 g4 g5.1 g5.2.1 g5.2.2 g6 g1 h,?_,?_⟩
   ·intro f args h
    simp only[ZFb,aop]at h
    repeat' split at h
    all_goals cases h
   ·intro c x y h
    simp only[ZFb,aop]at h
    repeat' split at h
    all_goals cases h
  ·have:ao=ao0:=by
    rw[h1]
    cases ao0<;>first|rfl|exact absurd ⟨_,_,_,_,rfl⟩ hb
   subst this
   exact plain h0
 ·exact plain hc
end

section
variable {e e':List AV} {b l b' l':List Row}

theorem zD {x:Opd} (h:∀s∈x.slot,nth e s=nth e' s):ev e x=ev e' x:=by
 cases x with
 |t n=>exact h n (by simp[Opd.slot])
 |c x=>rfl
theorem aP:∀{xs:List Opd},(∀s∈bJ xs,nth e s=nth e' s)→evs e xs=evs e' xs
 |[],_=>rfl
 |x::xs,h=>by
   simp only[evs]
   rw[zD (x:=x) (fun s hs=>h s (by simp[bJ,hs])),aP (xs:=xs) (fun s hs=>h s (by simp[bJ,hs]))]
theorem LM {x:Option Opd} (h:∀s∈O4 x,nth e s=nth e' s):evo e x=evo e' x:=by
 cases x with
 |none=>rfl
 |some x=>simp only[evo];rw[zD (x:=x) h]
theorem fQ:∀{ps:List (Nat×Nat×Opd)} {row:List AV},(∀s∈bJ (ps.map (·.2.2)),nth e s=nth e' s)→bC e row ps=bC e' row ps
 |[],_,_=>rfl
 |(i,n,x)::ps,row,h=>by
   simp only[bC]
   rw[zD (x:=x) (fun s hs=>h s (by simp[bJ,hs]))]
   split
   ·split
    ·exact fQ (fun s hs=>h s (by simp[bJ,hs]))
    ·rfl
   ·rfl
theorem KM {sz:Nat}:∀{ps:List (Nat×Opd)} {els:List (List AV)},(∀s∈bJ (ps.map (·.2)),nth e s=nth e' s)→RB e sz els ps=RB e' sz els ps
 |[],_,_=>rfl
 |(i,x)::ps,els,h=>by
   simp only[RB]
   rw[zD (x:=x) (fun s hs=>h s (by simp[bJ,hs]))]
   split
   ·split
    ·exact KM (fun s hs=>h s (by simp[bJ,hs]))
    ·rfl
   ·rfl

theorem ZCG {o:AOp} (h:∀s∈o.looks,nth e s=nth e' s):aop e b l o=aop e' b l o:=by
 cases o<;>simp only[AOp.looks,bu]at h<;>simp only[aop]
 case mv x=>rw[zD (x:=x) h]
 case nilck x=>rw[zD (x:=x) h]
 case pick c x y=>rw[zD (x:=c) (fun s hs=>h s (.inl (.inl hs))),zD (x:=x) (fun s hs=>h s (.inl (.inr hs))),zD (x:=y) (fun s hs=>h s (.inr hs))]
 case mupdate kk m x y=>rw[zD (x:=m) (fun s hs=>h s (.inl (.inl hs))),zD (x:=x) (fun s hs=>h s (.inl (.inr hs))),zD (x:=y) (fun s hs=>h s (.inr hs))]
 case build zs ps=>rw[fQ (ps:=ps) h]
 case bslice sz zs len ps=>rw[KM (ps:=ps) h]
 case islb sz zs len ps=>rw[KM (ps:=ps) h]
 case slice sz x lo hi=>rw[zD (x:=x) (fun s hs=>h s (.inl (.inl hs))),LM (x:=lo) (fun s hs=>h s (.inl (.inr hs))),LM (x:=hi) (fun s hs=>h s (.inr hs))]
 case sliceS x lo hi=>rw[zD (x:=x) (fun s hs=>h s (.inl (.inl hs))),LM (x:=lo) (fun s hs=>h s (.inl (.inr hs))),LM (x:=hi) (fun s hs=>h s (.inr hs))]
 case mkfn f cs=>rw[aP (xs:=cs) h]
 case call f az=>rw[zD (x:=f) (fun s hs=>h s (.inl hs)),aP (xs:=az) (fun s hs=>h s (.inr hs))]
 all_goals first
  |rfl
  |(rename_i x;rw[zD (x:=x) h];done)
  |(rename_i x y;rw[zD (x:=x) (fun s hs=>h s (.inl hs)),zD (x:=y) (fun s hs=>h s (.inr hs))];done)

theorem ZEQ {g:Option (Nat×Bool)} (h:∀s∈(match g with|some (g,_)=>[g]|none=>[]),nth e s=nth e' s):gd e g=gd e' g:=by
 cases g with
 |none=>rfl
 |some gw=>obtain⟨g,w⟩:=gw;simp only[gd];rw[h g kS]

theorem pF {o:AOper} (h:∀s∈o.looks,nth e s=nth e' s):aop e b l o.op=aop e' b l o.op∧gd e o.guard=gd e' o.guard:=
 ⟨ZCG (fun s hs=>h s (by simp[AOper.looks,hs])),ZEQ (fun s hs=>h s (by simp only[AOper.looks,bu];exact .inr hs))⟩

theorem JM {o:AOp} (h:o.quiet=true):o.plain=true:=by cases o<;>first|rfl|cases h

theorem sJ {o:AOp} (h:o.quiet=true) {x:AV} (hv:aop e b l o=.val x b' l'):b'=b∧l'=l:=by
 have opt:∀(y:Option AV),VJ y b l=.val x b' l'→b'=b∧l'=l:=fun y hy=>(UE hy).2
 cases o<;>first|(cases h;done)|skip
 all_goals simp only[aop,AE,TD,MD,GC,LD,aC,sF,SD]at hv
 all_goals (repeat' split at hv)
 all_goals first|exact opt _ hv|(cases hv;exact⟨rfl,rfl⟩)|(cases hv;done)

theorem y6 {e:List AV} {d s:Nat} {x:AV} (h:d≠s):nth (upd e d x) s=nth e s:=by
 rw[LN,LN,ZK,bl h]
theorem tE {e:List AV} {d:Option Nat} {s:Nat} {x:AV} (h:∀n,d=some n→n≠s):nth (put e d x) s=nth e s:=by
 cases d with
 |none=>rfl
 |some n=>exact y6 (h n rfl)
theorem M2 {e:List AV} {d d':Option Nat} {x y:AV} (h:∀n,d=some n→d'≠some n):put (put e d x) d' y=put (put e d' y) d x:=by
 cases d with
 |none=>cases d'<;>rfl
 |some n =>
   cases d' with
   |none=>rfl
   |some m =>
     have qG:n≠m:=fun e=>h n rfl (by rw[e])
     simp only[put,ZK]
     rw[List.set_comm _ _ qG]
def uI:List DOper→List AV→List Row→List Row→Option (List AV)
 |[],e,_,_=>some e
 |d::ds,e,b,l =>
   match gd e d.o.guard with
   |some true=>match aop e b l d.o.op with
     |.val x _ _=>uI ds (put e d.o.dst x) b l
     |_=>none
   |some false=>uI ds (put e d.o.dst (.tup [])) b l
   |none=>none

theorem bN {C:CallP} {K:List AV→List Row→List Row→Prop}:∀{ps qs:List DOper} {e:List AV},(∀d∈ps,d.o.op.quiet=true)→PG C (ps++qs) e b l K→∃e1,uI ps e b l=some e1∧PG C qs e1 b l K
 |[],qs,e,_,h=>⟨e,rfl,h⟩
 |d::ps,qs,e,hq,h=>by
   simp only[da,PG]at h
   simp only[uI]
   unfold dE at h
   split at h
   case h_2=>exact h.elim
   rename_i t hg
   have hd:=hq d kS
   rw[hg]
   cases t
   ·simp only[dt,if_false]at h
    exact bN (fun x hx=>hq x (by simp[hx])) h
   ·simp only[if_true]at h
    cases hr:aop e b l d.o.op with
    |val x b1 l1 =>
      rw[hr]at h
      obtain⟨k1,k2⟩:=sJ hd hr
      rw[k1,k2]at h
      exact bN (fun x hx=>hq x (by simp[hx])) h.2
    |bad=>rw[hr]at h;exact h.elim
    |call f az=>have:=UK (e:=e) (b:=b) (l:=l) (JM hd);rw[hr]at this;cases this
    |two c x y=>have:=UK (e:=e) (b:=b) (l:=l) (JM hd);rw[hr]at this;cases this

theorem eJ {C:CallP} {K:List AV→List Row→List Row→Prop}:∀{ps qs:List DOper} {e e1:List AV},(∀d∈ps,d.o.op.quiet=true∧d.re=[])→uI ps e b l=some e1→PG C qs e1 b l K→PG C (ps++qs) e b l K
 |[],qs,e,e1,_,he,h=>by cases he;exact h
 |d::ps,qs,e,e1,hq,he,h=>by
   simp only[da,PG]
   simp only[uI]at he
   have hd:=hq d kS
   unfold dE
   split at he
   ·rename_i hg
    rw[hg]
    simp only[if_true]
    split at he
    ·rename_i x b1 l1 hr
     rw[hr]
     obtain⟨k1,k2⟩:=sJ hd.1 hr
     rw[k1,k2]
     exact⟨by rw[hd.2];trivial,eJ (fun x hx=>hq x (by simp[hx])) he h⟩
    ·cases he
   ·rename_i hg
    rw[hg]
    simp only[dt,if_false]
    exact eJ (fun x hx=>hq x (by simp[hx])) he h
   ·cases he

theorem lH:∀{ps:List DOper} {e e1:List AV} {s:Nat},uI ps e b l=some e1→(∀d∈ps,d.o.dst≠some s)→nth e1 s=nth e s
 |[],e,e1,s,he,_=>by cases he;rfl
 |d::ps,e,e1,s,he,h=>by
   simp only[uI]at he
   have hd:∀n,d.o.dst=some n→n≠s:=fun n hn e=>h d kS (by rw[hn,e])
   split at he
   ·split at he
    ·rw[lH he (fun x hx=>h x (by simp[hx])),tE hd]
    ·cases he
   ·rw[lH he (fun x hx=>h x (by simp[hx])),tE hd]
   ·cases he

def JU:List DOper→Prop
 |[]=>True
 |d::ds=>(∀n,d.o.dst=some n→n∉d.o.looks)∧(∀c∈ds,∀n,c.o.dst=some n→n∉d.o.looks∧d.o.dst≠some n)∧JU ds

theorem xL {e:List AV} {d:Option Nat} {x:AV}:(put e d x).length=e.length:=by
 cases d with
 |none=>rfl
 |some d=>simp[put,ZK]
theorem FM:∀{ps:List DOper} {e e1:List AV},uI ps e b l=some e1→e1.length=e.length
 |[],e,e1,he=>by cases he;rfl
 |d::ps,e,e1,he=>by
   simp only[uI]at he
   split at he
   ·split at he
    ·rw[FM he,xL]
    ·cases he
   ·rw[FM he,xL]
   ·cases he
theorem ZDl {e:List AV} {d:Nat} {x v:AV} (h:nth (put e (some d) x) d=v∨e.length≤d):put e (some d) v=put e (some d) x:=by
 simp only[put,ZK,LN]at h⊢
 rcases bp d e.length with hl|hl
 ·rcases h with h|h
  ·rw[ay hl]at h
   have:x=v:=h
   rw[this]
  ·omega
 ·rw[List.set_eq_of_length_le hl,List.set_eq_of_length_le hl]
theorem ZDy {e:List AV} {d:Nat} {x:AV}:nth (put e (some d) x) d=x∨e.length≤d:=by
 simp only[put,ZK,LN]
 rcases bp d e.length with hl|hl
 ·rw[ay hl];exact .inl rfl
 ·exact .inr hl

theorem RN {di:Option Nat} {v:AV}:∀{ps:List DOper} {e e1:List AV},uI ps e b l=some e1→JU ps→(∀d∈ps,d.o.op.quiet=true∧∀n,di=some n→n∉d.o.looks∧d.o.dst≠some n) →
  (∀d∈ps,YE e1 b' l' d.o)→uI ps (put e di v) b' l'=some (put e1 di v)
 |[],e,e1,he,_,_,_=>by cases he;rfl
 |d::ps,e,e1,he,hap,hi,hre=>by
   obtain⟨hq,hdi⟩:=hi d kS
   obtain⟨vY,ZGN,ZGO⟩:=hap
   have ZGP:=hre d kS
   have hi':∀c∈ps,c.o.op.quiet=true∧∀n,di=some n→n∉c.o.looks∧c.o.dst≠some n:=fun c hc=>hi c (by simp[hc])
   have hre':∀c∈ps,YE e1 b' l' c.o:=fun c hc=>hre c (by simp[hc])
   simp only[uI]at he⊢
   have ZLJ:∀s∈d.o.looks,nth (put e di v) s=nth e s:=fun s hs=>tE (fun n hn=>fun hns=>(hdi n hn).1 (hns▸hs))
   obtain⟨TI,YS⟩:=pF (b:=b') (l:=l') (o:=d.o) ZLJ
   rw[YS,TI]
   have ZCd:∀{x:AV},uI ps (put e d.o.dst x) b l=some e1→∀s∈d.o.looks,nth e1 s=nth e s:=by
    intro x hx s hs
    rw[lH hx (fun c hc TY=>(ZGN c hc s TY).1 hs)]
    exact tE (fun n hn=>fun hns=>vY n hn (hns▸hs))
   have fR:∀u,put (put e di v) d.o.dst u=put (put e d.o.dst u) di v:=fun u=>M2 (fun n hn=>(hdi n hn).2)
   split at he
   ·rename_i hg
    split at he
    case h_2=>cases he
    rename_i x b1 l1 hr
    obtain⟨k1,k2⟩:=pF (b:=b') (l:=l') (o:=d.o) (ZCd he)
    unfold YE dE at ZGP
    rw[k2,hg]at ZGP
    simp only[if_true]at ZGP
    rw[k1]at ZGP
    obtain⟨u,hu,hun⟩:=ZGP
    rw[hu]
    simp only
    rw[fR]
    have eR:put e d.o.dst u=put e d.o.dst x:=by
     cases hd:d.o.dst with
     |none=>rfl
     |some n =>
       rw[hd]at hun he
       simp only at hun
       rw[lH he (fun c hc TY=>(ZGN c hc n TY).2 hd),FM he,xL]at hun
       exact ZDl hun
    rw[eR]
    exact RN he ZGO hi' hre'
   ·rename_i hg
    rw[fR]
    exact RN he ZGO hi' hre'
   ·cases he

theorem zM:∀{ps:List DOper} {e e1:List AV},uI ps e b l=some e1→JU ps→(∀d∈ps,d.o.op.quiet=true)→∀d∈ps,YE e1 b l d.o
 |[],e,e1,he,_,_,d,hd=>by simp at hd
 |c::ps,e,e1,he,hap,hq,d,hd=>by
   obtain⟨vY,ZGN,ZGO⟩:=hap
   have hqc:=hq c kS
   simp only[uI]at he
   have ZCd:∀{x:AV},uI ps (put e c.o.dst x) b l=some e1→∀s∈c.o.looks,nth e1 s=nth e s:=by
    intro x hx s hs
    rw[lH hx (fun c' hc TY=>(ZGN c' hc s TY).1 hs)]
    exact tE (fun n hn=>fun hns=>vY n hn (hns▸hs))
   rcases cz.1 hd with rfl|hd'
   ·split at he
    ·rename_i hg
     split at he
     case h_2=>cases he
     rename_i x b1 l1 hr
     obtain⟨k1,k2⟩:=pF (b:=b) (l:=l) (o:=d.o) (ZCd he)
     obtain⟨q1,q2⟩:=sJ hqc hr
     unfold YE dE
     rw[k2,hg,k1,hr,q1,q2]
     simp only[if_true]
     refine⟨x,rfl,?_⟩
     cases hdd:d.o.dst with
     |none=>trivial
     |some n =>
       rw[hdd]at he
       simp only
       rw[lH he (fun c' hc TY=>(ZGN c' hc n TY).2 hdd),FM he,xL]
       exact ZDy
    ·rename_i hg
     obtain⟨k1,k2⟩:=pF (b:=b) (l:=l) (o:=d.o) (ZCd he)
     unfold YE dE
     rw[k2,hg]
     simp
    ·cases he
   ·split at he
    ·split at he
     ·exact zM he ZGO (fun c' hc=>hq c' (by simp[hc])) d hd'
     ·cases he
    ·exact zM he ZGO (fun c' hc=>hq c' (by simp[hc])) d hd'
    ·cases he

theorem aN:∀{rs:List AOper} {e:List AV},TG e b l rs→∀r∈rs,YE e b l r
 |[],_,_,r,hr=>by simp at hr
 |x::rs,e,h,r,hr=>by
   rcases cz.1 hr with rfl|hr
   ·exact h.1
   ·exact aN h.2 r hr

theorem ZFW {C:CallP} (JS:∀f args b l (Q Q':AV→List Row→List Row→Prop),C f args b l Q→(∀x b' l',Q x b' l'→Q' x b' l')→C f args b l Q')
  {K:List AV→List Row→List Row→Prop} {p1 p2:List DOper} {i:DOper} (h:PG C (p1++i::p2) e b l K) (hq:∀d∈p1,d.o.op.quiet=true∧d.re=[]) (hap:JU p1)
  (h1:∀d∈p1,∀n,i.o.dst=some n→n∉d.o.looks∧d.o.dst≠some n) (h2:∀d∈p1,∀n,d.o.dst=some n→n∉i.o.looks) (hre:i.o.op.quiet=true∨∀d∈p1,d.o∈i.re) :
  dE (gd e i.o.guard) (uK C b l (fun x b' l'=>PG C (p1++p2) (put e i.o.dst x) b' l' K) (aop e b l i.o.op)) (PG C (p1++p2) (put e i.o.dst (.tup [])) b l K):=by
 obtain⟨e1,he,h⟩:=bN (fun d hd=>(hq d hd).1) h
 obtain⟨k1,k2⟩:=pF (e:=e1) (e':=e) (b:=b) (l:=l) (o:=i.o) (fun s hs=>lH he (fun d hd zP=>h2 d hd s zP hs))
 have bR:=zM he hap (fun d hd=>(hq d hd).1)
 have move:∀{b' l':List Row} (x:AV),(∀d∈p1,YE e1 b' l' d.o)→PG C p2 (put e1 i.o.dst x) b' l' K→PG C (p1++p2) (put e i.o.dst x) b' l' K:=by
  intro b' l' x hr hk
  exact eJ hq (RN he hap (fun d hd=>⟨(hq d hd).1,fun n hn=>h1 d hd n hn⟩) hr) hk
 simp only[PG]at h
 rw[k1,k2]at h
 unfold dE at h⊢
 split at h
 case h_2=>exact h.elim
 rename_i t hg
 cases t
 ·simp only[dt,if_false]at h⊢
  exact move _ bR h
 ·simp only[if_true]at h⊢
  cases hr:aop e b l i.o.op with
  |bad=>rw[hr]at h;exact h.elim
  |val x b' l' =>
    rw[hr]at h
    refine move _ ?_ h.2
    rcases hre with hre|hre
    ·obtain⟨q1,q2⟩:=sJ hre hr
     rw[q1,q2];exact bR
    ·exact fun d hd=>aN h.1 _ (hre d hd)
  |two c x y =>
    rw[hr]at h
    exact⟨fun hc=>move _ bR (h.1 hc).2,move _ bR h.2.2⟩
  |call f az =>
    rw[hr]at h
    refine JS _ _ _ _ _ _ h ?_
    rintro x b' l' ⟨g1,g2⟩
    refine move _ ?_ g2
    rcases hre with hre|hre
    ·have:=UK (e:=e) (b:=b) (l:=l) (JM hre);rw[hr]at this;cases this
    ·exact fun d hd=>aN g1 _ (hre d hd)

theorem zZ {e e':List AV} {b l:List Row} {r:AOper} (h:∀s∈r.looks,nth e s=nth e' s) (hd:∀n,r.dst=some n→nth e n=nth e' n) (hl:e.length=e'.length) (hr:YE e b l r):YE e' b l r:=by
 obtain⟨k1,k2⟩:=pF (b:=b) (l:=l) h
 unfold YE at hr⊢
 rw[k1,k2]at hr
 cases hdd:r.dst with
 |none=>rw[hdd]at hr;exact hr
 |some n=>rw[hdd]at hr;simp only at hr⊢;rw[hd n hdd,hl]at hr;exact hr

theorem mK {e e':List AV} {b l:List Row}:∀{rs:List AOper},(∀r∈rs,(∀s∈r.looks,nth e s=nth e' s)∧∀n,r.dst=some n→nth e n=nth e' n)→e.length=e'.length→TG e b l rs→TG e' b l rs
 |[],_,_,_=>trivial
 |r::rs,h,hl,hr=>⟨zZ (h r kS).1 (h r kS).2 hl hr.1,mK (fun x hx=>h x (by simp[hx])) hl hr.2⟩

theorem zK {C:CallP} (JS:∀f args b l (Q Q':AV→List Row→List Row→Prop),C f args b l Q→(∀x b' l',Q x b' l'→Q' x b' l')→C f args b l Q')
  {K:List AV→List Row→List Row→Prop} {d:Nat} {zs:List AV} {i:Nat} {re:List AOper} {p2:List DOper} (hre:∀r∈re,d∉r.looks∧r.dst≠some d) :
  ∀{p1:List DOper} {e:List AV} {b l:List Row} {x:AV},(∀c∈p1,d∉c.o.looks∧c.o.dst≠some d∧∀r∈c.re,d∉r.looks∧r.dst≠some d) →
   PG C (p1++⟨i,⟨some d,.alloc zs,none⟩,re⟩::p2) e b l K→PG C (p1++⟨i,⟨some d,.alloc zs,none⟩,re⟩::p2) (put e (some d) x) b l K
 |[],e,b,l,x,_,h=>by
   simp only[ee,PG,gd,dE,if_true,aop,mk,uK]at h⊢
   obtain⟨h1,h2⟩:=h
   refine⟨mK (fun r hr=>⟨fun s hs=>?_,fun n hn=>?_⟩) (by simp[xL]) h1,?_⟩
   ·rw[tE];intro n hn hns;cases hn;exact (hre r hr).1 (hns▸hs)
   ·rw[tE];intro m hm hmn;cases hm;exact (hre r hr).2 (by rw[hn,hmn])
   ·simp only[put,ZK,ix]at h2⊢;exact h2
 |c::p1,e,b,l,x,hp,h=>by
   obtain⟨c1,c2,c3⟩:=hp c kS
   have hp':∀c'∈p1,d∉c'.o.looks∧c'.o.dst≠some d∧∀r∈c'.re,d∉r.looks∧r.dst≠some d:=fun c' hc=>hp c' (by simp[hc])
   simp only[da,PG]at h⊢
   obtain⟨k1,k2⟩:=pF (e:=put e (some d) x) (e':=e) (b:=b) (l:=l) (o:=c.o) (fun s hs=>tE (fun n hn hns=>by cases hn;exact c1 (hns▸hs)))
   rw[k1,k2]
   have fR:∀v,put (put e (some d) x) c.o.dst v=put (put e c.o.dst v) (some d) x:=fun v=>M2 (fun n hn=>by cases hn;exact c2)
   have hrs:∀{b' l':List Row},TG e b' l' c.re→TG (put e (some d) x) b' l' c.re:=fun hr=>mK (fun r hrr=>⟨fun s hs=>by rw[tE];intro n hn hns;cases hn;exact (c3 r hrr).1 (hns▸hs),fun n hn=>by rw[tE];intro m hm hmn;cases hm;exact (c3 r hrr).2 (by rw[hn,hmn])⟩) (by simp[xL]) hr
   unfold dE at h⊢
   split at h
   case h_2=>exact h.elim
   rename_i t hg
   cases t
   ·simp only[dt,if_false]at h⊢
    rw[fR]
    exact zK JS hre hp' h
   ·simp only[if_true]at h⊢
    cases hr:aop e b l c.o.op with
    |bad=>rw[hr]at h;exact h.elim
    |val y b' l' =>
      rw[hr]at h
      simp only[uK]at h⊢
      rw[fR]
      exact⟨hrs h.1,zK JS hre hp' h.2⟩
    |two t y z =>
      rw[hr]at h
      simp only[uK]at h⊢
      rw[fR,fR]
      exact⟨fun ht=>⟨hrs (h.1 ht).1,zK JS hre hp' (h.1 ht).2⟩,hrs h.2.1,zK JS hre hp' h.2.2⟩
    |call f az =>
      rw[hr]at h
      simp only[uK]at h⊢
      refine JS _ _ _ _ _ _ h ?_
      rintro y b' l' ⟨g1,g2⟩
      rw[fR]
      exact⟨hrs g1,zK JS hre hp' g2⟩
end

def QA (P:Program):CallP:=fun f args b l Q =>
 (∃fn,P.funcs[f]? = some fn∧(fn.name == "runtime.NumGoroutine")=false∧fn.body.isSome=true) ∧
 ∀F L w (vs:Array Value),Sim F L (b++l) w→GA w F L args vs.toList→Calls P f vs w fun en w' =>
  ∃v x b' l' F' L',en=.returned v∧RepA w' F' L' x v∧Sim F' L' (b'++l') w'∧Step (b++l).length F L (b++l) w F' L' (b'++l') w'∧b'.length=b.length∧Q x b' l'

def VA:WeakP:=fun e b l e' b' l' =>
 ∀F L w a,Sim F L (b++l) w→FB w F L e a→∃F' L',Sim F' L' (b'++l') w∧FB w F' L' e' a∧Step b.length F L (b++l) w F' L' (b'++l') w∧b'.length=b.length

def ExR:Exit→AExit→Prop
 |.normal,.normal=>True
 |.exit i,.exit j=>i=j
 |.ret,.ret=>True
 |_,_=>False

def Aft (nb:Nat) (F:Nat→Prop) (L:LMap) (h:List Row) (w:World) (Q:AExit→List AV→List Row→List Row→Prop):Exit→Act→World→Prop:=fun ex a' w' =>
 ∃ax e' b' l' F' L',ExR ex ax∧Sim F' L' (b'++l') w'∧FB w' F' L' e' a'∧Step nb F L h w F' L' (b'++l') w'∧b'.length=nb∧Q ax e' b' l'

section
variable {P:Program}

theorem ZFc {w:World} {F:Nat→Prop} {L:LMap} {e:List AV} {a:Act} (he:FB w F L e a) {ops:Array Oper} {o:Oper} {g:Option (Nat×Bool)} (hg:zR ops o.guard=some g) {t:Bool} (h:gd e g=some t) :
  Region.wanted o (yielded ops a.tmps)=t:=by
 unfold zR at hg
 unfold Region.wanted
 cases hgu:o.guard with
 |none=>rw[hgu]at hg;simp at hg;subst hg;simp[gd]at h;subst h;rfl
 |some jw =>
   obtain⟨j,want⟩:=jw
   rw[hgu]at hg
   simp only at hg
   cases hd:(ops[j]?).bind (·.dst) with
   |none=>rw[hd]at hg;cases hg
   |some d =>
     rw[hd]at hg
     cases hg
     simp only[gd]at h
     have hr:=he.nth d
     simp only[yielded,hd,Option.bind_some]
     have hget:a.tmps.getD d undef=(a.tmps[d]?).getD undef:=by simp[Array.getD_eq_getD_getElem?]
     rw[hget]at hr
     generalize nth e d=q at *
     split at h
     ·rename_i t'
      cases h
      have:=dM hr
      cases hq:a.tmps[d]? with
      |none=>rw[hq]at this;cases this
      |some v=>rw[hq]at this;simp only[fu]at this;subst this;cases t'<;>cases want<;>rfl
     ·cases h
      obtain⟨vs,hv,hl⟩:=hr.tupL
      cases hq:a.tmps[d]? with
      |none=>cases want<;>rfl
      |some v=>rw[hq]at hv;simp only[fu]at hv;subst hv;cases want<;>rfl
     ·cases h

theorem ZIM {imm:Bool} {o:Oper} {ao:AOp} (hc:IY P imm o.op=some ao) {C:CallP} (hC:∀f args b l Q,C f args b l Q→QA P f args b l Q)
  {e:List AV} {b l:List Row} {K:List AV→List Row→List Row→Prop} (h:uK C b l (fun x b' l'=>K (put e o.dst x) b' l') (aop e b l ao))
  {F:Nat→Prop} {L:LMap} {w:World} {a:Act} (s:Sim F L (b++l) w) (he:FB w F L e a) (Q:Exit→Act→World→Prop) {next:Act→World→Prop}
  (hn:∀e' b' l' F' L' a' w',K e' b' l'→Sim F' L' (b'++l') w'→FB w' F' L' e' a'→Step b.length F L (b++l) w F' L' (b'++l') w'→b'.length=b.length→(∃v,a'=a.put o.dst v)→next a' w'):o.wp P a w next Q:=by
 have IB:b.length≤(b++l).length:=by simp
 obtain⟨h1,h2,h3⟩:=ZHd (P:=P) hc s he
 unfold Oper.wp
 have key:∀x b' l',OP P o a w F L b l x b' l'→K (put e o.dst x) b' l'→o.upon P a next Q ((execOp a.eval o).run P w):=by
  rintro x b' l' ⟨v,w',F',L',ZCt,hx,s',st,hb⟩ hk
  have he':=(he.step s st).put o.dst hx
  rcases ZCt with ZCt|⟨ZCt,rfl⟩
  ·rw[ZCt];exact hn _ _ _ _ _ _ _ hk s' he' (st.weaken IB) hb ⟨_,rfl⟩
  ·rw[ZCt];exact hn _ _ _ _ _ _ _ hk s' he' (st.weaken IB) hb ⟨_,rfl⟩
 cases hr:aop e b l ao with
 |bad=>rw[hr]at h;exact h.elim
 |two c x y =>
   rw[hr]at h
   rcases h3 c x y hr with ⟨TI,hk⟩|hk
   ·exact key x b l hk (h.1 TI)
   ·exact key y b l hk h.2
 |val x b' l' =>
   rw[hr]at h
   exact key x b' l' (h1 x b' l' hr) h
 |call f args =>
   rw[hr]at h
   obtain⟨⟨fn,g1,g2,g3⟩,g4⟩:=hC _ _ _ _ _ h
   obtain⟨vs,k1,k2⟩:=h2 f args hr
   rw[k2 fn g1 g2 g3]
   refine Calls.mono (g4 F L w vs s k1) ?_
   rintro en w' ⟨v,x,b',l',F',L',rfl,hx,s',st,hb,hq⟩
   exact hn _ _ _ _ _ _ _ hq s' ((he.step s st).put o.dst hx) (st.weaken IB) hb ⟨_,rfl⟩

theorem uY {imm:Bool} {C:CallP} (hC:∀f args b l Q,C f args b l Q→QA P f args b l Q) (ops:Array Oper) {nb:Nat} {F0:Nat→Prop} {L0:LMap} {h0:List Row} {w0:World} {Q:List AV→List Row→List Row→Prop} {Q':Exit→Act→World→Prop} :
  ∀(os:List Oper) (is:List Nat) (aos:List AOper),zT P imm ops os=some aos→is.map (ops[·]?)=os.map some→∀e b l,wF C aos e b l Q→b.length=nb→∀F L w a,Sim F L (b++l) w→FB w F L e a→Step nb F0 L0 h0 w0 F L (b++l) w →
   (∀e' b' l' F' L' a' w',Q e' b' l'→Sim F' L' (b'++l') w'→FB w' F' L' e' a'→Step nb F0 L0 h0 w0 F' L' (b'++l') w'→b'.length=nb→Q' .normal a' w')→wpOps P ops Q' is a w
 |[],is,aos,hc,hi,e,b,l,h,hb,F,L,w,a,s,he,st,hQ=>by
   have:is=[]:=by simpa using hi
   subst this
   simp[zT]at hc
   subst hc
   exact hQ _ _ _ _ _ _ _ h s he st hb
 |o::os,[],aos,hc,hi,e,b,l,h,hb,F,L,w,a,s,he,st,hQ=>by simp at hi
 |o::os,i::is,aos,hc,hi,e,b,l,h,hb,F,L,w,a,s,he,st,hQ=>by
   simp only[bj,List.cons.injEq]at hi
   obtain⟨c8,hi2⟩:=hi
   unfold zT at hc
   split at hc
   case h_2=>cases hc
   rename_i ao g aos' c1 c2 c3
   cases hc
   simp only[wF]at h
   simp only[wpOps,c8]
   unfold dE at h
   split at h
   case h_2=>exact h.elim
   rename_i t hg
   rw[ZFc he c2 hg]
   cases t
   ·simp only[dt,if_false]at h⊢
    exact uY hC ops os is aos' c3 hi2 _ _ _ h hb F L w _ s (he.put o.dst (RepA.undef _ _ _)) st hQ
   ·simp only[if_true]at h⊢
    refine .inl (ZIM c1 hC (K:=fun e b l=>wF C aos' e b l Q) h s he Q' ?_)
    intro e' b' l' F' L' a' w' hk s' he' st' hb' _
    exact uY hC ops os is aos' c3 hi2 _ _ _ hk (hb'.trans hb) F' L' w' a' s' he' (st.trans (hb▸st')) hQ

theorem aD:∀f args b l (Q Q':AV→List Row→List Row→Prop),QA P f args b l Q→(∀x b' l',Q x b' l'→Q' x b' l')→QA P f args b l Q':=by
 rintro f args b l Q Q' ⟨h1,h2⟩ hq
 refine⟨h1,fun F L w vs s hr=>Calls.mono (h2 F L w vs s hr) ?_⟩
 rintro en w' ⟨v,x,b',l',F',L',k1,k2,k3,k4,k5,k6⟩
 exact⟨v,x,b',l',F',L',k1,k2,k3,k4,k5,hq _ _ _ k6⟩

theorem PT {imm:Bool} {ops:Array Oper}:∀{os:List Oper} {aos:List AOper},zT P imm ops os=some aos→aos.length=os.length∧∀(i:Nat) (ao:AOper),aos[i]? = some ao→∃(o:Oper),os[i]? = some o∧IY P imm o.op=some ao.op∧zR ops o.guard=some ao.guard∧ao.dst=o.dst
 |[],aos,h=>by simp[zT]at h;subst h;simp
 |o::os,aos,h=>by
   unfold zT at h
   split at h
   case h_2=>cases h
   rename_i x g xs h1 h2 h3
   cases h
   obtain⟨h4,h5⟩:=PT h3
   refine⟨by simp[h4],fun i ao hi=>?_⟩
   cases i with
   |zero=>simp at hi;subst hi;exact⟨o,rfl,h1,h2,rfl⟩
   |succ i=>simp at hi;simpa using h5 i ao hi

theorem K1 {ops:Array Oper} {aos:List AOper} {i:Nat}:∀{js:List Nat} {j:Nat} {r:AOper},j∈js→aos[j]? = some r→r.op.quiet=true→anc ops j ops.size i=false→r∈ZDP ops aos i js
 |[],j,r,h,_,_,_=>by simp at h
 |k::js,j,r,h,hr,hq,ha=>by
   simp only[ZDP]
   rcases cz.1 h with rfl|h
   ·rw[hr];simp[hq,ha]
   ·have:=K1 h hr hq ha
    split
    ·split
     ·exact lf _ this
     ·exact this
    ·exact this

def ZCb (ops:Array Oper) (fin:List Nat) (a c:DOper):Prop:=
 ZU ops fin a c=true∧(a.o.op.quiet=true→anc ops a.i ops.size c.i=false→c.o.op.quiet=true∨a.o∈c.re)

theorem ZW {ops:Array Oper} {aos:List AOper}:∀{is done:List Nat},(∀d∈mkD ops aos done is,aos[d.i]? = some d.o∧(d.o.op.quiet=true→d.re=[])∧(∀j∈done,∀(r:AOper),aos[j]? = some r→r.op.quiet=true→anc ops j ops.size d.i=false→d.o.op.quiet=true∨r∈d.re)) ∧
  (mkD ops aos done is).Pairwise (fun a c=>a.o.op.quiet=true→anc ops a.i ops.size c.i=false→c.o.op.quiet=true∨a.o∈c.re)
 |[],done=>by simp[mkD]
 |i::is,done=>by
   simp only[mkD]
   cases hi:aos[i]? with
   |none=>simp
   |some o =>
     simp only
     obtain⟨h1,h2⟩:=ZW (ops:=ops) (aos:=aos) (is:=is) (done:=done++[i])
     refine⟨fun d hd=>?_,List.Pairwise.cons (fun c hc hq ha=>?_) h2⟩
     ·rcases cz.1 hd with rfl|hd
      ·refine⟨hi,fun hq=>by simp only at hq⊢;rw[if_pos hq],fun j hj r hr hq ha=>?_⟩
       simp only
       cases hqq:o.op.quiet
       ·rw[if_neg kS]
        exact .inr (K1 hj hr hq ha)
       ·exact .inl rfl
      ·obtain⟨g1,g2,g3⟩:=h1 d hd
       exact⟨g1,g2,fun j hj=>g3 j (by simp[hj])⟩
     ·exact (h1 c hc).2.2 i kS o hi hq ha

theorem UO {ops:Array Oper} {fin:List Nat}:∀{ds:List DOper},LR ops fin ds=true→(∀d∈ds,OQ d=true)∧ds.Pairwise (fun a c=>ZU ops fin a c=true)
 |[],_=>by simp
 |a::ds,h=>by
   simp only[LR,ar]at h
   obtain⟨⟨h1,h2⟩,h3⟩:=h
   obtain⟨g1,g2⟩:=UO h3
   exact ⟨fun d hd => by rcases cz.1 hd with rfl | hd
                         ·exact h1
                         ·exact g1 d hd,List.Pairwise.cons (fun c hc=>bn.1 h2 c hc) g2⟩

theorem OB {ops:Array Oper} {fin:List Nat} {a c:DOper} (h:ZU ops fin a c=true):(∀n,c.o.dst=some n→(a.o.op.quiet=true∨c.o.op.isAlloc=true→c.i∉fin∨anc ops a.i ops.size c.i=false∨c.o.op.isAlloc=true→n∉a.o.looks)∧a.o.dst≠some n∧(c.o.op.isAlloc=true→∀r∈a.re,n∉r.looks∧r.dst≠some n)) ∧
  (anc ops a.i ops.size c.i=false→(a.o.op.quiet=true∨c.o.op.isAlloc=true)∧∀n,a.o.dst=some n→n∉c.o.looks)∧(a.i∈fin→anc ops a.i ops.size c.i=true):=by
 simp only[ZU,ar]at h
 obtain⟨⟨hf,h1⟩,h2⟩:=h
 refine⟨fun n hn=>?_,fun ha=>?_,fun hm=>by
  rw[gp]at hf
  refine hf.resolve_left (fun h=>?_)
  rw[List.contains_iff_mem.2 hm]at h
  cases h⟩
 ·rw[hn]at h1
  simp only[ar]at h1
  refine⟨fun hqa hw=>?_,by simpa using h1.1.2,fun hal r hr=>?_⟩
  ·have h3:=h1.1.1
   rw[show (a.o.op.quiet||c.o.op.isAlloc)=true by simpa using hqa]at h3
   have h4:(fin.contains c.i&&!c.o.op.isAlloc&&anc ops a.i ops.size c.i)=false:=by
    rcases hw with hw|hw|hw
    ·simp[hw]
    ·rw[hw];simp
    ·rw[hw];simp
   rw[h4]at h3
   simpa using h3
  ·have h3:=h1.2
   rw[hal]at h3
   simp only[iw,gq]at h3
   have:=bn.1 h3 r hr
   simpa using this
 ·rw[ha]at h2
  simp only[gq,ar,gp]at h2
  refine⟨h2.1,fun n hn=>?_⟩
  have:=h2.2
  rw[hn]at this
  simpa using this

theorem TN {ops:Array Oper} {listed:Array Bool} (WM:∀j o,ops[j]? = some o→listed.getD j false=true→∀ed∈o.after,Region.binds .any ed=true→listed.getD ed.on false=true) {x:Nat} :
  ∀{n i:Nat},(∀o,ops[i]? = some o→∀ed∈o.after,Region.binds .any ed=true→listed.getD ed.on false=true)→anc ops x n i=true→listed.getD x false=true
 |0,i,_,h=>by cases h
 |n+1,i,hi,h=>by
   simp only[anc]at h
   split at h
   case h_2=>cases h
   rename_i o ho
   obtain⟨ed,hed,hb⟩:=fj.1 h
   simp only[ar,gp,beq_iff_eq]at hb
   have hl:=hi o ho ed (by simpa using hed) hb.1
   rcases hb.2 with rfl|hb
   ·exact hl
   ·exact TN WM (n:=n) (i:=ed.on) (fun o' ho'=>WM ed.on o' ho' hl) hb

theorem zQ {a:DOper} (h:OQ a=true) (hqa:a.o.op.quiet=true∨a.o.op.isAlloc=true):∀n,a.o.dst=some n→n∉a.o.looks∧∀r∈a.re,n∉r.looks∧r.dst≠some n:=by
 intro n hn
 unfold OQ at h
 rw[hn,show (a.o.op.quiet||a.o.op.isAlloc)=true by simpa using hqa]at h
 simp only[iw,gq,ar]at h
 refine⟨by simpa using h.1,fun r hr=>?_⟩
 have:=bn.1 h.2 r hr
 simpa using this

theorem PH {o:AOp} (h:o.quiet=true):o.isAlloc=false:=by cases o<;>first|rfl|cases h

theorem lT {listed:Array Bool} {i:Nat} {ps:List DOper} (h:∀x∈ps,i≠x.i):ps.filter (fun d=>!(listed.setIfInBounds i true).getD d.i false)=ps.filter (fun d=>!listed.getD d.i false):=
 List.filter_congr (fun x hx=>by rw[getD_set_ne false (h x hx)])

theorem ZIT:∀{vs:List Value} {xs:List AV},cvL vs=some xs→∀x∈xs,∃y,x=.v y
 |[],xs,h=>by cases h;simp
 |v::vs,xs,h=>by
   unfold cvL at h
   split at h
   case h_2=>cases h
   rename_i y ys h1 h2
   cases h
   intro x hx
   rcases cz.1 hx with rfl|hx
   ·exact⟨y,rfl⟩
   ·exact ZIT h2 x hx

theorem ZGm {F:Nat→Prop} {L:LMap} {h:List Row} {w:World} (s:Sim F L h w) (blk:Obj) (nb:Nat) :
  Sim F L h (w.alloc blk)∧Step nb F L h w F L h (w.alloc blk)∧¬F w.heap.size∧¬DC L h w.heap.size:=by
 have hh:∀k,k<w.heap.size→(w.alloc blk).heap[k]? = w.heap[k]?:=fun k hk=>by
  show (w.heap.push blk)[k]? = _
  rw[Array.getElem?_push_lt hk,fy hk]
 have NN:(w.alloc blk).heap.size=w.heap.size+1:=by show (w.heap.push blk).size=_;simp
 have hF:¬F w.heap.size:=fun hf=>Nat.lt_irrefl _ (s.imm _ hf).1
 have hO:∀k,DC L h k→k<w.heap.size:=by
  rintro k ⟨i,v,z,e1,q1,h1,h2,h3⟩
  obtain⟨q,g1,g2⟩:=s.row _ _ _ _ h1
  rw[h2]at g1
  cases g1
  exact g2.lt h3
 refine⟨⟨fun i v z els hi=>?_,s.born,s.apart,fun b hb=>⟨by have:=(s.imm b hb).1;omega,(s.imm b hb).2⟩,s.glob.mono (fun _ h=>h) (fun b hb=>hh b (s.imm b hb).1)⟩,
  ⟨fun _ h=>h,fun _ _ _ _ h=>h,rfl,rfl,rfl,by omega,fun b hb _=>hh b hb,fun _ _ h=>h,fun _ _ _ h=>h,fun _ _ h=>.inl h⟩,hF,fun ho=>Nat.lt_irrefl _ (hO _ ho)⟩
 obtain⟨q,g1,g2⟩:=s.row i v z els hi
 exact⟨q,g1,g2.mono (fun b hb=>hh b (g2.lt hb)) (fun _ _ hx=>hx.mono (fun _ h=>h) (fun b hb=>hh b (s.imm b hb).1) (fun _ _ _ h=>h))⟩

theorem iP {ops:Array Oper} {fin:List Nat}:∀{ps:List DOper},(∀d∈ps,d.o.op.quiet=true∧d.i∉fin)→(∀d∈ps,OQ d=true)→ps.Pairwise (ZCb ops fin)→JU ps
 |[],_,_,_=>trivial
 |d::ps,hq,hs,hp=>by
   cases hp with
   |cons h1 h2 =>
     refine⟨fun n hn=>?_,fun c hc n hn=>⟨((OB (h1 c hc).1).1 n hn).1 (.inl (hq d kS).1) (.inl (hq c (by simp[hc])).2),((OB (h1 c hc).1).1 n hn).2.1⟩,iP (fun x hx=>hq x (by simp[hx])) (fun x hx=>hs x (by simp[hx])) h2⟩
     exact (zQ (hs d kS) (.inl (hq d kS).1) n hn).1

def YU (w0 w:World) (F:Nat→Prop) (L:LMap) (h:List Row) (a:Act) (d:DOper) (k:Nat):Prop:=
 ∃zs dd cur T,d.o=⟨some dd,.alloc zs,none⟩∧(dd<a.tmps.size→a.tmps[dd]? = some (.pointer (some ⟨k,0,none⟩)))∧w0.heap.size≤k∧w.heap[k]? = some (.cells cur T (0,0))∧zs.length≤cur.size ∧
  (∀(j:Nat) (x:AV),zs[j]? = some x→∃y v,x=.v y∧cur[j]? = some v∧RepI w F y v)∧¬F k∧¬DC L h k

theorem YU.step {w0 w w':World} {F F':Nat→Prop} {L L':LMap} {h h':List Row} {a a':Act} {d:DOper} {k nb:Nat} (r:YU w0 w F L h a d k) (s:Sim F L h w) (st:Step nb F L h w F' L' h' w')
  (ha:∀dd,d.o.dst=some dd→a'.tmps.size=a.tmps.size∧a'.tmps[dd]? = a.tmps[dd]?):YU w0 w' F' L' h' a' d k:=by
 obtain⟨zs,dd,cur,T,h1,h2,h3,h4,h5,h6,h7,h8⟩:=r
 have hk:k<w.heap.size:=(bw.1 h4).1
 obtain⟨e1,e2⟩:=ha dd (by rw[h1])
 refine⟨zs,dd,cur,T,h1,fun hd=>by rw[e2];exact h2 oM,h3,by rw[st.block k hk h8];exact h4,h5,fun j x hx=>?_,fun hf=>(st.fnew k hk hf).elim h7 h8,fun ho=>h8 (st.own k hk ho)⟩
 obtain⟨y,v,g1,g2,g3⟩:=h6 j x hx
 exact⟨y,v,g1,g2,g3.mono st.imm (st.immEq s)⟩

theorem adopt {nb:Nat} {F0 F:Nat→Prop} {L0 L:LMap} {h0 b l:List Row} {w0 w:World} (s:Sim F L (b++l) w) (st:Step nb F0 L0 h0 w0 F L (b++l) w) (hb:b.length=nb) {k:Nat} {zs:List AV} {cur:Array Value} {T:TypeId}
  (hk:w0.heap.size≤k) (M4:w.heap[k]? = some (.cells cur T (0,0))) (IB:zs.length≤cur.size) (hz:∀(j:Nat) (x:AV),zs[j]? = some x→∃y v,x=.v y∧cur[j]? = some v∧RepI w F y v) (hF:¬F k) (hO:¬DC L (b++l) k) :
  ∃L':LMap,Sim F L' (b++(l++[.live 0 zs.length [zs]])) w∧Step nb F0 L0 h0 w0 F L' (b++(l++[.live 0 zs.length [zs]])) w∧L' (b.length+l.length) 0=some (.pl k 0 zs.length 1)∧(∀i v q,L i v=some q→L' i v=some q) ∧
   ∀k',DC L' (b++(l++[.live 0 zs.length [zs]])) k'→k'=k∨DC L (b++l) k':=by
 have ZOB:(b++l).length=b.length+l.length:=by simp
 have U5:L (b.length+l.length) 0=none:=by
  cases hq:L (b.length+l.length) 0 with
  |none=>rfl
  |some q=>exact absurd (s.lt hq) oM
 obtain⟨L',FT,yY,eU⟩:∃L':LMap,L' (b.length+l.length) 0=some (.pl k 0 zs.length 1)∧(∀i v q,L i v=some q→L' i v=some q)∧∀i v,(i≠b.length+l.length∨v≠0)→L' i v=L i v:=by
  refine⟨fun i v=>if i=b.length+l.length∧v=0 then some (.pl k 0 zs.length 1) else L i v,by simp,?_,?_⟩
  ·intro i v q hl
   by_cases hi:i=b.length+l.length∧v=0
   ·obtain⟨rfl,rfl⟩:=hi
    rw[U5]at hl;cases hl
   ·simp[hi,hl]
  ·intro i v hi
   have:¬(i=b.length+l.length∧v=0):=fun ⟨a,b⟩=>hi.elim (fun h=>h a) (fun h=>h b)
   simp[this]
 have JH:∀j,j≠b.length+l.length→(b++(l++[Row.live 0 zs.length [zs]]))[j]? = (b++l)[j]?:=by
  intro j hj
  rw[←bc]
  by_cases wG:j<(b++l).length
  ·rw[aw wG]
  ·rw[cg (by simp;omega),cg oM]
 have GG:(b++(l++[Row.live 0 zs.length [zs]]))[b.length+l.length]? = some (.live 0 zs.length [zs]):=by
  rw[←bc,aq oM];simp
 have own:∀k',DC L' (b++(l++[Row.live 0 zs.length [zs]])) k'→k'=k∨DC L (b++l) k':=by
  rintro k' ⟨i,v,z,e1,q1,h1,h2,h3⟩
  by_cases hi:i=b.length+l.length
  ·subst hi
   rw[GG]at h1;cases h1
   rw[FT]at h2;cases h2
   exact .inl h3.symm
  ·rw[JH i hi]at h1
   rw[eU i v (.inl hi)]at h2
   exact .inr ⟨i,v,z,e1,q1,h1,h2,h3⟩
 have mono:∀{x:AV} {v:Value},RepA w F L x v→RepA w F L' x v:=fun hx=>hx.mono (fun _ h=>h) (fun _ _=>rfl) yY
 have notk:∀{j v z els q1},(b++l)[j]? = some (.live v z els)→L j v=some q1→¬q1.on k:=fun h1 h2 e=>hO ⟨_,_,_,_,_,h1,h2,e⟩
 refine⟨L',⟨?_,?_,?_,fun q hq=>⟨(s.imm q hq).1,fun ho=>(own q ho).elim (fun e=>hF (e▸hq)) (fun ho=>(s.imm q hq).2 ho)⟩,s.glob⟩,
  ⟨st.imm,fun i v q hi hq=>yY i v q (st.loc i v q hi hq),st.os,st.tape,st.output,st.size,st.block,fun q hq ho=>(own q ho).elim (fun e=>by omega) (fun ho=>st.own q hq ho),fun i hi v hv=>?_,st.fnew⟩,FT,yY,own⟩
 ·intro j v z e1 hj
  by_cases YG:j=b.length+l.length
  ·subst YG
   rw[GG]at hj
   cases hj
   refine⟨_,FT,rfl,by simp,by decide,cur,T,M4,by omega,fun k' row hk'=>?_,fun k' row jj c hk' hj'=>?_⟩
   ·cases k' with
    |zero=>simp at hk';subst hk';rfl
    |succ k'=>simp at hk'
   ·cases k' with
    |zero =>
      simp at hk';subst hk'
      obtain⟨y,v,g1,g2,g3⟩:=hz jj c hj'
      subst g1
      exact⟨rfl,v,by simpa using g2,.v _ _ g3⟩
    |succ k'=>simp at hk'
  ·rw[JH j YG]at hj
   obtain⟨q,bO,cU⟩:=s.row j v z e1 hj
   exact⟨q,yY _ _ _ bO,cU.mono (fun _ _=>rfl) (fun _ _=>mono)⟩
 ·intro i v q bO
  by_cases hi:i=b.length+l.length
  ·subst hi
   refine⟨_,GG,?_⟩
   by_cases hv:v=0
   ·subst hv;exact ai _
   ·rw[eU _ v (.inr hv)]at bO
    exact absurd (s.lt bO) oM
  ·rw[eU i v (.inl hi)]at bO
   obtain⟨r,h1,h2⟩:=s.born _ _ _ bO
   exact⟨r,by rw[JH i hi];exact h1,h2⟩
 ·intro i i' v v' z z' e1 e2 bb q1 q2 h1 h2 h3 h4 h5 h6
  by_cases hi:i=b.length+l.length
  ·by_cases hi':i'=b.length+l.length
   ·rw[hi,hi']
   ·subst hi
    rw[GG]at h1;cases h1
    rw[FT]at h3;cases h3
    rw[JH i' hi']at h2
    rw[eU i' v' (.inl hi')]at h4
    have h5:k=bb:=h5
    exact absurd (h5▸h6) (notk h2 h4)
  ·by_cases hi':i'=b.length+l.length
   ·subst hi'
    rw[GG]at h2;cases h2
    rw[FT]at h4;cases h4
    rw[JH i hi]at h1
    rw[eU i v (.inl hi)]at h3
    have h6:k=bb:=h6
    exact absurd (h6▸h5) (notk h1 h3)
   ·rw[JH i hi]at h1
    rw[JH i' hi']at h2
    rw[eU i v (.inl hi)]at h3
    rw[eU i' v' (.inl hi')]at h4
    exact s.apart i i' v v' z z' e1 e2 bb q1 q2 h1 h2 h3 h4 h5 h6
 ·rw[JH i oM];exact st.base i hi v hv

structure DSt (P:Program) (imm:Bool) (ops:Array Oper) (fin:List Nat) (π:List DOper) (listed:Array Bool):Prop where
 size:listed.size=ops.size
 unl:∀j,j<ops.size→listed.getD j true=false→j∈π.map (·.i)
 al:∀d∈π,listed.getD d.i false=true→d.o.op.isAlloc=true
 lt:∀d∈π,d.i<ops.size
 cl:∀(j:Nat) (o:Oper),ops[j]? = some o→listed.getD j false=true→∀ed∈o.after,Region.binds .any ed=true→listed.getD ed.on false=true
 nd:(π.map (·.i)).Nodup
 facts:∀d∈π,OQ d=true∧(d.o.op.quiet=true→d.re=[])∧XS d.o=true∧∃o,ops[d.i]? = some o∧IY P imm o.op=some d.o.op∧zR ops o.guard=some d.o.guard∧d.o.dst=o.dst
 pw:π.Pairwise (ZCb ops fin)

theorem DSt.sub {imm:Bool} {ops:Array Oper} {fin:List Nat} {π π':List DOper} {listed:Array Bool} (h:DSt P imm ops fin π listed) (hs:π'.Sublist π) (hu:∀j,j<ops.size→listed.getD j true=false→j∈π'.map (·.i)):DSt P imm ops fin π' listed:=
 ⟨h.size,hu,fun d hd=>h.al d (hs.subset hd),fun d hd=>h.lt d (hs.subset hd),h.cl,h.nd.sublist (hs.map _),fun d hd=>h.facts d (hs.subset hd),h.pw.sublist hs⟩

structure DInv (C:CallP) (Q:List AV→List Row→List Row→Prop) (nb:Nat) (F0:Nat→Prop) (L0:LMap) (h0:List Row) (w0:World) (π:List DOper) (listed:Array Bool)
  (e:List AV) (b l:List Row) (F:Nat→Prop) (L:LMap) (w:World) (a:Act) (f:Nat→Nat):Prop where
 run:PG C π e b l Q
 len:b.length=nb
 sim:Sim F L (b++l) w
 env:FB w F L e a
 step:Step nb F0 L0 h0 w0 F L (b++l) w
 res:∀d∈π,listed.getD d.i false=true→YU w0 w F L (b++l) a d (f d.i)
 inj:∀d∈π,∀d'∈π,listed.getD d.i false=true→listed.getD d'.i false=true→f d.i=f d'.i→d.i=d'.i

theorem z4 {o:AOper} (h:XS o=true) (ha:o.op.isAlloc=true):∃zs dd,o=⟨some dd,.alloc zs,none⟩:=by
 obtain⟨d,op,g⟩:=o
 cases op<;>first|(cases ha;done)|skip
 rename_i zs
 simp only[XS,AOp.isAlloc,iw,gq,ar,Option.isNone_iff_eq_none]at h
 obtain⟨h1,h2⟩:=h
 cases d with
 |none=>cases h2
 |some d=>exact⟨zs,d,by rw[h1]⟩

theorem uW {o:Op} {zs:List AV} (TI:cOp P o=some (.alloc zs)):∃t,o=.alloc t∧aF P t=some zs:=by
 unfold cOp at TI
 repeat' split at TI
 all_goals first
  |(cases TI;done)
  |(obtain⟨y,h1,h2⟩:=map_some TI;cases h2;exact⟨_,rfl,h1⟩)
  |(obtain⟨_,_,h⟩:=map_some TI;cases h;done)
  |(obtain⟨_,_,TI⟩:=bind_some TI;obtain⟨_,_,TI⟩:=bind_some TI;cases TI;done)
  |(obtain⟨_,_,TI⟩:=bind_some TI;obtain⟨_,_,TI⟩:=bind_some TI;obtain⟨_,_,TI⟩:=bind_some TI;cases TI;done)

theorem j7 {imm:Bool} {o:Op} {zs:List AV} (TI:IY P imm o=some (.alloc zs)):∃t,o=.alloc t∧aF P t=some zs:=by
 unfold IY at TI
 split at TI
 ·obtain⟨y,h1,h2⟩:=map_some TI
  cases y<;>first|(cases h2;done)|skip
  cases h2
  exact uW h1
 ·exact uW TI

theorem i4 {imm:Bool} {C:CallP} (JS:∀f args b l (Q Q':AV→List Row→List Row→Prop),C f args b l Q→(∀x b' l',Q x b' l'→Q' x b' l')→C f args b l Q')
  {ops:Array Oper} {fin:List Nat} {nb:Nat} {F0:Nat→Prop} {L0:LMap} {h0:List Row} {w0:World} {Q:List AV→List Row→List Row→Prop} {listed:Array Bool} {rest:List DOper} {a:Act} {w:World} {f:Nat→Nat} {F:Nat→Prop} :
  ∀(n:Nat) (p1:List DOper) (e:List AV) (b l:List Row) (L:LMap),p1.length=n→(∀d∈p1,d.o.op.quiet=true∨listed.getD d.i false=true)→DSt P imm ops fin (p1++rest) listed→DInv C Q nb F0 L0 h0 w0 (p1++rest) listed e b l F L w a f →
   ∃p1' e' l' L',(∀d∈p1',d.o.op.quiet=true∧d∈p1)∧p1'.Sublist p1∧p1'.filter (fun d=>!listed.getD d.i false)=p1.filter (fun d=>!listed.getD d.i false)∧DSt P imm ops fin (p1'++rest) listed∧DInv C Q nb F0 L0 h0 w0 (p1'++rest) listed e' b l' F L' w a f:=by
 intro n
 induction n with
 |zero =>
   intro p1 e b l L hn _ hd hi
   have:p1=[]:=cq hn
   subst this
   exact⟨[],e,l,L,by simp,iy _,rfl,hd,hi⟩
 |succ n ih =>
   intro p1 e b l L hn hq hd hi
   by_cases xF:∀d∈p1,d.o.op.quiet=true
   ·exact⟨p1,e,l,L,fun d hdd=>⟨xF d hdd,hdd⟩,iy _,rfl,hd,hi⟩
   ·-- the first that is not quiet
    obtain⟨q1,A,q2,hp1,hq1,hA⟩:∃q1 A q2,p1=q1++A::q2∧(∀d∈q1,d.o.op.quiet=true)∧¬A.o.op.quiet=true:=by
     clear ih hn hd hi hq
     induction p1 with
     |nil=>exact absurd kS xF
     |cons x p1 ihp =>
       by_cases hx:x.o.op.quiet=true
       ·obtain⟨q1,A,q2,h1,h2,h3⟩:=ihp (fun h=>xF (by
         intro d hd
         rcases cz.1 hd with rfl|hd
         ·exact hx
         ·exact h d hd))
        exact⟨x::q1,A,q2,by rw[h1];rfl,fun d hd=>by
         rcases cz.1 hd with rfl|hd
         ·exact hx
         ·exact h2 d hd,h3⟩
       ·exact⟨[],x,p1,rfl,by simp,hx⟩
    subst hp1
    have hAl:listed.getD A.i false=true:=(hq A kS).resolve_left hA
    have ZCe:A∈(q1++A::q2)++rest:=by simp
    obtain⟨vY,_,mR,_⟩:=hd.facts A ZCe
    obtain⟨zs,dd,hAo⟩:=z4 mR (hd.al A ZCe hAl)
    obtain⟨zs',dd',cur,T,g1,g2,g3,g4,g5,g6,g7,g8⟩:=hi.res A ZCe hAl
    rw[hAo]at g1
    cases g1
    have hpw:=hd.pw
    rw[bc,da]at hpw
    have SY:=jv.1 hpw
    have hpr:∀x∈q1,ZCb ops fin x A:=fun x hx=>SY.2.2 x hx A kS
    have hun:∀x∈q1,anc ops x.i ops.size A.i=false:=by
     intro x hx
     cases ha:anc ops x.i ops.size A.i with
     |false=>rfl
     |true =>
       exfalso
       have hl:=TN hd.cl (fun o2 ho2 ed hed H4=>hd.cl A.i o2 ho2 hAl ed hed H4) ha
       have:=hd.al x (by simp[hx]) hl
       have hxq:=hq1 x hx
       rw[PH hxq]at this;cases this
    have VD:=hi.run
    rw[bc,da]at VD
    have xM:=ZFW JS VD (fun x hx=>⟨hq1 x hx,(hd.facts x (by simp[hx])).2.1 (hq1 x hx)⟩) (iP (fun x hx=>⟨hq1 x hx,fun hm=>by
     have:=(OB (hpr x hx).1).2.2 hm
     rw[hun x hx]at this;cases this⟩) (fun x hx=>(hd.facts x (by simp[hx])).1) SY.1)
     (fun x hx n hn=>⟨((OB (hpr x hx).1).1 n hn).1 (.inl (hq1 x hx)) (.inr (.inl (hun x hx))),((OB (hpr x hx).1).1 n hn).2.1⟩) (fun x hx n hn=>((OB (hpr x hx).1).2.1 (hun x hx)).2 n hn)
     (.inr fun x hx=>((hpr x hx).2 (hq1 x hx) (hun x hx)).resolve_left hA)
    rw[hAo]at xM
    simp only[gd,dE,if_true,aop,mk,uK]at xM
    obtain⟨L',r1,r2,r3,r4,r5⟩:=adopt hi.sim hi.step hi.len g3 g4 g5 g6 g7 g8
    have ZO:(q1++q2++rest).Sublist ((q1++A::q2)++rest):=jx (jx (iy _) (lh _ _)) (iy _)
    have ZLK:∀x∈q1++q2++rest,x.i≠A.i:=by
     intro x hx US
     have hnd:=hd.nd
     simp only[bh,bj,bc,da]at hnd
     rw[ic]at hnd
     obtain⟨n1,n2,n3⟩:=hnd
     simp only[bc,bu]at hx
     rcases hx with hx|hx
     ·exact n3 _ (cr.2 ⟨x,hx,rfl⟩) _ kS US
     ·exact (jy.1 n2).1 (by rw[←US,bu];exact hx.elim (fun hx=>.inl (cr.2 ⟨x,hx,rfl⟩)) (fun hx=>.inr (cr.2 ⟨x,hx,rfl⟩)))
    have hd':DSt P imm ops fin (q1++q2++rest) listed:=hd.sub ZO (fun j hj wG=>by
     have:=hd.unl j hj wG
     simp only[bh,bj,bu,cz]at this⊢
     rcases this with (h|h|h)|h
     ·exact .inl (.inl h)
     ·exfalso
      subst h
      have:A.i<listed.size:=by rw[hd.size];exact hj
      simp[this]at hAl wG
      rw[hAl]at wG;cases wG
     ·exact .inl (.inr h)
     ·exact .inr h)
    have ZKI:FB w F L' (put e (some dd) (.ptr (b.length+l.length) 0 0 0)) a:=by
     have he:=hi.env.mono (L':=L') (fun _ h=>h) (fun _ _=>rfl) r4
     refine⟨he.1,by rw[he.2.1,xL],fun i x v hx hv=>?_⟩
     simp only[put,ZK]at hx
     by_cases hid:dd=i
     ·subst hid
      have zP:dd<a.tmps.size:=(bw.1 hv).1
      rw[ay (by rw[←he.2.1];exact zP)]at hx
      cases hx
      rw[g2 zP]at hv
      cases hv
      have:=RepA.ptr (w:=w) (F:=F) (b.length+l.length) 0 0 0 _ _ _ _ r3
      simpa using this
     ·rw[bl hid]at hx
      exact he.2.2 i x v hx hv
    have ZKJ:∀d∈q1++q2++rest,listed.getD d.i false=true→YU w0 w F L' (b++(l++[.live 0 zs.length [zs]])) a d (f d.i):=by
     intro d S8 hdl
     obtain⟨zs2,dd2,cur2,T2,h1,h2,h3,h4,h5,h6,h7,h8⟩:=hi.res d (ZO.subset S8) hdl
     refine⟨zs2,dd2,cur2,T2,h1,h2,h3,h4,h5,h6,h7,fun ho=>(r5 _ ho).elim (fun hk=>?_) h8⟩
     exact ZLK d S8 (hi.inj d (ZO.subset S8) A ZCe hdl hAl hk)
    have hi':DInv C Q nb F0 L0 h0 w0 (q1++q2++rest) listed (put e (some dd) (.ptr (b.length+l.length) 0 0 0)) b (l++[.live 0 zs.length [zs]]) F L' w a f:=
     ⟨by rw[bc];exact xM,hi.len,r1,ZKI,r2,ZKJ,fun d S8 d' hdm' h1 h2 h3=>hi.inj d (ZO.subset S8) d' (ZO.subset hdm') h1 h2 h3⟩
    have hmv:∀d∈q1++q2,d∈q1++A::q2:=fun d S8=>by
     rw[bu]at S8⊢
     exact S8.elim .inl (fun h=>.inr (lf _ h))
    obtain⟨p1',e',l',L2,k1,k2,k3,k4,k5⟩:=ih (q1++q2) _ b _ L' (by simp at hn⊢;omega) (fun d S8=>hq d (hmv d S8)) hd' hi'
    refine⟨p1',e',l',L2,fun d S8=>⟨(k1 d S8).1,hmv d (k1 d S8).2⟩,k2.trans (jx (iy _) (lh _ _)),?_,k4,k5⟩
    rw[k3]
    rw[gv,gv,jl]
    simp only[hAl,iw,dt,if_false]

theorem ZEZ {imm:Bool} {C:CallP} (hC:∀f args b l Q,C f args b l Q→QA P f args b l Q) (JS:∀f args b l (Q Q':AV→List Row→List Row→Prop),C f args b l Q→(∀x b' l',Q x b' l'→Q' x b' l')→C f args b l Q')
  {ops:Array Oper} {fin:List Nat} {rk:Nat→Nat} (ZFf:∀(i:Nat) (o:Oper),ops[i]? = some o→∀ed∈o.after,Region.binds .any ed=true→ed.on<ops.size∧rk ed.on<rk i) {nb:Nat} {F0:Nat→Prop} {L0:LMap} {h0:List Row} {w0:World} {Q:List AV→List Row→List Row→Prop} {Q':Exit→Act→World→Prop}
  (hQ:∀e' b' l' F' L' a' w',Q e' b' l'→Sim F' L' (b'++l') w'→FB w' F' L' e' a'→Step nb F0 L0 h0 w0 F' L' (b'++l') w'→b'.length=nb→Q' .normal a' w') :
  ∀(n:Nat) (π:List DOper) (listed:Array Bool),(π.filter (fun d=>!listed.getD d.i false)).length=n→DSt P imm ops fin π listed →
   ∀e b l F L w a f,DInv C Q nb F0 L0 h0 w0 π listed e b l F L w a f→wpAny P .any ops Q' n listed a w:=by
 intro n
 induction n with
 |zero =>
   intro π listed hn hd e b l F L w a f hi
   have ZIf:∀d∈π,listed.getD d.i false=true:=by
    intro d S8
    have:=cq hn
    have:=List.filter_eq_nil_iff.1 this d S8
    simpa using this
   obtain⟨p1',e',l',L',k1,k2,k3,k4,k5⟩:=i4 JS π.length π e b l L rfl (fun d S8=>.inr (ZIf d S8)) (rest:=[]) (by simpa using hd) (by simpa using hi)
   have ZMy:p1'=[]:=by
    cases hp:p1' with
    |nil=>rfl
    |cons d ds =>
      exfalso
      have hd1:=k1 d (by rw[hp];simp)
      have ha:=hd.al d hd1.2 (ZIf d hd1.2)
      rw[PH hd1.1]at ha;cases ha
   subst ZMy
   refine⟨?_,hQ _ _ _ _ _ _ _ k5.run k5.sim k5.env k5.step k5.len⟩
   cases hr:Region.ready .any ops listed with
   |nil=>rfl
   |cons j js =>
     have hj:j∈Region.ready .any ops listed:=by rw[hr];simp
     obtain⟨h1,o,h2,_⟩:=mem_ready.1 hj
     have:=k4.unl j (bw.1 h2).1 h1
     simp at this
 |succ n ih =>
   intro π listed hn hd e b l F L w a f hi
   have unlD:∀d∈π,listed.getD d.i false=false→listed.getD d.i true=false:=by
    intro d S8 hl
    have:d.i<listed.size:=by rw[hd.size];exact hd.lt d S8
    simp[this]at hl⊢;exact hl
   refine⟨fun hr=>?_,fun j hj=>?_⟩
   ·-- there is always one that is ready: the least that is left
    exfalso
    have hex:∃m,(m<ops.size∧listed.getD m true=false)∧∀m',(m'<ops.size∧listed.getD m' true=false)→rk m≤rk m':=by
     cases hπ:π.filter (fun d=>!listed.getD d.i false) with
     |nil=>rw[hπ]at hn;simp at hn
     |cons d ds =>
       have hdf:d∈π.filter (fun d=>!listed.getD d.i false):=by rw[hπ];simp
       obtain⟨hd1,hd2⟩:=li.1 hdf
       obtain⟨r,⟨m,hm1,hm2,hm3⟩,ZJu⟩:=exists_least (p:=fun r=>∃m,m<ops.size∧listed.getD m true=false∧rk m=r) ⟨rk d.i,d.i,hd.lt d hd1,unlD d hd1 (by simpa using hd2),rfl⟩
       exact⟨m,⟨hm1,hm2⟩,fun m' h'=>by rw[hm3];exact ZJu _ ⟨m',h'.1,h'.2,rfl⟩⟩
    obtain⟨m,⟨hm1,hm2⟩,hm3⟩:=hex
    have hmr:m∈Region.ready .any ops listed:=by
     refine mem_ready.2 ⟨hm2,ops[m],fy hm1,fun ed hed H4=>?_⟩
     obtain⟨ZLk,hon⟩:=ZFf m _ (fy hm1) ed hed H4
     cases hl:listed.getD ed.on false with
     |true=>rfl
     |false =>
       have ZMz:ed.on<listed.size:=by rw[hd.size];exact ZLk
       have hlf:listed.getD ed.on true=false:=by simp[ZMz]at hl⊢;exact hl
       have:=hm3 ed.on ⟨ZLk,hlf⟩
       omega
    rw[hr]at hmr
    cases hmr
   ·obtain⟨hj1,o,ho,hj2⟩:=mem_ready.1 hj
    have hjs:j<ops.size:=(bw.1 ho).1
    obtain⟨d,S8,rfl⟩:=cr.1 (hd.unl j hjs hj1)
    have ZIE:d.i<listed.size:=by rw[hd.size];exact hjs
    have hdl:listed.getD d.i false=false:=by simp[ZIE]at hj1⊢;exact hj1
    obtain⟨vY,ZMu,mR,o',ho',TI,YS,kY⟩:=hd.facts d S8
    rw[ho]at ho'
    cases ho'
    have setSize:(listed.setIfInBounds d.i true).size=ops.size:=by simp[hd.size]
    have setCl:∀(j:Nat) (o:Oper),ops[j]? = some o→(listed.setIfInBounds d.i true).getD j false=true→∀ed∈o.after,Region.binds .any ed=true→(listed.setIfInBounds d.i true).getD ed.on false=true:=by
     intro j o2 ho2 wG ed hed H4
     by_cases hjd:d.i=j
     ·subst hjd
      rw[ho]at ho2;cases ho2
      exact getD_set_true (hj2 ed hed H4)
     ·rw[getD_set_ne false hjd]at wG
      exact getD_set_true (hd.cl j o2 ho2 wG ed hed H4)
    by_cases hal:d.o.op.isAlloc=true
    ·-- a new variable,ahead of its turn
     obtain⟨zs,dd,hdo⟩:=z4 mR hal
     rw[hdo]at TI YS kY
     obtain⟨t,hot,hzt⟩:∃t,o.op=.alloc t∧aF P t=some zs:=by
      exact j7 TI
     obtain⟨p1,p2,hπ⟩:=jz S8
     have ZNA:d=⟨d.i,⟨some dd,.alloc zs,none⟩,d.re⟩:=by rw[←hdo]
     have hw:Region.wanted o (yielded ops a.tmps)=true:=ZFc hi.env YS rfl
     unfold wpOp
     rw[ho]
     simp only[hw,if_true]
     unfold aF at hzt
     split at hzt
     case h_2=>cases hzt
     rename_i inf WW
     split at hzt
     case h_2=>cases hzt
     rename_i z tX
     have hex:(execOp a.eval o).run P w=.ok (.value (.pointer (some ⟨w.heap.size,0,none⟩))) (w.alloc (.cells z.cells t)):=by
      simp[execOp,hot,Instr.alloc,zeroValue,typeInfo,WW,tX,newVar,newRow]
     refine .inl ?_
     unfold Oper.wp
     rw[hex]
     show wpAny P .any ops Q' n (listed.setIfInBounds d.i true) (a.put o.dst (.pointer (some ⟨w.heap.size,0,none⟩))) (w.alloc (.cells z.cells t))
     have ZNB:o.dst=some dd:=kY.symm
     rw[ZNB]
     obtain⟨s1,st1,nF,nO⟩:=ZGm hi.sim (.cells z.cells t) nb
     obtain⟨c1,c2⟩:=JF (w:=w.alloc (.cells z.cells t)) (F:=F) (L:=L) hzt
     have hpw:=hd.pw
     have hnd:=hd.nd
     rw[hπ]at hpw hnd
     have SY:=jv.1 hpw
     rw[bh,bj,ic]at hnd
     obtain⟨n1,n2,n3⟩:=hnd
     have ne1:∀x∈p1,d.i≠x.i:=fun x hx US=>n3 _ (cr.2 ⟨x,hx,rfl⟩) _ kS US.symm
     have ne2:∀x∈p2,d.i≠x.i:=fun x hx US=>(jy.1 n2).1 (by rw[US];exact cr.2 ⟨x,hx,rfl⟩)
     have ZCf:d.o.dst=some dd:=by rw[hdo]
     have ZNC:∀x∈π,x.i≠d.i→x.o.dst≠some dd:=by
      intro x hx US
      rw[hπ,bu]at hx
      rcases hx with hx|hx
      ·exact ((OB (SY.2.2 x hx d kS).1).1 dd ZCf).2.1
      ·rcases cz.1 hx with rfl|hx
       ·exact absurd rfl US
       ·intro hxd
        exact ((OB ((List.pairwise_cons.1 SY.2.1).1 x hx).1).1 dd hxd).2.1 ZCf
     have hps:(a.put (some dd) (.pointer (some ⟨w.heap.size,0,none⟩))).tmps.size=a.tmps.size:=by simp[Act.put]
     have hpo:∀j,dd≠j→(a.put (some dd) (.pointer (some ⟨w.heap.size,0,none⟩))).tmps[j]? = a.tmps[j]?:=fun j hj=>by
      simp only[Act.put];rw[ip hj]
     have VD:PG C π (put e (some dd) .any) b l Q:=by
      have hr:=hi.run
      rw[hπ,ZNA]at hr⊢
      refine zK JS (zQ vY (.inr hal) dd ZCf).2 (fun c hc=>?_) hr
      have:=(OB (SY.2.2 c hc d kS).1).1 dd ZCf
      exact⟨this.1 (.inr hal) (.inr (.inr hal)),this.2.1,this.2.2 hal⟩
     have old:∀c∈π,c.i≠d.i→(listed.setIfInBounds d.i true).getD c.i false=true→listed.getD c.i false=true:=fun c hc gV WM=>by rw[getD_set_ne false gV.symm]at WM;exact WM
     have lt:∀c∈π,listed.getD c.i false=true→f c.i<w.heap.size:=fun c hc WM=>by
      obtain⟨_,_,cur,T,_,_,_,h4,_⟩:=hi.res c hc WM
      exact (bw.1 h4).1
     have uniq:∀c∈π,c.i=d.i→c=d:=by
      intro c hc gV
      rw[hπ,bu]at hc
      rcases hc with hc|hc
      ·exact absurd gV.symm (ne1 c hc)
      ·rcases cz.1 hc with h|hc
       ·exact h
       ·exact absurd gV.symm (ne2 c hc)
     refine ih π (listed.setIfInBounds d.i true) ?_ ⟨setSize,fun j hj wG=>?_,fun c hc WM=>?_,hd.lt,setCl,hd.nd,hd.facts,hd.pw⟩ (put e (some dd) .any) b l F L _ _ (fun i=>if i=d.i then w.heap.size else f i)
      ⟨VD,hi.len,s1,(hi.env.mono (fun _ h=>h) (st1.immEq hi.sim) (fun _ _ _ h=>h)).put (some dd) (RepA.any _),hi.step.trans st1,fun c hc WM=>?_,fun c hc c' hc' WM hcl' nX=>?_⟩
     ·have e1:=lT (listed:=listed) ne1
      have e2:=lT (listed:=listed) ne2
      rw[hπ,gv,jl]at hn⊢
      rw[e1,e2]
      rw[hdl]at hn
      have:(listed.setIfInBounds d.i true).getD d.i false=true:=by simp[ZIE]
      rw[this]
      simp at hn⊢
      omega
     ·by_cases hjd:d.i=j
      ·subst hjd;simp[ZIE]at wG
      ·rw[getD_set_ne true hjd]at wG;exact hd.unl j hj wG
     ·by_cases gV:c.i=d.i
      ·rw[uniq c hc gV];exact hal
      ·exact hd.al c hc (old c hc gV WM)
     ·by_cases gV:c.i=d.i
      ·rw[if_pos gV,uniq c hc gV]
       refine⟨zs,dd,z.cells,t,hdo,fun hdd=>?_,hi.step.size,?_,?_,fun j x hx=>?_,nF,nO⟩
       ·simp only[Act.put]at hdd⊢
        rw[jr]
        simp at hdd⊢
        exact hdd
       ·show (w.heap.push _)[w.heap.size]? = _
        simp
       ·have:=c1.1;simp at this;omega
       ·obtain⟨y,rfl⟩:=ZIT hzt x (ci hx)
        obtain⟨u,hu,hr⟩:=c1.get hx
        cases hr with
        |v _ _ hr=>exact⟨y,u,rfl,by simpa using hu,hr⟩
      ·rw[if_neg gV]
       refine (hi.res c hc (old c hc gV WM)).step hi.sim st1 (fun j hj=>⟨hps,hpo j ?_⟩)
       rintro rfl
       exact ZNC c hc gV hj
     ·by_cases gV:c.i=d.i
      ·by_cases hci':c'.i=d.i
       ·rw[gV,hci']
       ·rw[if_pos gV,if_neg hci']at nX
        have:=lt c' hc' (old c' hc' hci' hcl')
        omega
      ·by_cases hci':c'.i=d.i
       ·rw[if_neg gV,if_pos hci']at nX
        have:=lt c hc (old c hc gV WM)
        omega
       ·rw[if_neg gV,if_neg hci']at nX
        exact hi.inj c hc c' hc' (old c hc gV WM) (old c' hc' hci' hcl') nX
    ·obtain⟨p1,p2,hπ⟩:=jz S8
     subst hπ
     have hal:d.o.op.isAlloc=false:=by simpa using hal
     have ZIg:∀x,x∈p1→listed.getD x.i false=false→anc ops x.i ops.size d.i=false:=by
      intro x hx hxl
      cases ha:anc ops x.i ops.size d.i with
      |false=>rfl
      |true =>
        have hl:=TN hd.cl (fun o2 ho2 ed hed H4=>by rw[ho]at ho2;cases ho2;exact hj2 ed hed H4) ha
        rw[hxl]at hl;cases hl
     have ZND:=jv.1 hd.pw
     have hqO:∀x∈p1,x.o.op.quiet=true∨listed.getD x.i false=true:=by
      intro x hx
      cases hxl:listed.getD x.i false with
      |true=>exact .inr rfl
      |false =>
        refine .inl ((((OB (ZND.2.2 x hx d kS).1).2.1 (ZIg x hx hxl)).1).resolve_right ?_)
        rw[hal];simp
     obtain⟨q1,e',l',L',k1,k2,k3,hd',hi'⟩:=i4 JS p1.length p1 e b l L rfl hqO (rest:=d::p2) hd hi
     have SY:=jv.1 hd'.pw
     have hq:∀x∈q1,x.o.op.quiet=true:=fun x hx=>(k1 x hx).1
     have hql:∀x∈q1,listed.getD x.i false=false:=by
      intro x hx
      cases hxl:listed.getD x.i false with
      |false=>rfl
      |true =>
        have:=hd'.al x (by simp[hx]) hxl
        rw[PH (hq x hx)]at this;cases this
     have ZIF:∀x∈q1,anc ops x.i ops.size d.i=false:=fun x hx=>ZIg x (k1 x hx).2 (hql x hx)
     have hpr:∀x∈q1,ZCb ops fin x d:=fun x hx=>SY.2.2 x hx d kS
     have xM:=ZFW JS hi'.run (fun x hx=>⟨hq x hx,(hd'.facts x (by simp[hx])).2.1 (hq x hx)⟩) (iP (fun x hx=>⟨hq x hx,fun hm=>by
      have:=(OB (hpr x hx).1).2.2 hm
      rw[ZIF x hx]at this;cases this⟩) (fun x hx=>(hd'.facts x (by simp[hx])).1) SY.1)
      (fun x hx n hn=>⟨((OB (hpr x hx).1).1 n hn).1 (.inl (hq x hx)) (.inr (.inl (ZIF x hx))),((OB (hpr x hx).1).1 n hn).2.1⟩) (fun x hx n hn=>((OB (hpr x hx).1).2.1 (ZIF x hx)).2 n hn)
      (by
       cases hqd:d.o.op.quiet with
       |true=>exact .inl rfl
       |false=>exact .inr fun x hx=>((hpr x hx).2 (hq x hx) (ZIF x hx)).resolve_left (by rw[hqd];simp))
     have ZO:(q1++p2).Sublist (q1++d::p2):=jx (iy _) (lh _ _)
     have hnd:=hd'.nd
     rw[bh,bj,ic]at hnd
     obtain⟨n1,n2,n3⟩:=hnd
     have ne1:∀x∈q1,d.i≠x.i:=fun x hx US=>n3 _ (cr.2 ⟨x,hx,rfl⟩) _ kS US.symm
     have ne2:∀x∈p2,d.i≠x.i:=fun x hx US=>(jy.1 n2).1 (by rw[US];exact cr.2 ⟨x,hx,rfl⟩)
     have ne:∀x∈q1++p2,d.i≠x.i:=fun x hx=>(bu.1 hx).elim (ne1 x) (ne2 x)
     have old:∀c∈q1++p2,(listed.setIfInBounds d.i true).getD c.i false=true→listed.getD c.i false=true:=fun c hc WM=>by rw[getD_set_ne false (ne c hc)]at WM;exact WM
     have next:∀e2 b2 l2 F2 L2 a2 w2,PG C (q1++p2) e2 b2 l2 Q→Sim F2 L2 (b2++l2) w2→FB w2 F2 L2 e2 a2→Step nb F L' (b++l') w F2 L2 (b2++l2) w2→b2.length=nb→(∃v,a2=a.put d.o.dst v)→wpAny P .any ops Q' n (listed.setIfInBounds d.i true) a2 w2:=by
      rintro e2 b2 l2 F2 L2 a2 w2 hk s2 uJ st2 vR ⟨v,rfl⟩
      refine ih (q1++p2) (listed.setIfInBounds d.i true) ?_ ⟨setSize,fun j hj wG=>?_,fun c hc WM=>hd'.al c (ZO.subset hc) (old c hc WM),fun c hc=>hd'.lt c (ZO.subset hc),setCl,hd'.nd.sublist (ZO.map _),fun c hc=>hd'.facts c (ZO.subset hc),hd'.pw.sublist ZO⟩ e2 b2 l2 F2 L2 w2 _ f
       ⟨hk,vR,s2,uJ,hi'.step.trans st2,fun c hc WM=>?_,fun c hc c' hc' WM hcl' nX=>hi'.inj c (ZO.subset hc) c' (ZO.subset hc') (old c hc WM) (old c' hc' hcl') nX⟩
      ·rw[gv,jl,hdl]at hn
       rw[lT ne,gv,k3]
       simp at hn⊢
       omega
      ·by_cases hjd:d.i=j
       ·subst hjd;simp[ZIE]at wG
       ·rw[getD_set_ne true hjd]at wG
        have:=hd'.unl j hj wG
        simp only[bh,bj,bu,cz]at this⊢
        rcases this with h1|h1|h1
        ·exact .inl h1
        ·exact absurd h1.symm hjd
        ·exact .inr h1
      ·refine (hi'.res c (ZO.subset hc) (old c hc WM)).step hi'.sim st2 (fun j hj=>⟨by cases hdd:d.o.dst<;>simp[Act.put],?_⟩)
       have hcp:c∈p2:=by
        refine (bu.1 hc).resolve_left (fun h=>?_)
        have:=hql c h
        rw[old c hc WM]at this;cases this
       have hdj:d.o.dst≠some j:=((OB ((List.pairwise_cons.1 SY.2.1).1 c hcp).1).1 j hj).2.1
       cases hdd:d.o.dst with
       |none=>rfl
       |some m =>
         have:m≠j:=fun e=>hdj (by rw[hdd,e])
         simp only[Act.put]
         rw[ip this]
     unfold wpOp
     rw[ho]
     simp only
     unfold dE at xM
     split at xM
     case h_2=>exact xM.elim
     rename_i t hg
     rw[ZFc hi'.env YS hg]
     cases t
     ·simp only[dt,if_false]at xM⊢
      rw[←kY]
      exact next _ _ _ F L' _ w xM hi'.sim (hi'.env.put d.o.dst (RepA.undef _ _ _)) (Step.refl _ _ _ _ _) hi'.len ⟨_,rfl⟩
     ·simp only[if_true]at xM⊢
      rw[kY]at xM
      refine .inl (ZIM TI hC (K:=fun e b l=>PG C (q1++p2) e b l Q) xM hi'.sim hi'.env Q' ?_)
      intro e2 b2 l2 F2 L2 a2 w2 hk s2 uJ st2 vR ha2
      exact next e2 b2 l2 F2 L2 a2 w2 hk s2 uJ (hi'.len▸st2) (vR.trans hi'.len) (by rw[kY];exact ha2)

theorem J7 {ops:Array Oper} {is:List Nat} (h:XY ops is=true) (IB:is.length=ops.size) (yA:∀j∈is,j<ops.size):∀(i:Nat) (o:Oper),ops[i]? = some o→∀ed∈o.after,Region.binds .any ed=true→ed.on<ops.size∧CM is ed.on<CM is i:=by
 intro i o ho ed hed H4
 have hi:i<ops.size:=(bw.1 ho).1
 unfold XY at h
 have h1:=bn.1 h i (by simpa using hi)
 rw[ho]at h1
 have h2:=bn.1 h1 ed (by simpa using hed)
 rw[H4]at h2
 have h3:CM is ed.on<CM is i:=by simpa using h2
 refine⟨?_,h3⟩
 have h4:CM is i≤is.length:=List.findIdx_le_length
 have h5:is.findIdx (· == ed.on)<is.length:=by unfold CM at h3 h4;omega
 have h6:=List.findIdx_getElem (w:=h5)
 have h7:is[is.findIdx (· == ed.on)]=ed.on:=by simpa using h6
 rw[←h7]
 exact yA _ (ak h5)
inductive Path (ops:Array Oper):Nat→Array Bool→List Nat→Prop
 |out {listed:Array Bool}:Path ops 0 listed []
 |stop {n:Nat} {listed:Array Bool}:Region.ready .any ops listed=[]→Path ops n listed []
 |cons {n j:Nat} {listed:Array Bool} {is:List Nat}:j∈Region.ready .any ops listed→Path ops n (listed.setIfInBounds j true) is→Path ops (n+1) listed (j::is)
theorem ZE8 {ops:Array Oper} {Q:Exit→Act→World→Prop} {n:Nat} {listed:Array Bool} {is:List Nat} (p:Path ops n listed is):∀{a:Act} {w:World},wpAny P .any ops Q n listed a w→wpOps P ops Q is a w:=by
 induction p with
 |out=>intro a w h;exact h.2
 |@stop n listed hr =>
   intro a w h
   cases n with
   |zero=>exact h.2
   |succ n=>exact h.1 hr
 |cons hj _ ih =>
   intro a w h
   rw[wpOps_cons]
   exact wpOp_mono (fun a w h=>ih h) (h.2 _ hj)
theorem FX {ops:Array Oper}:∀(n t:Nat) (listed:Array Bool),Path ops n listed (Region.linearise.go .any ops n t listed [])
 |0,t,listed=>by simpa [Region.linearise.go] using Path.out
 |n+1,t,listed=>by
   have hr:Region.ready .any ops listed=(List.range ops.size).filter fun i=>!listed.getD i true&&((ops[i]?).map (·.after.all fun e=>!Region.binds .any e||listed.getD e.on false)).getD false:=rfl
   unfold Region.linearise.go
   rw[←hr]
   simp only
   split
   ·rename_i i hi
    rw[linearise_go_acc]
    exact Path.cons (ci hi) (FX n _ _)
   ·rename_i hi
    refine Path.stop ?_
    cases h:Region.ready .any ops listed with
    |nil=>rfl
    |cons x xs =>
      rw[h]at hi
      rw[List.getElem?_eq_none_iff]at hi
      have:=Nat.mod_lt t (show 0<(x::xs).length by simp)
      omega
theorem tN {ops:Array Oper} {k i:Nat}:(KC ops k i).size=ops.size:=by
 unfold KC
 split
 ·rw[lj]
 ·rfl
theorem pJ {ops:Array Oper} {k i j:Nat} (h:j≠k):(KC ops k i)[j]? = ops[j]?:=by
 unfold KC
 split
 ·rw[ip (fun e=>h e.symm)]
 ·rfl
theorem mJ {ops:Array Oper} {k i:Nat} {o:Oper} (h:ops[k]? = some o):(KC ops k i)[k]? = some {o with after:=o.after.push ⟨i,.data⟩}:=by
 unfold KC
 rw[h]
 exact mb (bw.1 h).1
theorem iS {ops:Array Oper} {k i j:Nat} {listed:Array Bool} (h:j∈Region.ready .any (KC ops k i) listed):j∈Region.ready .any ops listed:=by
 obtain⟨h1,o,h2,h3⟩:=mem_ready.1 h
 by_cases e:j=k
 ·subst e
  cases ho:ops[j]? with
  |none=>unfold KC at h2;rw[ho]at h2;simp only at h2;rw[ho]at h2;cases h2
  |some o' =>
    rw[mJ ho]at h2
    cases h2
    exact mem_ready.2 ⟨h1,o',ho,fun ed hed hb=>h3 ed (Array.mem_push_of_mem _ hed) hb⟩
 ·rw[pJ e]at h2
  exact mem_ready.2 ⟨h1,o,h2,h3⟩
theorem sM {ops:Array Oper} {k i j:Nat} {listed:Array Bool} (h:j∈Region.ready .any ops listed) (hk:j≠k∨listed.getD i false=true):j∈Region.ready .any (KC ops k i) listed:=by
 obtain⟨h1,o,h2,h3⟩:=mem_ready.1 h
 by_cases e:j=k
 ·subst e
  refine mem_ready.2 ⟨h1,_,mJ h2,fun ed hed hb=>?_⟩
  rcases Array.mem_push.1 hed with hed|rfl
  ·exact h3 ed hed hb
  ·exact hk.resolve_left (fun h=>h rfl)
 ·exact mem_ready.2 ⟨h1,o,by rw[pJ e];exact h2,h3⟩
theorem ZBt {listed:Array Bool} {i j:Nat} (h:listed.getD i false=true):(listed.setIfInBounds j true).getD i false=true:=getD_set_true h
theorem NV {ops:Array Oper} {k i n:Nat} {listed:Array Bool} {is:List Nat} (p:Path ops n listed is) (hi:listed.getD i false=true):Path (KC ops k i) n listed is:=by
 induction p with
 |out=>exact .out
 |stop hr =>
   refine .stop ?_
   cases h:Region.ready .any (KC ops k i) _ with
   |nil=>rfl
   |cons x xs =>
     have:=iS (h▸List.mem_cons_self (a:=x) (l:=xs))
     rw[hr]at this;cases this
 |cons hj _ ih=>exact .cons (sM hj (.inr hi)) (ih (ZBt hi))
theorem path_split {ops:Array Oper} {k i n:Nat} (b8:i≠k) {listed:Array Bool} {is:List Nat} (p:Path ops n listed is) (hs:i<listed.size∧k<listed.size):Path (KC ops k i) n listed is∨Path (KC ops i k) n listed is:=by
 induction p with
 |out=>exact .inl .out
 |stop hr =>
   refine .inl (.stop ?_)
   cases h:Region.ready .any (KC ops k i) _ with
   |nil=>rfl
   |cons x xs =>
     have:=iS (h▸List.mem_cons_self (a:=x) (l:=xs))
     rw[hr]at this;cases this
 |@cons n j listed is hj p ih =>
   by_cases h1:j=i
   ·subst h1
    exact .inl (.cons (sM hj (.inl b8)) (NV p (by simp[hs.1])))
   ·by_cases h2:j=k
    ·subst h2
     exact .inr (.cons (sM hj (.inl h1)) (NV p (by simp[hs.2])))
    ·rcases ih (by rw[lj];exact hs) with h|h
     ·exact .inl (.cons (sM hj (.inl h2)) h)
     ·exact .inr (.cons (sM hj (.inl h1)) h)
theorem OL {ops:Array Oper} {Q:Exit→Act→World→Prop} {k i:Nat}:∀{is:List Nat} {a:Act} {w:World},wpOps P (KC ops k i) Q is a w→wpOps P ops Q is a w
 |[],a,w,h=>h
 |j::is,a,w,h=>by
   rw[wpOps_cons]at h⊢
   have hy:yielded (KC ops k i) a.tmps=yielded ops a.tmps:=by
    funext g
    unfold yielded
    by_cases e:g=k
    ·subst e
     cases ho:ops[g]? with
     |none=>unfold KC;rw[ho];simp only;rw[ho]
     |some o=>rw[mJ ho];rfl
    ·rw[pJ e]
   have hm:=wpOp_mono (K':=wpOps P ops Q is) (fun a w h=>OL h) h
   unfold wpOp at hm⊢
   rw[hy]at hm
   by_cases e:j=k
   ·subst e
    cases ho:ops[j]? with
    |none =>
      have:(KC ops j i)[j]? = none:=by unfold KC;rw[ho];exact ho
      rw[this]at hm;exact hm
    |some o=>rw[mJ ho]at hm;exact hm
   ·rw[pJ e]at hm;exact hm
def gK (P:Program) (ops:Array Oper) (Q:Exit→Act→World→Prop) (a:Act) (w:World):Prop:=∀is,Path ops ops.size (Array.replicate ops.size false) is→wpOps P ops Q is a w
theorem vZ {ops:Array Oper} {Q:Exit→Act→World→Prop} {a:Act} {w:World} {i k:Nat} (b8:i≠k) (hi:i<ops.size) (hk:k<ops.size) (h1:gK P (KC ops k i) Q a w) (h2:gK P (KC ops i k) Q a w):gK P ops Q a w:=by
 intro is p
 rcases path_split b8 p (by simp[hi,hk]) with p|p
 ·exact OL (h1 is (by rw[tN];exact p))
 ·exact OL (h2 is (by rw[tN];exact p))
theorem CW {id:Nat} {ops:Array Oper} {Q:Exit→Act→World→Prop} {a:Act} {w:World} (hm:P.follows .mixedOrders=true) (h:gK P ops Q a {w with drawn:=w.drawn+1}):(Code.region id ops true).wp P Q a w:=
 wp_region_draw fun t=>by
  simp only[Region.schedule,hm,ka,if_true]
  exact h _ (FX _ _ _)
theorem QT {imm:Bool} {ops:Array Oper} {ds:List DOper} (zP:iR P imm ops=some ds):P.follows .mixedOrders=true:=by
 unfold iR at zP
 split at zP
 case h_2=>cases zP
 simp only at zP
 split at zP
 case isFalse=>cases zP
 rename_i hb
 exact hb.1
theorem ZT {imm:Bool} {C:CallP} (hC:∀f args b l Q,C f args b l Q→QA P f args b l Q) (JS:∀f args b l (Q Q':AV→List Row→List Row→Prop),C f args b l Q→(∀x b' l',Q x b' l'→Q' x b' l')→C f args b l Q')
  {ops:Array Oper} {ds:List DOper} (zP:iR P imm ops=some ds) (e:List AV) (b l:List Row) {Q:AExit→List AV→List Row→List Row→Prop}
  (h:run C VA (.draw ds) e b l Q) {F:Nat→Prop} {L:LMap} {w:World} {a:Act} (s:Sim F L (b++l) w) (he:FB w F L e a) :
  gK P ops (Aft b.length F L (b++l) w Q) a {w with drawn:=w.drawn+1}:=by
 unfold iR at zP
 split at zP
 case h_2=>cases zP
 rename_i aos ZCu
 simp only at zP
 split at zP
 case isFalse=>cases zP
 rename_i hb
 obtain⟨hmix,ZFf,ZLL,ZJv,IB,hnd,xF⟩:=hb
 cases zP
 obtain⟨m1,m2⟩:=ZW (ops:=ops) (aos:=aos) (is:=ZR ops (aos.map (·.op.quiet)) (aos.map (·.op.isAlloc)) ops.size (List.range ops.size) []) (done:=[])
 generalize hdsd:mkD ops aos [] (ZR ops (aos.map (·.op.quiet)) (aos.map (·.op.isAlloc)) ops.size (List.range ops.size) [])=ds at *
 obtain⟨g1,g2⟩:=UO ZJv
 obtain⟨k1,k2⟩:=PT ZCu
 have F4:∀j,j<ops.size→j∈ds.map (·.i):=fun j hj=>by
  have:=bn.1 xF j (by simpa using hj)
  simpa using this
 have XN:∀d∈ds,d.i<ops.size∧∃o,ops[d.i]? = some o∧IY P imm o.op=some d.o.op∧zR ops o.guard=some d.o.guard∧d.o.dst=o.dst:=by
  intro d hd
  obtain⟨o,ho,h1,h2,h3⟩:=k2 d.i d.o (m1 d hd).1
  have ho':ops[d.i]? = some o:=by simpa using ho
  exact⟨(bw.1 ho').1,o,ho',h1,h2,h3⟩
 have hs':Sim F L (b++l) {w with drawn:=w.drawn+1}:=s.same rfl
 have he':FB {w with drawn:=w.drawn+1} F L e a:=he.mono (fun _ h=>h) (fun _ _=>rfl) (fun _ _ _ h=>h)
 have NY:∀i:Nat,(Array.replicate ops.size false).getD i false=false:=fun i=>by
  by_cases hi:i<ops.size<;>simp[hi]
 refine fun is p=>ZE8 p (ZEZ hC JS (J7 ZFf (by rw[IB]) (fun j hj=>by
  obtain⟨d,hd,rfl⟩:=cr.1 hj
  exact (XN d hd).1)) (nb:=b.length) (F0:=F) (L0:=L) (h0:=b++l) (w0:=w) (Q:=Q .normal) (Q':=Aft b.length F L (b++l) w Q) ?_ ops.size ds (Array.replicate ops.size false) ?_
  ⟨by simp,fun j hj _=>F4 j hj,fun d _ hl=>(by rw[NY]at hl;cases hl),fun d hd=>(XN d hd).1,fun j o _ hl=>(by rw[NY]at hl;cases hl),hnd,fun d hd=>⟨g1 d hd,(m1 d hd).2.1,bn.1 ZLL _ (ci (m1 d hd).1),(XN d hd).2⟩,List.Pairwise.and g2 m2 |>.imp (fun h=>⟨h.1,h.2⟩)⟩
  e b l F L _ a (fun _=>0) ⟨h,rfl,hs',he',Step.same rfl rfl rfl rfl,fun d _ hl=>(by rw[NY]at hl;cases hl),fun d _ _ _ hl=>(by rw[NY]at hl;cases hl)⟩)
 ·intro e2 b2 l2 F2 L2 a2 w2 hq s2 uJ st2 vR
  exact⟨.normal,e2,b2,l2,F2,L2,trivial,s2,uJ,st2,vR,hq⟩
 ·rw[List.filter_eq_self.2 (fun d _=>by rw[NY];rfl)]
  simpa using IB

theorem eQ {imm:Bool} {C:CallP} (hC:∀f args b l Q,C f args b l Q→QA P f args b l Q) (JS:∀f args b l (Q Q':AV→List Row→List Row→Prop),C f args b l Q→(∀x b' l',Q x b' l'→Q' x b' l')→C f args b l Q') :
  ∀(n:Nat) (ops:Array Oper) (c:ACode),wI P imm n ops=some c→∀(e:List AV) (b l:List Row) (Q:AExit→List AV→List Row→List Row→Prop),run C VA c e b l Q→∀(F:Nat→Prop) (L:LMap) (w:World) (a:Act),Sim F L (b++l) w→FB w F L e a →
   P.follows .mixedOrders=true∧gK P ops (Aft b.length F L (b++l) w Q) a {w with drawn:=w.drawn+1}:=by
 intro n
 induction n with
 |zero =>
   intro ops c hc e b l Q h F L w a s he
   obtain⟨ds,zP,rfl⟩:=map_some hc
   exact⟨QT zP,ZT hC JS zP e b l h s he⟩
 |succ n ih =>
   intro ops c hc e b l Q h F L w a s he
   unfold wI at hc
   split at hc
   ·rename_i ds zP
    cases hc
    exact⟨QT zP,ZT hC JS zP e b l h s he⟩
   ·split at hc
    case h_2=>cases hc
    split at hc
    case h_2=>cases hc
    split at hc
    case isFalse=>cases hc
    rename_i b8
    split at hc
    case h_2=>cases hc
    rename_i x y hx hy
    cases hc
    obtain⟨hm,h1⟩:=ih _ x hx e b l Q h.1 F L w a s he
    exact⟨hm,vZ b8.1 b8.2.1 b8.2.2 h1 (ih _ y hy e b l Q h.2 F L w a s he).2⟩

theorem uE {C:CallP} {W:WeakP} {e:List AV} {b l:List Row} {Q:AExit→List AV→List Row→List Row→Prop} (h:run C W wY e b l Q):False:=by
 simp[wY,run,wF,gd,dE,aop,ev,uK]at h

theorem ZBQ {C:CallP} (hC:∀f args b l Q,C f args b l Q→QA P f args b l Q) (JS:∀f args b l (Q Q':AV→List Row→List Row→Prop),C f args b l Q→(∀x b' l',Q x b' l'→Q' x b' l')→C f args b l Q'):∀(code:Code) (ac:ACode),AH P code=some ac→∀e b l Q,run C VA ac e b l Q →
  ∀F L w a,Sim F L (b++l) w→FB w F L e a→code.wp P (Aft b.length F L (b++l) w Q) a w:=by
 intro code
 induction code with
 |skip =>
   intro ac hc e b l Q h F L w a s he
   cases hc
   exact wp_skip ⟨.normal,e,b,l,F,L,trivial,s,he,Step.refl _ _ _ _ _,rfl,h⟩
 |region id ops draw =>
   intro ac hc e b l Q h F L w a s he
   cases hc
   cases hc:ZGB P ops draw with
   |none=>rw[hc]at h;exact (uE h).elim
   |some ac =>
   rw[hc]at h
   replace h:run C VA ac e b l Q:=h
   simp only[ZGB]at hc
   cases draw
   case true =>
    simp only[if_true]at hc
    obtain⟨imm,hc⟩:∃imm,wI P imm 6 ops=some ac:=by
     cases hf:wI P false 6 ops with
     |some c=>rw[hf]at hc;cases hc;exact⟨false,hf⟩
     |none=>rw[hf]at hc;exact⟨true,hc⟩
    obtain⟨hm,hp⟩:=eQ hC JS 6 ops ac hc e b l Q h F L w a s he
    exact CW hm hp
   simp only[dt,if_false]at hc
   obtain⟨aos,hao,rfl⟩:=map_some hc
   refine wp_region (uY hC ops ops.toList (List.range ops.size) aos hao ?_ e b l h rfl F L w a s he (Step.refl _ _ _ _ _) ?_)
   ·apply ea
    intro i
    simp only[an]
    by_cases hi:i<ops.size
    ·simp[hi]
    ·simp[hi]
   ·intro e' b' l' F' L' a' w' hq s' he' st hb
    exact⟨.normal,e',b',l',F',L',trivial,s',he',st,hb,hq⟩
 |seq x y ihx ihy =>
   intro ac hc e b l Q h F L w a s he
   simp only[AH]at hc
   split at hc
   case h_2=>cases hc
   rename_i x' y' hx hy
   cases hc
   refine wp_seq (wp_mono (ihx x' hx e b l _ h F L w a s he) ?_)
   rintro ex a1 w1 ⟨ax,e1,b1,l1,F1,L1,hex,s1,ZI,st1,xJ,hq⟩
   cases ex<;>cases ax<;>first|exact hex.elim|skip
   ·simp only[Exit.then]
    refine wp_mono (ihy y' hy e1 b1 l1 Q hq F1 L1 w1 a1 s1 ZI) ?_
    rintro ex2 a2 w2 ⟨ax2,e2,b2,l2,F2,L2,ZKK,s2,uJ,st2,vR,ET⟩
    exact⟨ax2,e2,b2,l2,F2,L2,ZKK,s2,uJ,st1.trans (xJ▸st2),vR.trans xJ,ET⟩
   ·exact⟨_,e1,b1,l1,F1,L1,hex,s1,ZI,st1,xJ,hq⟩
   ·exact⟨_,e1,b1,l1,F1,L1,hex,s1,ZI,st1,xJ,hq⟩
 |cond c x y ihx ihy =>
   intro ac hc e b l Q h F L w a s he
   simp only[AH]at hc
   split at hc
   case h_2=>cases hc
   rename_i c' x' y' nX hx hy
   cases hc
   simp only[run]at h
   have hr:=fA he nX
   generalize ev e c'=q at *
   split at h
   case h_2=>exact h.elim
   rename_i t
   refine wp_cond (dM hr) ?_
   cases t
   ·simp only[dt,if_false]at h⊢
    exact ihy y' hy e b l Q h F L w a s he
   ·simp only[if_true]at h⊢
    exact ihx x' hx e b l Q h F L w a s he
 |block id c ih =>
   intro ac hc e b l Q h F L w a s he
   simp only[AH]at hc
   obtain⟨c',nX,rfl⟩:=map_some hc
   refine wp_block (wp_mono (ih c' nX e b l _ h F L w a s he) ?_)
   rintro ex a1 w1 ⟨ax,e1,b1,l1,F1,L1,hex,s1,ZI,st1,xJ,hq⟩
   cases ex<;>cases ax<;>first|exact hex.elim|skip
   ·exact⟨.normal,e1,b1,l1,F1,L1,trivial,s1,ZI,st1,xJ,hq⟩
   ·rename_i i j
    have J5:i=j:=hex
    subst J5
    simp only[Exit.inBlock]
    simp only[S4]at hq
    split
    ·rename_i hi;rw[if_pos hi]at hq;exact⟨.normal,e1,b1,l1,F1,L1,trivial,s1,ZI,st1,xJ,hq⟩
    ·rename_i hi;rw[if_neg hi]at hq;exact⟨.exit i,e1,b1,l1,F1,L1,rfl,s1,ZI,st1,xJ,hq⟩
   ·exact⟨.ret,e1,b1,l1,F1,L1,trivial,s1,ZI,st1,xJ,hq⟩
 |loop c ih =>
   intro ac hc e b l Q h F L w a s he
   simp only[AH]at hc
   obtain⟨c',nX,rfl⟩:=map_some hc
   obtain⟨I,⟨e0,b0,l0,m0,N8,hI0⟩,S9⟩:=h
   obtain⟨F0,L0,s0,he0,st0,hb0⟩:=N8 F L w a s he
   refine wp_loop_ghost (fun n a1 w1=>∃e1 b1 l1 F1 L1,Sim F1 L1 (b1++l1) w1∧FB w1 F1 L1 e1 a1∧Step b.length F L (b++l) w F1 L1 (b1++l1) w1∧b1.length=b.length∧I e1 b1 l1 n) m0 ⟨e0,b0,l0,F0,L0,s0,he0,st0,hb0,hI0⟩ ?_
   rintro n a1 w1 ⟨e1,b1,l1,F1,L1,s1,ZI,st1,xJ,hI1⟩
   refine wp_mono (ih c' nX e1 b1 l1 _ (S9 e1 b1 l1 n hI1) F1 L1 w1 a1 s1 ZI) ?_
   rintro ex a2 w2 ⟨ax,e2,b2,l2,F2,L2,hex,s2,uJ,st2,vR,hq⟩
   have st12:=st1.trans (xJ▸st2)
   cases ex<;>cases ax<;>first|exact hex.elim|skip
   ·obtain⟨e3,b3,l3,m3,hw3,hI3,yA⟩:=hq
    obtain⟨F3,L3,s3,he3,st3,hb3⟩:=hw3 F2 L2 w2 a2 s2 uJ
    have hbb:b2.length=b.length:=vR.trans xJ
    exact⟨m3,yA,e3,b3,l3,F3,L3,s3,he3,st12.trans (hbb▸st3),hb3.trans hbb,hI3⟩
   ·exact⟨_,e2,b2,l2,F2,L2,hex,s2,uJ,st12,vR.trans xJ,hq⟩
   ·exact⟨_,e2,b2,l2,F2,L2,hex,s2,uJ,st12,vR.trans xJ,hq⟩
 |exit i =>
   intro ac hc e b l Q h F L w a s he
   cases hc
   exact wp_exit ⟨.exit i,e,b,l,F,L,rfl,s,he,Step.refl _ _ _ _ _,rfl,h⟩
 |ret =>
   intro ac hc e b l Q h F L w a s he
   cases hc
   exact wp_ret ⟨.ret,e,b,l,F,L,trivial,s,he,Step.refl _ _ _ _ _,rfl,h⟩
 |rangeFunc f ps az c ih1 ih2=>intro ac hc e b l Q h;cases hc;exact (uE h).elim
 |scope c ih=>intro ac hc e b l Q h;cases hc;exact (uE h).elim
 |label i=>intro ac hc e b l Q h;cases hc;exact (uE h).elim
 |goto i=>intro ac hc e b l Q h;cases hc;exact (uE h).elim
 |refuse y=>intro ac hc e b l Q h;cases hc;exact (uE h).elim

theorem wS {C:CallP} (JS:∀f args b l (Q Q':AV→List Row→List Row→Prop),C f args b l Q→(∀x b' l',Q x b' l'→Q' x b' l')→C f args b l Q') {b l:List Row} {K K':AV→List Row→List Row→Prop} {r:OpR} (h:uK C b l K r) (hk:∀x b l,K x b l→K' x b l):uK C b l K' r:=by
 cases r with
 |val x b' l'=>exact hk _ _ _ h
 |two c x y=>exact⟨fun hc=>hk _ _ _ (h.1 hc),hk _ _ _ h.2⟩
 |call f az=>exact JS _ _ _ _ _ _ h hk
 |bad=>exact h
theorem MS {t:Option Bool} {A B A' B':Prop} (h:dE t A B) (h1:A→A') (h2:B→B'):dE t A' B':=by
 unfold dE at *
 cases t with
 |none=>exact h
 |some t=>cases t<;>simp at h⊢ <;> first|exact h1 h|exact h2 h
theorem ZM {C:CallP} (JS:∀f args b l (Q Q':AV→List Row→List Row→Prop),C f args b l Q→(∀x b' l',Q x b' l'→Q' x b' l')→C f args b l Q') {K K':List AV→List Row→List Row→Prop} (hk:∀e b l,K e b l→K' e b l) :
  ∀{os:List AOper} {e:List AV} {b l:List Row},wF C os e b l K→wF C os e b l K'
 |[],e,b,l,h=>hk _ _ _ h
 |o::os,e,b,l,h=>MS h (fun h=>wS JS h (fun x b l h=>ZM JS hk h)) (fun h=>ZM JS hk h)
theorem vP {C:CallP} (JS:∀f args b l (Q Q':AV→List Row→List Row→Prop),C f args b l Q→(∀x b' l',Q x b' l'→Q' x b' l')→C f args b l Q') {K K':List AV→List Row→List Row→Prop} (hk:∀e b l,K e b l→K' e b l) :
  ∀{ds:List DOper} {e:List AV} {b l:List Row},PG C ds e b l K→PG C ds e b l K'
 |[],e,b,l,h=>hk _ _ _ h
 |d::ds,e,b,l,h=>MS h (fun h=>wS JS h (fun x b l h=>⟨h.1,vP JS hk h.2⟩)) (fun h=>vP JS hk h)
theorem ZBR {C:CallP} (JS:∀f args b l (Q Q':AV→List Row→List Row→Prop),C f args b l Q→(∀x b' l',Q x b' l'→Q' x b' l')→C f args b l Q') {W:WeakP}:∀{c:ACode} {e:List AV} {b l:List Row} {Q Q':AExit→List AV→List Row→List Row→Prop},
  run C W c e b l Q→(∀ex e b l,Q ex e b l→Q' ex e b l)→run C W c e b l Q':=by
 intro c
 induction c with
 |skip=>intro e b l Q Q' h hq;exact hq _ _ _ _ h
 |region ops=>intro e b l Q Q' h hq;exact ZM JS (fun _ _ _ h=>hq _ _ _ _ h) h
 |draw ds=>intro e b l Q Q' h hq;exact vP JS (fun _ _ _ h=>hq _ _ _ _ h) h
 |both x y ihx ihy=>intro e b l Q Q' h hq;exact⟨ihx h.1 hq,ihy h.2 hq⟩
 |seq x y ihx ihy =>
   intro e b l Q Q' h hq
   refine ihx (Q:=nW (fun e b l=>run C W y e b l Q) Q) h ?_
   intro ex e b l h
   cases ex with
   |normal=>exact ihy (Q:=Q) h hq
   |exit i=>exact hq _ _ _ _ h
   |ret=>exact hq _ _ _ _ h
 |cond c x y ihx ihy =>
   intro e b l Q Q' h hq
   simp only[run]at h⊢
   split at h
   ·split at h
    ·rename_i ht;rw[if_pos ht];exact ihx h hq
    ·rename_i ht;rw[if_neg ht];exact ihy h hq
   ·exact h
 |block i c ih =>
   intro e b l Q Q' h hq
   refine ih (Q:=S4 i Q) h ?_
   intro ex e b l h
   cases ex with
   |normal=>exact hq _ _ _ _ h
   |exit j =>
     simp only[S4]at h⊢
     split
     ·rename_i hj;rw[if_pos hj]at h;exact hq _ _ _ _ h
     ·rename_i hj;rw[if_neg hj]at h;exact hq _ _ _ _ h
   |ret=>exact hq _ _ _ _ h
 |loop c ih =>
   rintro e b l Q Q' ⟨I,h1,h2⟩ hq
   refine⟨I,h1,fun e b l m hI=>ih (h2 e b l m hI) ?_⟩
   intro ex e b l h
   cases ex with
   |normal=>exact h
   |exit j=>exact hq _ _ _ _ h
   |ret=>exact hq _ _ _ _ h
 |exit i=>intro e b l Q Q' h hq;exact hq _ _ _ _ h
 |ret=>intro e b l Q Q' h hq;exact hq _ _ _ _ h

theorem A8 {w:World} {F:Nat→Prop} {L:LMap} {b l:List Row} {e:List AV} {a:Act} (s:Sim F L (b++l) w) (he:FB w F L e a) (g:ResultVar→Sem Value)
  (sA:∀t,g (.tmp t)=pure (a.tmps.getD t undef)) (DD:∀p t,g (.cell p t)=(do loadVar t (←asAddr (a.tmps.getD p undef)))):∀{rs:List ResultVar} {ars:List ARes} {xs:List AV},ZCo P rs=some ars→resVs e b l ars=some xs →
  ∃vs:List Value,(rs.mapM g).run P w=.ok vs w∧GA w F L xs vs
 |[],ars,xs,hc,h=>by
   simp[ZCo]at hc
   subst hc
   simp[resVs]at h
   subst h
   exact⟨[],by simp,GA.nil⟩
 |.tmp t::rs,ars,xs,hc,h=>by
   simp only[ZCo]at hc
   obtain⟨ars',hc',rfl⟩:=map_some hc
   simp only[resVs,resV]at h
   split at h
   case h_2=>cases h
   rename_i x ys h1 h2
   cases h1
   cases h
   obtain⟨vs,h3,h4⟩:=A8 s he g sA DD hc' h2
   refine⟨a.tmps.getD t undef::vs,?_,GA.cons (he.nth t) h4⟩
   rw[List.mapM_cons]
   simp only[Sem.run_bind,Sem.run_pure,Result.andThen_ok,sA,h3]
 |.cell p t::rs,ars,xs,hc,h=>by
   simp only[ZCo]at hc
   split at hc
   case h_2=>cases hc
   rename_i n ars' hn hc'
   cases hc
   simp only[resVs,resV]at h
   split at h
   case h_2=>cases h
   rename_i x ys h1 h2
   cases h
   split at h1
   case h_2=>cases h1
   rename_i x' b1 l1 hld
   cases h1
   obtain⟨blk,q,u,g1,g2,g3,_,_⟩:=U4 (P:=P) s hn (he.nth p) hld
   obtain⟨vs,h3,h4⟩:=A8 s he g sA DD hc' h2
   refine⟨u::vs,?_,GA.cons g3 h4⟩
   rw[List.mapM_cons]
   have hra:(asAddr (a.tmps.getD p undef)).run P w=.ok ⟨blk,q,none⟩ w:=by rw[g1];rfl
   simp only[Sem.run_bind,Sem.run_pure,Result.andThen_ok,DD,hra,g2,h3]

def uH (rs:List ARes) (Q:AV→List Row→List Row→Prop) (nb:Nat):AExit→List AV→List Row→List Row→Prop:=fun ex e b l =>
 (ex=.normal∨ex=.ret)∧∃xs,resVs e b l rs=some xs∧∃y b' l',VA [one xs] b l [y] b' l'∧Q y (b'.take nb) (b'.drop nb++l')

inductive AVlt (m:Nat):AV→Prop where
 |any:AVlt m AV.any
 |v (x:IV):AVlt m (.v x)
 |agg (cs:List AV) (h:∀c∈cs,AVlt m c):AVlt m (.agg cs)
 |tup (cs:List AV) (h:∀c∈cs,AVlt m c):AVlt m (.tup cs)
 |sl (id ver off len:Nat) (h:id<m):AVlt m (.sl id ver off len)
 |ptr (id ver k j:Nat) (h:id<m):AVlt m (.ptr id ver k j)
 |fn (f:Nat) (cs:List AV) (h:∀c∈cs,AVlt m c):AVlt m (.fn f cs)
 |mp (id ver:Nat) (h:id<m):AVlt m (.mp id ver)
def gA (m:Nat) (h:List Row):Prop:=∀(id ver sz:Nat) (els:List (List AV)),h[id]? = some (Row.live ver sz els)→∀row∈els,∀c∈row,AVlt m c

theorem RepA.lt {w:World} {F:Nat→Prop} {L:LMap} {x:AV} {v:Value} (h:RepA w F L x v) {m:Nat} (hL:∀id ver l,L id ver=some l→id<m):AVlt m x:=by
 have sub:∀{cs:List AV} {vs:Array Value},cs.length=vs.size→(∀(i:Nat) (a:AV) (v:Value),cs[i]? = some a→vs[i]? = some v→AVlt m a)→∀c∈cs,AVlt m c:=by
  intro cs vs hl h c hc
  obtain⟨i,hi⟩:=ek.1 hc
  have yA:i<vs.size:=by rw[←hl];exact (am.1 hi).1
  exact h i c vs[i] hi (fy yA)
 induction h with
 |any v=>exact .any
 |v x v h=>exact .v x
 |agg cs vs hl _ ih=>exact .agg cs (sub hl ih)
 |tup cs vs hl _ ih=>exact .tup cs (sub hl ih)
 |sl id ver off len b o sz cap h1 h2 h3=>exact .sl id ver off len (hL _ _ _ h1)
 |slz id ver off b o sz cap x h1 h2=>exact .sl id ver off 0 (hL _ _ _ h1)
 |sln id ver ad h1=>exact .sl id ver 0 0 (hL _ _ _ h1)
 |ptr id ver k j b o sz cap h1=>exact .ptr id ver k j (hL _ _ _ h1)
 |fn f cs vs hl _ ih=>exact .fn f cs (sub hl ih)
 |mp id ver b h1=>exact .mp id ver (hL _ _ _ h1)

theorem RepA.cut {w:World} {F:Nat→Prop} {L L':LMap} {x:AV} {v:Value} (h:RepA w F L x v) {m:Nat} (hx:AVlt m x) (hL:∀id ver,id<m→L' id ver=L id ver):RepA w F L' x v:=by
 induction h with
 |any v=>exact .any v
 |v x v h=>exact .v x v h
 |agg cs vs hl _ ih=>cases hx with|agg _ h=>exact .agg cs vs hl (fun i a v hi hv=>ih i a v hi hv (h a (ci hi)))
 |tup cs vs hl _ ih=>cases hx with|tup _ h=>exact .tup cs vs hl (fun i a v hi hv=>ih i a v hi hv (h a (ci hi)))
 |sl id ver off len b o sz cap h1 h2 h3=>cases hx with|sl _ _ _ _ h=>exact .sl id ver off len b o sz cap (by rw[hL _ _ h];exact h1) h2 h3
 |slz id ver off b o sz cap x h1 h2=>cases hx with|sl _ _ _ _ h=>exact .slz id ver off b o sz cap x (by rw[hL _ _ h];exact h1) h2
 |sln id ver ad h1=>cases hx with|sl _ _ _ _ h=>exact .sln id ver ad (by rw[hL _ _ h];exact h1)
 |ptr id ver k j b o sz cap h1=>cases hx with|ptr _ _ _ _ h=>exact .ptr id ver k j b o sz cap (by rw[hL _ _ h];exact h1)
 |fn f cs vs hl _ ih=>cases hx with|fn _ _ h=>exact .fn f cs vs hl (fun i a v hi hv=>ih i a v hi hv (h a (ci hi)))
 |mp id ver b h1=>cases hx with|mp _ _ h=>exact .mp id ver b (by rw[hL _ _ h];exact h1)

theorem Sim.rowsLt {F:Nat→Prop} {L:LMap} {h:List Row} {w:World} (s:Sim F L h w):gA h.length h:=by
 intro id ver sz els hr row JD c hc
 obtain⟨l,h1,h2⟩:=s.row id ver sz els hr
 cases l with
 |nil =>
   have h2:els=[]:=h2
   subst h2
   simp at JD
 |pl b o z cap =>
   obtain⟨_,_,_,cur,T,_,_,_,k8⟩:=h2
   obtain⟨k,hk⟩:=ek.1 JD
   obtain⟨j,hj⟩:=ek.1 hc
   obtain⟨_,v,_,hv⟩:=k8 k row j c hk hj
   exact hv.lt (fun id ver l hl=>s.lt hl)
 |mp b =>
   obtain⟨es,clk,_,k4,k5⟩:=h2
   obtain⟨k,hk⟩:=ek.1 JD
   have hke:k<es.size:=by rw[k4];exact (am.1 hk).1
   obtain⟨x,y,rfl,e1,e2⟩:=k5 k row es[k] hk (fy hke)
   simp only[cz,ie,or_false]at hc
   rcases hc with rfl|rfl
   ·exact e1.lt (fun id ver l hl=>s.lt hl)
   ·exact e2.lt (fun id ver l hl=>s.lt hl)

theorem TT {f:Nat} {af:AFunc} (hf:qA P f=some af) {args:List AV} (ha:args.length=af.nargs) {b l:List Row} {Q:AV→List Row→List Row→Prop}
  (h:∀B,B=b++l→gA B.length B→(∀x∈args,AVlt B.length x)→run (QA P) VA af.body (args++List.replicate (af.ntmps-args.length) (.tup [])) B [] (uH af.res Q b.length)):QA P f args b l Q:=by
 unfold qA at hf
 split at hf
 case h_2=>cases hf
 rename_i fn hfn
 split at hf
 case isTrue=>cases hf
 rename_i qV
 split at hf
 case h_2=>cases hf
 rename_i c hbody
 split at hf
 case h_2=>cases hf
 rename_i ac rs nX hrs
 cases hf
 refine⟨⟨fn,hfn,by simpa using qV,by rw[hbody];rfl⟩,fun F L w vs s hr=>?_⟩
 refine calls_of_wp hfn hbody ?_
 have bU:vs.size=args.length:=by have:=hr.1;simpa using this.symm
 have ZKI:FB w F L (args++List.replicate (fn.ntmps-args.length) (.tup [])) {tmps:=vs++Array.replicate (fn.ntmps-vs.size) undef,defers:=[]}:=by
  refine⟨rfl,by simp[bU],fun i x v hx hv=>?_⟩
  by_cases hi:i<args.length
  ·rw[aw hi]at hx
   rw[ck oM]at hv
   exact hr.2 i x v hx (by simpa using hv)
  ·rw[aq oM,gr]at hx
   rw[ei oM,Array.getElem?_replicate]at hv
   split at hx
   ·split at hv
    ·cases hx;cases hv;exact RepA.undef _ _ _
    ·cases hv
   ·cases hx
 refine wp_mono (ZBQ (P:=P) (fun _ _ _ _ _ h=>h) aD c ac nX _ (b++l) [] _ (h _ rfl s.rowsLt (fun x hx=>by
  obtain⟨i,hi⟩:=ek.1 hx
  obtain⟨v,_,hv⟩:=hr.get hi
  exact hv.lt (fun id ver l hl=>s.lt hl))) F L w _ (by simpa using s) ZKI) ?_
 rintro ex a1 w1 ⟨ax,e1,b1,l1,F1,L1,hex,s1,ZI,st1,xJ,hax,xs,R8,y,b2,l2,ZLM,hq⟩
 obtain⟨us,hu1,hu2⟩:=A8 (P:=P) s1 ZI (fun
  |.tmp t=>pure (a1.tmps.getD t undef)
  |.cell a t=>do loadVar t (←asAddr (a1.tmps.getD a undef))) (fun _=>rfl) (fun _ _=>rfl) hrs R8
 have ZKJ:(results fn a1.tmps).run P w1=.ok (if h:us.toArray.size=1 then us.toArray[0] else .tuple us.toArray) w1:=by
  have hm:(fn.results.mapM (fun
    |.tmp t=>pure (a1.tmps.getD t undef)
    |.cell a t=>do loadVar t (←asAddr (a1.tmps.getD a undef)):ResultVar→Sem Value)).run P w1=.ok us.toArray w1:=by
   rw[Array.mapM_eq_mapM_toList]
   simp only[map_eq_pure_bind,Sem.run_bind,hu1,Result.andThen_ok,Sem.run_pure]
  unfold results
  rw[Sem.run_bind]
  erw[hm]
  rfl
 have ZCr:RepA w1 F1 L1 (one xs) (if h:us.toArray.size=1 then us.toArray[0] else .tuple us.toArray):=by
  have hl:=hu2.1
  cases xs with
  |nil =>
    have:us=[]:=cq (by simpa using hl.symm)
    subst this
    exact GA.tup (by simpa using GA.nil)
  |cons x xs =>
    cases xs with
    |nil =>
      cases us with
      |nil=>simp at hl
      |cons u us =>
        have:us=[]:=cq (by simpa using hl)
        subst this
        simpa [one] using hu2.2 0 x u rfl rfl
    |cons x2 xs =>
      have h2:¬us.toArray.size=1:=by simp at hl⊢;omega
      rw[dif_neg h2]
      exact GA.tup (by simpa [one] using hu2)
 generalize GW:(if h:us.toArray.size=1 then us.toArray[0] else Value.tuple us.toArray)=val at *
 obtain⟨F2,L2,s2,uJ,st2,vR⟩:=ZLM F1 L1 w1 {tmps:=#[val],defers:=[]} s1 ⟨rfl,rfl,fun i x v hx hv=>by
  cases i with
  |zero=>simp at hx hv;subst hx;subst hv;exact ZCr
  |succ i=>simp at hx⟩
 have hd:a1.defers=[]:=ZI.1
 have IG:∃v,(results fn a1.tmps).run P w1=.ok v w1∧∃v' x b' l' F' L',Ending.returned v=.returned v'∧RepA w1 F' L' x v'∧Sim F' L' (b'++l') w1∧Step (b++l).length F L (b++l) w F' L' (b'++l') w1∧b'.length=b.length∧Q x b' l':=by
  have ZF7:b2.take b.length++(b2.drop b.length++l2)=b2++l2:=by rw[←bc,iz]
  refine⟨val,ZKJ,val,y,b2.take b.length,b2.drop b.length++l2,F2,L2,rfl,uJ.2.2 0 y val rfl rfl,by rw[ZF7];exact s2,?_,?_,hq⟩
  ·rw[ZF7]
   have h1:b1.length=(b++l).length:=xJ
   have:=st1.trans (xJ▸st2)
   simpa using this
  ·have h1:b1.length=(b++l).length:=xJ
   have:b2.length=b.length+l.length:=by rw[vR,h1];simp
   simp;omega
 cases ex<;>cases ax<;>first|exact hex.elim|skip
 ·obtain⟨v,q1,q2⟩:=IG
  exact⟨hd,v,q1,q2⟩
 ·rcases hax with h|h<;>cases h
 ·obtain⟨v,q1,q2⟩:=IG
  exact⟨hd,v,q1,q2⟩
end

section
variable (C:CallP) (W:WeakP)
def seqC (y:ACode) (Q:AExit→List AV→List Row→List Row→Prop):AExit→List AV→List Row→List Row→Prop:=nW (fun e b l=>run C W y e b l Q) Q
def atN (Q:AExit→List AV→List Row→List Row→Prop):List AV→List Row→List Row→Prop:=Q .normal
def opK (d:Option Nat) (os:List AOper) (e:List AV) (K:List AV→List Row→List Row→Prop):AV→List Row→List Row→Prop:=fun x b l=>wF C os (put e d x) b l K
def opS (r:OpR) (d:Option Nat) (os:List AOper) (e:List AV) (b l:List Row) (K:List AV→List Row→List Row→Prop):Prop:=uK C b l (opK C d os e K) r
def ZFy (t:Option Bool) (d:Option Nat) (op:AOp) (os:List AOper) (e:List AV) (b l:List Row) (K:List AV→List Row→List Row→Prop):Prop:=
 dE t (opS C (aop e b l op) d os e b l K) (wF C os (put e d (.tup [])) b l K)
def dK (d:Option Nat) (re:List AOper) (ds:List DOper) (e:List AV) (K:List AV→List Row→List Row→Prop):AV→List Row→List Row→Prop:=fun x b l=>TG e b l re∧PG C ds (put e d x) b l K
def dS (r:OpR) (d:Option Nat) (re:List AOper) (ds:List DOper) (e:List AV) (b l:List Row) (K:List AV→List Row→List Row→Prop):Prop:=uK C b l (dK C d re ds e K) r
def ZFz (t:Option Bool) (d:Option Nat) (op:AOp) (re:List AOper) (ds:List DOper) (e:List AV) (b l:List Row) (K:List AV→List Row→List Row→Prop):Prop:=
 dE t (dS C (aop e b l op) d re ds e b l K) (PG C ds (put e d (.tup [])) b l K)
def ifC (v:AV) (x y:ACode) (e:List AV) (b l:List Row) (Q:AExit→List AV→List Row→List Row→Prop):Prop:=match v with
 |.v (.bool t)=>dE (some t) (run C W x e b l Q) (run C W y e b l Q)
 |_=>False
end

theorem nr.{u} {α:Sort u} {x y:α} (h:x=y):x=y:=h
section
variable {C:CallP} {W:WeakP} {e:List AV} {b l b' l':List Row} {Q:AExit→List AV→List Row→List Row→Prop} {K R:List AV→List Row→List Row→Prop} {KV:AV→List Row→List Row→Prop} {A B:Prop}
 {d:Option Nat} {op:AOp} {os:List AOper} {ds:List DOper} {re:List AOper} {x y:AV} {cx cy:ACode}
theorem xC:run C W .skip e b l Q=Q .normal e b l:=nr rfl
theorem UB {ops:List AOper}:run C W (.region ops) e b l Q=wF C ops e b l (atN Q):=nr rfl
theorem iC {ops:List DOper}:run C W (.draw ops) e b l Q=PG C ops e b l (atN Q):=nr rfl
theorem rC:run C W (.both cx cy) e b l Q=(run C W cx e b l Q∧run C W cy e b l Q):=nr rfl
theorem wD:run C W (.seq cx cy) e b l Q=run C W cx e b l (seqC C W cy Q):=nr rfl
theorem fB {i:Nat}:run C W (.block i cx) e b l Q=run C W cx e b l (S4 i Q):=nr rfl
theorem uC {i:Nat}:run C W (.exit i) e b l Q=Q (.exit i) e b l:=nr rfl
theorem gD:run C W .ret e b l Q=Q .ret e b l:=nr rfl
theorem dC {c:Opd}:run C W (.cond c cx cy) e b l Q=ifC C W (ev e c) cx cy e b l Q:=by
 simp only[run,ifC]
 generalize ev e c=q
 cases q with
 |v z=>cases z<;>rfl
 |_=>rfl
theorem mD:atN Q e b l=Q .normal e b l:=nr rfl
theorem LA:seqC C W cy Q .normal e b l=run C W cy e b l Q:=nr rfl
theorem lB {i:Nat}:seqC C W cy Q (.exit i) e b l=Q (.exit i) e b l:=nr rfl
theorem wC:seqC C W cy Q .ret e b l=Q .ret e b l:=nr rfl
theorem MA:nW R Q .normal e b l=R e b l:=nr rfl
theorem mB {i:Nat}:nW R Q (.exit i) e b l=Q (.exit i) e b l:=nr rfl
theorem kC:nW R Q .ret e b l=Q .ret e b l:=nr rfl
theorem QB {i:Nat}:S4 i Q .normal e b l=Q .normal e b l:=nr rfl
theorem GB {i j:Nat}:S4 i Q (.exit j) e b l=if j=i then Q .normal e b l else Q (.exit j) e b l:=nr rfl
theorem lC {i:Nat}:S4 i Q .ret e b l=Q .ret e b l:=nr rfl
theorem KB:wF C [] e b l K=K e b l:=nr rfl
theorem FA {g:Option (Nat×Bool)}:wF C (⟨d,op,g⟩::os) e b l K=ZFy C (gd e g) d op os e b l K:=nr rfl
theorem sC:PG C [] e b l K=K e b l:=nr rfl
theorem eB {i:Nat} {g:Option (Nat×Bool)}:PG C (⟨i,⟨d,op,g⟩,re⟩::ds) e b l K=ZFz C (gd e g) d op re ds e b l K:=nr rfl
theorem bB:ZFy C (some true) d op os e b l K=opS C (aop e b l op) d os e b l K:=by simp[ZFy,dE]
theorem vB:ZFy C (some false) d op os e b l K=wF C os (put e d (.tup [])) b l K:=by simp[ZFy,dE]
theorem aB:ZFz C (some true) d op re ds e b l K=dS C (aop e b l op) d re ds e b l K:=by simp[ZFz,dE]
theorem yB:ZFz C (some false) d op re ds e b l K=PG C ds (put e d (.tup [])) b l K:=by simp[ZFz,dE]
theorem JC:ifC C W (.v (.bool true)) cx cy e b l Q=run C W cx e b l Q:=by simp[ifC,dE]
theorem nB:ifC C W (.v (.bool false)) cx cy e b l Q=run C W cy e b l Q:=by simp[ifC,dE]
theorem xD:opS C (.val x b' l') d os e b l K=wF C os (put e d x) b' l' K:=nr rfl
theorem tC {f:Nat} {az:List AV}:opS C (.call f az) d os e b l K=C f az b l (opK C d os e K):=nr rfl
theorem uD {c:Bool}:opS C (.two c x y) d os e b l K=((c=true→wF C os (put e d x) b l K)∧wF C os (put e d y) b l K):=nr rfl
theorem iD:opK C d os e K x b l=wF C os (put e d x) b l K:=nr rfl
theorem eE:dS C (.val x b' l') d re ds e b l K=(TG e b' l' re∧PG C ds (put e d x) b' l' K):=nr rfl
theorem pD {f:Nat} {az:List AV}:dS C (.call f az) d re ds e b l K=C f az b l (dK C d re ds e K):=nr rfl
theorem bE {c:Bool}:dS C (.two c x y) d re ds e b l K=((c=true→TG e b l re∧PG C ds (put e d x) b l K)∧(TG e b l re∧PG C ds (put e d y) b l K)):=nr rfl
theorem aE:dK C d re ds e K x b l=(TG e b l re∧PG C ds (put e d x) b l K):=nr rfl
theorem ZBq {t:Bool} (h1:t=true→run C W cx e b l Q) (h2:t=false→run C W cy e b l Q):ifC C W (.v (.bool t)) cx cy e b l Q:=by
 cases t
 ·rw[nB];exact h2 rfl
 ·rw[JC];exact h1 rfl
theorem sD:gd e none=some true:=nr rfl
theorem rD {s:Nat} {w:Bool}:gd e (some (s,w))=(match nth e s with
  |.v (.bool t)=>some (t==w)
  |.tup []=>some false
  |_=>none):=nr rfl
theorem zB:TG e b l []=True:=nr rfl
theorem EA {r:AOper} {rs:List AOper}:TG e b l (r::rs)=(YE e b l r∧TG e b l rs):=nr rfl
theorem C2 {a:AV} {l:List AV}:nth (a::l) 0=a:=nr rfl
theorem O2 {a:AV} {l:List AV} {n:Nat}:nth (a::l) (n+1)=nth l n:=nr rfl
theorem M0 {a x:AV} {l:List AV}:upd (a::l) 0 x=x::l:=nr rfl
theorem C0 {a x:AV} {l:List AV} {n:Nat}:upd (a::l) (n+1) x=a::upd l n x:=nr rfl
theorem rT {n:Nat} {x:AV}:put e (some n) x=upd e n x:=nr rfl
theorem P2 {x:AV}:put e none x=e:=nr rfl
theorem KL {n:Nat}:ev e (.t n)=nth e n:=nr rfl
theorem zL {x:AV}:ev e (.c x)=x:=nr rfl
theorem nD:evs e []=[]:=nr rfl
theorem nC {x:Opd} {xs:List Opd}:evs e (x::xs)=ev e x::evs e xs:=nr rfl
theorem pC {x:Opd}:evo e (some x)=some (ev e x):=nr rfl
theorem mC:evo e none=none:=nr rfl
theorem YD {i:Nat}:hget b l (b.length+i)=l[i]?:=by
 unfold hget;rw[if_neg oM,cj]
theorem lA:hget b l b.length=l[0]?:=YD (i:=0)
theorem UC {i:Nat} {r:Row}:iE b (b.length+i) r=b:=by unfold iE;rw[if_neg oM]
theorem AA {r:Row}:iE b b.length r=b:=UC (i:=0)
theorem VC {i:Nat} {r:Row}:GE b l (b.length+i) r=l.set i r:=by unfold GE;rw[if_neg oM,cj]
theorem CA {r:Row}:GE b l b.length r=l.set 0 r:=VC (i:=0)
theorem qB:VJ (some x) b l=.val x b l:=nr rfl
end

theorem wB {A B:Prop}:dE (some true) A B=A:=by simp[dE]
theorem ZB {A B:Prop}:dE (some false) A B=B:=by simp[dE]
theorem fE {x:AV} {b l:List Row} {A:Prop}:(∃v,OpR.val x b l=.val v b l∧(x=v∨A))=True:=eq_true ⟨x,rfl,.inl rfl⟩
theorem tD {x:AV} {b l:List Row}:(∃v,OpR.val x b l=.val v b l∧True)=True:=eq_true ⟨x,rfl,trivial⟩

theorem pA {n:Int} (h1:-9223372036854775808≤n) (h2:n≤9223372036854775807):IntKind.i64.wrap n=n:=by rw[IntKind.wrap_i64];omega

theorem YL {a b:Nat} (h:a≤b):(a≤b)=True:=eq_true h
theorem sK {a b:Nat} (h:a<b):(a<b)=True:=eq_true h
theorem JL {a b:Nat} (h:¬a≤b):(a≤b)=False:=eq_false h
theorem XL {a b:Nat} (h:¬a<b):(a<b)=False:=eq_false h
theorem rG {a b:Int} (h:a≤b):(a≤b)=True:=eq_true h
theorem iG {a b:Int} (h:a<b):(a<b)=True:=eq_true h
theorem sG {a b:Int} (h:¬a≤b):(a≤b)=False:=eq_false h
theorem dG {a b:Int} (h:¬a<b):(a<b)=False:=eq_false h
theorem geI {a b:Int}:(a≥b)=(b≤a):=rfl
theorem gtI {a b:Int}:(a>b)=(b<a):=rfl
theorem tG {α:Type} {l:List α} {i:Nat} (h:i<l.length):l[i]? = some l[i]:=ah h
theorem jF {α:Type} {l:List α} {k:Nat} (h:k<l.length):l.take (k+1)=l.take k++[l[k]]:=jh h

def vs (rows:List (List IV)):List (List AV):=rows.map (·.map .v)
theorem lE {rows:List (List IV)}:rows.map (fun r=>r.map AV.v)=vs rows:=nr rfl
theorem SB {rows:List (List IV)}:(vs rows).length=rows.length:=by simp[vs]
theorem iB {rows:List (List IV)} {i:Nat}:(vs rows)[i]? = (rows[i]?).map (·.map .v):=by simp[vs]
theorem jD {rows:List (List IV)} {i:Nat}:(vs rows).take i=vs (rows.take i):=by simp[vs,gh]
theorem kD {rows:List (List IV)} {i:Nat}:(vs rows).drop i=vs (rows.drop i):=by simp[vs,fz]
theorem ZEu {r q:List (List IV)}:vs r++vs q=vs (r++q):=by simp[vs]
theorem ZJE:vs []=[]:=rfl
theorem yC {r:List (List IV)} {a:IV}:vs r++[[.v a]]=vs (r++[[a]]):=by simp[vs]
theorem vC {r:List (List IV)} {a c:IV}:vs r++[[.v a,.v c]]=vs (r++[[a,c]]):=by simp[vs]
theorem jC {r:List (List IV)} {a c d:IV}:vs r++[[.v a,.v c,.v d]]=vs (r++[[a,c,d]]):=by simp[vs]
theorem qC {r:List (List IV)} {a c d f g:IV}:vs r++[[.v a,.v c,.v d,.v f,.v g]]=vs (r++[[a,c,d,f,g]]):=by simp[vs]
theorem yD {r:List (List IV)} {i:Nat} {a:IV}:(vs r).set i [.v a]=vs (r.set i [a]):=by rw[vs,vs,fa];rfl
theorem vD {r:List (List IV)} {i:Nat} {a c:IV}:(vs r).set i [.v a,.v c]=vs (r.set i [a,c]):=by rw[vs,vs,fa];rfl
theorem mE {n:Nat} {a:IV}:List.replicate n [AV.v a]=vs (List.replicate n [a]):=by rw[vs,List.map_replicate];rfl
theorem RM {α β:Type} {f:α→β} {l:List α} {k:Nat} (h:k<l.length):(l.take k).map f++[f l[k]]=(l.take (k+1)).map f:=by rw[jF h,bh];rfl
theorem cJ {m:Nat} {rows:List (List IV)}:(∀row∈vs rows,∀c∈row,AVlt m c)↔True:=by
 refine⟨fun _=>trivial,fun _ row hr c hc=>?_⟩
 simp[vs]at hr
 obtain⟨r,_,rfl⟩:=hr
 simp at hc
 obtain⟨x,_,rfl⟩:=hc
 exact .v x

section
variable {e e':List AV} {b b' l l':List Row}

theorem VA.refl (e:List AV) (b l:List Row):VA e b l e b l:=fun F L w a s he=>⟨F,L,s,he,Step.refl _ _ _ _ _,rfl⟩
theorem kF {b l:List Row}:∀e,VA e b l e b l:=fun e=>VA.refl e b l
theorem VA.trans {e1 e2 e3:List AV} {b1 b2 b3 l1 l2 l3:List Row} (h:VA e1 b1 l1 e2 b2 l2) (k:VA e2 b2 l2 e3 b3 l3):VA e1 b1 l1 e3 b3 l3:=by
 intro F L w a s he
 obtain⟨F1,L1,s1,ZI,st1,xJ⟩:=h F L w a s he
 obtain⟨F2,L2,s2,uJ,st2,vR⟩:=k F1 L1 w a s1 ZI
 exact⟨F2,L2,s2,uJ,st1.trans (xJ▸st2),vR.trans xJ⟩

def Fgt:List AV→List AV→Prop
 |[],[]=>True
 |a::az,c::cs=>(c=AV.any∨a=c)∧Fgt az cs
 |_,_=>False
theorem Fgt.len:∀{az cs:List AV},Fgt az cs→az.length=cs.length
 |[],[],_=>rfl
 |_::az,_::cs,h=>by simp[Fgt.len h.2]
 |[],_::_,h=>h.elim
 |_::_,[],h=>h.elim
theorem Fgt.get:∀{az cs:List AV},Fgt az cs→∀(i:Nat) (c:AV),cs[i]? = some c→c=AV.any∨az[i]? = some c
 |[],[],_,i,c,h=>by simp at h
 |a::az,x::cs,h,i,c,hc=>by
   cases i with
   |zero =>
     simp at hc
     subst hc
     rcases h.1 with h1|h1
     ·exact .inl h1
     ·exact .inr (by simp[h1])
   |succ i=>simp at hc⊢;exact Fgt.get h.2 i c hc
 |[],_::_,h,_,_,_=>h.elim
 |_::_,[],h,_,_,_=>h.elim
theorem VA.forget (h:Fgt e e'):VA e b l e' b l:=by
 intro F L w a s he
 refine⟨F,L,s,⟨he.1,by rw[he.2.1,h.len],fun i x v hx hv=>?_⟩,Step.refl _ _ _ _ _,rfl⟩
 rcases h.get i x hx with rfl|hi
 ·exact .any v
 ·exact he.2.2 i x v hi hv

theorem qR {m:Nat} {x:IV}:AVlt m (.v x)↔True:=⟨fun _=>trivial,fun _=>.v x⟩
theorem ZEp {m:Nat}:AVlt m AV.any↔True:=⟨fun _=>trivial,fun _=>.any⟩
theorem NO {m id ver off len:Nat}:AVlt m (.sl id ver off len)↔id<m:=⟨fun h=>by cases h;assumption,fun h=>.sl _ _ _ _ h⟩
theorem ZEo {m id ver k j:Nat}:AVlt m (.ptr id ver k j)↔id<m:=⟨fun h=>by cases h;assumption,fun h=>.ptr _ _ _ _ h⟩
theorem ZHe {m id ver:Nat}:AVlt m (.mp id ver)↔id<m:=⟨fun h=>by cases h;assumption,.mp id ver⟩
theorem ZEq {m:Nat} {cs:List AV}:AVlt m (.agg cs)↔∀c∈cs,AVlt m c:=⟨fun h=>by cases h;assumption,fun h=>.agg _ h⟩
theorem ZEn {m:Nat} {cs:List AV}:AVlt m (.tup cs)↔∀c∈cs,AVlt m c:=⟨fun h=>by cases h;assumption,fun h=>.tup _ h⟩
theorem ZHf {m f:Nat} {cs:List AV}:AVlt m (.fn f cs)↔∀c∈cs,AVlt m c:=⟨fun h=>by cases h;assumption,fun h=>.fn _ _ h⟩
theorem nE {m:Nat}:gA m []:=fun id ver sz els h=>by simp at h
theorem IQ {m:Nat} {r:Row} {h:List Row}:gA m (r::h)↔(∀ver sz els,r=.live ver sz els→∀row∈els,∀c∈row,AVlt m c)∧gA m h:=by
 refine⟨fun hh=>⟨fun ver sz els hr=>hh 0 ver sz els (by rw[hr];rfl),fun id ver sz els hi=>hh (id+1) ver sz els (by simpa using hi)⟩,fun ⟨h1,h2⟩ id ver sz els hi=>?_⟩
 cases id with
 |zero=>simp at hi;exact h1 ver sz els hi
 |succ id=>simp at hi;exact h2 id ver sz els hi
theorem SC {m ver sz:Nat} {els:List (List AV)} {h:List Row}:gA m (.live ver sz els::h)↔(∀row∈els,∀c∈row,AVlt m c)∧gA m h:=by
 rw[IQ]
 exact⟨fun ⟨h1,h2⟩=>⟨h1 ver sz els rfl,h2⟩,fun ⟨h1,h2⟩=>⟨fun v s e he=>by cases he;exact h1,h2⟩⟩
theorem K0 {m ver:Nat} {h:List Row}:gA m (.dead ver::h)↔gA m h:=by
 rw[IQ]
 exact⟨fun ⟨_,h2⟩=>h2,fun h2=>⟨fun v s e he=>(by cases he),h2⟩⟩
theorem AVlt.mono {m m':Nat} {x:AV} (h:AVlt m x) (hm:m≤m'):AVlt m' x:=by
 induction h with
 |any=>exact .any
 |v x=>exact .v x
 |agg cs _ ih=>exact .agg cs ih
 |tup cs _ ih=>exact .tup cs ih
 |sl id ver off len h=>exact .sl _ _ _ _ oM
 |ptr id ver k j h=>exact .ptr _ _ _ _ oM
 |fn f cs _ ih=>exact .fn f cs ih
 |mp id ver h=>exact .mp _ _ oM
theorem gA.mono {m m':Nat} {h:List Row} (hh:gA m h) (hm:m≤m'):gA m' h:=fun id ver sz els hr row JD c hc=>(hh id ver sz els hr row JD c hc).mono hm

theorem VA.trim {l1 junk:List Row} (hl:l=l1++junk) (he:∀x∈e,AVlt (b.length+l1.length) x) (hb:gA (b.length+l1.length) b) (h1:gA (b.length+l1.length) l1):VA e b l e b l1:=by
 subst hl
 intro F L w a s GU
 have hm:(b++l1).length=b.length+l1.length:=by simp
 obtain⟨L',hL1,hL2⟩:∃L':LMap,(∀id ver,id<b.length+l1.length→L' id ver=L id ver)∧∀id ver,¬id<b.length+l1.length→L' id ver=none:=
  ⟨fun id ver=>if id<b.length+l1.length then L id ver else none,fun id ver h=>by simp[h],fun id ver h=>by simp[h]⟩
 have eR:∀{id ver q},L' id ver=some q→id<b.length+l1.length∧L id ver=some q:=by
  intro id ver q hq
  by_cases hid:id<b.length+l1.length
  ·rw[hL1 id ver hid]at hq;exact⟨hid,hq⟩
  ·rw[hL2 id ver hid]at hq;cases hq
 have hget:∀id,id<b.length+l1.length→(b++(l1++junk))[id]? = (b++l1)[id]?:=by
  intro id hid
  rw[←bc,aw oM]
 have EF:∀k,DC L' (b++l1) k→DC L (b++(l1++junk)) k:=by
  rintro k ⟨id,ver,sz,els,q,q1,q2,q4⟩
  obtain⟨hid,q3⟩:=eR q2
  exact⟨id,ver,sz,els,q,by rw[hget id hid];exact q1,q3,q4⟩
 have nR:gA (b.length+l1.length) (b++l1):=by
  intro id ver sz els hr
  by_cases hid:id<b.length
  ·rw[aw hid]at hr;exact hb id ver sz els hr
  ·rw[aq oM]at hr;exact h1 _ ver sz els hr
 refine⟨F,L',⟨?_,?_,?_,fun k hk=>⟨(s.imm k hk).1,fun ho=>(s.imm k hk).2 (EF k ho)⟩,s.glob⟩,⟨GU.1,GU.2.1,fun i x v hx hv=>(GU.2.2 i x v hx hv).cut (he x (ci hx)) hL1⟩,
  ⟨fun _ h=>h,fun id ver q hid hq=>by rw[hL1 id ver oM];exact hq,rfl,rfl,rfl,ai _,fun _ _ _=>rfl,fun k _ ho=>EF k ho,fun id hid v hv=>by
   rw[aw hid]at hv⊢;exact hv,fun _ _ h=>.inl h⟩,rfl⟩
 ·intro id ver sz els hr
  have hid:id<b.length+l1.length:=by rw[←hm];exact (am.1 hr).1
  obtain⟨q,q1,q2⟩:=s.row id ver sz els (by rw[hget id hid];exact hr)
  refine⟨q,by rw[hL1 id ver hid];exact q1,?_⟩
  cases q with
  |nil=>exact q2
  |pl blk o z cap =>
    obtain⟨k1,k2,k3,cur,T,k4,k5,k6,k7⟩:=q2
    exact⟨k1,k2,k3,cur,T,k4,k5,k6,fun k row j c hk hj=>by
     obtain⟨g1,v,g2,g3⟩:=k7 k row j c hk hj
     exact⟨g1,v,g2,g3.cut (nR id ver sz els hr row (ci hk) c (ci hj)) hL1⟩⟩
  |mp blk =>
    obtain⟨es,clk,k4,k5,k6⟩:=q2
    refine⟨es,clk,k4,k5,fun k row e1 hk he=>?_⟩
    obtain⟨x,y,rfl,g2,g3⟩:=k6 k row e1 hk he
    exact⟨x,y,rfl,g2.cut (nR id ver sz els hr _ (ci hk) x kS) hL1,g3.cut (nR id ver sz els hr _ (ci hk) y kS) hL1⟩
 ·intro id ver q hq
  obtain⟨hid,q1⟩:=eR hq
  obtain⟨r,r1,r2⟩:=s.born id ver q q1
  exact⟨r,by rw[←hget id hid];exact r1,r2⟩
 ·intro id id' ver ver' z z' e1 e2 bb l1' l2' q1 q2 q3 q4 q7 q8
  obtain⟨i1,q5⟩:=eR q3
  obtain⟨i2,q6⟩:=eR q4
  exact s.apart id id' ver ver' z z' e1 e2 bb l1' l2' (by rw[hget id i1];exact q1) (by rw[hget id' i2];exact q2) q5 q6 q7 q8

theorem Z3 {sz:Nat} (F:Nat→Prop) (L:LMap) (w:World) (s:Sim F L (b++l) w):∃L':LMap,Sim F L' (b++(l++[.live 0 sz []])) w∧L' (b.length+l.length) 0=some .nil∧(∀i v q,L i v=some q→L' i v=some q) ∧
  Step b.length F L (b++l) w F L' (b++(l++[.live 0 sz []])) w:=by
 have IB:(b++l).length=b.length+l.length:=by simp
 have U5:L (b.length+l.length) 0=none:=by
  cases hq:L (b.length+l.length) 0 with
  |none=>rfl
  |some q=>exact absurd (s.lt hq) oM
 obtain⟨L',FT,yY,eU⟩:∃L':LMap,L' (b.length+l.length) 0=some .nil∧(∀i v q,L i v=some q→L' i v=some q)∧∀i v,(i≠b.length+l.length∨v≠0)→L' i v=L i v:=by
  refine⟨fun i v=>if i=b.length+l.length∧v=0 then some .nil else L i v,by simp,?_,?_⟩
  ·intro i v q hl
   by_cases hi:i=b.length+l.length∧v=0
   ·obtain⟨rfl,rfl⟩:=hi
    rw[U5]at hl;cases hl
   ·simp[hi,hl]
  ·intro i v hi
   have:¬(i=b.length+l.length∧v=0):=fun ⟨a,b⟩=>hi.elim (fun h=>h a) (fun h=>h b)
   simp[this]
 have JH:∀j,j≠b.length+l.length→(b++(l++[Row.live 0 sz []]))[j]? = (b++l)[j]?:=by
  intro j hj
  rw[←bc]
  by_cases wG:j<(b++l).length
  ·rw[aw wG]
  ·rw[cg (by simp;omega),cg oM]
 have GG:(b++(l++[Row.live 0 sz []]))[b.length+l.length]? = some (.live 0 sz []):=by
  rw[←bc,aq oM];simp
 have own:∀k,DC L' (b++(l++[Row.live 0 sz []])) k→DC L (b++l) k:=by
  rintro k ⟨i,v,z,e1,q1,h1,h2,h3⟩
  by_cases hi:i=b.length+l.length
  ·subst hi
   rw[GG]at h1;cases h1
   rw[FT]at h2;cases h2
   exact h3.elim
  ·rw[JH i hi]at h1
   rw[eU i v (.inl hi)]at h2
   exact⟨i,v,z,e1,q1,h1,h2,h3⟩
 have mono:∀{x:AV} {v:Value},RepA w F L x v→RepA w F L' x v:=fun hx=>hx.mono (fun _ h=>h) (fun _ _=>rfl) yY
 refine⟨L',⟨?_,?_,?_,fun k hk=>⟨(s.imm k hk).1,fun ho=>(s.imm k hk).2 (own k ho)⟩,s.glob⟩,FT,yY,⟨fun _ h=>h,fun i v q _ hl=>yY i v q hl,rfl,rfl,rfl,ai _,fun _ _ _=>rfl,fun k _ ho=>own k ho,fun i hi v hv=>by rw[JH i oM];exact hv,fun _ _ h=>.inl h⟩⟩
 ·intro j v z e1 hj
  by_cases YG:j=b.length+l.length
  ·subst YG
   rw[GG]at hj
   cases hj
   exact⟨.nil,FT,rfl⟩
  ·rw[JH j YG]at hj
   obtain⟨q,bO,cU⟩:=s.row j v z e1 hj
   exact⟨q,yY _ _ _ bO,cU.mono (fun _ _=>rfl) (fun _ _=>mono)⟩
 ·intro i v q bO
  by_cases hi:i=b.length+l.length
  ·subst hi
   refine⟨_,GG,?_⟩
   by_cases hv:v=0
   ·subst hv;exact ai _
   ·rw[eU _ v (.inr hv)]at bO
    exact absurd (s.lt bO) oM
  ·rw[eU i v (.inl hi)]at bO
   obtain⟨r,h1,h2⟩:=s.born _ _ _ bO
   exact⟨r,by rw[JH i hi];exact h1,h2⟩
 ·intro i i' v v' z z' e1 e2 bb q1 q2 h1 h2 h3 h4 h5 h6
  by_cases hi:i=b.length+l.length
  ·subst hi
   rw[GG]at h1;cases h1
   rw[FT]at h3;cases h3
   exact h5.elim
  ·by_cases hi':i'=b.length+l.length
   ·subst hi'
    rw[GG]at h2;cases h2
    rw[FT]at h4;cases h4
    exact h6.elim
   ·rw[JH i hi]at h1
    rw[JH i' hi']at h2
    rw[eU i v (.inl hi)]at h3
    rw[eU i' v' (.inl hi')]at h4
    exact s.apart i i' v v' z z' e1 e2 bb q1 q2 h1 h2 h3 h4 h5 h6
theorem VA.nilrow {k sz:Nat} (hk:nth e k=.v .zsl) (yA:k<e.length):VA e b l (upd e k (.sl (b.length+l.length) 0 0 0)) b (l++[.live 0 sz []]):=by
 intro F L w a s GU
 obtain⟨L',s',FT,yY,st⟩:=Z3 (sz:=sz) F L w s
 have mono:∀{x:AV} {v:Value},RepA w F L x v→RepA w F L' x v:=fun hx=>hx.mono (fun _ h=>h) (fun _ _=>rfl) yY
 refine⟨F,L',s',?_,st,rfl⟩
 ·rw[ZK]
  refine⟨GU.1,by simp[GU.2.1],fun i x v hx hv=>?_⟩
  by_cases hi:k=i
  ·subst hi
   rw[ay yA]at hx
   cases hx
   rw[LN]at hk
   cases hq:e[k]? with
   |none=>rw[hq]at hk;cases hk
   |some y =>
     rw[hq]at hk
     have hy:y=.v .zsl:=hk
     subst hy
     have:=GU.2.2 k _ v hq hv
     cases this.vI
     exact .sln _ _ _ FT
  ·rw[bl hi]at hx
   exact mono (GU.2.2 i x v hx hv)


theorem Sim.setCell {F:Nat→Prop} {L:LMap} {h:List Row} {w:World} (s:Sim F L h w) {i ver z k j:Nat} {els:List (List AV)} {row:List AV} {x y:AV} (hi:h[i]? = some (.live ver z els)) (hk:els[k]? = some row) (hj:row[j]? = some x)
  (hy:∀v,RepA w F L x v→RepA w F L y v) (hc:y.cell=true):Sim F L (h.set i (.live ver z (els.set k (row.set j y)))) w∧∀b,DC L (h.set i (.live ver z (els.set k (row.set j y)))) b→DC L h b:=by
 have M9:i<h.length:=(am.1 hi).1
 have back:∀{i' v z':Nat} {e':List (List AV)},(h.set i (Row.live ver z (els.set k (row.set j y))))[i']? = some (Row.live v z' e')→∃e0,h[i']? = some (Row.live v z' e0)∧(e'=e0∨(e0=els∧e'=els.set k (row.set j y))):=by
  intro i' v z' e' h1
  by_cases hii:i=i'
  ·subst hii
   rw[ay M9]at h1
   cases h1
   exact⟨els,hi,.inr ⟨rfl,rfl⟩⟩
  ·rw[bl hii]at h1
   exact⟨e',h1,.inl rfl⟩
 have own:∀b,DC L (h.set i (.live ver z (els.set k (row.set j y)))) b→DC L h b:=by
  rintro b ⟨i',v,z',e1,q1,h1,h2,h4⟩
  obtain⟨e0,h3,_⟩:=back h1
  exact⟨i',v,z',e0,q1,h3,h2,h4⟩
 refine⟨⟨fun i' v z' e' h1=>?_,fun i' v q hq=>?_,fun i1 i2 v v' z1 z2 e1 e2 bb q1 q2 h1 h2 h3 h4 h5 h6=>?_,fun b hb=>⟨(s.imm b hb).1,fun ho=>(s.imm b hb).2 (own b ho)⟩,s.glob⟩,own⟩
 ·obtain⟨e0,h2,h3⟩:=back h1
  obtain⟨q,g1,g2⟩:=s.row _ _ _ _ h2
  refine⟨q,g1,?_⟩
  rcases h3 with rfl|⟨rfl,rfl⟩
  ·exact g2
  ·cases q with
   |nil=>have g2:e0=[]:=g2;subst g2;simp at hk
   |pl blk o z1 c =>
     obtain⟨q1,q2,q3,cur,T,q4,q5,q6,q7⟩:=g2
     refine⟨q1,by simpa using q2,q3,cur,T,q4,q5,fun k' r hk'=>?_,fun k' r jj c hk' hjj=>?_⟩
     ·by_cases UP:k=k'
      ·subst UP
       rw[ay (am.1 hk).1]at hk'
       cases hk'
       simpa using q6 k row hk
      ·rw[bl UP]at hk';exact q6 k' r hk'
     ·by_cases UP:k=k'
      ·subst UP
       rw[ay (am.1 hk).1]at hk'
       cases hk'
       by_cases hjk:j=jj
       ·subst hjk
        rw[ay (am.1 hj).1]at hjj
        cases hjj
        obtain⟨_,u,t2,t3⟩:=q7 k row j x hk hj
        exact⟨hc,u,t2,hy u t3⟩
       ·rw[bl hjk]at hjj;exact q7 k row jj c hk hjj
      ·rw[bl UP]at hk';exact q7 k' r jj c hk' hjj
   |mp blk =>
     obtain⟨es,clk,q4,q5,q6⟩:=g2
     refine⟨es,clk,q4,by simpa using q5,fun k' r e1 hk' he=>?_⟩
     by_cases UP:k=k'
     ·subst UP
      rw[ay (am.1 hk).1]at hk'
      cases hk'
      obtain⟨x1,y1,rfl,t2,t3⟩:=q6 k row e1 hk he
      cases j with
      |zero=>simp at hj;subst hj;exact⟨y,y1,rfl,hy _ t2,t3⟩
      |succ j =>
        cases j with
        |zero=>simp at hj;subst hj;exact⟨x1,y,rfl,t2,hy _ t3⟩
        |succ j=>simp at hj
     ·rw[bl UP]at hk';exact q6 k' r e1 hk' he
 ·obtain⟨r,h1,h2⟩:=s.born i' v q hq
  by_cases hii:i=i'
  ·subst hii
   rw[hi]at h1;cases h1
   exact⟨_,ay M9,h2⟩
  ·exact⟨r,by rw[bl hii];exact h1,h2⟩
 ·obtain⟨_,k1,_⟩:=back h1
  obtain⟨_,k2,_⟩:=back h2
  exact s.apart i1 i2 v v' z1 z2 _ _ bb q1 q2 k1 k2 h3 h4 h5 h6

theorem VA.nilcell {i ver z k j sz:Nat} {els:List (List AV)} {row:List AV} (hi:l[i]? = some (.live ver z els)) (hk:els[k]? = some row) (hj:row[j]? = some (.v .zsl)) :
  VA e b l e b (l.set i (.live ver z (els.set k (row.set j (.sl (b.length+l.length) 0 0 0))))++[.live 0 sz []]):=by
 intro F L w a s GU
 obtain⟨L',s',FT,yY,st⟩:=Z3 (sz:=sz) F L w s
 have M9:i<l.length:=(am.1 hi).1
 have hi':(b++(l++[Row.live 0 sz []]))[b.length+i]? = some (.live ver z els):=by
  rw[aq oM,cj,aw M9];exact hi
 obtain⟨s2,own⟩:=s'.setCell hi' hk hj (y:=.sl (b.length+l.length) 0 0 0) (fun v hv=>by cases hv.vI;exact .sln _ _ _ FT) rfl
 have pK:(b++(l++[Row.live 0 sz []])).set (b.length+i) (.live ver z (els.set k (row.set j (.sl (b.length+l.length) 0 0 0))))=b++(l.set i (.live ver z (els.set k (row.set j (.sl (b.length+l.length) 0 0 0))))++[.live 0 sz []]):=by
  rw[jg _ _ oM,cj,jf _ _ M9]
 rw[pK]at s2 own
 refine⟨F,L',s2,GU.mono (fun _ h=>h) (fun _ _=>rfl) yY,⟨st.imm,st.loc,st.os,st.tape,st.output,st.size,st.block,fun q hq ho=>st.own q hq (own q ho),fun id hid v hv=>?_,st.fnew⟩,rfl⟩
 have:=st.base id hid v hv
 rw[aw hid]at this⊢
 exact this

def ZE (id ver sz:Nat) (rows:List (List IV)):AV→AV
 |.sl i v off len=>if i=id∧v=ver∧off+len≤rows.length then .v (.isl sz ((rows.drop off).take len)) else .sl i v off len
 |x=>x
def frz (id ver sz:Nat) (rows:List (List IV)):AV→AV
 |.agg cs=>.agg (cs.map (ZE id ver sz rows))
 |.tup cs=>.tup (cs.map (ZE id ver sz rows))
 |x=>ZE id ver sz rows x

theorem nJ {i ver sz:Nat} {rows:List (List IV)} (hi:l[i]? = some (.live ver sz (rows.map (·.map .v)))) (F:Nat→Prop) (L:LMap) (w:World) (a:Act) (s:Sim F L (b++l) w) (GU:FB w F L e a) :
  ∃F':Nat→Prop,Sim F' L (b++l.set i (.dead ver)) w∧FB w F' L (e.map (frz (b.length+i) ver sz rows)) a∧Step b.length F L (b++l) w F' L (b++l.set i (.dead ver)) w ∧
   ∀(x:AV) (v:Value),RepA w F' L x v→RepA w F' L (ZE (b.length+i) ver sz rows x) v:=by
 have M9:i<l.length:=(am.1 hi).1
 have JD:(b++l)[b.length+i]? = some (.live ver sz (rows.map (·.map .v))):=by rw[aq oM,cj];exact hi
 have pK:b++l.set i (.dead ver)=(b++l).set (b.length+i) (.dead ver):=by rw[jg _ _ oM,cj]
 have ZCv:b.length+i<(b++l).length:=by simp;omega
 obtain⟨lc,k1,k2⟩:=s.row _ _ _ _ JD
 have K5:∀{j v z els},((b++l).set (b.length+i) (.dead ver))[j]? = some (.live v z els)→j≠b.length+i∧(b++l)[j]? = some (.live v z els):=by
  intro j v z els hj
  by_cases YG:b.length+i=j
  ·subst YG
   rw[ay ZCv]at hj
   cases hj
  ·rw[bl YG]at hj
   exact⟨fun h=>YG h.symm,hj⟩
 have EF:∀k,DC L ((b++l).set (b.length+i) (.dead ver)) k→DC L (b++l) k:=by
  rintro k ⟨j,v,z,els,q,h1,h2,h3⟩
  exact⟨j,v,z,els,q,(K5 h1).2,h2,h3⟩
 obtain⟨F',hFF,ZLN,hF',ZLO⟩:∃F':Nat→Prop,(∀k,F k→F' k)∧(∀k,F' k→F k∨DC L (b++l) k)∧(∀k,F' k→k<w.heap.size∧¬DC L ((b++l).set (b.length+i) (.dead ver)) k)∧∀blk o z c,lc=.pl blk o z c→F' blk:=by
  cases lc with
  |nil=>exact⟨F,fun _ h=>h,fun _ h=>.inl h,fun k hk=>⟨(s.imm k hk).1,fun ho=>(s.imm k hk).2 (EF k ho)⟩,fun blk o z c h=>by cases h⟩
  |mp blk=>exact⟨F,fun _ h=>h,fun _ h=>.inl h,fun k hk=>⟨(s.imm k hk).1,fun ho=>(s.imm k hk).2 (EF k ho)⟩,fun blk o z c h=>by cases h⟩
  |pl blk o z c =>
    obtain⟨_,_,_,cur,T,k4,_⟩:=k2
    refine⟨fun k=>F k∨k=blk,fun k h=>.inl h,fun k hk=>hk.imp id (fun h=>by subst h;exact⟨_,_,_,_,_,JD,k1,rfl⟩),fun k hk=>?_,fun blk' o' z' c' h=>by cases h;exact .inr rfl⟩
    rcases hk with hk|rfl
    ·exact⟨(s.imm k hk).1,fun ho=>(s.imm k hk).2 (EF k ho)⟩
    ·refine⟨(bw.1 k4).1,?_⟩
     rintro⟨j,v,z',els,q',h1,h2,h4⟩
     obtain⟨qG,h3⟩:=K5 h1
     exact qG (s.apart j (b.length+i) v ver z' sz els _ k q' _ h3 JD h2 k1 h4 rfl)
 have mono:∀{x:AV} {v:Value},RepA w F L x v→RepA w F' L x v:=fun hx=>hx.mono hFF (fun _ _=>rfl) (fun _ _ _ h=>h)
 have f0:∀{x:AV} {v:Value},RepA w F' L x v→RepA w F' L (ZE (b.length+i) ver sz rows x) v:=by
  intro x v hx
  cases x with
  |sl id ver' off len =>
    simp only[ZE]
    split
    ·rename_i hc
     obtain⟨rfl,rfl,LJ⟩:=hc
     refine .v _ _ ?_
     have IB:((rows.drop off).take len).length=len:=by simp;omega
     cases hx with
     |sl _ _ _ _ blk o z cap hL h1 h2 =>
       rw[k1]at hL;cases hL
       obtain⟨q1,q2,q3,cur,T,q4,q5,q6,q7⟩:=k2
       subst q1
       have jG:∀(k:Nat) (row:List IV) (j:Nat) (c:IV),((rows.drop off).take len)[k]? = some row→row[j]? = some c→∃u,w.cell? ⟨blk,o+off*z+k*z+j,none⟩=some u∧RepI w F c u:=by
        intro k row j c hk hj
        rw[de]at hk
        split at hk
        ·rw[dp]at hk
         obtain⟨_,u,g1,g2⟩:=q7 (off+k) (row.map .v) j (.v c) (by rw[an,hk];rfl) (by rw[an,hj];rfl)
         refine⟨u,?_,g2.vI⟩
         rw[bx]at g1
         simp only[World.cell?,q4]
         rw[←g1]
         simp[cw]
        ·cases hk
       have:=RepI.isl (w:=w) (F:=F') ((rows.drop off).take len) blk (o+off*z) z (cap-off) (fun k j=>(w.cell? ⟨blk,o+off*z+k*z+j,none⟩).getD undef) (ZLO _ _ _ _ rfl) oM oM
        (fun k row hk=>by
         rw[de]at hk
         split at hk
         ·rw[dp]at hk
          have:=q6 (off+k) (row.map .v) (by rw[an,hk];rfl)
          simpa using this
         ·cases hk)
        (fun k row j c hk hj=>by
         obtain⟨u,g1,_⟩:=jG k row j c hk hj
         rw[g1];rfl)
        (fun k row j c hk hj=>by
         obtain⟨u,g1,g2⟩:=jG k row j c hk hj
         rw[g1];exact g2.mono hFF (fun _ _=>rfl))
       rw[IB]at this
       exact this
     |slz =>
       have:(rows.drop off).take 0=[]:=by simp
       rw[this];exact .isl0 _ _ _ oM
     |sln =>
       have:(rows.drop 0).take 0=[]:=by simp
       rw[this];exact .isl0 _ _ _ oM
    ·exact hx
  |_=>exact hx
 have fl:∀{cs:List AV} {vs:Array Value},GA w F L cs vs.toList→GA w F' L (cs.map (ZE (b.length+i) ver sz rows)) vs.toList:=by
  intro cs vs h
  refine⟨by simpa using h.1,fun j x v hx hv=>?_⟩
  rw[an]at hx
  cases hq:cs[j]? with
  |none=>simp[hq]at hx
  |some y=>simp[hq]at hx;subst hx;exact f0 (mono (h.2 j y v hq hv))
 have ff:∀{x:AV} {v:Value},RepA w F L x v→RepA w F' L (frz (b.length+i) ver sz rows x) v:=by
  intro x v hx
  cases x with
  |agg cs=>obtain⟨vs,rfl,hl⟩:=hx.aggL;exact GA.agg (fl hl)
  |tup cs=>obtain⟨vs,rfl,hl⟩:=hx.tupL;exact GA.tup (fl hl)
  |_=>exact f0 (mono hx)
 refine⟨F',?_,⟨GU.1,by simpa using GU.2.1,fun j x v hx hv=>?_⟩,⟨hFF,fun _ _ _ _ h=>h,rfl,rfl,rfl,ai _,fun _ _ _=>rfl,fun k _ ho=>by rw[pK]at ho;exact EF k ho,fun id hid v hv=>?_,fun k hk hf=>ZLN k hf⟩,fun x v h=>f0 h⟩
 ·rw[pK]
  refine⟨fun j v z els hj=>?_,fun j v q hq=>?_,fun j j' v v' z z' e1 e2 bb q1 q2 h1 h2 h3 h4 h5 h6=>s.apart j j' v v' z z' e1 e2 bb q1 q2 (K5 h1).2 (K5 h2).2 h3 h4 h5 h6,hF',s.glob.mono hFF (fun _ _=>rfl)⟩
  ·obtain⟨_,h3⟩:=K5 hj
   obtain⟨q,g1,g2⟩:=s.row j v z els h3
   exact⟨q,g1,g2.mono (fun _ _=>rfl) (fun _ _=>mono)⟩
  ·obtain⟨r,h1,h2⟩:=s.born j v q hq
   by_cases YG:b.length+i=j
   ·subst YG
    rw[JD]at h1;cases h1
    exact⟨.dead ver,ay ZCv,h2⟩
   ·exact⟨r,by rw[bl YG];exact h1,h2⟩
 ·rw[an]at hx
  cases hq:e[j]? with
  |none=>simp[hq]at hx
  |some y=>simp[hq]at hx;subst hx;exact ff (GU.2.2 j y v hq hv)
 ·rw[aw hid]at hv⊢;exact hv

theorem VA.freeze {i ver sz:Nat} {rows:List (List IV)} (hi:l[i]? = some (.live ver sz (rows.map (·.map .v)))):VA e b l (e.map (frz (b.length+i) ver sz rows)) b (l.set i (.dead ver)):=by
 intro F L w a s GU
 obtain⟨F',h1,h2,h3,_⟩:=nJ hi F L w a s GU
 exact⟨F',L,h1,h2,h3,rfl⟩

def DE (g:AV→AV):Row→Row
 |.live v s els=>.live v s (els.map (·.map g))
 |.dead v=>.dead v
theorem DK {g:AV→AV} {b l:List Row} {j v z:Nat} {els:List (List AV)} (h:(b++l.map (DE g))[j]? = some (.live v z els)):∃els0,(b++l)[j]? = some (.live v z els0)∧(els=els0∨els=els0.map (·.map g)):=by
 by_cases hj:j<b.length
 ·rw[aw hj]at h⊢
  exact⟨els,h,.inl rfl⟩
 ·rw[aq oM,an]at h
  rw[aq oM]
  cases hq:l[j-b.length]? with
  |none=>rw[hq]at h;cases h
  |some r =>
    rw[hq]at h
    cases r with
    |live v' z' els0=>cases h;exact⟨els0,rfl,.inr rfl⟩
    |dead v'=>cases h
theorem Sim.mapRows {F:Nat→Prop} {L:LMap} {b l:List Row} {w:World} (s:Sim F L (b++l) w) {g:AV→AV} (hg:∀(x:AV) (v:Value),RepA w F L x v→RepA w F L (g x) v) (hc:∀x:AV,x.cell=true→(g x).cell=true) :
  Sim F L (b++l.map (DE g)) w∧∀k,DC L (b++l.map (DE g)) k→DC L (b++l) k:=by
 have own:∀k,DC L (b++l.map (DE g)) k→DC L (b++l) k:=by
  rintro k ⟨i,v,z,e1,q1,h1,h2,h4⟩
  obtain⟨els0,h3,_⟩:=DK h1
  exact⟨i,v,z,els0,q1,h3,h2,h4⟩
 refine⟨⟨fun j v z els hj=>?_,fun i v q hq=>?_,fun i i' v v' z z' e1 e2 bb q1 q2 h1 h2 h3 h4 h5 h6=>?_,fun k hk=>⟨(s.imm k hk).1,fun ho=>(s.imm k hk).2 (own k ho)⟩,s.glob⟩,own⟩
 ·obtain⟨els0,h1,h2⟩:=DK hj
  obtain⟨q,g1,g2⟩:=s.row _ _ _ _ h1
  refine⟨q,g1,?_⟩
  rcases h2 with rfl|rfl
  ·exact g2
  ·cases q with
   |nil=>have g2:els0=[]:=g2;subst g2;rfl
   |pl blk o z1 c =>
     obtain⟨q1,q2,q3,cur,T,q4,q5,q6,q7⟩:=g2
     refine⟨q1,by simpa using q2,q3,cur,T,q4,q5,fun k row hk=>?_,fun k row jj c hk hjj=>?_⟩
     ·rw[an]at hk
      cases hr:els0[k]? with
      |none=>rw[hr]at hk;cases hk
      |some r0=>rw[hr]at hk;cases hk;simpa using q6 k r0 hr
     ·rw[an]at hk
      cases hr:els0[k]? with
      |none=>rw[hr]at hk;cases hk
      |some r0 =>
        rw[hr]at hk;cases hk
        rw[an]at hjj
        cases hx:r0[jj]? with
        |none=>rw[hx]at hjj;cases hjj
        |some x =>
          rw[hx]at hjj;cases hjj
          obtain⟨t1,u,t2,t3⟩:=q7 k r0 jj x hr hx
          exact⟨hc x t1,u,t2,hg x u t3⟩
   |mp blk =>
     obtain⟨es,clk,q4,q5,q6⟩:=g2
     refine⟨es,clk,q4,by simpa using q5,fun k row e1 hk he=>?_⟩
     rw[an]at hk
     cases hr:els0[k]? with
     |none=>rw[hr]at hk;cases hk
     |some r0 =>
       rw[hr]at hk;cases hk
       obtain⟨x1,y1,rfl,t2,t3⟩:=q6 k r0 e1 hr he
       exact⟨g x1,g y1,rfl,hg _ _ t2,hg _ _ t3⟩
 ·obtain⟨r,h1,h2⟩:=s.born i v q hq
  by_cases hj:i<b.length
  ·rw[aw hj]at h1⊢;exact⟨r,h1,h2⟩
  ·rw[aq oM]at h1⊢
   rw[an,h1]
   refine⟨_,rfl,?_⟩
   cases r<;>exact h2
 ·obtain⟨_,k1,_⟩:=DK h1
  obtain⟨_,k2,_⟩:=DK h2
  exact s.apart i i' v v' z z' _ _ bb q1 q2 k1 k2 h3 h4 h5 h6

theorem ZBu {id ver sz:Nat} {rows:List (List IV)} (x:AV) (h:x.cell=true):(ZE id ver sz rows x).cell=true:=by
 cases x<;>first|exact h|skip
 simp only[ZE]
 split<;>rfl

theorem VA.round {l1 junk:List Row} (hf:Fgt e e') (hl:l=l1++junk) (he:∀x∈e',AVlt (b.length+l1.length) x) (hb:gA b.length b) (h1:gA (b.length+l1.length) l1):VA e b l e' b l1:=
 (VA.forget hf).trans (VA.trim hl he (hb.mono oM) h1)

def Round {ι:Type} (E:ι→List AV) (B L:ι→List Row) (Cd:ι→Prop) (μ:ι→Nat) (i:ι):List AV→List Row→List Row→Prop:=
 fun e b l=>∃i',Cd i'∧μ i'<μ i∧VA e b l (E i') (B i') (L i')

theorem pP {P:Program} {c:ACode} {Q:AExit→List AV→List Row→List Row→Prop} {ι:Type} (E:ι→List AV) (B L:ι→List Row) (Cd:ι→Prop) (μ:ι→Nat) (i0:ι) (h0:Cd i0) (hw:VA e b l (E i0) (B i0) (L i0))
  (step:∀i,Cd i→run (QA P) VA c (E i) (B i) (L i) (nW (Round E B L Cd μ i) Q)):run (QA P) VA (.loop c) e b l Q:=by
 refine⟨fun e b l m=>∃i,Cd i∧μ i=m∧e=E i∧b=B i∧l=L i,⟨E i0,B i0,L i0,μ i0,hw,i0,h0,rfl,rfl,rfl,rfl⟩,?_⟩
 rintro e b l m ⟨i,hi,rfl,rfl,rfl,rfl⟩
 refine ZBR aD (step i hi) ?_
 intro ex e b l h
 cases ex with
 |normal =>
   obtain⟨i',h1,h2,h3⟩:=h
   exact⟨E i',B i',L i',μ i',h3,⟨i',h1,rfl,rfl,rfl,rfl⟩,h2⟩
 |exit j=>exact h
 |ret=>exact h

theorem SU {rs:List ARes} {Q:AV→List Row→List Row→Prop} {B:List Row} {ex:AExit} (hex:ex=.normal∨ex=.ret) {xs:List AV} (hx:resVs e B l rs=some xs) {y:AV} {l':List Row} (hw:VA [one xs] B l [y] B l') {b0 l0:List Row} (hB:B=b0++l0) (hq:Q y b0 (l0++l')) :
  uH rs Q b0.length ex e B l:=by
 refine⟨hex,xs,hx,y,B,l',hw,?_⟩
 subst hB
 simpa using hq

theorem DA {rs:List ARes} {Q:AV→List Row→List Row→Prop} {B:List Row} {ex:AExit} (hex:ex=.normal∨ex=.ret) {xs:List AV} (hx:resVs e B l rs=some xs) (yA:AVlt B.length (one xs)) (hR:gA B.length B) {b0 l0:List Row} (hB:B=b0++l0) (hq:Q (one xs) b0 l0) :
  uH rs Q b0.length ex e B l:=
 SU hex hx (VA.trim (l1:=[]) rfl (by simpa using yA) (by simpa using hR) nE) hB (by simpa using hq)

theorem rQ {e : List AV} {l : List Row} {rs : List ARes} {Q : AV → List Row → List Row → Prop} {B : List Row} {ex : AExit} {xs : List AV} {b0 l0 : List Row} (yA : AVlt B.length (one xs)) (hR : gA B.length B) (hB : B = b0 ++ l0) (hq : Q (one xs) b0 l0)
    (hx:resVs e B l rs=some xs:=by first|simp (disch:=first|decide|omega) only[resVs,resV,go_sem,hA,sA,DD,QH]|simp (disch:=first|decide|omega) only[resVs,resV,go_sem,hA,sA,DD]|simp (disch:=first|decide|omega) only[resVs,resV,go_sem,hA,sA]|simp (disch:=first|decide|omega) only[resVs,resV,go_sem,hA])
    (hex:ex=.normal∨ex=.ret:=by first|exact .inr rfl|exact .inl rfl):uH rs Q b0.length ex e B l:=DA hex hx yA hR hB hq
theorem lM {id ver sz n:Nat} {rows:List (List IV)} (hn:n=rows.length):ZE id ver sz rows (.sl id ver 0 n)=.v (.isl sz rows):=by
 subst hn
 simp[ZE]

theorem mP {rs:List ARes} {Q:AV→List Row→List Row→Prop} {B:List Row} {ex:AExit} (hex:ex=.normal∨ex=.ret) {i ver sz n:Nat} {rows:List (List IV)} (hx:resVs e B l rs=some [.sl (B.length+i) ver 0 n]) (hi:l[i]? = some (.live ver sz (vs rows))) (hn:n=rows.length)
  (hR:gA B.length B) {b0 l0:List Row} (hB:B=b0++l0) (hq:Q (.v (.isl sz rows)) b0 l0):uH rs Q b0.length ex e B l:=by
 refine SU hex hx (y:=.v (.isl sz rows)) ((VA.freeze (i:=i) (rows:=rows) hi).trans ?_) (l':=[]) hB (by simpa using hq)
 have h1:List.map (frz (B.length+i) ver sz rows) [one [AV.sl (B.length+i) ver 0 n]]=[.v (.isl sz rows)]:=by
  simp only[bj,cd,one,frz,lM hn]
 rw[h1]
 exact VA.trim (l1:=[]) rfl (by intro x hx;simp at hx;subst hx;exact .v _) (by simpa using hR) nE

theorem H6 {rs:List ARes} {Q:AV→List Row→List Row→Prop} {B:List Row} {ex:AExit} (hex:ex=.normal∨ex=.ret) {i ver sz n:Nat} {rows:List (List IV)} {z:IV} (hx:resVs e B l rs=some [.sl (B.length+i) ver 0 n,.v z]) (hi:l[i]? = some (.live ver sz (vs rows))) (hn:n=rows.length)
  (hR:gA B.length B) {b0 l0:List Row} (hB:B=b0++l0) (hq:Q (.tup [.v (.isl sz rows),.v z]) b0 l0):uH rs Q b0.length ex e B l:=by
 refine SU hex hx (y:=.tup [.v (.isl sz rows),.v z]) ((VA.freeze (i:=i) (rows:=rows) hi).trans ?_) (l':=[]) hB (by simpa using hq)
 have h1:List.map (frz (B.length+i) ver sz rows) [one [AV.sl (B.length+i) ver 0 n,.v z]]=[.tup [.v (.isl sz rows),.v z]]:=by
  subst hn
  simp[one,frz,ZE]
 rw[h1]
 refine VA.trim (l1:=[]) rfl (by intro x hx;simp at hx;subst hx;exact .tup _ (by intro c hc;simp at hc;rcases hc with rfl|rfl<;>exact .v _)) (by simpa using hR) nE
end
def lts:=PLift.up <| And.intro @qR <| And.intro @ZEp <| And.intro @NO <| And.intro @ZEo <| And.intro @ZHe <| And.intro @ZEq <| And.intro @ZEn <| And.intro @ZHf <| And.intro @nE <| And.intro @SC <| And.intro @K0 <| And.intro @List.mem_cons.{0} <| And.intro @List.not_mem_nil.{0} <| And.intro @List.forall_mem_cons.{0} <| And.intro @List.forall_mem_nil.{0} <| And.intro @or_false <| And.intro @false_or <| And.intro @forall_eq_or_imp.{1} <| And.intro @forall_eq.{1} <| And.intro @cJ <| And.intro @Nat.add_lt_add_iff_left <| And.intro @true_and <| And.intro @and_true <| And.intro @and_self <| And.intro @List.length_cons.{0} <| And.intro @List.length_nil.{0} <| And.intro @cn <| And.intro @implies_true.{1} <| And.intro @false_imp_iff <| And.intro @sK <| @List.mem_map.{0,0}
theorem kL {p:Prop} (h:p:=by simp (disch:=omega) only[lts.down,Nat.reduceLT,Nat.reduceAdd]):p:=h
theorem kO {p:Prop} (h:p:=by simp only[one,lts.down,Nat.reduceLT,Nat.reduceAdd]):p:=h
theorem ZA {e:List AV} {l:List Row} {rs:List ARes} {Q:AV→List Row→List Row→Prop} {B:List Row} {ex:AExit} {xs:List AV} {b0 l0:List Row} (hq:Q (one xs) b0 l0:=by exact⟨rfl,rfl,rfl⟩) (hx:resVs e B l rs=some xs:=by exact kR) (yA:AVlt B.length (one xs):=by exact kO) (hR:gA B.length B:=by assumption) (hB:B=b0++l0:=by assumption) (hex:ex=.normal∨ex=.ret:=by first|exact .inr rfl|exact .inl rfl):uH rs Q b0.length ex e B l:=DA hex hx yA hR hB hq
theorem kN {p:Prop} (h:p:=by simp only[lts.down,Nat.reduceLT,Nat.reduceAdd]):p:=h

def ZCp:List Bool→List AV→List AV
 |true::m,_::l=>.any::ZCp m l
 |false::m,a::l=>a::ZCp m l
 |_,l=>l
theorem anyM_t {m:List Bool} {a:AV} {l:List AV}:ZCp (true::m) (a::l)=.any::ZCp m l:=nr rfl
theorem anyM_f {m:List Bool} {a:AV} {l:List AV}:ZCp (false::m) (a::l)=a::ZCp m l:=nr rfl
theorem anyM_nil {l:List AV}:ZCp [] l=l:=by cases l<;>rfl
def ovr:List (Nat×AV)→List AV→List AV
 |[],e=>e
 |(n,x)::r,e=>ovr r (upd e n x)
theorem ovr_nil {e:List AV}:ovr [] e=e:=nr rfl
theorem ovr_cons {n:Nat} {x:AV} {r:List (Nat×AV)} {e:List AV}:ovr ((n,x)::r) e=ovr r (upd e n x):=nr rfl


def kOf (N:Nat) (f:Nat→AV):List AV:=(List.range N).map f
def kUp (f:Nat→AV) (n:Nat) (x:AV):Nat→AV:=fun m=>if n=m then x else f m
theorem TB {f:Nat→AV} {n:Nat} {x:AV}:kUp f n x n=x:=by unfold kUp;rw[if_pos rfl]
theorem ZC {f:Nat→AV} {n m:Nat} {x:AV} (h:n≠m):kUp f n x m=f m:=by unfold kUp;rw[if_neg h]
theorem mI {N:Nat} {f:Nat→AV}:(kOf N f).length=N:=by simp[kOf]
theorem YF {N:Nat} {f:Nat→AV} {i:Nat}:(kOf N f)[i]? = if i<N then some (f i) else none:=by
 unfold kOf
 rw[an]
 split
 ·rename_i h;rw[jm h];rfl
 ·rename_i h;rw[cg (by simp;omega)];rfl
theorem dD {N:Nat} {f:Nat→AV} {m:Nat} (h:m<N):nth (kOf N f) m=f m:=by
 rw[LN,YF,if_pos h];rfl
theorem XD {N:Nat} {f:Nat→AV} {n:Nat} {x:AV}:put (kOf N f) (some n) x=kOf N (kUp f n x):=by
 apply ea
 intro i
 rw[rT,ZK,YF]
 by_cases hi:n=i
 ·subst hi
  rw[je,mI]
  simp only[if_true]
  split
  ·rw[TB]
  ·rfl
 ·rw[bl hi,YF,ZC hi]
theorem ED {N:Nat} {f:Nat→AV} {x:AV}:put (kOf N f) none x=kOf N f:=nr rfl

def kIn:List (Nat×Nat)→Nat→Bool
 |[],_=>false
 |(a,c)::r,n=>(Nat.ble a n&&Nat.ble n c)||kIn r n
def gF (p:List (Nat×Nat)) (f:Nat→AV):Nat→AV:=fun m=>if kIn p m=true then .any else f m
theorem kAny_up {p:List (Nat×Nat)} {f:Nat→AV} {n:Nat} {x:AV} (h:kIn p n=true):gF p (kUp f n x)=gF p f:=by
 funext m
 unfold gF kUp
 by_cases hn:n=m
 ·subst hn;rw[if_pos h,if_pos h]
 ·rw[if_neg hn]
theorem JW {p:List (Nat×Nat)} {f:Nat→AV}:gF p (gF p f)=gF p f:=by
 funext m;unfold gF;split<;>rfl
theorem nT {p:List (Nat×Nat)} {f:Nat→AV} {n:Nat} (h:kIn p n=false):gF p f n=f n:=by unfold gF;rw[h];simp

def lF (f:Nat→AV):List (Nat×AV)→Prop
 |[]=>True
 |(n,x)::r=>f n=x∧lF f r
def kOv:List (Nat×AV)→(Nat→AV)→Nat→AV
 |[],f=>f
 |(n,x)::r,f=>kUp (kOv r f) n x
theorem GD {f:Nat→AV}:kOv [] f=f:=nr rfl
theorem pB {n:Nat} {x:AV} {r:List (Nat×AV)} {f:Nat→AV}:kOv ((n,x)::r) f=kUp (kOv r f) n x:=nr rfl
def KLt (m:Nat) (f:Nat→AV):Prop:=∀i,AVlt m (f i)
theorem KLt.up {m n:Nat} {f:Nat→AV} {x:AV} (h:KLt m f) (hx:AVlt m x):KLt m (kUp f n x):=by
 intro i;unfold kUp;split
 ·exact hx
 ·exact h i
theorem KLt.mono {m m':Nat} {f:Nat→AV} (h:KLt m f) (hm:m≤m'):KLt m' f:=fun i=>(h i).mono hm
theorem KLt.any {m:Nat} {p:List (Nat×Nat)} {f:Nat→AV} (h:KLt m f):KLt m (gF p f):=by
 intro i;unfold gF;split
 ·exact .any
 ·exact h i
def bH (m:Nat):List (Nat×AV)→Prop
 |[]=>True
 |(_,x)::r=>AVlt m x∧bH m r
theorem KLt.ov {m:Nat} {f:Nat→AV} (h:KLt m f):∀{ov:List (Nat×AV)},bH m ov→KLt m (kOv ov f)
 |[],_=>h
 |(n,x)::r,ho=>by rw[pB];exact KLt.up (KLt.ov h ho.2) ho.1
theorem KLt.env {m N:Nat} {f:Nat→AV} (h:KLt m f):∀x∈kOf N f,AVlt m x:=by
 intro x hx
 unfold kOf at hx
 obtain⟨i,_,rfl⟩:=cr.1 hx
 exact h i

theorem kOv_get {f:Nat→AV} {i:Nat}:∀{ov:List (Nat×AV)},kOv ov f i=f i∨(i,kOv ov f i)∈ov
 |[]=>.inl rfl
 |(n,x)::r=>by
   rw[pB]
   by_cases hi:n=i
   ·subst hi;rw[TB];exact .inr kS
   ·rw[ZC hi];exact (kOv_get (ov:=r)).imp id (fun h=>by simp[h])
theorem lF.mem {f:Nat→AV} {n:Nat} {x:AV}:∀{ov:List (Nat×AV)},lF f ov→(n,x)∈ov→f n=x
 |[],_,h=>by simp at h
 |(m,y)::r,hh,h=>by
   rcases cz.1 h with h|h
   ·cases h;exact hh.1
   ·exact lF.mem hh.2 h
theorem VA.named {N:Nat} {f:Nat→AV} {b l:List Row} (p:List (Nat×Nat)) (ov:List (Nat×AV)) (h:lF f ov):VA (kOf N f) b l (kOf N (kOv ov (gF p f))) b l:=by
 intro F L w a s he
 refine⟨F,L,s,⟨he.1,by rw[he.2.1,mI,mI],fun i x v hx hv=>?_⟩,Step.refl _ _ _ _ _,rfl⟩
 rw[YF]at hx
 split at hx
 ·rename_i hi
  cases hx
  rcases kOv_get (ov:=ov) (f:=gF p f) (i:=i) with hg|hg
  ·rw[hg]
   unfold gF
   split
   ·exact .any v
   ·exact he.2.2 i _ v (by rw[YF,if_pos hi]) hv
  ·rw[←h.mem hg]
   exact he.2.2 i _ v (by rw[YF,if_pos hi]) hv
 ·cases hx

def c9 {ι:Type} (N:Nat) (g:Nat→AV) (ov:ι→List (Nat×AV)) (B:List Row) (L:ι→List Row) (Cd:ι→Prop) (μ:ι→Nat) (i:ι):List AV→List Row→List Row→Prop:=
 fun e b l=>∃i',Cd i'∧μ i'<μ i∧VA e b l (kOf N (kOv (ov i') g)) B (L i')

theorem JA {P:Program} {c:ACode} {Q:AExit→List AV→List Row→List Row→Prop} {N:Nat} {f:Nat→AV} {b l:List Row} {ι:Type} (p:List (Nat×Nat)) (ov:ι→List (Nat×AV)) (k:Nat) (L:ι→List Row) (Cd:ι→Prop) (μ:ι→Nat) (i0:ι) (h0:Cd i0)
  (yA:KLt (b.length+k) f) (hov:lF f (ov i0)) (hw:∀e,VA e b l e b (L i0))
  (step:∀g,KLt (b.length+k) g→gF p g=g→(∀n,kIn p n=false→g n=f n)→∀i,Cd i→run (QA P) VA c (kOf N (kOv (ov i) g)) b (L i) (nW (c9 N g ov b L Cd μ i) Q)):run (QA P) VA (.loop c) (kOf N f) b l Q:=
 pP (fun i=>kOf N (kOv (ov i) (gF p f))) (fun _=>b) L Cd μ i0 h0 ((VA.named p _ hov).trans (hw _))
  (step (gF p f) yA.any JW (fun _ h=>nT h))

theorem VA.kround {N:Nat} {p:List (Nat×Nat)} {ov:List (Nat×AV)} {f g:Nat→AV} {b l l1 junk:List Row} {k:Nat} (he:gF p f=g) (h:lF f ov) (hl:l=l1++junk) (hE:KLt (b.length+k) g) (hk:k≤l1.length) (ho:bH (b.length+l1.length) ov) (hb:gA b.length b) (h1:gA (b.length+l1.length) l1) :
  VA (kOf N f) b l (kOf N (kOv ov g)) b l1:=by
 subst he
 exact (VA.named p ov h).trans (VA.trim hl (((hE.mono oM).ov ho).env) (hb.mono oM) h1)

def zA (f:Nat→AV):Nat→List AV→Prop
 |_,[]=>True
 |i,a::r=>f i=a∧zA f (i+1) r
theorem H3 {args:List AV}:∀{r pre:List AV},args=pre++r→zA (fun i=>args.getD i (.tup [])) pre.length r
 |[],_,_=>trivial
 |a::r,pre,h=>by
   refine⟨?_,?_⟩
   ·simp only[h,au];rw[aq (ai _)];simp
   ·have:=H3 (args:=args) (r:=r) (pre:=pre++[a]) (by rw[h];simp)
    simpa using this
theorem XA {P:Program} {f:Nat} {af:AFunc} (hf:qA P f=some af) {args:List AV} (ha:args.length=af.nargs) (hn:af.nargs≤af.ntmps) {b l:List Row} {Q:AV→List Row→List Row→Prop}
  (h:∀B g,B=b++l→gA B.length B→KLt B.length g→zA g 0 args→run (QA P) VA af.body (kOf af.ntmps g) B [] (uH af.res Q b.length)):QA P f args b l Q:=by
 refine TT hf ha (fun B hB hR hA=>?_)
 have:=h B (fun i=>args.getD i (.tup [])) hB hR ?_ (H3 (pre:=[]) rfl)
 ·have e:kOf af.ntmps (fun i=>args.getD i (.tup []))=args++List.replicate (af.ntmps-args.length) (.tup []):=by
   apply ea
   intro i
   rw[YF]
   by_cases hi:i<args.length
   ·rw[if_pos oM,aw hi,au,ah hi];rfl
   ·rw[aq oM,gr,au,cg oM]
    by_cases h2:i<af.ntmps
    ·rw[if_pos h2,if_pos oM];rfl
    ·rw[if_neg h2,if_neg oM]
  rw[←e];exact this
 ·intro i
  simp only[au]
  cases hq:args[i]? with
  |none=>exact .tup _ kS
  |some x=>exact hA x (ci hq)
theorem kAny_sub {p q:List (Nat×Nat)} {g f:Nat→AV} (hg:∀n,kIn q n=false→g n=f n) (hs:∀n,kIn q n=true→kIn p n=true):gF p g=gF p f:=by
 funext m
 unfold gF
 cases hq:kIn q m with
 |true=>rw[hs m hq];simp
 |false=>rw[hg m hq]
theorem ZAg {p:List (Nat×Nat)} {a c n:Nat}:∀{p:List (Nat×Nat)},p.any (fun y=>Nat.ble y.1 a&&Nat.ble c y.2)=true→a≤n→n≤c→kIn p n=true
 |[],h,_,_=>by simp at h
 |(x,y)::r,h,h1,h2=>by
   simp only[List.any_cons,gp,ar,Nat.ble_eq]at h
   simp only[kIn,gp,ar,Nat.ble_eq]
   rcases h with h|h
   ·exact .inl ⟨by omega,by omega⟩
   ·exact .inr (ZAg (p:=p) h h1 h2)
theorem kIn_sub {p:List (Nat×Nat)}:∀{q:List (Nat×Nat)},q.all (fun x=>p.any (fun y=>Nat.ble y.1 x.1&&Nat.ble x.2 y.2))=true→∀n,kIn q n=true→kIn p n=true
 |[],_,n,hn=>by simp[kIn]at hn
 |(a,c)::r,h,n,hn=>by
   simp only[List.all_cons,ar]at h
   simp only[kIn,gp,ar,Nat.ble_eq]at hn
   rcases hn with hn|hn
   ·exact ZAg (p:=p) h.1 hn.1 hn.2
   ·exact kIn_sub h.2 n hn
theorem kV {p:Prop} (h:p:=by simp (disch:=omega) only[bH,lts.down,Nat.reduceLT,Nat.reduceAdd]):p:=h
theorem ZHQ {N:Nat} {f:Nat→AV} {n:Nat} {x:AV}:upd (kOf N f) n x=kOf N (kUp f n x):=XD (n:=n)
theorem VA.knil {N:Nat} {f:Nat→AV} {b l:List Row} (s sz:Nat) (hs:f s=.v .zsl) (hN:s<N):VA (kOf N f) b l (kOf N (kUp f s (.sl (b.length+l.length) 0 0 0))) b (l++[.live 0 sz []]):=by
 have:=VA.nilrow (e:=kOf N f) (b:=b) (l:=l) (k:=s) (sz:=sz) (by rw[dD hN,hs]) (by rw[mI];exact hN)
 rwa [ZHQ]at this
theorem CL {P:Program} {c:ACode} {Q:AExit→List AV→List Row→List Row→Prop} {N:Nat} {f f':Nat→AV} {b l l':List Row} {ι:Type} (p:List (Nat×Nat)) (ov:ι→List (Nat×AV)) (k:Nat) (L:ι→List Row) (Cd:ι→Prop) (μ:ι→Nat) (i0:ι) (h0:Cd i0)
  (N8:VA (kOf N f) b l (kOf N f') b l') (yA:KLt (b.length+k) f') (hov:lF f' (ov i0)) (hw:∀e,VA e b l' e b (L i0))
  (step:∀g,KLt (b.length+k) g→gF p g=g→(∀n,kIn p n=false→g n=f' n)→∀i,Cd i→run (QA P) VA c (kOf N (kOv (ov i) g)) b (L i) (nW (c9 N g ov b L Cd μ i) Q)):run (QA P) VA (.loop c) (kOf N f) b l Q:=
 pP (fun i=>kOf N (kOv (ov i) (gF p f'))) (fun _=>b) L Cd μ i0 h0 (N8.trans ((VA.named p _ hov).trans (hw _)))
  (step (gF p f') yA.any JW (fun _ h=>nT h))
theorem QF {P:Program} {c:ACode} {Q:AExit→List AV→List Row→List Row→Prop} {N:Nat} {f:Nat→AV} {b l:List Row} {ι:Type} (s sz:Nat) (p:List (Nat×Nat)) (ov:ι→List (Nat×AV)) (k:Nat) (L:ι→List Row) (Cd:ι→Prop) (μ:ι→Nat) (i0:ι) (h0:Cd i0)
  (hs:f s=.v .zsl) (hN:s<N) (hp:kIn p s=true) (yA:KLt (b.length+k) (kUp f s (.sl (b.length+l.length) 0 0 0))) (hov:lF (kUp f s (.sl (b.length+l.length) 0 0 0)) (ov i0)) (hw:∀e,VA e b (l++[.live 0 sz []]) e b (L i0))
  (step:∀g,KLt (b.length+k) g→gF p g=g→(∀n,kIn p n=false→g n=f n)→∀i,Cd i→run (QA P) VA c (kOf N (kOv (ov i) g)) b (L i) (nW (c9 N g ov b L Cd μ i) Q)):run (QA P) VA (.loop c) (kOf N f) b l Q:=
 CL p ov k L Cd μ i0 h0 (VA.knil s sz hs hN) yA hov hw (fun g h1 h2 h3=>step g h1 h2 (fun n hn=>by
  rw[h3 n hn,ZC]
  intro e;subst e;rw[hp]at hn;cases hn))
theorem QA.nxt {P:Program} {f:Nat} {args:List AV} {b l B' L':List Row} {x:AV} {K:AV→List Row→List Row→Prop} (h:QA P f args b l (fun r b' l'=>r=x∧b'=B'∧l'=L')) (k:K x B' L'):QA P f args b l K:=by
 refine aD _ _ _ _ _ _ h ?_
 rintro r b' l' ⟨rfl,rfl,rfl⟩
 exact k
theorem QA.frzA {P:Program} {f i ver sz:Nat} {args:List AV} {rows:List (List IV)} {b l:List Row} {Q:AV→List Row→List Row→Prop} (hi:l[i]? = some (.live ver sz (vs rows))) (h:QA P f (args.map (frz (b.length+i) ver sz rows)) b (l.set i (.dead ver)) Q):QA P f args b l Q:=by
 refine⟨h.1,fun F L w us s hr=>?_⟩
 obtain⟨F',s1,ZI,st1,_⟩:=nJ (e:=args) hi F L w {tmps:=us,defers:=[]} s ⟨rfl,by have:=hr.1;simpa using this.symm,fun j x v hx hv=>hr.2 j x v hx (by simpa using hv)⟩
 refine Calls.mono (h.2 F' L w us s1 ⟨by have:=hr.1;simpa using this,fun j x v hx hv=>ZI.2.2 j x v hx (by simpa using hv)⟩) ?_
 rintro en w' ⟨v,x,b',l',F2,L2,h1,h2,h3,h4,h5,h6⟩
 have IB:(b++l.set i (.dead ver)).length=(b++l).length:=by simp
 have st:Step (b++l).length F L (b++l) w F' L (b++l.set i (.dead ver)) w:=by
  refine⟨st1.imm,fun _ _ _ _ hl=>hl,rfl,rfl,rfl,ai _,fun _ _ _=>rfl,st1.own,fun id hid v hv=>?_,st1.fnew⟩
  by_cases hj:id<b.length
  ·rw[aw hj]at hv⊢;exact hv
  ·rw[aq oM]at hv⊢
   by_cases YG:i=id-b.length
   ·rw[←YG,hi]at hv;cases hv
   ·rw[bl YG];exact hv
 exact⟨v,x,b',l',F2,L2,h1,h2,h3,st.trans (IB▸h4),h5,h6⟩

theorem QA.frzB {P:Program} {f i ver sz:Nat} {args args':List AV} {rows:List (List IV)} {b l:List Row} {Q:AV→List Row→List Row→Prop} (hi:l[i]? = some (.live ver sz (vs rows))) (ha:args.map (frz (b.length+i) ver sz rows)=args') (h:QA P f args' b (l.set i (.dead ver)) Q):QA P f args b l Q:=by
 subst ha
 exact QA.frzA hi h

def ltB (m:Nat):Nat→AV→Bool
 |0,_=>false
 |n+1,x=>match x with
   |.any=>true
   |.v _=>true
   |.agg cs=>cs.all (ltB m n)
   |.tup cs=>cs.all (ltB m n)
   |.sl id _ _ _=>decide (id<m)
   |.ptr id _ _ _=>decide (id<m)
   |.fn _ cs=>cs.all (ltB m n)
   |.mp id _=>decide (id<m)
inductive XV where
 |bad
 |ok (y:AV) (b l:List Row) (t:Bool)

def unV:AV→Option IV
 |.v x=>some x
 |_=>none
def mapO {α β:Type} (f:α→Option β):List α→Option (List β)
 |[]=>some []
 |a::az=>match f a,mapO f az with
   |some x,some xs=>some (x::xs)
   |_,_=>none
def deep (g:AV→AV):Nat→AV→AV
 |0,x=>x
 |n+1,x=>match x with
   |.agg cs=>.agg (cs.map (deep g n))
   |.tup cs=>.tup (cs.map (deep g n))
   |x=>g x
def AR (nb:Nat):List Nat→AV→List Row→AV×List Row
 |[],y,l=>(y,l)
 |i::is,y,l=>match l[i]? with
   |some (.live ver sz els)=>match mapO (mapO unV) els with
     |some rows=>AR nb is (deep (ZE (nb+i) ver sz rows) 6 y) ((l.set i (.dead ver)).map (DE (ZE (nb+i) ver sz rows)))
     |none=>AR nb is y l
   |_=>AR nb is y l
def ZIJ {α:Type}:Nat→List α→List α
 |0,_=>[]
 |n+1,l=>l++ZIJ n l

def fin (z:Nat) (b l:List Row) (y:AV) (B l':List Row) (t:Bool):XV:=
 let p:=AR (b.length+l.length) (ZIJ z (List.range l'.length).reverse) y l'
 if t=false∧ltB (b.length+l.length) 20 p.1=true then .ok p.1 b l false
 else if B.length=b.length+l.length then .ok p.1 (B.take b.length) (B.drop b.length++p.2) t else .bad

section
variable (T:Nat→Option AFunc) (O:Nat→List AV→Option AV) (Z:Nat→Nat)
end

section
variable {P:Program} {T:Nat→Option AFunc} {O:Nat→List AV→Option AV} {Z:Nat→Nat}

end

def fl {α:Type} (n:Nat) (f:Nat→α):List α:=(List.range n).map f
def fUp {α:Type} (f:Nat→α) (i:Nat) (x:α):Nat→α:=fun j=>if j=i then x else f j
section
variable {α β:Type}
theorem xA {n:Nat} {f:Nat→α}:(fl n f).length=n:=by simp[fl]
theorem CB {n:Nat} {f:Nat→α} {i:Nat} (h:i<n):(fl n f)[i]? = some (f i):=by
 unfold fl;rw[an,jm h];rfl
theorem UH {n:Nat} {f:Nat→α} {i:Nat} (h:n≤i):(fl n f)[i]? = none:=by
 rw[cg];rw[xA];exact h
theorem fM {n:Nat} {f g:Nat→α} (h:∀i,i<n→f i=g i):fl n f=fl n g:=by
 unfold fl
 refine ja (fun i hi=>h i (ba.1 hi))
theorem ZFT {n:Nat} {f:Nat→α} {g:α→β}:(fl n f).map g=fl n (fun i=>g (f i)):=by simp[fl]
theorem ZFS {n:Nat} {f:Nat→α} {i:Nat} {x:α}:(fl n f).set i x=fl n (fUp f i x):=by
 apply ea
 intro j
 by_cases hj:j<n
 ·rw[CB hj]
  unfold fUp
  by_cases J5:j=i
  ·subst J5
   rw[ay (by rw[xA];exact hj),if_pos rfl]
  ·rw[bl (Ne.symm J5),CB hj,if_neg J5]
 ·rw[UH oM,cg];rw[dh,xA];omega
theorem ZH2 {l:List α} {d:α}:fl l.length (fun i=>l.getD i d)=l:=by
 apply ea
 intro j
 by_cases hj:j<l.length
 ·rw[CB hj,au,ah hj];rfl
 ·rw[UH oM,cg oM]
theorem ZAn {n i:Nat} {f:Nat→α} {d:α} (h:i<n):(fl n f).getD i d=f i:=by
 rw[au,CB h];rfl
theorem ZJ {f:Nat→α} {i:Nat} {x:α}:fUp f i x i=x:=by unfold fUp;rw[if_pos rfl]
theorem XU {f:Nat→α} {i j:Nat} {x:α} (h:j≠i):fUp f i x j=f j:=by unfold fUp;rw[if_neg h]
end

theorem VA.freezeR {e:List AV} {b l:List Row} {i ver sz:Nat} {rows:List (List IV)} (hi:l[i]? = some (.live ver sz (vs rows))) :
  VA e b l (e.map (frz (b.length+i) ver sz rows)) b ((l.set i (.dead ver)).map (DE (ZE (b.length+i) ver sz rows))):=by
 intro F L w a s GU
 obtain⟨F',h1,h2,h3,h4⟩:=nJ hi F L w a s GU
 obtain⟨s2,own⟩:=h1.mapRows h4 (fun x hx=>ZBu x hx)
 refine⟨F',L,s2,h2,⟨h3.imm,h3.loc,h3.os,h3.tape,h3.output,h3.size,h3.block,fun k hk ho=>h3.own k hk (own k ho),fun id hid v hv=>?_,h3.fnew⟩,rfl⟩
 have:=h3.base id hid v hv
 rw[aw hid]at this⊢
 exact this
section
variable {P:Program} {nn:Nat}

theorem IR {f:Nat} {args:Array Value} {w:World} {R:Ending→World→Prop} {m:Nat} (h:Calls P f args w R):CallsIn Fence.wide m P f args w R:=callsIn_wide.2 h
theorem zU {row:String} {args:Array Value} {w:World} {R:Value→World→Prop} {m:Nat} (h:Rows P row args w R):RowsIn Fence.wide m P row args w R:=by
 intro c cs _
 obtain⟨v,w',r,s⟩:=h c cs
 exact⟨v,w',r,(stepsIn_wide.2 s:StepsIn (Machine.fenced P Fence.wide) P _ _)⟩
theorem ZB2 {o:Oper} {a:Act} {w:World} {next:Act→World→Prop} {Q:Exit→Act→World→Prop} (hd:∀c,o.op≠.defer c) (h:o.wp P a w next Q):o.wpIn Fence.wide nn P a w next Q:=by
 refine⟨fun _ _=>trivial,?_⟩
 rw[Oper.semAt_eq _ _ _ hd]
 unfold Oper.wp at h
 generalize (execOp a.eval o).run P w=r at *
 cases r with
 |ok x w' =>
   cases x<;>simp only[Oper.upon,Oper.uponIn]at h⊢ <;>
    first
     |exact h
     |exact⟨fun hh=>(by cases hh),IR h⟩
     |exact⟨fun hh=>(by cases hh),zU h⟩
     |exact h.elim
 |halt x w'=>cases x<;>simp only[Oper.upon,Oper.uponIn]at h⊢ <;> exact h
theorem FG {ops:Array Oper} {Q:Exit→Act→World→Prop} (hQ:¬LetsOut Q) (hd:∀(i:Nat) (o:Oper),ops[i]? = some o→∀c,o.op≠.defer c):∀{is:List Nat} {a:Act} {w:World},wpOps P ops Q is a w→wpOpsIn Fence.wide nn P ops Q is a w
 |[],a,w,h=>h
 |i::is,a,w,h=>by
   simp only[wpOps]at h
   simp only[wpOpsIn]
   cases ho:ops[i]? with
   |none=>rw[ho]at h;exact FG hQ hd h
   |some o =>
     rw[ho]at h
     simp only at h⊢
     split
     ·rename_i hw
      rw[if_pos hw]at h
      exact Oper.wpIn_mono (fun a w h=>FG hQ hd h) (ZB2 (hd i o ho) (h.resolve_right (fun hh=>hQ hh.2)))
     ·rename_i hw
      rw[if_neg hw]at h
      exact⟨fun _ _=>trivial,FG hQ hd h⟩
theorem j4 {nb:Nat} {F:Nat→Prop} {L:LMap} {h:List Row} {w:World} {Q:AExit→List AV→List Row→List Row→Prop}:¬LetsOut (Aft nb F L h w Q):=by
 intro hh
 obtain⟨a,w1,ax,_,_,_,_,_,hex,_⟩:=hh
 exact hex
theorem AK {imm:Bool} {ops:Array Oper} {aos:List AOper} (h:zT P imm ops ops.toList=some aos) {i:Nat} {o:Oper} (ho:ops[i]? = some o):∀c,o.op≠.defer c:=by
 intro c hc
 obtain⟨k1,k2⟩:=PT h
 have yA:i<aos.length:=by rw[k1];simpa using (bw.1 ho).1
 obtain⟨o',g1,g2,_⟩:=k2 i aos[i] (ah yA)
 have:o'=o:=by
  have h1:ops[i]? = some o':=by simpa using g1
  rw[ho]at h1;cases h1;rfl
 subst this
 rw[hc]at g2
 simp[IY,cOp]at g2

theorem V7 {imm:Bool} {ops:Array Oper} {n:Nat} {c:ACode} (h:wI P imm n ops=some c):∃aos,zT P imm ops ops.toList=some aos:=by
 have one:∀ds,iR P imm ops=some ds→∃aos,zT P imm ops ops.toList=some aos:=fun ds zP=>by
  unfold iR at zP
  split at zP
  case h_2=>cases zP
  rename_i aos ZCu
  exact⟨aos,ZCu⟩
 cases n with
 |zero =>
   obtain⟨ds,zP,_⟩:=map_some h
   exact one ds zP
 |succ n =>
   unfold wI at h
   split at h
   ·rename_i ds zP;exact one ds zP
   ·split at h
    case h_2=>cases h
    rename_i aos ZCu
    exact⟨aos,ZCu⟩
theorem P5 {C:CallP} (hC:∀f args b l Q,C f args b l Q→QA P f args b l Q) (JS:∀f args b l (Q Q':AV→List Row→List Row→Prop),C f args b l Q→(∀x b' l',Q x b' l'→Q' x b' l')→C f args b l Q'):∀(code:Code) (ac:ACode),AH P code=some ac→∀e b l Q,run C VA ac e b l Q →
  ∀F L w a,Sim F L (b++l) w→FB w F L e a→code.wpIn Fence.wide nn P (Aft b.length F L (b++l) w Q) a w:=by
 intro code
 induction code with
 |skip =>
   intro ac hc e b l Q h F L w a s he
   cases hc
   exact wpIn_skip ⟨.normal,e,b,l,F,L,trivial,s,he,Step.refl _ _ _ _ _,rfl,h⟩
 |region id ops draw =>
   intro ac hc e b l Q h F L w a s he
   cases hc
   cases hc:ZGB P ops draw with
   |none=>rw[hc]at h;exact (uE h).elim
   |some ac =>
   rw[hc]at h
   replace h:run C VA ac e b l Q:=h
   simp only[ZGB]at hc
   cases draw
   case true =>
    simp only[if_true]at hc
    obtain⟨imm,hc⟩:∃imm,wI P imm 6 ops=some ac:=by
     cases hf:wI P false 6 ops with
     |some c=>rw[hf]at hc;cases hc;exact⟨false,hf⟩
     |none=>rw[hf]at hc;exact⟨true,hc⟩
    obtain⟨hm,hp⟩:=eQ hC JS 6 ops ac hc e b l Q h F L w a s he
    obtain⟨aos,ZCu⟩:=V7 hc
    refine wpIn_region_draw fun t=>?_
    simp only[Region.schedule,hm,ka,if_true]
    exact FG j4 (fun i o ho=>AK ZCu ho) (hp _ (FX _ _ _))
   simp only[dt,if_false]at hc
   obtain⟨aos,hao,rfl⟩:=map_some hc
   refine wpIn_region (FG j4 (fun i o ho=>AK hao ho) (uY hC ops ops.toList (List.range ops.size) aos hao ?_ e b l h rfl F L w a s he (Step.refl _ _ _ _ _) ?_))
   ·apply ea
    intro i
    simp only[an]
    by_cases hi:i<ops.size
    ·simp[hi]
    ·simp[hi]
   ·intro e' b' l' F' L' a' w' hq s' he' st hb
    exact⟨.normal,e',b',l',F',L',trivial,s',he',st,hb,hq⟩
 |seq x y ihx ihy =>
   intro ac hc e b l Q h F L w a s he
   simp only[AH]at hc
   split at hc
   case h_2=>cases hc
   rename_i x' y' hx hy
   cases hc
   refine wpIn_seq (wpIn_mono (ihx x' hx e b l _ h F L w a s he) ?_)
   rintro ex a1 w1 ⟨ax,e1,b1,l1,F1,L1,hex,s1,ZI,st1,xJ,hq⟩
   cases ex<;>cases ax<;>first|exact hex.elim|skip
   ·simp only[Exit.then]
    refine wpIn_mono (ihy y' hy e1 b1 l1 Q hq F1 L1 w1 a1 s1 ZI) ?_
    rintro ex2 a2 w2 ⟨ax2,e2,b2,l2,F2,L2,ZKK,s2,uJ,st2,vR,ET⟩
    exact⟨ax2,e2,b2,l2,F2,L2,ZKK,s2,uJ,st1.trans (xJ▸st2),vR.trans xJ,ET⟩
   ·exact⟨_,e1,b1,l1,F1,L1,hex,s1,ZI,st1,xJ,hq⟩
   ·exact⟨_,e1,b1,l1,F1,L1,hex,s1,ZI,st1,xJ,hq⟩
 |cond c x y ihx ihy =>
   intro ac hc e b l Q h F L w a s he
   simp only[AH]at hc
   split at hc
   case h_2=>cases hc
   rename_i c' x' y' nX hx hy
   cases hc
   simp only[run]at h
   have hr:=fA he nX
   generalize ev e c'=q at *
   split at h
   case h_2=>exact h.elim
   rename_i t
   refine wpIn_cond (dM hr) ?_
   cases t
   ·simp only[dt,if_false]at h⊢
    exact ihy y' hy e b l Q h F L w a s he
   ·simp only[if_true]at h⊢
    exact ihx x' hx e b l Q h F L w a s he
 |block id c ih =>
   intro ac hc e b l Q h F L w a s he
   simp only[AH]at hc
   obtain⟨c',nX,rfl⟩:=map_some hc
   refine wpIn_block (wpIn_mono (ih c' nX e b l _ h F L w a s he) ?_)
   rintro ex a1 w1 ⟨ax,e1,b1,l1,F1,L1,hex,s1,ZI,st1,xJ,hq⟩
   cases ex<;>cases ax<;>first|exact hex.elim|skip
   ·exact⟨.normal,e1,b1,l1,F1,L1,trivial,s1,ZI,st1,xJ,hq⟩
   ·rename_i i j
    have J5:i=j:=hex
    subst J5
    simp only[Exit.inBlock]
    simp only[S4]at hq
    split
    ·rename_i hi;rw[if_pos hi]at hq;exact⟨.normal,e1,b1,l1,F1,L1,trivial,s1,ZI,st1,xJ,hq⟩
    ·rename_i hi;rw[if_neg hi]at hq;exact⟨.exit i,e1,b1,l1,F1,L1,rfl,s1,ZI,st1,xJ,hq⟩
   ·exact⟨.ret,e1,b1,l1,F1,L1,trivial,s1,ZI,st1,xJ,hq⟩
 |loop c ih =>
   intro ac hc e b l Q h F L w a s he
   simp only[AH]at hc
   obtain⟨c',nX,rfl⟩:=map_some hc
   obtain⟨I,⟨e0,b0,l0,m0,N8,hI0⟩,S9⟩:=h
   obtain⟨F0,L0,s0,he0,st0,hb0⟩:=N8 F L w a s he
   refine wpIn_loop_ghost (fun n a1 w1=>∃e1 b1 l1 F1 L1,Sim F1 L1 (b1++l1) w1∧FB w1 F1 L1 e1 a1∧Step b.length F L (b++l) w F1 L1 (b1++l1) w1∧b1.length=b.length∧I e1 b1 l1 n) m0 ⟨e0,b0,l0,F0,L0,s0,he0,st0,hb0,hI0⟩ ?_
   rintro n a1 w1 ⟨e1,b1,l1,F1,L1,s1,ZI,st1,xJ,hI1⟩
   refine wpIn_mono (ih c' nX e1 b1 l1 _ (S9 e1 b1 l1 n hI1) F1 L1 w1 a1 s1 ZI) ?_
   rintro ex a2 w2 ⟨ax,e2,b2,l2,F2,L2,hex,s2,uJ,st2,vR,hq⟩
   have st12:=st1.trans (xJ▸st2)
   cases ex<;>cases ax<;>first|exact hex.elim|skip
   ·obtain⟨e3,b3,l3,m3,hw3,hI3,yA⟩:=hq
    obtain⟨F3,L3,s3,he3,st3,hb3⟩:=hw3 F2 L2 w2 a2 s2 uJ
    have hbb:b2.length=b.length:=vR.trans xJ
    exact⟨m3,yA,e3,b3,l3,F3,L3,s3,he3,st12.trans (hbb▸st3),hb3.trans hbb,hI3⟩
   ·exact⟨_,e2,b2,l2,F2,L2,hex,s2,uJ,st12,vR.trans xJ,hq⟩
   ·exact⟨_,e2,b2,l2,F2,L2,hex,s2,uJ,st12,vR.trans xJ,hq⟩
 |exit i =>
   intro ac hc e b l Q h F L w a s he
   cases hc
   exact wpIn_exit ⟨.exit i,e,b,l,F,L,rfl,s,he,Step.refl _ _ _ _ _,rfl,h⟩
 |ret =>
   intro ac hc e b l Q h F L w a s he
   cases hc
   exact wpIn_ret ⟨.ret,e,b,l,F,L,trivial,s,he,Step.refl _ _ _ _ _,rfl,h⟩
 |rangeFunc f ps az c ih1 ih2=>intro ac hc e b l Q h;cases hc;exact (uE h).elim
 |scope c ih=>intro ac hc e b l Q h;cases hc;exact (uE h).elim
 |label i=>intro ac hc e b l Q h;cases hc;exact (uE h).elim
 |goto i=>intro ac hc e b l Q h;cases hc;exact (uE h).elim
 |refuse y=>intro ac hc e b l Q h;cases hc;exact (uE h).elim

end
set_option linter.unusedSimpArgs false
inductive Dv (n:Nat) (l:List Row):AV→AV→Prop where
 |v (x:IV):Dv n l (.v x) (.v x)
 |z (sz:Nat):Dv n l (.v .zsl) (.v (.isl sz []))
 |sl (i ver off len sz:Nat) (els:List (List AV)) (rows:List (List IV)) (hi:l[i]? = some (.live ver sz els)) (LJ:off+len≤els.length) (hl:rows.length=len)
   (h1:∀(k:Nat) (r:List AV) (row:List IV),els[off+k]? = some r→rows[k]? = some row→r.length=row.length)
   (h2:∀(k:Nat) (r:List AV) (row:List IV) (j:Nat) (a:AV) (c:IV),els[off+k]? = some r→rows[k]? = some row→r[j]? = some a→row[j]? = some c→Dv n l a (.v c)):Dv n l (.sl (n+i) ver off len) (.v (.isl sz rows))
 |agg (cs ds:List AV) (hl:cs.length=ds.length) (h:∀(i:Nat) (c d:AV),cs[i]? = some c→ds[i]? = some d→Dv n l c d):Dv n l (.agg cs) (.agg ds)
 |tup (cs ds:List AV) (hl:cs.length=ds.length) (h:∀(i:Nat) (c d:AV),cs[i]? = some c→ds[i]? = some d→Dv n l c d):Dv n l (.tup cs) (.tup ds)
def DvR (n:Nat) (l:List Row) (r:List AV) (row:List IV):Prop:=r.length=row.length∧∀(j:Nat) (a:AV) (c:IV),r[j]? = some a→row[j]? = some c→Dv n l a (.v c)
theorem DvR.nil {n:Nat} {l:List Row}:DvR n l [] []:=⟨rfl,fun j a c h=>by simp at h⟩
theorem DvR.cons {n:Nat} {l:List Row} {a:AV} {c:IV} {r:List AV} {row:List IV} (h:Dv n l a (.v c)) (t:DvR n l r row):DvR n l (a::r) (c::row):=by
 refine⟨by simp[t.1],fun j x y hx hy=>?_⟩
 cases j with
 |zero=>simp at hx hy;subst hx;subst hy;exact h
 |succ j=>exact t.2 j x y (by simpa using hx) (by simpa using hy)
theorem DvR.plain {n:Nat} {l:List Row} {row:List IV}:DvR n l (row.map .v) row:=by
 refine⟨by simp,fun j a c ha hc=>?_⟩
 rw[an,hc]at ha
 cases ha
 exact .v c
def DvL (n:Nat) (l:List Row) (cs ds:List AV):Prop:=cs.length=ds.length∧∀(i:Nat) (c d:AV),cs[i]? = some c→ds[i]? = some d→Dv n l c d
theorem DvL.nil {n:Nat} {l:List Row}:DvL n l [] []:=⟨rfl,fun j a c h=>by simp at h⟩
theorem DvL.cons {n:Nat} {l:List Row} {a d:AV} {cs ds:List AV} (h:Dv n l a d) (t:DvL n l cs ds):DvL n l (a::cs) (d::ds):=by
 refine⟨by simp[t.1],fun j x y hx hy=>?_⟩
 cases j with
 |zero=>simp at hx hy;subst hx;subst hy;exact h
 |succ j=>exact t.2 j x y (by simpa using hx) (by simpa using hy)
theorem Dv.aggL {n:Nat} {l:List Row} {cs ds:List AV} (h:DvL n l cs ds):Dv n l (.agg cs) (.agg ds):=.agg cs ds h.1 h.2
theorem Dv.tupL {n:Nat} {l:List Row} {cs ds:List AV} (h:DvL n l cs ds):Dv n l (.tup cs) (.tup ds):=.tup cs ds h.1 h.2
theorem Dv.slR {n:Nat} {l:List Row} {i ver off len sz:Nat} {els:List (List AV)} {rows:List (List IV)} (hi:l[i]? = some (.live ver sz els)) (LJ:off+len≤els.length) (hl:rows.length=len)
  (h:∀(k:Nat) (r:List AV) (row:List IV),els[off+k]? = some r→rows[k]? = some row→DvR n l r row):Dv n l (.sl (n+i) ver off len) (.v (.isl sz rows)):=
 .sl i ver off len sz els rows hi LJ hl (fun k r row h1 h2=>(h k r row h1 h2).1) (fun k r row j a c h1 h2=>(h k r row h1 h2).2 j a c)
theorem Dv.slV {n:Nat} {l:List Row} {i ver sz len:Nat} {rows:List (List IV)} (hi:l[i]? = some (.live ver sz (vs rows))) (hl:len=rows.length):Dv n l (.sl (n+i) ver 0 len) (.v (.isl sz rows)):=by
 refine Dv.slR hi (by rw[SB];omega) hl.symm (fun k r row h1 h2=>?_)
 rw[cn,iB,h2]at h1
 cases h1
 exact DvR.plain
theorem Dv.slVoff {n:Nat} {l:List Row} {i ver sz off len:Nat} {rows:List (List IV)} (hi:l[i]? = some (.live ver sz (vs rows))) (hl:off+len=rows.length):Dv n l (.sl (n+i) ver off len) (.v (.isl sz (rows.drop off))):=by
 refine Dv.slR hi (by rw[SB];omega) (by rw[co];omega) (fun k r row h1 h2=>?_)
 rw[dp]at h2
 rw[iB,h2]at h1
 cases h1
 exact DvR.plain
theorem Dv.lt {n:Nat} {l:List Row} {x y:AV} (h:Dv n l x y) (m:Nat):AVlt m y:=by
 induction h with
 |v x=>exact .v x
 |z sz=>exact .v _
 |sl=>exact .v _
 |agg cs ds hl _ ih =>
   refine .agg _ (fun d hd=>?_)
   obtain⟨i,hi⟩:=ek.1 hd
   have cU:=(am.1 hi).1
   exact ih i cs[i] d (ah oM) hi
 |tup cs ds hl _ ih =>
   refine .tup _ (fun d hd=>?_)
   obtain⟨i,hi⟩:=ek.1 hd
   have cU:=(am.1 hi).1
   exact ih i cs[i] d (ah oM) hi
theorem Dv.more {n:Nat} {l:List Row} (k:List Row) {x y:AV} (h:Dv n l x y):Dv n (l++k) x y:=by
 induction h with
 |v x=>exact .v x
 |z sz=>exact .z sz
 |sl i ver off len sz els rows hi LJ hl h1 _ ih =>
   exact .sl i ver off len sz els rows (by rw[aw (am.1 hi).1];exact hi) LJ hl h1 ih
 |agg cs ds hl _ ih=>exact .agg cs ds hl ih
 |tup cs ds hl _ ih=>exact .tup cs ds hl ih
def FD (F:Nat→Prop) (L:LMap) (n:Nat) (l:List Row) (k:Nat):Prop:=F k∨∃i ver sz els q,l[i]? = some (.live ver sz els)∧L (n+i) ver=some q∧q.on k
theorem Dv.rep {F:Nat→Prop} {L:LMap} {b l:List Row} {w:World} (s:Sim F L (b++l) w) {x y:AV} (h:Dv b.length l x y):∀v,RepA w F L x v→RepA w (FD F L b.length l) L y v:=by
 have mono:∀{x:AV} {v:Value},RepA w F L x v→RepA w (FD F L b.length l) L x v:=fun hx=>hx.mono (fun _ h=>.inl h) (fun _ _=>rfl) (fun _ _ _ h=>h)
 induction h with
 |v x=>exact fun v hv=>mono hv
 |z sz =>
   intro v hv
   cases hv.vI
   exact .v _ _ (.isl0 _ _ _ (aj _))
 |sl i ver off len sz els rows hi LJ hl h1 h2 ih =>
   intro v hv
   have JD:(b++l)[b.length+i]? = some (.live ver sz els):=by rw[aq oM,cj];exact hi
   obtain⟨q,k1,k2⟩:=s.row _ _ _ _ JD
   refine .v _ _ ?_
   cases hv with
   |sl _ _ _ _ blk o z cap hL g1 g2 =>
     rw[k1]at hL;cases hL
     obtain⟨q1,q2,q3,cur,T,q4,q5,q6,q7⟩:=k2
     subst q1
     have jG:∀(k:Nat) (row:List IV) (j:Nat) (c:IV),rows[k]? = some row→row[j]? = some c→∃u,w.cell? ⟨blk,o+off*z+k*z+j,none⟩=some u∧RepI w (FD F L b.length l) c u:=by
      intro k row j c hk hj
      have OK:=(am.1 hk).1
      have wG:=(am.1 hj).1
      have hr:els[off+k]? = some els[off+k]:=ah oM
      have hlr:=h1 k _ row hr hk
      have ha:els[off+k][j]? = some els[off+k][j]:=ah oM
      obtain⟨_,u,g3,g4⟩:=q7 (off+k) _ j _ hr ha
      refine⟨u,?_,(ih k _ row j _ c hr hk ha hj u g4).vI⟩
      rw[bx]at g3
      simp only[World.cell?,q4]
      rw[←g3]
      simp[cw]
     have:=RepI.isl (w:=w) (F:=FD F L b.length l) rows blk (o+off*z) z (cap-off) (fun k j=>(w.cell? ⟨blk,o+off*z+k*z+j,none⟩).getD undef) (.inr ⟨i,ver,z,els,_,hi,k1,rfl⟩) oM oM
      (fun k row hk=>by
       have OK:=(am.1 hk).1
       have hr:els[off+k]? = some els[off+k]:=ah oM
       rw[←h1 k _ row hr hk]
       exact q6 _ _ hr)
      (fun k row j c hk hj=>by
       obtain⟨u,g3,_⟩:=jG k row j c hk hj
       rw[g3];rfl)
      (fun k row j c hk hj=>by
       obtain⟨u,g3,g4⟩:=jG k row j c hk hj
       rw[g3];exact g4)
     rw[hl]at this
     exact this
   |slz =>
     have:rows=[]:=cq hl
     rw[this];exact .isl0 _ _ _ oM
   |sln =>
     have:rows=[]:=cq hl
     rw[this];exact .isl0 _ _ _ oM
 |agg cs ds hl _ ih =>
   intro v hv
   obtain⟨us,rfl,hu⟩:=hv.aggL
   refine GA.agg ⟨by rw[←hl];exact hu.1,fun j d u hd hju=>?_⟩
   have wG:=(am.1 hd).1
   have hc:cs[j]? = some cs[j]:=ah oM
   exact ih j _ d hc hd u (hu.2 j _ u hc hju)
 |tup cs ds hl _ ih =>
   intro v hv
   obtain⟨us,rfl,hu⟩:=hv.tupL
   refine GA.tup ⟨by rw[←hl];exact hu.1,fun j d u hd hju=>?_⟩
   have wG:=(am.1 hd).1
   have hc:cs[j]? = some cs[j]:=ah oM
   exact ih j _ d hc hd u (hu.2 j _ u hc hju)
def WF (r:Row):Row:=.dead r.ver
theorem VK {b l:List Row} {j v z:Nat} {els:List (List AV)} (h:(b++l.map WF)[j]? = some (.live v z els)):j<b.length∧(b++l)[j]? = some (.live v z els):=by
 by_cases hj:j<b.length
 ·rw[aw hj]at h⊢
  exact⟨hj,h⟩
 ·rw[aq oM,an]at h
  cases hq:l[j-b.length]? with
  |none=>rw[hq]at h;cases h
  |some r=>rw[hq]at h;cases h
theorem VA.deep {b l:List Row} {e e':List AV} (hl:e.length=e'.length) (hd:∀(i:Nat) (x y:AV),e[i]? = some x→e'[i]? = some y→Dv b.length l x y) (hR:gA b.length b):VA e b l e' b []:=by
 refine VA.trans (e2:=e') (b2:=b) (l2:=l.map WF) ?_ (VA.trim (l1:=[]) rfl (fun y hy=>?_) (by simpa using hR) nE)
 ·intro F L w a s GU
  have EF:∀k,DC L (b++l.map WF) k→DC L (b++l) k:=by
   rintro k ⟨j,v,z,els,q,h1,h2,h3⟩
   exact⟨j,v,z,els,q,(VK h1).2,h2,h3⟩
  have zE:∀{i ver sz els},l[i]? = some (.live ver sz els)→(b++l)[b.length+i]? = some (.live ver sz els):=fun hi=>by
   rw[aq oM,cj];exact hi
  refine⟨FD F L b.length l,L,⟨fun j v z els hj=>?_,fun j v q hq=>?_,fun j j' v v' z z' e1 e2 bb q1 q2 h1 h2=>s.apart j j' v v' z z' e1 e2 bb q1 q2 (VK h1).2 (VK h2).2,fun k hk=>?_,s.glob.mono (fun _ h=>.inl h) (fun _ _=>rfl)⟩,
   ⟨GU.1,by rw[←hl];exact GU.2.1,fun i y v hy hv=>?_⟩,⟨fun _ h=>.inl h,fun _ _ _ _ h=>h,rfl,rfl,rfl,ai _,fun _ _ _=>rfl,fun k _ ho=>EF k ho,fun id hid v hv=>?_,fun k hk hf=>?_⟩,rfl⟩
  ·obtain⟨q,g1,g2⟩:=s.row j v z els (VK hj).2
   exact⟨q,g1,g2.mono (fun _ _=>rfl) (fun _ _ h=>h.mono (fun _ h=>.inl h) (fun _ _=>rfl) (fun _ _ _ h=>h))⟩
  ·obtain⟨r,h1,h2⟩:=s.born j v q hq
   by_cases hj:j<b.length
   ·exact⟨r,by rw[aw hj]at h1⊢;exact h1,h2⟩
   ·rw[aq oM]at h1
    exact⟨WF r,by rw[aq oM,an,h1];rfl,h2⟩
  ·rcases hk with hk|⟨i,ver,sz,els,q,h1,h2,h3⟩
   ·exact⟨(s.imm k hk).1,fun ho=>(s.imm k hk).2 (EF k ho)⟩
   ·obtain⟨q',g1,g2⟩:=s.row _ _ _ _ (zE h1)
    rw[h2]at g1;cases g1
    refine⟨g2.lt h3,?_⟩
    rintro⟨j,v,z,els',q2,k1,k2,k3⟩
    obtain⟨hj,k4⟩:=VK k1
    have:=s.apart j (b.length+i) v ver z sz els' els k q2 q k4 (zE h1) k2 h2 k3 h3
    omega
  ·have M9:=(am.1 hy).1
   have hx:e[i]? = some e[i]:=ah oM
   exact (hd i _ y hx hy).rep s v (GU.2.2 i _ v hx hv)
  ·rw[aw hid]at hv⊢;exact hv
  ·rcases hf with hf|⟨i,ver,sz,els,q,h1,h2,h3⟩
   ·exact .inl hf
   ·exact .inr ⟨_,_,_,_,_,zE h1,h2,h3⟩
 ·obtain⟨i,hi⟩:=ek.1 hy
  have M9:=(am.1 hi).1
  exact (hd i _ y (ah (show i<e.length by omega)) hi).lt _
theorem iA {e:List AV} {l:List Row} {rs:List ARes} {Q:AV→List Row→List Row→Prop} {B:List Row} {ex:AExit} (hex:ex=.normal∨ex=.ret) {xs:List AV} (hx:resVs e B l rs=some xs) {y:AV} (hd:Dv B.length l (one xs) y) (hR:gA B.length B) {b0 l0:List Row} (hB:B=b0++l0) (hq:Q y b0 l0) :
  uH rs Q b0.length ex e B l:=
 SU hex hx (y:=y) (l':=[]) (VA.deep rfl (fun i x z hx hz=>by
  cases i with
  |zero=>simp at hx hz;subst hx;subst hz;exact hd
  |succ i=>simp at hx) hR) hB (by rw[ct];exact hq)
theorem QA.deep {P:Program} {f:Nat} {args:List AV} {b l N:List Row} {x y:AV} (hd:Dv (b.length+l.length) N x y)
  (h:QA P f args b l (fun r b' l'=>r=x∧b'=b∧l'=l++N)):QA P f args b l (fun r b' l'=>r=y∧b'=b∧l'=l):=by
 refine⟨h.1,fun F L w vs s hr=>Calls.mono (h.2 F L w vs s hr) ?_⟩
 rintro en w' ⟨v,x',b',l',F',L',h1,h2,h3,h4,h5,rfl,rfl,rfl⟩
 have hbl:(b'++l).length=b'.length+l.length:=ap
 have ZKL:Sim F' L' ((b'++l)++N) w':=by rw[bc];exact h3
 have hw:VA [x'] (b'++l) N [y] (b'++l) []:=VA.deep rfl (fun i x z hx hz=>by
  cases i with
  |zero=>simp at hx hz;subst hx;subst hz;rw[hbl];exact hd
  |succ i=>simp at hx) s.rowsLt
 obtain⟨F3,L3,k1,k2,k3,k5⟩:=hw F' L' w' {tmps:=#[v],defers:=[]} ZKL ⟨rfl,rfl,fun j z u hz hu=>by
  cases j with
  |zero=>simp at hz hu;subst hz;subst hu;exact h2
  |succ j=>simp at hz⟩
 rw[ct]at k1 k3
 refine⟨v,y,b',l,F3,L3,h1,k2.2.2 0 _ v rfl rfl,k1,?_,h5,rfl,rfl,rfl⟩
 refine h4.trans ?_
 rw[←bc]
 exact k3
end Go.Proofs.YtmaokjojbjdpoaaGreatDoor
