/- Texts of one proof, laid together: WB, WD, WC, WE, WP, WQ, WZ, E0, WR, BW, DV. No condition. -/
import Derived.Test.YtmaokjojbjdpoaaGreatDoorWS1
import Derived.Deep.LoopGhost
import Derived.Laws.Cover3
import Derived.RangeFuncCalls
import Derived.RangeFuncIn
import Derived.OrdersIn
import Derived.AtR
import Derived.Sort.LoopGhostIn
set_option linter.unusedSimpArgs false
namespace Go.Proofs.YtmaokjojbjdpoaaGreatDoor
set_option linter.unusedVariables false

section
variable {P:Program} {w:World} {F:Nat→Prop} {L:LMap} {o:Oper} {a:Act} {e:List AV} {b l b' l':List Row} {x:AV}

theorem map_some {α β:Type} {f:α→β} {y:Option α} {z:β} (h:y.map f=some z):∃q,y=some q∧z=f q:=by
 cases y with
 |none=>cases h
 |some q=>cases h;exact⟨q,rfl,rfl⟩

theorem bind_some {α β:Type} {f:α→Option β} {y:Option α} {z:β} (h:y >>= f=some z):∃q,y=some q∧f q=some z:=by
 cases y with
 |none=>cases h
 |some q=>exact⟨q,rfl,h⟩

def qU (P:Program) (o:Oper) (a:Act) (w:World) (F:Nat→Prop) (L:LMap) (f:Nat) (args:List AV):Prop:=
 ∃vs:Array Value,DA w F L args vs.toList∧∀fn,P.funcs[f]? = some fn→(fn.name == "runtime.NumGoroutine")=false→fn.body.isSome=true→(execOp a.eval o).run P w=.ok (.enter f vs) w

theorem ZHD (s:Sim F L (b++l) w) (he:MB w F L e a) {c:Call} {f:Operand} {f':Opd} {az':List Opd} (hc:c.callee=.value f) (hf:eA f=some f') (has:sR c.args.toList=some az') (ho:o.op=.call c)
  {g:Nat} {args:List AV} (h:UF (ev e f') (evs e az')=.call g args):qU P o a w F L g args:=by
 have h1:=mA he hf
 have h2:=ZY he has
 generalize ev e f'=q at *
 unfold UF at h
 split at h
 case h_2=>cases h
 rename_i fid caps _
 cases h
 obtain⟨vs,hv,hl⟩:=h1.fnL
 refine⟨c.args.map a.eval++vs,by simpa using h2.append hl,fun fn g1 g2 g3=>?_⟩
 have hn:¬fn.body=none:=fun hb=>by rw[hb]at g3;cases g3
 have hm:¬fn.name = "runtime.NumGoroutine":=by simpa using g2
 simp[execOp,ho,resolve,hc,hv,Deferred.ofValue,invoke,callFunc,g1,hm,hn]

def OpR.plain:OpR→Bool
 |.call .. => false
 |.two .. => false
 |_=>true
def AOp.plain:AOp→Bool
 |.call .. => false
 |.isnil .. => false
 |_=>true
theorem gZ (y:Option AV) (b l:List Row):(YJ y b l).plain=true:=by cases y<;>rfl
theorem UK {ao:AOp} (h:ao.plain=true):(aop e b l ao).plain=true:=by
 cases ao<;>first|(cases h;done)|simp only[aop,mk,AE,AD,MC,GF,WF,DD,SD,bC,TD,eC,TB,dF,ID]
 all_goals (repeat' split)
 all_goals first|rfl|exact gZ _ _ _

theorem ZDt (s:Sim F L (b++l) w) (he:MB w F L e a) {op:BinOp} {t u el:TypeId} (ht:P.underlying t=some (.slice el)) (hop:op=.eql∨op=.neq) {y z:Operand} {y':Opd} (ho:o.op=.binOp op t y z u) (hy:eA y=some y') (hz:g9 z=true)
  {c:Bool} {p q:AV} (h:aop e b l (.isnil (op==.neq) y')=.two c p q):(c=true∧YB P o a w F L b l p b l)∨YB P o a w F L b l q b l:=by
 have h1:=mA he hy
 simp only[aop]at h
 generalize ev e y'=r at *
 have hz':a.eval z=.slice none 0 0:=by
  unfold g9 at hz
  split at hz
  ·rfl
  ·cases hz
 have YD:∀ad n m,a.eval y=.slice ad n m→(execOp a.eval o).run P w=.ok (.value (.bool (if op=.neq then !ad.isNone else ad.isNone))) w:=by
  intro ad n m hv
  rcases hop with rfl|rfl
  ·simp[execOp,ho,hv,hz',eqGuard,binOp,run_equal_slice_nil w t el ad n m ht]
  ·simp[execOp,ho,hv,hz',eqGuard,binOp,run_equal_slice_nil w t el ad n m ht]
 have yes:∀n m,a.eval y=.slice none n m→YB P o a w F L b l (.v (.bool (!(op==.neq)))) b l:=by
  intro n m hv
  refine YB.pure s (YD _ _ _ hv) ?_
  have:=mW (w:=w) (F:=F) (L:=L) (!(op==.neq))
  rcases hop with rfl|rfl<;>exact this
 have no:∀ad n m,a.eval y=.slice (some ad) n m→YB P o a w F L b l (.v (.bool (op==.neq))) b l:=by
  intro ad n m hv
  refine YB.pure s (YD _ _ _ hv) ?_
  have:=mW (w:=w) (F:=F) (L:=L) (op==.neq)
  rcases hop with rfl|rfl<;>exact this
 generalize hv:a.eval y=v at h1
 split at h
 ·cases h
  cases h1.vI with
  |zsl ad=>cases ad with
    |none=>exact .inl ⟨rfl,yes _ _ hv⟩
    |some ad=>exact .inr (no _ _ _ hv)
 ·rename_i sz rows
  cases h
  cases h1.vI with
  |isl0 _ ad c=>cases ad with
    |none=>exact .inl ⟨rfl,yes _ _ hv⟩
    |some ad=>exact .inr (no _ _ _ hv)
  |isl=>exact .inr (no _ _ _ hv)
 ·cases h
  cases h1 with
  |sl=>exact .inr (no _ _ _ hv)
  |slz=>exact .inr (no _ _ _ hv)
  |sln _ _ ad hL=>cases ad with
    |none=>exact .inl ⟨rfl,yes _ _ hv⟩
    |some ad=>exact .inr (no _ _ _ hv)
 ·cases h

theorem ZJs {ao:AOp} (hc:cOp P o.op=some ao) (s:Sim F L (b++l) w) (he:MB w F L e a) :
  (∀x b' l',aop e b l ao=.val x b' l'→YB P o a w F L b l x b' l')∧(∀f args,aop e b l ao=.call f args→qU P o a w F L f args) ∧
   (∀c x y,aop e b l ao=.two c x y→(c=true∧YB P o a w F L b l x b l)∨YB P o a w F L b l y b l):=by
 have nocall:ao.plain=true→(∀x b' l',aop e b l ao=.val x b' l'→YB P o a w F L b l x b' l') →
   (∀x b' l',aop e b l ao=.val x b' l'→YB P o a w F L b l x b' l')∧(∀f args,aop e b l ao=.call f args→qU P o a w F L f args) ∧
    (∀c x y,aop e b l ao=.two c x y→(c=true∧YB P o a w F L b l x b l)∨YB P o a w F L b l y b l):=
  fun h1 h2=>⟨h2,⟨fun f args h=>(by have hp:=UK (e:=e) (b:=b) (l:=l) h1;rw[h]at hp;cases hp),fun c x y h=>(by have hp:=UK (e:=e) (b:=b) (l:=l) h1;rw[h]at hp;cases hp)⟩⟩
 generalize ho:o.op=op at hc
 cases op<;>simp only[cOp]at hc<;>first|(cases hc;done)|skip
 case move y =>
  obtain⟨z,hz,rfl⟩:=map_some hc
  exact nocall rfl (fun x b' l' h=>by simp only[aop]at h;cases h;exact ZIO s he (.inl ho) hz)
 case assign y =>
  obtain⟨z,hz,rfl⟩:=map_some hc
  exact nocall rfl (fun x b' l' h=>by simp only[aop]at h;cases h;exact ZIO s he (.inr ho) hz)
 case pick c y z =>
  obtain⟨c',h1,hc⟩:=bind_some hc
  obtain⟨y',h2,hc⟩:=bind_some hc
  obtain⟨z',h3,hc⟩:=bind_some hc
  cases hc
  exact nocall rfl (fun x b' l' h=>ZGs s he ho h1 h2 h3 h)
 case alloc t =>
  obtain⟨zs,hz,rfl⟩:=map_some hc
  exact nocall rfl (fun x b' l' h=>ZDy s ho hz h)
 case box t y =>
  obtain⟨z,hz,rfl⟩:=map_some hc
  exact nocall rfl (fun x b' l' h=>ZJ5 s he ho hz h)
 case build t ps =>
  split at hc
  ·rename_i fs zs ht hz
   split at hc
   case isFalse=>cases hc
   rename_i wF
   obtain⟨qs,hq,rfl⟩:=map_some hc
   exact nocall rfl (fun x b' l' h=>ZDx s he ht hz wF hq ho h)
  ·rename_i m el zs ht hz
   split at hc
   case h_2=>cases hc
   rename_i n hn
   obtain⟨qs,hq,rfl⟩:=map_some hc
   exact nocall rfl (fun x b' l' h=>ZBb s he ht hn hz hq ho h)
  ·cases hc
 case buildSlice t len ps =>
  split at hc
  case h_2=>cases hc
  rename_i el ht
  split at hc
  case h_2=>cases hc
  rename_i n zs hn hz
  split at hc
  case isFalse=>cases hc
  rename_i hb
  obtain⟨qs,hq,rfl⟩:=map_some hc
  exact nocall rfl (fun x b' l' h=>ZBc s he ht hn hz hb.1 hb.2.1 hb.2.2 hq ho h)
 case load t y =>
  split at hc
  case h_2=>cases hc
  rename_i n hn
  obtain⟨z,hz,rfl⟩:=map_some hc
  exact nocall rfl (fun x b' l' h=>ZGu s he hn ho hz h)
 case store t y z =>
  split at hc
  case h_2=>cases hc
  rename_i n hn
  obtain⟨y',h1,hc⟩:=bind_some hc
  obtain⟨z',h2,hc⟩:=bind_some hc
  cases hc
  exact nocall rfl (fun x b' l' h=>ZDp s he hn ho h1 h2 h)
 case nilCheck y =>
  obtain⟨z,hz,rfl⟩:=map_some hc
  exact nocall rfl (fun x b' l' h=>ZDr s he ho hz h)
 case binOp op t y z u =>
  split at hc
  ·rename_i fs ht
   split at hc
   case h_2=>cases hc
   rename_i ks hks
   split at hc
   case isFalse=>cases hc
   rename_i hb
   obtain⟨y',h1,hc⟩:=bind_some hc
   obtain⟨z',h2,hc⟩:=bind_some hc
   cases hc
   exact nocall rfl (fun x b' l' h=>ZJ4 s he ht hks hb.1 hb.2.1 hb.2.2 ho h1 h2 h)
  ·rename_i m el ht
   split at hc
   case h_2=>cases hc
   rename_i k hk hs
   split at hc
   case isFalse=>cases hc
   rename_i hb
   obtain⟨y',h1,hc⟩:=bind_some hc
   obtain⟨z',h2,hc⟩:=bind_some hc
   cases hc
   exact nocall rfl (fun x b' l' h=>ZGz s he ht hk hs hb.1 hb.2 ho h1 h2 h)
  ·obtain⟨y',h1,hc⟩:=bind_some hc
   obtain⟨z',h2,hc⟩:=bind_some hc
   cases hc
   exact nocall rfl (fun x b' l' h=>ZJ6 s he ho h1 h2 h)
  ·rename_i ht
   obtain⟨y',h1,hc⟩:=bind_some hc
   obtain⟨z',h2,hc⟩:=bind_some hc
   cases hc
   exact nocall rfl (fun x b' l' h=>ZHF s he ht ho h1 h2 h)
  ·obtain⟨y',h1,hc⟩:=bind_some hc
   obtain⟨z',h2,hc⟩:=bind_some hc
   cases hc
   exact nocall rfl (fun x b' l' h=>ZHE s he ho h1 h2 h)
  ·rename_i el ht
   split at hc
   case isFalse=>cases hc
   rename_i hb
   obtain⟨y',h1,rfl⟩:=map_some hc
   refine⟨fun x b' l' h=>?_,fun g args h=>?_,fun c x y h=>ZDt s he ht hb.1 ho h1 hb.2 h⟩
   ·simp only[aop]at h
    split at h<;>cases h
   ·simp only[aop]at h
    split at h<;>cases h
  ·cases hc
 case unOp op t y =>
  cases op<;>simp only at hc<;>first|(cases hc;done)|skip
  ·obtain⟨z,hz,rfl⟩:=map_some hc
   exact nocall rfl (fun x b' l' h=>ZJ2 s he ho hz h)
  ·obtain⟨z,hz,rfl⟩:=map_some hc
   exact nocall rfl (fun x b' l' h=>ZJ1 s he ho hz h)
 case convert t u y =>
  split at hc
  case h_3=>cases hc
  ·rename_i k' k ht hu
   obtain⟨z,hz,rfl⟩:=map_some hc
   exact nocall rfl (fun x b' l' h=>ZHB s he ht hu ho hz h)
  ·rename_i el ht hu
   split at hc
   case h_2=>cases hc
   rename_i OI
   obtain⟨z,hz,rfl⟩:=map_some hc
   exact nocall rfl (fun x b' l' h=>ZDo s he ht OI hu ho hz h)
 case makeMap t r =>
  split at hc
  case isFalse=>cases hc
  rename_i hb
  cases hc
  exact nocall rfl (fun x b' l' h=>ZDs s hb.1 hb.2 ho h)
 case lookup t y i c =>
  split at hc
  case h_2=>cases hc
  rename_i kt el ht
  split at hc
  case h_2=>cases hc
  rename_i kk z hk hz
  obtain⟨y',h1,hc⟩:=bind_some hc
  obtain⟨i',h2,hc⟩:=bind_some hc
  cases hc
  exact nocall rfl (fun x b' l' h=>ZB7 s he ht hk hz ho h1 h2 h)
 case mapUpdate t m y z =>
  split at hc
  case h_2=>cases hc
  rename_i kt el ht
  split at hc
  case h_2=>cases hc
  rename_i kk hk
  obtain⟨m',h1,hc⟩:=bind_some hc
  obtain⟨y',h2,hc⟩:=bind_some hc
  obtain⟨z',h3,hc⟩:=bind_some hc
  cases hc
  exact nocall rfl (fun x b' l' h=>i6 s he ht hk ho h1 h2 h3 h)
 case makeFunc fn first caps =>
  cases fn<;>simp only at hc<;>first|(cases hc;done)|skip
  split at hc
  case isFalse=>cases hc
  rename_i h0
  obtain⟨cs,EY,rfl⟩:=map_some hc
  exact nocall rfl (fun x b' l' h=>by simp only[aop]at h;cases h;exact ZGt s he h0 ho EY)
 case makeSlice t y z =>
  split at hc
  case h_2=>cases hc
  rename_i el ht
  split at hc
  case h_2=>cases hc
  rename_i sz zs bytes hs hz yO
  split at hc
  case isFalse=>cases hc
  rename_i hb
  obtain⟨y',h1,hc⟩:=bind_some hc
  obtain⟨z',h2,hc⟩:=bind_some hc
  cases hc
  exact nocall rfl (fun x b' l' h=>r6 s he ht hs yO hz hb.1 ho h1 h2 h)
 case slice t y lo hi mx =>
  split at hc
  ·rename_i el ht
   split at hc
   ·split at hc
    case h_2=>cases hc
    rename_i n hn
    obtain⟨y',h1,hc⟩:=bind_some hc
    obtain⟨lo',h2,hc⟩:=bind_some hc
    obtain⟨hi',h3,hc⟩:=bind_some hc
    cases hc
    exact nocall rfl (fun x b' l' h=>ZDq s he ht hn ho h1 h2 h3 h)
   ·rename_i q
    split at hc
    case isFalse=>cases hc
    rename_i hb
    simp only[ar]at hb
    obtain⟨⟨⟨wJ,gR⟩,hb3⟩,hb4⟩:=hb
    obtain⟨y',h1,rfl⟩:=map_some hc
    obtain⟨n,hn⟩:=Option.isSome_iff_exists.1 hb4
    have hlo:lo=none:=by cases lo<;>first|rfl|cases hb3
    subst hlo
    exact nocall rfl (fun x b' l' h=>ZB6 s he ht hn ho gR wJ h1 h)
  ·rename_i ht
   split at hc
   case h_2=>cases hc
   obtain⟨y',h1,hc⟩:=bind_some hc
   obtain⟨lo',h2,hc⟩:=bind_some hc
   obtain⟨hi',h3,hc⟩:=bind_some hc
   cases hc
   exact nocall rfl (fun x b' l' h=>ZB5 s he ht ho h1 h2 h3 h)
  ·cases hc
 case fieldAddr t y i =>
  split at hc
  case h_2=>cases hc
  rename_i fs ht
  split at hc
  case h_2=>cases hc
  rename_i f hf
  split at hc
  case h_2=>cases hc
  rename_i n hn
  split at hc
  case isFalse=>cases hc
  rename_i h0
  obtain⟨z,hz,rfl⟩:=map_some hc
  exact nocall rfl (fun x b' l' h=>ZDw s he ht hf hn h0 ho hz h)
 case field t y i =>
  split at hc
  case h_2=>cases hc
  rename_i fs ht
  split at hc
  case h_2=>cases hc
  rename_i f hf
  split at hc
  case h_2=>cases hc
  rename_i n hn
  obtain⟨z,hz,rfl⟩:=map_some hc
  exact nocall rfl (fun x b' l' h=>ZDv s he ht hf hn ho hz h)
 case indexAddr t y i =>
  split at hc
  ·rename_i el ht
   split at hc
   case h_2=>cases hc
   rename_i n hn
   obtain⟨y',h1,hc⟩:=bind_some hc
   obtain⟨i',h2,hc⟩:=bind_some hc
   cases hc
   exact nocall rfl (fun x b' l' h=>ZDu s he ht hn ho h1 h2 h)
  ·rename_i len el ht
   split at hc
   case h_2=>cases hc
   rename_i n hn
   obtain⟨y',h1,hc⟩:=bind_some hc
   obtain⟨i',h2,hc⟩:=bind_some hc
   cases hc
   exact nocall rfl (fun x b' l' h=>ZBa s he ht hn ho h1 h2 h)
  ·cases hc
 case index t y i =>
  split at hc
  ·rename_i ht
   obtain⟨y',h1,hc⟩:=bind_some hc
   obtain⟨i',h2,hc⟩:=bind_some hc
   cases hc
   exact nocall rfl (fun x b' l' h=>ZB8 s he ht ho h1 h2 h)
  ·rename_i len el ht
   split at hc
   case h_2=>cases hc
   rename_i n sh hn hsh
   obtain⟨y',h1,hc⟩:=bind_some hc
   obtain⟨i',h2,hc⟩:=bind_some hc
   cases hc
   exact nocall rfl (fun x b' l' h=>ZB9 s he ht hn hsh ho h1 h2 h)
  ·cases hc
 case extract y i =>
  obtain⟨z,hz,rfl⟩:=map_some hc
  exact nocall rfl (fun x b' l' h=>n6 s he ho hz h)
 case call c =>
  split at hc
  ·rename_i f hf
   obtain⟨f',h1,hc⟩:=bind_some hc
   obtain⟨az',h2,hc⟩:=bind_some hc
   cases hc
   refine⟨fun x b' l' h=>?_,fun g args h=>?_,fun c x y h=>?_⟩
   ·simp only[aop]at h
    unfold UF at h
    split at h<;>cases h
   ·simp only[aop]at h
    exact ZHD s he hf h1 h2 ho h
   ·simp only[aop]at h
    unfold UF at h
    split at h<;>cases h
  ·rename_i hcal
   split at hc
   case h_2=>cases hc
   rename_i y t ha mX
   split at hc
   ·rename_i ht
    obtain⟨z,hz,rfl⟩:=map_some hc
    exact nocall rfl (fun x b' l' h=>ZGv s he ht hcal ha mX ho hz h)
   ·rename_i el ht
    obtain⟨z,hz,rfl⟩:=map_some hc
    exact nocall rfl (fun x b' l' h=>ZJ3 s he ht hcal ha mX ho hz h)
   ·rename_i n el ht
    cases hc
    exact nocall rfl (fun x b' l' h=>by simp only[aop,ev]at h;cases h;exact ZGx s ht hcal ha mX ho)
   ·rename_i kt el ht
    obtain⟨z,hz,rfl⟩:=map_some hc
    exact nocall rfl (fun x b' l' h=>ZGw s he ht hcal ha mX ho hz h)
   ·cases hc
  ·rename_i hcal
   split at hc
   case h_2=>cases hc
   rename_i y z t u ha mX
   split at hc
   case h_2=>cases hc
   rename_i el ht
   split at hc
   case h_2=>cases hc
   rename_i n bytes zs hn yO hz
   split at hc
   case isFalse =>
    split at hc
    case isFalse=>cases hc
    rename_i hb
    obtain⟨y',h1,hc⟩:=bind_some hc
    obtain⟨z',h2,hc⟩:=bind_some hc
    cases hc
    exact nocall rfl (fun x b' l' h=>ZHG s he ht hb.2.2.2 hn yO hz hb.2.2.1 hb.1 hb.2.1 hcal ha mX ho h1 h2 h)
   rename_i hb
   obtain⟨y',h1,hc⟩:=bind_some hc
   obtain⟨z',h2,hc⟩:=bind_some hc
   cases hc
   exact nocall rfl (fun x b' l' h=>ZBd s he ht hb.2.2.2 hn yO hz hb.2.2.1 hb.1 hb.2.1 hcal ha mX ho h1 h2 h)
  ·rename_i hcal
   split at hc
   case h_2=>cases hc
   rename_i y z t u ha mX
   split at hc
   case h_2=>cases hc
   rename_i el ht
   split at hc
   case h_2=>cases hc
   rename_i n hn
   split at hc
   case isFalse=>cases hc
   rename_i h0
   obtain⟨y',h1,hc⟩:=bind_some hc
   obtain⟨z',h2,hc⟩:=bind_some hc
   cases hc
   exact nocall rfl (fun x b' l' h=>ZHA s he ht hn h0 hcal ha mX ho h1 h2 h)
  ·rename_i hcal
   split at hc
   case h_2=>cases hc
   rename_i y z ha
   obtain⟨y',h1,hc⟩:=bind_some hc
   obtain⟨z',h2,hc⟩:=bind_some hc
   cases hc
   exact nocall rfl (fun x b' l' h=>ZIP (t:=true) s he hcal ha ho h1 h2 h)
  ·rename_i hcal
   split at hc
   case h_2=>cases hc
   rename_i y z ha
   obtain⟨y',h1,hc⟩:=bind_some hc
   obtain⟨z',h2,hc⟩:=bind_some hc
   cases hc
   exact nocall rfl (fun x b' l' h=>ZIP (t:=false) s he hcal ha ho h1 h2 h)
  ·rename_i hcal
   split at hc
   case h_2=>cases hc
   rename_i y t ha mX
   split at hc
   case h_2=>cases hc
   rename_i el ht
   obtain⟨z,hz,rfl⟩:=map_some hc
   exact nocall rfl (fun x b' l' h=>ZHC s he ht hcal ha mX ho hz h)
  ·cases hc

theorem r7 {o:Op} {n len:Nat} {zs:List AV} {qs:List (Nat×Opd)} (hc:cOp P o=some (.bslice n zs len qs)) :
  ∃(t el:TypeId) (parts:Array (Nat×Operand)),o=.buildSlice t len parts∧P.underlying t=some (.slice el)∧pD P el=some n∧aF P el=some zs∧(0<n∧len*n≤16777216∧zs.length=n)∧TJ parts.toList=some qs:=by
 unfold cOp at hc
 repeat' split at hc
 all_goals first
  |(cases hc;done)
  |(obtain⟨qs,hq,h⟩:=map_some hc;cases h;exact⟨_,_,_,rfl,by assumption,by assumption,by assumption,by assumption,hq⟩)
  |(obtain⟨_,_,h⟩:=map_some hc;cases h;done)
  |(obtain⟨_,_,hc⟩:=bind_some hc;cases hc;done)
  |(obtain⟨_,_,hc⟩:=bind_some hc;obtain⟨_,_,hc⟩:=bind_some hc;cases hc;done)
  |(obtain⟨_,_,hc⟩:=bind_some hc;obtain⟨_,_,hc⟩:=bind_some hc;obtain⟨_,_,hc⟩:=bind_some hc;cases hc;done)
theorem rT:∀{r:List AV} {x:List IV},DI r=some x→x.length=r.length∧∀(j:Nat) (c:IV),x[j]? = some c→r[j]? = some (.v c)
 |[],x,h=>by cases h;simp
 |.v y::r,x,h=>by
   unfold DI at h
   split at h
   case h_2=>cases h
   rename_i ys hy
   cases h
   obtain⟨h1,h2⟩:=rT hy
   refine⟨by simp[h1],fun j c hj=>?_⟩
   cases j with
   |zero=>simp at hj;subst hj;rfl
   |succ j=>simpa using h2 j c (by simpa using hj)
 |.any::_,x,h=>by cases h
 |.agg _::_,x,h=>by cases h
 |.tup _::_,x,h=>by cases h
 |.sl .. :: _,x,h=>by cases h
 |.ptr .. :: _,x,h=>by cases h
 |.fn .. :: _,x,h=>by cases h
 |.mp .. :: _,x,h=>by cases h
theorem bV:∀{r:List (List AV)} {x:List (List IV)},xF r=some x→x.length=r.length∧∀(k:Nat) (y:List IV),x[k]? = some y→∃z,r[k]? = some z∧DI z=some y
 |[],x,h=>by cases h;simp
 |z::r,x,h=>by
   unfold xF at h
   split at h
   case h_2=>cases h
   rename_i y ys hy hys
   cases h
   obtain⟨h1,h2⟩:=bV hys
   refine⟨by simp[h1],fun k c hk=>?_⟩
   cases k with
   |zero=>simp at hk;subst hk;exact⟨z,rfl,hy⟩
   |succ k=>simpa using h2 k c (by simpa using hk)
theorem ZE6 {w:World} {k:Nat} {cs:Array Value} {T:TypeId} {fr:Nat×Nat} (hb:w.heap[k]? = some (.cells cs T fr)) {j:Nat}:w.cell? ⟨k,j,none⟩=cs[j]?:=by
 simp[World.cell?,hb]
theorem ZGy (s:Sim F L (b++l) w) (he:MB w F L e a) {t el:TypeId} {n len:Nat} {zs:List AV} {parts:Array (Nat×Operand)} {qs:List (Nat×Opd)} (ht:P.underlying t=some (.slice el)) (hn:pD P el=some n) (hz:aF P el=some zs)
  (h0:0<n) (PJ:len*n≤16777216) (N9:zs.length=n) (hq:TJ parts.toList=some qs) (ho:o.op=.buildSlice t len parts)
  (h:aop e b l (.islb n zs len qs)=.val x b' l'):QQ P o a w F L b l x b' l':=by
 obtain⟨i,z,hi,lX,uV⟩:=KE hz
 obtain⟨c1,c2⟩:=YF (w:=w) (F:=F) (L:=L) uV
 obtain⟨q1,q2⟩:=aK hq
 simp only[aop]at h
 split at h
 case h_2=>cases h
 rename_i els vN
 split at h
 case h_2=>cases h
 rename_i rows hrows
 cases h
 obtain⟨vs,h1,h2,h3,h4⟩:=IT he (ps:=parts.toList) (qs:=qs) q2 q1 (cur:=madeCells z.cells (len*n)) (by simp[size_madeCells]) (uO c1 c2 N9 _ (ai _)) vN
 have aB:els.length=len:=by simpa using h3
 have hm:(parts.map fun (j,y)=>(j,a.eval y)).toList=parts.toList.map fun p=>(p.1,a.eval p.2):=by simp
 have hlm:len≤16777216:=by
  rcases jv len with h|h
  ·omega
  ·have:=Nat.le_mul_of_pos_right len h0;omega
 obtain⟨r1,r2⟩:=bV hrows
 have ZCv:Ends P o a w (.slice (some ⟨w.heap.size,0,none⟩) len len) (w.alloc (.cells vs el)):=by
  refine .inl ?_
  have yA:¬(len*n>2 ^ 24):=by omega
  by_cases P9:len*n=0
  ·have hmc:madeCells z.cells (len*n)=#[]:=by rw[P9];simp[madeCells,Array.range_zero']
   rw[hmc]at h1
   have hmd:(Array.range (len*n)).map (((#[]:Array Value)[· % (#[]:Array Value).size]!))=#[]:=by rw[P9];simp[Array.range_zero']
   have hlt':¬(len*n>16777216):=by omega
   simp only[execOp,ho,Instr.buildSlice,Sem.run_bind,run_underlying ht,Result.andThen_ok,bA hn,Sem.run_ite,P9,if_true,Sem.run_pure,hm]
   rw[P9]at hmd
   simp only[hmd,h1,newRow,Sem.run_bind]
   simp
  ·simp only[execOp,ho,Instr.buildSlice,Sem.run_bind,run_underlying ht,Result.andThen_ok,bA hn,Sem.run_ite,yA,if_false,P9,Sem.run_pure,hm,iH hi lX]
   have h1':=h1
   unfold madeCells at h1'
   simp only[h1',newRow,Sem.run_bind]
   simp
 have YH:∀k,k<w.heap.size→(w.alloc (.cells vs el)).heap[k]? = w.heap[k]?:=fun k hk=>by
  show (w.heap.push _)[k]? = _
  rw[kw];split
  ·omega
  ·rfl
 have bG:(w.alloc (.cells vs el)).heap[w.heap.size]? = some (.cells vs el (0,0)):=Array.getElem?_push_size
 have ZLj:∀k,F k→k<w.heap.size:=fun k hk=>(s.imm k hk).1
 have hFo:∀k,F k→(w.alloc (.cells vs el)).heap[k]? = w.heap[k]?:=fun k hk=>YH k (ZLj k hk)
 have own:∀k,GC L (b++l) k→k<w.heap.size:=by
  rintro k ⟨id,v,z1,e1,q,g1,g2,g3⟩
  obtain⟨q',g4,g5⟩:=s.row id v z1 e1 g1
  rw[g2]at g4;cases g4
  exact g5.lt g3
 have SN:(w.alloc (.cells vs el)).heap.size=w.heap.size+1:=by show (w.heap.push _).size=_;simp
 refine⟨_,_,fun k=>F k∨k=w.heap.size,L,ZCv,.v _ _ ?_,?_,?_,rfl⟩
 ·by_cases hz0:rows=[]
  ·subst hz0
   have:len=0:=by rw[←aB,←r1];rfl
   subst this
   exact .isl0 _ _ _ kE
  ·have IU:rows.length=len:=by rw[r1,aB]
   have key:∀(k:Nat) (row:List IV) (j:Nat) (c:IV),rows[k]? = some row→row[j]? = some c→∃u,vs[k*n+j]? = some u∧RepI w F c u:=by
    intro k row j c hk hj
    obtain⟨z1,g1,g2⟩:=r2 k row hk
    obtain⟨u1,u2⟩:=rT g2
    obtain⟨_,u,g4,g5⟩:=h4.2 k z1 j _ g1 (u2 j c hj)
    cases g5 with
    |v _ _ g5=>exact⟨u,g4,g5⟩
   have jU:RepI (w.alloc (.cells vs el)) (fun k=>F k∨k=w.heap.size) (.isl n rows) (.slice (some ⟨w.heap.size,0,none⟩) rows.length len):=by
    refine .isl rows w.heap.size 0 n len (fun k j=>(vs[k*n+j]?).getD undef) (.inr rfl) oM (by unfold maxLen;omega) ?_ ?_ ?_
    ·intro k row hk
     obtain⟨z1,g1,g2⟩:=r2 k row hk
     rw[(rT g2).1];exact h4.1 k z1 g1
    ·intro k row j c hk hj
     obtain⟨u,g1,g2⟩:=key k row j c hk hj
     rw[ZE6 bG]
     simp only[cn,g1,fu]
    ·intro k row j c hk hj
     obtain⟨u,g1,g2⟩:=key k row j c hk hj
     simp only[g1,fu]
     exact g2.mono (fun _ h=>.inl h) hFo
   rw[IU]at jU
   exact jU
 ·refine⟨fun id v z1 e1 g=>?_,s.born,s.apart,fun k hk=>?_,s.glob.mono (fun _ h=>.inl h) hFo⟩
  ·obtain⟨q,g1,g2⟩:=s.row id v z1 e1 g
   exact⟨q,g1,g2.mono (fun k hk=>YH k (g2.lt hk)) (fun _ _ hx=>hx.mono (fun _ h=>.inl h) hFo (fun _ _ _ h=>h))⟩
  ·rcases hk with hk|rfl
   ·exact⟨by rw[SN];have:=ZLj k hk;omega,(s.imm k hk).2⟩
   ·exact⟨by rw[SN];omega,fun h=>by have:=own _ h;omega⟩
 ·exact⟨fun _ h=>.inl h,fun _ _ _ _ h=>h,rfl,rfl,rfl,by rw[SN];omega,fun k hk _=>YH k hk,fun _ _ h=>h,fun _ _ _ h=>h,fun k hk hf=>hf.elim .inl (fun e=>by omega)⟩
theorem ZHc {imm:Bool} {ao:AOp} (hc:PY P imm o.op=some ao) (s:Sim F L (b++l) w) (he:MB w F L e a) :
  (∀x b' l',aop e b l ao=.val x b' l'→QQ P o a w F L b l x b' l')∧(∀f args,aop e b l ao=.call f args→qU P o a w F L f args) ∧
   (∀c x y,aop e b l ao=.two c x y→(c=true∧QQ P o a w F L b l x b l)∨QQ P o a w F L b l y b l):=by
 have plain:∀{ao:AOp},cOp P o.op=some ao→(∀x b' l',aop e b l ao=.val x b' l'→QQ P o a w F L b l x b' l')∧(∀f args,aop e b l ao=.call f args→qU P o a w F L f args) ∧
   (∀c x y,aop e b l ao=.two c x y→(c=true∧QQ P o a w F L b l x b l)∨QQ P o a w F L b l y b l):=fun h=>by
  obtain⟨h1,h2,h3⟩:=ZJs h s he
  exact⟨fun x b' l' h=>(h1 x b' l' h).toF,h2,fun c x y h=>(h3 c x y h).imp (fun h=>⟨h.1,h.2.toF⟩) (fun h=>h.toF)⟩
 unfold PY at hc
 split at hc
 ·obtain⟨ao0,h0,h1⟩:=map_some hc
  by_cases hb:∃n zs len qs,ao0=.bslice n zs len qs
  ·obtain⟨n,zs,len,qs,rfl⟩:=hb
   cases h1
   obtain⟨t,el,parts,g1,g2,g3,g4,g5,g6⟩:=r7 h0
   refine⟨fun x b' l' h=>ZGy s he g2 g3 g4 g5.1 g5.2.1 g5.2.2 g6 g1 h,?_,?_⟩
   ·intro f args h
    simp only[ZFb,aop]at h
    repeat' split at h
    all_goals cases h
   ·intro c x y h
    simp only[ZFb,aop]at h
    repeat' split at h
    all_goals cases h
  ·have:ao=ao0:=by
    rw[h1]
    cases ao0<;>first|rfl|exact absurd ⟨_,_,_,_,rfl⟩ hb
   subst this
   exact plain h0
 ·exact plain hc
end

section
variable {e e':List AV} {b l b' l':List Row}

theorem UD {x:Opd} (h:∀s∈x.slot,nth e s=nth e' s):ev e x=ev e' x:=by
 cases x with
 |t n=>exact h n (by simp[Opd.slot])
 |c x=>rfl
theorem IP:∀{xs:List Opd},(∀s∈eJ xs,nth e s=nth e' s)→evs e xs=evs e' xs
 |[],_=>rfl
 |x::xs,h=>by
   simp only[evs]
   rw[UD (x:=x) (fun s hs=>h s (by simp[eJ,hs])),IP (xs:=xs) (fun s hs=>h s (by simp[eJ,hs]))]
theorem PM {x:Option Opd} (h:∀s∈V5 x,nth e s=nth e' s):evo e x=evo e' x:=by
 cases x with
 |none=>rfl
 |some x=>simp only[evo];rw[UD (x:=x) h]
theorem aQ:∀{ps:List (Nat×Nat×Opd)} {row:List AV},(∀s∈eJ (ps.map (·.2.2)),nth e s=nth e' s)→fC e row ps=fC e' row ps
 |[],_,_=>rfl
 |(i,n,x)::ps,row,h=>by
   simp only[fC]
   rw[UD (x:=x) (fun s hs=>h s (by simp[eJ,hs]))]
   split
   ·split
    ·exact aQ (fun s hs=>h s (by simp[eJ,hs]))
    ·rfl
   ·rfl
theorem UM {sz:Nat}:∀{ps:List (Nat×Opd)} {els:List (List AV)},(∀s∈eJ (ps.map (·.2)),nth e s=nth e' s)→IB e sz els ps=IB e' sz els ps
 |[],_,_=>rfl
 |(i,x)::ps,els,h=>by
   simp only[IB]
   rw[UD (x:=x) (fun s hs=>h s (by simp[eJ,hs]))]
   split
   ·split
    ·exact UM (fun s hs=>h s (by simp[eJ,hs]))
    ·rfl
   ·rfl

theorem ZCJ {o:AOp} (h:∀s∈o.looks,nth e s=nth e' s):aop e b l o=aop e' b l o:=by
 cases o<;>simp only[AOp.looks,bu]at h<;>simp only[aop]
 case mv x=>rw[UD (x:=x) h]
 case nilck x=>rw[UD (x:=x) h]
 case pick c x y=>rw[UD (x:=c) (fun s hs=>h s (.inl (.inl hs))),UD (x:=x) (fun s hs=>h s (.inl (.inr hs))),UD (x:=y) (fun s hs=>h s (.inr hs))]
 case mupdate kk m x y=>rw[UD (x:=m) (fun s hs=>h s (.inl (.inl hs))),UD (x:=x) (fun s hs=>h s (.inl (.inr hs))),UD (x:=y) (fun s hs=>h s (.inr hs))]
 case build zs ps=>rw[aQ (ps:=ps) h]
 case bslice sz zs len ps=>rw[UM (ps:=ps) h]
 case islb sz zs len ps=>rw[UM (ps:=ps) h]
 case slice sz x lo hi=>rw[UD (x:=x) (fun s hs=>h s (.inl (.inl hs))),PM (x:=lo) (fun s hs=>h s (.inl (.inr hs))),PM (x:=hi) (fun s hs=>h s (.inr hs))]
 case sliceS x lo hi=>rw[UD (x:=x) (fun s hs=>h s (.inl (.inl hs))),PM (x:=lo) (fun s hs=>h s (.inl (.inr hs))),PM (x:=hi) (fun s hs=>h s (.inr hs))]
 case mkfn f cs=>rw[IP (xs:=cs) h]
 case call f az=>rw[UD (x:=f) (fun s hs=>h s (.inl hs)),IP (xs:=az) (fun s hs=>h s (.inr hs))]
 all_goals first
  |rfl
  |(rename_i x;rw[UD (x:=x) h];done)
  |(rename_i x y;rw[UD (x:=x) (fun s hs=>h s (.inl hs)),UD (x:=y) (fun s hs=>h s (.inr hs))];done)

theorem ZER {g:Option (Nat×Bool)} (h:∀s∈(match g with|some (g,_)=>[g]|none=>[]),nth e s=nth e' s):gd e g=gd e' g:=by
 cases g with
 |none=>rfl
 |some gw=>obtain⟨g,w⟩:=gw;simp only[gd];rw[h g kS]

theorem tF {o:AOper} (h:∀s∈o.looks,nth e s=nth e' s):aop e b l o.op=aop e' b l o.op∧gd e o.guard=gd e' o.guard:=
 ⟨ZCJ (fun s hs=>h s (by simp[AOper.looks,hs])),ZER (fun s hs=>h s (by simp only[AOper.looks,bu];exact .inr hs))⟩

theorem QM {o:AOp} (h:o.quiet=true):o.plain=true:=by cases o<;>first|rfl|cases h

theorem dJ {o:AOp} (h:o.quiet=true) {x:AV} (hv:aop e b l o=.val x b' l'):b'=b∧l'=l:=by
 have opt:∀(y:Option AV),YJ y b l=.val x b' l'→b'=b∧l'=l:=fun y hy=>(JE hy).2
 cases o<;>first|(cases h;done)|skip
 all_goals simp only[aop,AE,DD,SD,bC,TD,eC,dF,ID]at hv
 all_goals (repeat' split at hv)
 all_goals first|exact opt _ hv|(cases hv;exact⟨rfl,rfl⟩)|(cases hv;done)

theorem p6 {e:List AV} {d s:Nat} {x:AV} (h:d≠s):nth (upd e d x) s=nth e s:=by
 rw[PN,PN,QK,bo h]
theorem sE {e:List AV} {d:Option Nat} {s:Nat} {x:AV} (h:∀n,d=some n→n≠s):nth (put e d x) s=nth e s:=by
 cases d with
 |none=>rfl
 |some n=>exact p6 (h n rfl)
theorem Z3 {e:List AV} {d d':Option Nat} {x y:AV} (h:∀n,d=some n→d'≠some n):put (put e d x) d' y=put (put e d' y) d x:=by
 cases d with
 |none=>cases d'<;>rfl
 |some n =>
   cases d' with
   |none=>rfl
   |some m =>
     have zG:n≠m:=fun e=>h n rfl (by rw[e])
     simp only[put,QK]
     rw[List.set_comm _ _ zG]
def wI:List DOper→List AV→List Row→List Row→Option (List AV)
 |[],e,_,_=>some e
 |d::ds,e,b,l =>
   match gd e d.o.guard with
   |some true=>match aop e b l d.o.op with
     |.val x _ _=>wI ds (put e d.o.dst x) b l
     |_=>none
   |some false=>wI ds (put e d.o.dst (.tup [])) b l
   |none=>none

theorem fN {C:CallP} {K:List AV→List Row→List Row→Prop}:∀{ps qs:List DOper} {e:List AV},(∀d∈ps,d.o.op.quiet=true)→TG C (ps++qs) e b l K→∃e1,wI ps e b l=some e1∧TG C qs e1 b l K
 |[],qs,e,_,h=>⟨e,rfl,h⟩
 |d::ps,qs,e,hq,h=>by
   simp only[da,TG]at h
   simp only[wI]
   unfold uE at h
   split at h
   case h_2=>exact h.elim
   rename_i t hg
   have hd:=hq d kS
   rw[hg]
   cases t
   ·simp only[dw,if_false]at h
    exact fN (fun x hx=>hq x (by simp[hx])) h
   ·simp only[if_true]at h
    cases hr:aop e b l d.o.op with
    |val x b1 l1 =>
      rw[hr]at h
      obtain⟨k1,k2⟩:=dJ hd hr
      rw[k1,k2]at h
      exact fN (fun x hx=>hq x (by simp[hx])) h.2
    |bad=>rw[hr]at h;exact h.elim
    |call f az=>have:=UK (e:=e) (b:=b) (l:=l) (QM hd);rw[hr]at this;cases this
    |two c x y=>have:=UK (e:=e) (b:=b) (l:=l) (QM hd);rw[hr]at this;cases this

theorem lJ {C:CallP} {K:List AV→List Row→List Row→Prop}:∀{ps qs:List DOper} {e e1:List AV},(∀d∈ps,d.o.op.quiet=true∧d.re=[])→wI ps e b l=some e1→TG C qs e1 b l K→TG C (ps++qs) e b l K
 |[],qs,e,e1,_,he,h=>by cases he;exact h
 |d::ps,qs,e,e1,hq,he,h=>by
   simp only[da,TG]
   simp only[wI]at he
   have hd:=hq d kS
   unfold uE
   split at he
   ·rename_i hg
    rw[hg]
    simp only[if_true]
    split at he
    ·rename_i x b1 l1 hr
     rw[hr]
     obtain⟨k1,k2⟩:=dJ hd.1 hr
     rw[k1,k2]
     exact⟨by rw[hd.2];trivial,lJ (fun x hx=>hq x (by simp[hx])) he h⟩
    ·cases he
   ·rename_i hg
    rw[hg]
    simp only[dw,if_false]
    exact lJ (fun x hx=>hq x (by simp[hx])) he h
   ·cases he

theorem lH:∀{ps:List DOper} {e e1:List AV} {s:Nat},wI ps e b l=some e1→(∀d∈ps,d.o.dst≠some s)→nth e1 s=nth e s
 |[],e,e1,s,he,_=>by cases he;rfl
 |d::ps,e,e1,s,he,h=>by
   simp only[wI]at he
   have hd:∀n,d.o.dst=some n→n≠s:=fun n hn e=>h d kS (by rw[hn,e])
   split at he
   ·split at he
    ·rw[lH he (fun x hx=>h x (by simp[hx])),sE hd]
    ·cases he
   ·rw[lH he (fun x hx=>h x (by simp[hx])),sE hd]
   ·cases he

def zU:List DOper→Prop
 |[]=>True
 |d::ds=>(∀n,d.o.dst=some n→n∉d.o.looks)∧(∀c∈ds,∀n,c.o.dst=some n→n∉d.o.looks∧d.o.dst≠some n)∧zU ds

theorem yL {e:List AV} {d:Option Nat} {x:AV}:(put e d x).length=e.length:=by
 cases d with
 |none=>rfl
 |some d=>simp[put,QK]
theorem MM:∀{ps:List DOper} {e e1:List AV},wI ps e b l=some e1→e1.length=e.length
 |[],e,e1,he=>by cases he;rfl
 |d::ps,e,e1,he=>by
   simp only[wI]at he
   split at he
   ·split at he
    ·rw[MM he,yL]
    ·cases he
   ·rw[MM he,yL]
   ·cases he
theorem ZDm {e:List AV} {d:Nat} {x v:AV} (h:nth (put e (some d) x) d=v∨e.length≤d):put e (some d) v=put e (some d) x:=by
 simp only[put,QK,PN]at h⊢
 rcases bp d e.length with hl|hl
 ·rcases h with h|h
  ·rw[ba hl]at h
   have:x=v:=h
   rw[this]
  ·omega
 ·rw[List.set_eq_of_length_le hl,List.set_eq_of_length_le hl]
theorem ZDz {e:List AV} {d:Nat} {x:AV}:nth (put e (some d) x) d=x∨e.length≤d:=by
 simp only[put,QK,PN]
 rcases bp d e.length with hl|hl
 ·rw[ba hl];exact .inl rfl
 ·exact .inr hl

theorem IN {di:Option Nat} {v:AV}:∀{ps:List DOper} {e e1:List AV},wI ps e b l=some e1→zU ps→(∀d∈ps,d.o.op.quiet=true∧∀n,di=some n→n∉d.o.looks∧d.o.dst≠some n) →
  (∀d∈ps,QE e1 b' l' d.o)→wI ps (put e di v) b' l'=some (put e1 di v)
 |[],e,e1,he,_,_,_=>by cases he;rfl
 |d::ps,e,e1,he,hap,hi,hre=>by
   obtain⟨hq,hdi⟩:=hi d kS
   obtain⟨kY,ZGL,ZGM⟩:=hap
   have ZGN:=hre d kS
   have hi':∀c∈ps,c.o.op.quiet=true∧∀n,di=some n→n∉c.o.looks∧c.o.dst≠some n:=fun c hc=>hi c (by simp[hc])
   have hre':∀c∈ps,QE e1 b' l' c.o:=fun c hc=>hre c (by simp[hc])
   simp only[wI]at he⊢
   have ZLI:∀s∈d.o.looks,nth (put e di v) s=nth e s:=fun s hs=>sE (fun n hn=>fun hns=>(hdi n hn).1 (hns▸hs))
   obtain⟨II,zS⟩:=tF (b:=b') (l:=l') (o:=d.o) ZLI
   rw[zS,II]
   have ZCf:∀{x:AV},wI ps (put e d.o.dst x) b l=some e1→∀s∈d.o.looks,nth e1 s=nth e s:=by
    intro x hx s hs
    rw[lH hx (fun c hc EY=>(ZGL c hc s EY).1 hs)]
    exact sE (fun n hn=>fun hns=>kY n hn (hns▸hs))
   have eR:∀u,put (put e di v) d.o.dst u=put (put e d.o.dst u) di v:=fun u=>Z3 (fun n hn=>(hdi n hn).2)
   split at he
   ·rename_i hg
    split at he
    case h_2=>cases he
    rename_i x b1 l1 hr
    obtain⟨k1,k2⟩:=tF (b:=b') (l:=l') (o:=d.o) (ZCf he)
    unfold QE uE at ZGN
    rw[k2,hg]at ZGN
    simp only[if_true]at ZGN
    rw[k1]at ZGN
    obtain⟨u,hu,hun⟩:=ZGN
    rw[hu]
    simp only
    rw[eR]
    have bR:put e d.o.dst u=put e d.o.dst x:=by
     cases hd:d.o.dst with
     |none=>rfl
     |some n =>
       rw[hd]at hun he
       simp only at hun
       rw[lH he (fun c hc EY=>(ZGL c hc n EY).2 hd),MM he,yL]at hun
       exact ZDm hun
    rw[bR]
    exact IN he ZGM hi' hre'
   ·rename_i hg
    rw[eR]
    exact IN he ZGM hi' hre'
   ·cases he

theorem KM:∀{ps:List DOper} {e e1:List AV},wI ps e b l=some e1→zU ps→(∀d∈ps,d.o.op.quiet=true)→∀d∈ps,QE e1 b l d.o
 |[],e,e1,he,_,_,d,hd=>by simp at hd
 |c::ps,e,e1,he,hap,hq,d,hd=>by
   obtain⟨kY,ZGL,ZGM⟩:=hap
   have hqc:=hq c kS
   simp only[wI]at he
   have ZCf:∀{x:AV},wI ps (put e c.o.dst x) b l=some e1→∀s∈c.o.looks,nth e1 s=nth e s:=by
    intro x hx s hs
    rw[lH hx (fun c' hc EY=>(ZGL c' hc s EY).1 hs)]
    exact sE (fun n hn=>fun hns=>kY n hn (hns▸hs))
   rcases cz.1 hd with rfl|hd'
   ·split at he
    ·rename_i hg
     split at he
     case h_2=>cases he
     rename_i x b1 l1 hr
     obtain⟨k1,k2⟩:=tF (b:=b) (l:=l) (o:=d.o) (ZCf he)
     obtain⟨q1,q2⟩:=dJ hqc hr
     unfold QE uE
     rw[k2,hg,k1,hr,q1,q2]
     simp only[if_true]
     refine⟨x,rfl,?_⟩
     cases hdd:d.o.dst with
     |none=>trivial
     |some n =>
       rw[hdd]at he
       simp only
       rw[lH he (fun c' hc EY=>(ZGL c' hc n EY).2 hdd),MM he,yL]
       exact ZDz
    ·rename_i hg
     obtain⟨k1,k2⟩:=tF (b:=b) (l:=l) (o:=d.o) (ZCf he)
     unfold QE uE
     rw[k2,hg]
     simp
    ·cases he
   ·split at he
    ·split at he
     ·exact KM he ZGM (fun c' hc=>hq c' (by simp[hc])) d hd'
     ·cases he
    ·exact KM he ZGM (fun c' hc=>hq c' (by simp[hc])) d hd'
    ·cases he

theorem eN:∀{rs:List AOper} {e:List AV},DG e b l rs→∀r∈rs,QE e b l r
 |[],_,_,r,hr=>by simp at hr
 |x::rs,e,h,r,hr=>by
   rcases cz.1 hr with rfl|hr
   ·exact h.1
   ·exact eN h.2 r hr

theorem ZFV {C:CallP} (qS:∀f args b l (Q Q':AV→List Row→List Row→Prop),C f args b l Q→(∀x b' l',Q x b' l'→Q' x b' l')→C f args b l Q')
  {K:List AV→List Row→List Row→Prop} {p1 p2:List DOper} {i:DOper} (h:TG C (p1++i::p2) e b l K) (hq:∀d∈p1,d.o.op.quiet=true∧d.re=[]) (hap:zU p1)
  (h1:∀d∈p1,∀n,i.o.dst=some n→n∉d.o.looks∧d.o.dst≠some n) (h2:∀d∈p1,∀n,d.o.dst=some n→n∉i.o.looks) (hre:i.o.op.quiet=true∨∀d∈p1,d.o∈i.re) :
  uE (gd e i.o.guard) (uK C b l (fun x b' l'=>TG C (p1++p2) (put e i.o.dst x) b' l' K) (aop e b l i.o.op)) (TG C (p1++p2) (put e i.o.dst (.tup [])) b l K):=by
 obtain⟨e1,he,h⟩:=fN (fun d hd=>(hq d hd).1) h
 obtain⟨k1,k2⟩:=tF (e:=e1) (e':=e) (b:=b) (l:=l) (o:=i.o) (fun s hs=>lH he (fun d hd qP=>h2 d hd s qP hs))
 have aR:=KM he hap (fun d hd=>(hq d hd).1)
 have move:∀{b' l':List Row} (x:AV),(∀d∈p1,QE e1 b' l' d.o)→TG C p2 (put e1 i.o.dst x) b' l' K→TG C (p1++p2) (put e i.o.dst x) b' l' K:=by
  intro b' l' x hr hk
  exact lJ hq (IN he hap (fun d hd=>⟨(hq d hd).1,fun n hn=>h1 d hd n hn⟩) hr) hk
 simp only[TG]at h
 rw[k1,k2]at h
 unfold uE at h⊢
 split at h
 case h_2=>exact h.elim
 rename_i t hg
 cases t
 ·simp only[dw,if_false]at h⊢
  exact move _ aR h
 ·simp only[if_true]at h⊢
  cases hr:aop e b l i.o.op with
  |bad=>rw[hr]at h;exact h.elim
  |val x b' l' =>
    rw[hr]at h
    refine move _ ?_ h.2
    rcases hre with hre|hre
    ·obtain⟨q1,q2⟩:=dJ hre hr
     rw[q1,q2];exact aR
    ·exact fun d hd=>eN h.1 _ (hre d hd)
  |two c x y =>
    rw[hr]at h
    exact⟨fun hc=>move _ aR (h.1 hc).2,move _ aR h.2.2⟩
  |call f az =>
    rw[hr]at h
    refine qS _ _ _ _ _ _ h ?_
    rintro x b' l' ⟨g1,g2⟩
    refine move _ ?_ g2
    rcases hre with hre|hre
    ·have:=UK (e:=e) (b:=b) (l:=l) (QM hre);rw[hr]at this;cases this
    ·exact fun d hd=>eN g1 _ (hre d hd)

theorem kZ {e e':List AV} {b l:List Row} {r:AOper} (h:∀s∈r.looks,nth e s=nth e' s) (hd:∀n,r.dst=some n→nth e n=nth e' n) (hl:e.length=e'.length) (hr:QE e b l r):QE e' b l r:=by
 obtain⟨k1,k2⟩:=tF (b:=b) (l:=l) h
 unfold QE at hr⊢
 rw[k1,k2]at hr
 cases hdd:r.dst with
 |none=>rw[hdd]at hr;exact hr
 |some n=>rw[hdd]at hr;simp only at hr⊢;rw[hd n hdd,hl]at hr;exact hr

theorem lK {e e':List AV} {b l:List Row}:∀{rs:List AOper},(∀r∈rs,(∀s∈r.looks,nth e s=nth e' s)∧∀n,r.dst=some n→nth e n=nth e' n)→e.length=e'.length→DG e b l rs→DG e' b l rs
 |[],_,_,_=>trivial
 |r::rs,h,hl,hr=>⟨kZ (h r kS).1 (h r kS).2 hl hr.1,lK (fun x hx=>h x (by simp[hx])) hl hr.2⟩

theorem zK {C:CallP} (qS:∀f args b l (Q Q':AV→List Row→List Row→Prop),C f args b l Q→(∀x b' l',Q x b' l'→Q' x b' l')→C f args b l Q')
  {K:List AV→List Row→List Row→Prop} {d:Nat} {zs:List AV} {i:Nat} {re:List AOper} {p2:List DOper} (hre:∀r∈re,d∉r.looks∧r.dst≠some d) :
  ∀{p1:List DOper} {e:List AV} {b l:List Row} {x:AV},(∀c∈p1,d∉c.o.looks∧c.o.dst≠some d∧∀r∈c.re,d∉r.looks∧r.dst≠some d) →
   TG C (p1++⟨i,⟨some d,.alloc zs,none⟩,re⟩::p2) e b l K→TG C (p1++⟨i,⟨some d,.alloc zs,none⟩,re⟩::p2) (put e (some d) x) b l K
 |[],e,b,l,x,_,h=>by
   simp only[eh,TG,gd,uE,if_true,aop,mk,uK]at h⊢
   obtain⟨h1,h2⟩:=h
   refine⟨lK (fun r hr=>⟨fun s hs=>?_,fun n hn=>?_⟩) (by simp[yL]) h1,?_⟩
   ·rw[sE];intro n hn hns;cases hn;exact (hre r hr).1 (hns▸hs)
   ·rw[sE];intro m hm hmn;cases hm;exact (hre r hr).2 (by rw[hn,hmn])
   ·simp only[put,QK,iw]at h2⊢;exact h2
 |c::p1,e,b,l,x,hp,h=>by
   obtain⟨c1,c2,c3⟩:=hp c kS
   have hp':∀c'∈p1,d∉c'.o.looks∧c'.o.dst≠some d∧∀r∈c'.re,d∉r.looks∧r.dst≠some d:=fun c' hc=>hp c' (by simp[hc])
   simp only[da,TG]at h⊢
   obtain⟨k1,k2⟩:=tF (e:=put e (some d) x) (e':=e) (b:=b) (l:=l) (o:=c.o) (fun s hs=>sE (fun n hn hns=>by cases hn;exact c1 (hns▸hs)))
   rw[k1,k2]
   have eR:∀v,put (put e (some d) x) c.o.dst v=put (put e c.o.dst v) (some d) x:=fun v=>Z3 (fun n hn=>by cases hn;exact c2)
   have hrs:∀{b' l':List Row},DG e b' l' c.re→DG (put e (some d) x) b' l' c.re:=fun hr=>lK (fun r hrr=>⟨fun s hs=>by rw[sE];intro n hn hns;cases hn;exact (c3 r hrr).1 (hns▸hs),fun n hn=>by rw[sE];intro m hm hmn;cases hm;exact (c3 r hrr).2 (by rw[hn,hmn])⟩) (by simp[yL]) hr
   unfold uE at h⊢
   split at h
   case h_2=>exact h.elim
   rename_i t hg
   cases t
   ·simp only[dw,if_false]at h⊢
    rw[eR]
    exact zK qS hre hp' h
   ·simp only[if_true]at h⊢
    cases hr:aop e b l c.o.op with
    |bad=>rw[hr]at h;exact h.elim
    |val y b' l' =>
      rw[hr]at h
      simp only[uK]at h⊢
      rw[eR]
      exact⟨hrs h.1,zK qS hre hp' h.2⟩
    |two t y z =>
      rw[hr]at h
      simp only[uK]at h⊢
      rw[eR,eR]
      exact⟨fun ht=>⟨hrs (h.1 ht).1,zK qS hre hp' (h.1 ht).2⟩,hrs h.2.1,zK qS hre hp' h.2.2⟩
    |call f az =>
      rw[hr]at h
      simp only[uK]at h⊢
      refine qS _ _ _ _ _ _ h ?_
      rintro y b' l' ⟨g1,g2⟩
      rw[eR]
      exact⟨hrs g1,zK qS hre hp' g2⟩
end

def QA (P:Program):CallP:=fun f args b l Q =>
 (∃fn,P.funcs[f]? = some fn∧(fn.name == "runtime.NumGoroutine")=false∧fn.body.isSome=true) ∧
 ∀F L w (vs:Array Value),Sim F L (b++l) w→DA w F L args vs.toList→Calls P f vs w fun en w' =>
  ∃v x b' l' F' L',en=.returned v∧RepA w' F' L' x v∧Sim F' L' (b'++l') w'∧Step (b++l).length F L (b++l) w F' L' (b'++l') w'∧b'.length=b.length∧Q x b' l'

def VA:WeakP:=fun e b l e' b' l' =>
 ∀F L w a,Sim F L (b++l) w→MB w F L e a→∃F' L',Sim F' L' (b'++l') w∧MB w F' L' e' a∧Step b.length F L (b++l) w F' L' (b'++l') w∧b'.length=b.length

def ExR:Exit→AExit→Prop
 |.normal,.normal=>True
 |.exit i,.exit j=>i=j
 |.ret,.ret=>True
 |_,_=>False

def Aft (nb:Nat) (F:Nat→Prop) (L:LMap) (h:List Row) (w:World) (Q:AExit→List AV→List Row→List Row→Prop):Exit→Act→World→Prop:=fun ex a' w' =>
 ∃ax e' b' l' F' L',ExR ex ax∧Sim F' L' (b'++l') w'∧MB w' F' L' e' a'∧Step nb F L h w F' L' (b'++l') w'∧b'.length=nb∧Q ax e' b' l'

section
variable {P:Program}

theorem ZFc {w:World} {F:Nat→Prop} {L:LMap} {e:List AV} {a:Act} (he:MB w F L e a) {ops:Array Oper} {o:Oper} {g:Option (Nat×Bool)} (hg:vR ops o.guard=some g) {t:Bool} (h:gd e g=some t) :
  Region.wanted o (yielded ops a.tmps)=t:=by
 unfold vR at hg
 unfold Region.wanted
 cases hgu:o.guard with
 |none=>rw[hgu]at hg;simp at hg;subst hg;simp[gd]at h;subst h;rfl
 |some jw =>
   obtain⟨j,want⟩:=jw
   rw[hgu]at hg
   simp only at hg
   cases hd:(ops[j]?).bind (·.dst) with
   |none=>rw[hd]at hg;cases hg
   |some d =>
     rw[hd]at hg
     cases hg
     simp only[gd]at h
     have hr:=he.nth d
     simp only[yielded,hd,Option.bind_some]
     have hget:a.tmps.getD d undef=(a.tmps[d]?).getD undef:=by simp[Array.getD_eq_getD_getElem?]
     rw[hget]at hr
     generalize nth e d=q at *
     split at h
     ·rename_i t'
      cases h
      have:=uM hr
      cases hq:a.tmps[d]? with
      |none=>rw[hq]at this;cases this
      |some v=>rw[hq]at this;simp only[fu]at this;subst this;cases t'<;>cases want<;>rfl
     ·cases h
      obtain⟨vs,hv,hl⟩:=hr.tupL
      cases hq:a.tmps[d]? with
      |none=>cases want<;>rfl
      |some v=>rw[hq]at hv;simp only[fu]at hv;subst hv;cases want<;>rfl
     ·cases h

theorem ZIN {imm:Bool} {o:Oper} {ao:AOp} (hc:PY P imm o.op=some ao) {C:CallP} (hC:∀f args b l Q,C f args b l Q→QA P f args b l Q)
  {e:List AV} {b l:List Row} {K:List AV→List Row→List Row→Prop} (h:uK C b l (fun x b' l'=>K (put e o.dst x) b' l') (aop e b l ao))
  {F:Nat→Prop} {L:LMap} {w:World} {a:Act} (s:Sim F L (b++l) w) (he:MB w F L e a) (Q:Exit→Act→World→Prop) {next:Act→World→Prop}
  (hn:∀e' b' l' F' L' a' w',K e' b' l'→Sim F' L' (b'++l') w'→MB w' F' L' e' a'→Step b.length F L (b++l) w F' L' (b'++l') w'→b'.length=b.length→(∃v,a'=a.put o.dst v)→next a' w'):o.wp P a w next Q:=by
 have aB:b.length≤(b++l).length:=by simp
 obtain⟨h1,h2,h3⟩:=ZHc (P:=P) hc s he
 unfold Oper.wp
 have key:∀x b' l',QQ P o a w F L b l x b' l'→K (put e o.dst x) b' l'→o.upon P a next Q ((execOp a.eval o).run P w):=by
  rintro x b' l' ⟨v,w',F',L',ZCv,hx,s',st,hb⟩ hk
  have he':=(he.step s st).put o.dst hx
  rcases ZCv with ZCv|⟨ZCv,rfl⟩
  ·rw[ZCv];exact hn _ _ _ _ _ _ _ hk s' he' (st.weaken aB) hb ⟨_,rfl⟩
  ·rw[ZCv];exact hn _ _ _ _ _ _ _ hk s' he' (st.weaken aB) hb ⟨_,rfl⟩
 cases hr:aop e b l ao with
 |bad=>rw[hr]at h;exact h.elim
 |two c x y =>
   rw[hr]at h
   rcases h3 c x y hr with ⟨II,hk⟩|hk
   ·exact key x b l hk (h.1 II)
   ·exact key y b l hk h.2
 |val x b' l' =>
   rw[hr]at h
   exact key x b' l' (h1 x b' l' hr) h
 |call f args =>
   rw[hr]at h
   obtain⟨⟨fn,g1,g2,g3⟩,g4⟩:=hC _ _ _ _ _ h
   obtain⟨vs,k1,k2⟩:=h2 f args hr
   rw[k2 fn g1 g2 g3]
   refine Calls.mono (g4 F L w vs s k1) ?_
   rintro en w' ⟨v,x,b',l',F',L',rfl,hx,s',st,hb,hq⟩
   exact hn _ _ _ _ _ _ _ hq s' ((he.step s st).put o.dst hx) (st.weaken aB) hb ⟨_,rfl⟩

theorem rY {imm:Bool} {C:CallP} (hC:∀f args b l Q,C f args b l Q→QA P f args b l Q) (ops:Array Oper) {nb:Nat} {F0:Nat→Prop} {L0:LMap} {h0:List Row} {w0:World} {Q:List AV→List Row→List Row→Prop} {Q':Exit→Act→World→Prop} :
  ∀(os:List Oper) (is:List Nat) (aos:List AOper),vT P imm ops os=some aos→is.map (ops[·]?)=os.map some→∀e b l,vF C aos e b l Q→b.length=nb→∀F L w a,Sim F L (b++l) w→MB w F L e a→Step nb F0 L0 h0 w0 F L (b++l) w →
   (∀e' b' l' F' L' a' w',Q e' b' l'→Sim F' L' (b'++l') w'→MB w' F' L' e' a'→Step nb F0 L0 h0 w0 F' L' (b'++l') w'→b'.length=nb→Q' .normal a' w')→wpOps P ops Q' is a w
 |[],is,aos,hc,hi,e,b,l,h,hb,F,L,w,a,s,he,st,hQ=>by
   have:is=[]:=by simpa using hi
   subst this
   simp[vT]at hc
   subst hc
   exact hQ _ _ _ _ _ _ _ h s he st hb
 |o::os,[],aos,hc,hi,e,b,l,h,hb,F,L,w,a,s,he,st,hQ=>by simp at hi
 |o::os,i::is,aos,hc,hi,e,b,l,h,hb,F,L,w,a,s,he,st,hQ=>by
   simp only[bh,List.cons.injEq]at hi
   obtain⟨hi1,hi2⟩:=hi
   unfold vT at hc
   split at hc
   case h_2=>cases hc
   rename_i ao g aos' c1 c2 c3
   cases hc
   simp only[vF]at h
   simp only[wpOps,hi1]
   unfold uE at h
   split at h
   case h_2=>exact h.elim
   rename_i t hg
   rw[ZFc he c2 hg]
   cases t
   ·simp only[dw,if_false]at h⊢
    exact rY hC ops os is aos' c3 hi2 _ _ _ h hb F L w _ s (he.put o.dst (RepA.undef _ _ _)) st hQ
   ·simp only[if_true]at h⊢
    refine .inl (ZIN c1 hC (K:=fun e b l=>vF C aos' e b l Q) h s he Q' ?_)
    intro e' b' l' F' L' a' w' hk s' he' st' hb' _
    exact rY hC ops os is aos' c3 hi2 _ _ _ hk (hb'.trans hb) F' L' w' a' s' he' (st.trans (hb▸st')) hQ

theorem eD:∀f args b l (Q Q':AV→List Row→List Row→Prop),QA P f args b l Q→(∀x b' l',Q x b' l'→Q' x b' l')→QA P f args b l Q':=by
 rintro f args b l Q Q' ⟨h1,h2⟩ hq
 refine⟨h1,fun F L w vs s hr=>Calls.mono (h2 F L w vs s hr) ?_⟩
 rintro en w' ⟨v,x,b',l',F',L',k1,k2,k3,k4,k5,k6⟩
 exact⟨v,x,b',l',F',L',k1,k2,k3,k4,k5,hq _ _ _ k6⟩

theorem ET {imm:Bool} {ops:Array Oper}:∀{os:List Oper} {aos:List AOper},vT P imm ops os=some aos→aos.length=os.length∧∀(i:Nat) (ao:AOper),aos[i]? = some ao→∃(o:Oper),os[i]? = some o∧PY P imm o.op=some ao.op∧vR ops o.guard=some ao.guard∧ao.dst=o.dst
 |[],aos,h=>by simp[vT]at h;subst h;simp
 |o::os,aos,h=>by
   unfold vT at h
   split at h
   case h_2=>cases h
   rename_i x g xs h1 h2 h3
   cases h
   obtain⟨h4,h5⟩:=ET h3
   refine⟨by simp[h4],fun i ao hi=>?_⟩
   cases i with
   |zero=>simp at hi;subst hi;exact⟨o,rfl,h1,h2,rfl⟩
   |succ i=>simp at hi;simpa using h5 i ao hi

theorem P1 {ops:Array Oper} {aos:List AOper} {i:Nat}:∀{js:List Nat} {j:Nat} {r:AOper},j∈js→aos[j]? = some r→r.op.quiet=true→anc ops j ops.size i=false→r∈ZDR ops aos i js
 |[],j,r,h,_,_,_=>by simp at h
 |k::js,j,r,h,hr,hq,ha=>by
   simp only[ZDR]
   rcases cz.1 h with rfl|h
   ·rw[hr];simp[hq,ha]
   ·have:=P1 h hr hq ha
    split
    ·split
     ·exact li _ this
     ·exact this
    ·exact this

def ZCd (ops:Array Oper) (fin:List Nat) (a c:DOper):Prop:=
 JU ops fin a c=true∧(a.o.op.quiet=true→anc ops a.i ops.size c.i=false→c.o.op.quiet=true∨a.o∈c.re)

theorem UW {ops:Array Oper} {aos:List AOper}:∀{is done:List Nat},(∀d∈mkD ops aos done is,aos[d.i]? = some d.o∧(d.o.op.quiet=true→d.re=[])∧(∀j∈done,∀(r:AOper),aos[j]? = some r→r.op.quiet=true→anc ops j ops.size d.i=false→d.o.op.quiet=true∨r∈d.re)) ∧
  (mkD ops aos done is).Pairwise (fun a c=>a.o.op.quiet=true→anc ops a.i ops.size c.i=false→c.o.op.quiet=true∨a.o∈c.re)
 |[],done=>by simp[mkD]
 |i::is,done=>by
   simp only[mkD]
   cases hi:aos[i]? with
   |none=>simp
   |some o =>
     simp only
     obtain⟨h1,h2⟩:=UW (ops:=ops) (aos:=aos) (is:=is) (done:=done++[i])
     refine⟨fun d hd=>?_,List.Pairwise.cons (fun c hc hq ha=>?_) h2⟩
     ·rcases cz.1 hd with rfl|hd
      ·refine⟨hi,fun hq=>by simp only at hq⊢;rw[if_pos hq],fun j hj r hr hq ha=>?_⟩
       simp only
       cases hqq:o.op.quiet
       ·rw[if_neg kS]
        exact .inr (P1 hj hr hq ha)
       ·exact .inl rfl
      ·obtain⟨g1,g2,g3⟩:=h1 d hd
       exact⟨g1,g2,fun j hj=>g3 j (by simp[hj])⟩
     ·exact (h1 c hc).2.2 i kS o hi hq ha

theorem VO {ops:Array Oper} {fin:List Nat}:∀{ds:List DOper},CR ops fin ds=true→(∀d∈ds,XR d=true)∧ds.Pairwise (fun a c=>JU ops fin a c=true)
 |[],_=>by simp
 |a::ds,h=>by
   simp only[CR,ar]at h
   obtain⟨⟨h1,h2⟩,h3⟩:=h
   obtain⟨g1,g2⟩:=VO h3
   exact ⟨fun d hd => by rcases cz.1 hd with rfl | hd
                         ·exact h1
                         ·exact g1 d hd,List.Pairwise.cons (fun c hc=>bl.1 h2 c hc) g2⟩

theorem CB {ops:Array Oper} {fin:List Nat} {a c:DOper} (h:JU ops fin a c=true):(∀n,c.o.dst=some n→(a.o.op.quiet=true∨c.o.op.isAlloc=true→c.i∉fin∨anc ops a.i ops.size c.i=false∨c.o.op.isAlloc=true→n∉a.o.looks)∧a.o.dst≠some n∧(c.o.op.isAlloc=true→∀r∈a.re,n∉r.looks∧r.dst≠some n)) ∧
  (anc ops a.i ops.size c.i=false→(a.o.op.quiet=true∨c.o.op.isAlloc=true)∧∀n,a.o.dst=some n→n∉c.o.looks)∧(a.i∈fin→anc ops a.i ops.size c.i=true):=by
 simp only[JU,ar]at h
 obtain⟨⟨hf,h1⟩,h2⟩:=h
 refine⟨fun n hn=>?_,fun ha=>?_,fun hm=>by
  rw[gi]at hf
  refine hf.resolve_left (fun h=>?_)
  rw[List.contains_iff_mem.2 hm]at h
  cases h⟩
 ·rw[hn]at h1
  simp only[ar]at h1
  refine⟨fun hqa hw=>?_,by simpa using h1.1.2,fun hal r hr=>?_⟩
  ·have h3:=h1.1.1
   rw[show (a.o.op.quiet||c.o.op.isAlloc)=true by simpa using hqa]at h3
   have h4:(fin.contains c.i&&!c.o.op.isAlloc&&anc ops a.i ops.size c.i)=false:=by
    rcases hw with hw|hw|hw
    ·simp[hw]
    ·rw[hw];simp
    ·rw[hw];simp
   rw[h4]at h3
   simpa using h3
  ·have h3:=h1.2
   rw[hal]at h3
   simp only[iu,gj]at h3
   have:=bl.1 h3 r hr
   simpa using this
 ·rw[ha]at h2
  simp only[gj,ar,gi]at h2
  refine⟨h2.1,fun n hn=>?_⟩
  have:=h2.2
  rw[hn]at this
  simpa using this

theorem RN {ops:Array Oper} {listed:Array Bool} (bM:∀j o,ops[j]? = some o→listed.getD j false=true→∀ed∈o.after,Region.binds .any ed=true→listed.getD ed.on false=true) {x:Nat} :
  ∀{n i:Nat},(∀o,ops[i]? = some o→∀ed∈o.after,Region.binds .any ed=true→listed.getD ed.on false=true)→anc ops x n i=true→listed.getD x false=true
 |0,i,_,h=>by cases h
 |n+1,i,hi,h=>by
   simp only[anc]at h
   split at h
   case h_2=>cases h
   rename_i o ho
   obtain⟨ed,hed,hb⟩:=fe.1 h
   simp only[ar,gi,beq_iff_eq]at hb
   have hl:=hi o ho ed (by simpa using hed) hb.1
   rcases hb.2 with rfl|hb
   ·exact hl
   ·exact RN bM (n:=n) (i:=ed.on) (fun o' ho'=>bM ed.on o' ho' hl) hb

theorem yQ {a:DOper} (h:XR a=true) (hqa:a.o.op.quiet=true∨a.o.op.isAlloc=true):∀n,a.o.dst=some n→n∉a.o.looks∧∀r∈a.re,n∉r.looks∧r.dst≠some n:=by
 intro n hn
 unfold XR at h
 rw[hn,show (a.o.op.quiet||a.o.op.isAlloc)=true by simpa using hqa]at h
 simp only[iu,gj,ar]at h
 refine⟨by simpa using h.1,fun r hr=>?_⟩
 have:=bl.1 h.2 r hr
 simpa using this

theorem TH {o:AOp} (h:o.quiet=true):o.isAlloc=false:=by cases o<;>first|rfl|cases h

theorem GT {listed:Array Bool} {i:Nat} {ps:List DOper} (h:∀x∈ps,i≠x.i):ps.filter (fun d=>!(listed.setIfInBounds i true).getD d.i false)=ps.filter (fun d=>!listed.getD d.i false):=
 List.filter_congr (fun x hx=>by rw[getD_set_ne false (h x hx)])

theorem ZIU:∀{vs:List Value} {xs:List AV},cvL vs=some xs→∀x∈xs,∃y,x=.v y
 |[],xs,h=>by cases h;simp
 |v::vs,xs,h=>by
   unfold cvL at h
   split at h
   case h_2=>cases h
   rename_i y ys h1 h2
   cases h
   intro x hx
   rcases cz.1 hx with rfl|hx
   ·exact⟨y,rfl⟩
   ·exact ZIU h2 x hx

theorem ZGl {F:Nat→Prop} {L:LMap} {h:List Row} {w:World} (s:Sim F L h w) (blk:Obj) (nb:Nat) :
  Sim F L h (w.alloc blk)∧Step nb F L h w F L h (w.alloc blk)∧¬F w.heap.size∧¬GC L h w.heap.size:=by
 have hh:∀k,k<w.heap.size→(w.alloc blk).heap[k]? = w.heap[k]?:=fun k hk=>by
  show (w.heap.push blk)[k]? = _
  rw[Array.getElem?_push_lt hk,fx hk]
 have SN:(w.alloc blk).heap.size=w.heap.size+1:=by show (w.heap.push blk).size=_;simp
 have hF:¬F w.heap.size:=fun hf=>Nat.lt_irrefl _ (s.imm _ hf).1
 have hO:∀k,GC L h k→k<w.heap.size:=by
  rintro k ⟨i,v,z,e1,q1,h1,h2,h3⟩
  obtain⟨q,g1,g2⟩:=s.row _ _ _ _ h1
  rw[h2]at g1
  cases g1
  exact g2.lt h3
 refine⟨⟨fun i v z els hi=>?_,s.born,s.apart,fun b hb=>⟨by have:=(s.imm b hb).1;omega,(s.imm b hb).2⟩,s.glob.mono (fun _ h=>h) (fun b hb=>hh b (s.imm b hb).1)⟩,
  ⟨fun _ h=>h,fun _ _ _ _ h=>h,rfl,rfl,rfl,by omega,fun b hb _=>hh b hb,fun _ _ h=>h,fun _ _ _ h=>h,fun _ _ h=>.inl h⟩,hF,fun ho=>Nat.lt_irrefl _ (hO _ ho)⟩
 obtain⟨q,g1,g2⟩:=s.row i v z els hi
 exact⟨q,g1,g2.mono (fun b hb=>hh b (g2.lt hb)) (fun _ _ hx=>hx.mono (fun _ h=>h) (fun b hb=>hh b (s.imm b hb).1) (fun _ _ _ h=>h))⟩

theorem dP {ops:Array Oper} {fin:List Nat}:∀{ps:List DOper},(∀d∈ps,d.o.op.quiet=true∧d.i∉fin)→(∀d∈ps,XR d=true)→ps.Pairwise (ZCd ops fin)→zU ps
 |[],_,_,_=>trivial
 |d::ps,hq,hs,hp=>by
   cases hp with
   |cons h1 h2 =>
     refine⟨fun n hn=>?_,fun c hc n hn=>⟨((CB (h1 c hc).1).1 n hn).1 (.inl (hq d kS).1) (.inl (hq c (by simp[hc])).2),((CB (h1 c hc).1).1 n hn).2.1⟩,dP (fun x hx=>hq x (by simp[hx])) (fun x hx=>hs x (by simp[hx])) h2⟩
     exact (yQ (hs d kS) (.inl (hq d kS).1) n hn).1

def KU (w0 w:World) (F:Nat→Prop) (L:LMap) (h:List Row) (a:Act) (d:DOper) (k:Nat):Prop:=
 ∃zs dd cur T,d.o=⟨some dd,.alloc zs,none⟩∧(dd<a.tmps.size→a.tmps[dd]? = some (.pointer (some ⟨k,0,none⟩)))∧w0.heap.size≤k∧w.heap[k]? = some (.cells cur T (0,0))∧zs.length≤cur.size ∧
  (∀(j:Nat) (x:AV),zs[j]? = some x→∃y v,x=.v y∧cur[j]? = some v∧RepI w F y v)∧¬F k∧¬GC L h k

theorem KU.step {w0 w w':World} {F F':Nat→Prop} {L L':LMap} {h h':List Row} {a a':Act} {d:DOper} {k nb:Nat} (r:KU w0 w F L h a d k) (s:Sim F L h w) (st:Step nb F L h w F' L' h' w')
  (ha:∀dd,d.o.dst=some dd→a'.tmps.size=a.tmps.size∧a'.tmps[dd]? = a.tmps[dd]?):KU w0 w' F' L' h' a' d k:=by
 obtain⟨zs,dd,cur,T,h1,h2,h3,h4,h5,h6,h7,h8⟩:=r
 have hk:k<w.heap.size:=(bw.1 h4).1
 obtain⟨e1,e2⟩:=ha dd (by rw[h1])
 refine⟨zs,dd,cur,T,h1,fun hd=>by rw[e2];exact h2 oM,h3,by rw[st.block k hk h8];exact h4,h5,fun j x hx=>?_,fun hf=>(st.fnew k hk hf).elim h7 h8,fun ho=>h8 (st.own k hk ho)⟩
 obtain⟨y,v,g1,g2,g3⟩:=h6 j x hx
 exact⟨y,v,g1,g2,g3.mono st.imm (st.immEq s)⟩

theorem adopt {nb:Nat} {F0 F:Nat→Prop} {L0 L:LMap} {h0 b l:List Row} {w0 w:World} (s:Sim F L (b++l) w) (st:Step nb F0 L0 h0 w0 F L (b++l) w) (hb:b.length=nb) {k:Nat} {zs:List AV} {cur:Array Value} {T:TypeId}
  (hk:w0.heap.size≤k) (Z5:w.heap[k]? = some (.cells cur T (0,0))) (aB:zs.length≤cur.size) (hz:∀(j:Nat) (x:AV),zs[j]? = some x→∃y v,x=.v y∧cur[j]? = some v∧RepI w F y v) (hF:¬F k) (hO:¬GC L (b++l) k) :
  ∃L':LMap,Sim F L' (b++(l++[.live 0 zs.length [zs]])) w∧Step nb F0 L0 h0 w0 F L' (b++(l++[.live 0 zs.length [zs]])) w∧L' (b.length+l.length) 0=some (.pl k 0 zs.length 1)∧(∀i v q,L i v=some q→L' i v=some q) ∧
   ∀k',GC L' (b++(l++[.live 0 zs.length [zs]])) k'→k'=k∨GC L (b++l) k':=by
 have ZOA:(b++l).length=b.length+l.length:=by simp
 have i5:L (b.length+l.length) 0=none:=by
  cases hq:L (b.length+l.length) 0 with
  |none=>rfl
  |some q=>exact absurd (s.lt hq) oM
 obtain⟨L',ZU,wY,HU⟩:∃L':LMap,L' (b.length+l.length) 0=some (.pl k 0 zs.length 1)∧(∀i v q,L i v=some q→L' i v=some q)∧∀i v,(i≠b.length+l.length∨v≠0)→L' i v=L i v:=by
  refine⟨fun i v=>if i=b.length+l.length∧v=0 then some (.pl k 0 zs.length 1) else L i v,by simp,?_,?_⟩
  ·intro i v q hl
   by_cases hi:i=b.length+l.length∧v=0
   ·obtain⟨rfl,rfl⟩:=hi
    rw[i5]at hl;cases hl
   ·simp[hi,hl]
  ·intro i v hi
   have:¬(i=b.length+l.length∧v=0):=fun ⟨a,b⟩=>hi.elim (fun h=>h a) (fun h=>h b)
   simp[this]
 have YH:∀j,j≠b.length+l.length→(b++(l++[Row.live 0 zs.length [zs]]))[j]? = (b++l)[j]?:=by
  intro j hj
  rw[←bf]
  by_cases yG:j<(b++l).length
  ·rw[aw yG]
  ·rw[cg (by simp;omega),cg oM]
 have bG:(b++(l++[Row.live 0 zs.length [zs]]))[b.length+l.length]? = some (.live 0 zs.length [zs]):=by
  rw[←bf,aq oM];simp
 have own:∀k',GC L' (b++(l++[Row.live 0 zs.length [zs]])) k'→k'=k∨GC L (b++l) k':=by
  rintro k' ⟨i,v,z,e1,q1,h1,h2,h3⟩
  by_cases hi:i=b.length+l.length
  ·subst hi
   rw[bG]at h1;cases h1
   rw[ZU]at h2;cases h2
   exact .inl h3.symm
  ·rw[YH i hi]at h1
   rw[HU i v (.inl hi)]at h2
   exact .inr ⟨i,v,z,e1,q1,h1,h2,h3⟩
 have mono:∀{x:AV} {v:Value},RepA w F L x v→RepA w F L' x v:=fun hx=>hx.mono (fun _ h=>h) (fun _ _=>rfl) wY
 have notk:∀{j v z els q1},(b++l)[j]? = some (.live v z els)→L j v=some q1→¬q1.on k:=fun h1 h2 e=>hO ⟨_,_,_,_,_,h1,h2,e⟩
 refine⟨L',⟨?_,?_,?_,fun q hq=>⟨(s.imm q hq).1,fun ho=>(own q ho).elim (fun e=>hF (e▸hq)) (fun ho=>(s.imm q hq).2 ho)⟩,s.glob⟩,
  ⟨st.imm,fun i v q hi hq=>wY i v q (st.loc i v q hi hq),st.os,st.tape,st.output,st.size,st.block,fun q hq ho=>(own q ho).elim (fun e=>by omega) (fun ho=>st.own q hq ho),fun i hi v hv=>?_,st.fnew⟩,ZU,wY,own⟩
 ·intro j v z e1 hj
  by_cases fF:j=b.length+l.length
  ·subst fF
   rw[bG]at hj
   cases hj
   refine⟨_,ZU,rfl,by simp,by decide,cur,T,Z5,by omega,fun k' row hk'=>?_,fun k' row jj c hk' hj'=>?_⟩
   ·cases k' with
    |zero=>simp at hk';subst hk';rfl
    |succ k'=>simp at hk'
   ·cases k' with
    |zero =>
      simp at hk';subst hk'
      obtain⟨y,v,g1,g2,g3⟩:=hz jj c hj'
      subst g1
      exact⟨rfl,v,by simpa using g2,.v _ _ g3⟩
    |succ k'=>simp at hk'
  ·rw[YH j fF]at hj
   obtain⟨q,aO,IU⟩:=s.row j v z e1 hj
   exact⟨q,wY _ _ _ aO,IU.mono (fun _ _=>rfl) (fun _ _=>mono)⟩
 ·intro i v q aO
  by_cases hi:i=b.length+l.length
  ·subst hi
   refine⟨_,bG,?_⟩
   by_cases hv:v=0
   ·subst hv;exact ai _
   ·rw[HU _ v (.inr hv)]at aO
    exact absurd (s.lt aO) oM
  ·rw[HU i v (.inl hi)]at aO
   obtain⟨r,h1,h2⟩:=s.born _ _ _ aO
   exact⟨r,by rw[YH i hi];exact h1,h2⟩
 ·intro i i' v v' z z' e1 e2 bb q1 q2 h1 h2 h3 h4 h5 h6
  by_cases hi:i=b.length+l.length
  ·by_cases hi':i'=b.length+l.length
   ·rw[hi,hi']
   ·subst hi
    rw[bG]at h1;cases h1
    rw[ZU]at h3;cases h3
    rw[YH i' hi']at h2
    rw[HU i' v' (.inl hi')]at h4
    have h5:k=bb:=h5
    exact absurd (h5▸h6) (notk h2 h4)
  ·by_cases hi':i'=b.length+l.length
   ·subst hi'
    rw[bG]at h2;cases h2
    rw[ZU]at h4;cases h4
    rw[YH i hi]at h1
    rw[HU i v (.inl hi)]at h3
    have h6:k=bb:=h6
    exact absurd (h6▸h5) (notk h1 h3)
   ·rw[YH i hi]at h1
    rw[YH i' hi']at h2
    rw[HU i v (.inl hi)]at h3
    rw[HU i' v' (.inl hi')]at h4
    exact s.apart i i' v v' z z' e1 e2 bb q1 q2 h1 h2 h3 h4 h5 h6
 ·rw[YH i oM];exact st.base i hi v hv

structure DSt (P:Program) (imm:Bool) (ops:Array Oper) (fin:List Nat) (π:List DOper) (listed:Array Bool):Prop where
 size:listed.size=ops.size
 unl:∀j,j<ops.size→listed.getD j true=false→j∈π.map (·.i)
 al:∀d∈π,listed.getD d.i false=true→d.o.op.isAlloc=true
 lt:∀d∈π,d.i<ops.size
 cl:∀(j:Nat) (o:Oper),ops[j]? = some o→listed.getD j false=true→∀ed∈o.after,Region.binds .any ed=true→listed.getD ed.on false=true
 nd:(π.map (·.i)).Nodup
 facts:∀d∈π,XR d=true∧(d.o.op.quiet=true→d.re=[])∧US d.o=true∧∃o,ops[d.i]? = some o∧PY P imm o.op=some d.o.op∧vR ops o.guard=some d.o.guard∧d.o.dst=o.dst
 pw:π.Pairwise (ZCd ops fin)

theorem DSt.sub {imm:Bool} {ops:Array Oper} {fin:List Nat} {π π':List DOper} {listed:Array Bool} (h:DSt P imm ops fin π listed) (hs:π'.Sublist π) (hu:∀j,j<ops.size→listed.getD j true=false→j∈π'.map (·.i)):DSt P imm ops fin π' listed:=
 ⟨h.size,hu,fun d hd=>h.al d (hs.subset hd),fun d hd=>h.lt d (hs.subset hd),h.cl,h.nd.sublist (hs.map _),fun d hd=>h.facts d (hs.subset hd),h.pw.sublist hs⟩

structure DInv (C:CallP) (Q:List AV→List Row→List Row→Prop) (nb:Nat) (F0:Nat→Prop) (L0:LMap) (h0:List Row) (w0:World) (π:List DOper) (listed:Array Bool)
  (e:List AV) (b l:List Row) (F:Nat→Prop) (L:LMap) (w:World) (a:Act) (f:Nat→Nat):Prop where
 run:TG C π e b l Q
 len:b.length=nb
 sim:Sim F L (b++l) w
 env:MB w F L e a
 step:Step nb F0 L0 h0 w0 F L (b++l) w
 res:∀d∈π,listed.getD d.i false=true→KU w0 w F L (b++l) a d (f d.i)
 inj:∀d∈π,∀d'∈π,listed.getD d.i false=true→listed.getD d'.i false=true→f d.i=f d'.i→d.i=d'.i

theorem H4 {o:AOper} (h:US o=true) (ha:o.op.isAlloc=true):∃zs dd,o=⟨some dd,.alloc zs,none⟩:=by
 obtain⟨d,op,g⟩:=o
 cases op<;>first|(cases ha;done)|skip
 rename_i zs
 simp only[US,AOp.isAlloc,iu,gj,ar,Option.isNone_iff_eq_none]at h
 obtain⟨h1,h2⟩:=h
 cases d with
 |none=>cases h2
 |some d=>exact⟨zs,d,by rw[h1]⟩

theorem rW {o:Op} {zs:List AV} (II:cOp P o=some (.alloc zs)):∃t,o=.alloc t∧aF P t=some zs:=by
 unfold cOp at II
 repeat' split at II
 all_goals first
  |(cases II;done)
  |(obtain⟨y,h1,h2⟩:=map_some II;cases h2;exact⟨_,rfl,h1⟩)
  |(obtain⟨_,_,h⟩:=map_some II;cases h;done)
  |(obtain⟨_,_,II⟩:=bind_some II;obtain⟨_,_,II⟩:=bind_some II;cases II;done)
  |(obtain⟨_,_,II⟩:=bind_some II;obtain⟨_,_,II⟩:=bind_some II;obtain⟨_,_,II⟩:=bind_some II;cases II;done)

theorem n7 {imm:Bool} {o:Op} {zs:List AV} (II:PY P imm o=some (.alloc zs)):∃t,o=.alloc t∧aF P t=some zs:=by
 unfold PY at II
 split at II
 ·obtain⟨y,h1,h2⟩:=map_some II
  cases y<;>first|(cases h2;done)|skip
  cases h2
  exact rW h1
 ·exact rW II

theorem D4 {imm:Bool} {C:CallP} (qS:∀f args b l (Q Q':AV→List Row→List Row→Prop),C f args b l Q→(∀x b' l',Q x b' l'→Q' x b' l')→C f args b l Q')
  {ops:Array Oper} {fin:List Nat} {nb:Nat} {F0:Nat→Prop} {L0:LMap} {h0:List Row} {w0:World} {Q:List AV→List Row→List Row→Prop} {listed:Array Bool} {rest:List DOper} {a:Act} {w:World} {f:Nat→Nat} {F:Nat→Prop} :
  ∀(n:Nat) (p1:List DOper) (e:List AV) (b l:List Row) (L:LMap),p1.length=n→(∀d∈p1,d.o.op.quiet=true∨listed.getD d.i false=true)→DSt P imm ops fin (p1++rest) listed→DInv C Q nb F0 L0 h0 w0 (p1++rest) listed e b l F L w a f →
   ∃p1' e' l' L',(∀d∈p1',d.o.op.quiet=true∧d∈p1)∧p1'.Sublist p1∧p1'.filter (fun d=>!listed.getD d.i false)=p1.filter (fun d=>!listed.getD d.i false)∧DSt P imm ops fin (p1'++rest) listed∧DInv C Q nb F0 L0 h0 w0 (p1'++rest) listed e' b l' F L' w a f:=by
 intro n
 induction n with
 |zero =>
   intro p1 e b l L hn _ hd hi
   have:p1=[]:=ct hn
   subst this
   exact⟨[],e,l,L,by simp,ix _,rfl,hd,hi⟩
 |succ n ih =>
   intro p1 e b l L hn hq hd hi
   by_cases wF:∀d∈p1,d.o.op.quiet=true
   ·exact⟨p1,e,l,L,fun d hdd=>⟨wF d hdd,hdd⟩,ix _,rfl,hd,hi⟩
   ·-- the first that is not quiet
    obtain⟨q1,A,q2,hp1,hq1,hA⟩:∃q1 A q2,p1=q1++A::q2∧(∀d∈q1,d.o.op.quiet=true)∧¬A.o.op.quiet=true:=by
     clear ih hn hd hi hq
     induction p1 with
     |nil=>exact absurd kS wF
     |cons x p1 ihp =>
       by_cases hx:x.o.op.quiet=true
       ·obtain⟨q1,A,q2,h1,h2,h3⟩:=ihp (fun h=>wF (by
         intro d hd
         rcases cz.1 hd with rfl|hd
         ·exact hx
         ·exact h d hd))
        exact⟨x::q1,A,q2,by rw[h1];rfl,fun d hd=>by
         rcases cz.1 hd with rfl|hd
         ·exact hx
         ·exact h2 d hd,h3⟩
       ·exact⟨[],x,p1,rfl,by simp,hx⟩
    subst hp1
    have hAl:listed.getD A.i false=true:=(hq A kS).resolve_left hA
    have ZCg:A∈(q1++A::q2)++rest:=by simp
    obtain⟨kY,_,AY,_⟩:=hd.facts A ZCg
    obtain⟨zs,dd,hAo⟩:=H4 AY (hd.al A ZCg hAl)
    obtain⟨zs',dd',cur,T,g1,g2,g3,g4,g5,g6,g7,g8⟩:=hi.res A ZCg hAl
    rw[hAo]at g1
    cases g1
    have hpw:=hd.pw
    rw[bf,da]at hpw
    have LY:=jx.1 hpw
    have hpr:∀x∈q1,ZCd ops fin x A:=fun x hx=>LY.2.2 x hx A kS
    have hun:∀x∈q1,anc ops x.i ops.size A.i=false:=by
     intro x hx
     cases ha:anc ops x.i ops.size A.i with
     |false=>rfl
     |true =>
       exfalso
       have hl:=RN hd.cl (fun o2 ho2 ed hed S4=>hd.cl A.i o2 ho2 hAl ed hed S4) ha
       have:=hd.al x (by simp[hx]) hl
       have hxq:=hq1 x hx
       rw[TH hxq]at this;cases this
    have YD:=hi.run
    rw[bf,da]at YD
    have gM:=ZFV qS YD (fun x hx=>⟨hq1 x hx,(hd.facts x (by simp[hx])).2.1 (hq1 x hx)⟩) (dP (fun x hx=>⟨hq1 x hx,fun hm=>by
     have:=(CB (hpr x hx).1).2.2 hm
     rw[hun x hx]at this;cases this⟩) (fun x hx=>(hd.facts x (by simp[hx])).1) LY.1)
     (fun x hx n hn=>⟨((CB (hpr x hx).1).1 n hn).1 (.inl (hq1 x hx)) (.inr (.inl (hun x hx))),((CB (hpr x hx).1).1 n hn).2.1⟩) (fun x hx n hn=>((CB (hpr x hx).1).2.1 (hun x hx)).2 n hn)
     (.inr fun x hx=>((hpr x hx).2 (hq1 x hx) (hun x hx)).resolve_left hA)
    rw[hAo]at gM
    simp only[gd,uE,if_true,aop,mk,uK]at gM
    obtain⟨L',r1,r2,r3,r4,r5⟩:=adopt hi.sim hi.step hi.len g3 g4 g5 g6 g7 g8
    have ON:(q1++q2++rest).Sublist ((q1++A::q2)++rest):=jy (jy (ix _) (lj _ _)) (ix _)
    have ZLJ:∀x∈q1++q2++rest,x.i≠A.i:=by
     intro x hx jS
     have hnd:=hd.nd
     simp only[bj,bh,bf,da]at hnd
     rw[ib]at hnd
     obtain⟨n1,n2,n3⟩:=hnd
     simp only[bf,bu]at hx
     rcases hx with hx|hx
     ·exact n3 _ (co.2 ⟨x,hx,rfl⟩) _ kS jS
     ·exact (jz.1 n2).1 (by rw[←jS,bu];exact hx.elim (fun hx=>.inl (co.2 ⟨x,hx,rfl⟩)) (fun hx=>.inr (co.2 ⟨x,hx,rfl⟩)))
    have hd':DSt P imm ops fin (q1++q2++rest) listed:=hd.sub ON (fun j hj yG=>by
     have:=hd.unl j hj yG
     simp only[bj,bh,bu,cz]at this⊢
     rcases this with (h|h|h)|h
     ·exact .inl (.inl h)
     ·exfalso
      subst h
      have:A.i<listed.size:=by rw[hd.size];exact hj
      simp[this]at hAl yG
      rw[hAl]at yG;cases yG
     ·exact .inl (.inr h)
     ·exact .inr h)
    have ZKH:MB w F L' (put e (some dd) (.ptr (b.length+l.length) 0 0 0)) a:=by
     have he:=hi.env.mono (L':=L') (fun _ h=>h) (fun _ _=>rfl) r4
     refine⟨he.1,by rw[he.2.1,yL],fun i x v hx hv=>?_⟩
     simp only[put,QK]at hx
     by_cases hid:dd=i
     ·subst hid
      have qP:dd<a.tmps.size:=(bw.1 hv).1
      rw[ba (by rw[←he.2.1];exact qP)]at hx
      cases hx
      rw[g2 qP]at hv
      cases hv
      have:=RepA.ptr (w:=w) (F:=F) (b.length+l.length) 0 0 0 _ _ _ _ r3
      simpa using this
     ·rw[bo hid]at hx
      exact he.2.2 i x v hx hv
    have ZKI:∀d∈q1++q2++rest,listed.getD d.i false=true→KU w0 w F L' (b++(l++[.live 0 zs.length [zs]])) a d (f d.i):=by
     intro d P8 hdl
     obtain⟨zs2,dd2,cur2,T2,h1,h2,h3,h4,h5,h6,h7,h8⟩:=hi.res d (ON.subset P8) hdl
     refine⟨zs2,dd2,cur2,T2,h1,h2,h3,h4,h5,h6,h7,fun ho=>(r5 _ ho).elim (fun hk=>?_) h8⟩
     exact ZLJ d P8 (hi.inj d (ON.subset P8) A ZCg hdl hAl hk)
    have hi':DInv C Q nb F0 L0 h0 w0 (q1++q2++rest) listed (put e (some dd) (.ptr (b.length+l.length) 0 0 0)) b (l++[.live 0 zs.length [zs]]) F L' w a f:=
     ⟨by rw[bf];exact gM,hi.len,r1,ZKH,r2,ZKI,fun d P8 d' hdm' h1 h2 h3=>hi.inj d (ON.subset P8) d' (ON.subset hdm') h1 h2 h3⟩
    have hmv:∀d∈q1++q2,d∈q1++A::q2:=fun d P8=>by
     rw[bu]at P8⊢
     exact P8.elim .inl (fun h=>.inr (li _ h))
    obtain⟨p1',e',l',L2,k1,k2,k3,k4,k5⟩:=ih (q1++q2) _ b _ L' (by simp at hn⊢;omega) (fun d P8=>hq d (hmv d P8)) hd' hi'
    refine⟨p1',e',l',L2,fun d P8=>⟨(k1 d P8).1,hmv d (k1 d P8).2⟩,k2.trans (jy (ix _) (lj _ _)),?_,k4,k5⟩
    rw[k3]
    rw[gq,gq,jl]
    simp only[hAl,iu,dw,if_false]

theorem ZEY {imm:Bool} {C:CallP} (hC:∀f args b l Q,C f args b l Q→QA P f args b l Q) (qS:∀f args b l (Q Q':AV→List Row→List Row→Prop),C f args b l Q→(∀x b' l',Q x b' l'→Q' x b' l')→C f args b l Q')
  {ops:Array Oper} {fin:List Nat} {rk:Nat→Nat} (ZFf:∀(i:Nat) (o:Oper),ops[i]? = some o→∀ed∈o.after,Region.binds .any ed=true→ed.on<ops.size∧rk ed.on<rk i) {nb:Nat} {F0:Nat→Prop} {L0:LMap} {h0:List Row} {w0:World} {Q:List AV→List Row→List Row→Prop} {Q':Exit→Act→World→Prop}
  (hQ:∀e' b' l' F' L' a' w',Q e' b' l'→Sim F' L' (b'++l') w'→MB w' F' L' e' a'→Step nb F0 L0 h0 w0 F' L' (b'++l') w'→b'.length=nb→Q' .normal a' w') :
  ∀(n:Nat) (π:List DOper) (listed:Array Bool),(π.filter (fun d=>!listed.getD d.i false)).length=n→DSt P imm ops fin π listed →
   ∀e b l F L w a f,DInv C Q nb F0 L0 h0 w0 π listed e b l F L w a f→wpAny P .any ops Q' n listed a w:=by
 intro n
 induction n with
 |zero =>
   intro π listed hn hd e b l F L w a f hi
   have ZIf:∀d∈π,listed.getD d.i false=true:=by
    intro d P8
    have:=ct hn
    have:=List.filter_eq_nil_iff.1 this d P8
    simpa using this
   obtain⟨p1',e',l',L',k1,k2,k3,k4,k5⟩:=D4 qS π.length π e b l L rfl (fun d P8=>.inr (ZIf d P8)) (rest:=[]) (by simpa using hd) (by simpa using hi)
   have ZMx:p1'=[]:=by
    cases hp:p1' with
    |nil=>rfl
    |cons d ds =>
      exfalso
      have hd1:=k1 d (by rw[hp];simp)
      have ha:=hd.al d hd1.2 (ZIf d hd1.2)
      rw[TH hd1.1]at ha;cases ha
   subst ZMx
   refine⟨?_,hQ _ _ _ _ _ _ _ k5.run k5.sim k5.env k5.step k5.len⟩
   cases hr:Region.ready .any ops listed with
   |nil=>rfl
   |cons j js =>
     have hj:j∈Region.ready .any ops listed:=by rw[hr];simp
     obtain⟨h1,o,h2,_⟩:=mem_ready.1 hj
     have:=k4.unl j (bw.1 h2).1 h1
     simp at this
 |succ n ih =>
   intro π listed hn hd e b l F L w a f hi
   have unlD:∀d∈π,listed.getD d.i false=false→listed.getD d.i true=false:=by
    intro d P8 hl
    have:d.i<listed.size:=by rw[hd.size];exact hd.lt d P8
    simp[this]at hl⊢;exact hl
   refine⟨fun hr=>?_,fun j hj=>?_⟩
   ·-- there is always one that is ready: the least that is left
    exfalso
    have hex:∃m,(m<ops.size∧listed.getD m true=false)∧∀m',(m'<ops.size∧listed.getD m' true=false)→rk m≤rk m':=by
     cases hπ:π.filter (fun d=>!listed.getD d.i false) with
     |nil=>rw[hπ]at hn;simp at hn
     |cons d ds =>
       have hdf:d∈π.filter (fun d=>!listed.getD d.i false):=by rw[hπ];simp
       obtain⟨hd1,hd2⟩:=jm.1 hdf
       obtain⟨r,⟨m,hm1,hm2,hm3⟩,ZJv⟩:=exists_least (p:=fun r=>∃m,m<ops.size∧listed.getD m true=false∧rk m=r) ⟨rk d.i,d.i,hd.lt d hd1,unlD d hd1 (by simpa using hd2),rfl⟩
       exact⟨m,⟨hm1,hm2⟩,fun m' h'=>by rw[hm3];exact ZJv _ ⟨m',h'.1,h'.2,rfl⟩⟩
    obtain⟨m,⟨hm1,hm2⟩,hm3⟩:=hex
    have hmr:m∈Region.ready .any ops listed:=by
     refine mem_ready.2 ⟨hm2,ops[m],fx hm1,fun ed hed S4=>?_⟩
     obtain⟨ZLk,hon⟩:=ZFf m _ (fx hm1) ed hed S4
     cases hl:listed.getD ed.on false with
     |true=>rfl
     |false =>
       have ZMy:ed.on<listed.size:=by rw[hd.size];exact ZLk
       have hlf:listed.getD ed.on true=false:=by simp[ZMy]at hl⊢;exact hl
       have:=hm3 ed.on ⟨ZLk,hlf⟩
       omega
    rw[hr]at hmr
    cases hmr
   ·obtain⟨hj1,o,ho,hj2⟩:=mem_ready.1 hj
    have hjs:j<ops.size:=(bw.1 ho).1
    obtain⟨d,P8,rfl⟩:=co.1 (hd.unl j hjs hj1)
    have ZIF:d.i<listed.size:=by rw[hd.size];exact hjs
    have hdl:listed.getD d.i false=false:=by simp[ZIF]at hj1⊢;exact hj1
    obtain⟨kY,ZMt,AY,o',ho',II,zS,gY⟩:=hd.facts d P8
    rw[ho]at ho'
    cases ho'
    have setSize:(listed.setIfInBounds d.i true).size=ops.size:=by simp[hd.size]
    have setCl:∀(j:Nat) (o:Oper),ops[j]? = some o→(listed.setIfInBounds d.i true).getD j false=true→∀ed∈o.after,Region.binds .any ed=true→(listed.setIfInBounds d.i true).getD ed.on false=true:=by
     intro j o2 ho2 yG ed hed S4
     by_cases hjd:d.i=j
     ·subst hjd
      rw[ho]at ho2;cases ho2
      exact getD_set_true (hj2 ed hed S4)
     ·rw[getD_set_ne false hjd]at yG
      exact getD_set_true (hd.cl j o2 ho2 yG ed hed S4)
    by_cases hal:d.o.op.isAlloc=true
    ·-- a new variable,ahead of its turn
     obtain⟨zs,dd,hdo⟩:=H4 AY hal
     rw[hdo]at II zS gY
     obtain⟨t,hot,hzt⟩:∃t,o.op=.alloc t∧aF P t=some zs:=by
      exact n7 II
     obtain⟨p1,p2,hπ⟩:=ka P8
     have ZMz:d=⟨d.i,⟨some dd,.alloc zs,none⟩,d.re⟩:=by rw[←hdo]
     have hw:Region.wanted o (yielded ops a.tmps)=true:=ZFc hi.env zS rfl
     unfold wpOp
     rw[ho]
     simp only[hw,if_true]
     unfold aF at hzt
     split at hzt
     case h_2=>cases hzt
     rename_i inf IW
     split at hzt
     case h_2=>cases hzt
     rename_i z lX
     have hex:(execOp a.eval o).run P w=.ok (.value (.pointer (some ⟨w.heap.size,0,none⟩))) (w.alloc (.cells z.cells t)):=by
      simp[execOp,hot,Instr.alloc,zeroValue,typeInfo,IW,lX,newVar,newRow]
     refine .inl ?_
     unfold Oper.wp
     rw[hex]
     show wpAny P .any ops Q' n (listed.setIfInBounds d.i true) (a.put o.dst (.pointer (some ⟨w.heap.size,0,none⟩))) (w.alloc (.cells z.cells t))
     have ZNA:o.dst=some dd:=gY.symm
     rw[ZNA]
     obtain⟨s1,st1,nF,nO⟩:=ZGl hi.sim (.cells z.cells t) nb
     obtain⟨c1,c2⟩:=YF (w:=w.alloc (.cells z.cells t)) (F:=F) (L:=L) hzt
     have hpw:=hd.pw
     have hnd:=hd.nd
     rw[hπ]at hpw hnd
     have LY:=jx.1 hpw
     rw[bj,bh,ib]at hnd
     obtain⟨n1,n2,n3⟩:=hnd
     have ne1:∀x∈p1,d.i≠x.i:=fun x hx jS=>n3 _ (co.2 ⟨x,hx,rfl⟩) _ kS jS.symm
     have ne2:∀x∈p2,d.i≠x.i:=fun x hx jS=>(jz.1 n2).1 (by rw[jS];exact co.2 ⟨x,hx,rfl⟩)
     have ZCh:d.o.dst=some dd:=by rw[hdo]
     have ZNB:∀x∈π,x.i≠d.i→x.o.dst≠some dd:=by
      intro x hx jS
      rw[hπ,bu]at hx
      rcases hx with hx|hx
      ·exact ((CB (LY.2.2 x hx d kS).1).1 dd ZCh).2.1
      ·rcases cz.1 hx with rfl|hx
       ·exact absurd rfl jS
       ·intro hxd
        exact ((CB ((List.pairwise_cons.1 LY.2.1).1 x hx).1).1 dd hxd).2.1 ZCh
     have hps:(a.put (some dd) (.pointer (some ⟨w.heap.size,0,none⟩))).tmps.size=a.tmps.size:=by simp[Act.put]
     have hpo:∀j,dd≠j→(a.put (some dd) (.pointer (some ⟨w.heap.size,0,none⟩))).tmps[j]? = a.tmps[j]?:=fun j hj=>by
      simp only[Act.put];rw[io hj]
     have YD:TG C π (put e (some dd) .any) b l Q:=by
      have hr:=hi.run
      rw[hπ,ZMz]at hr⊢
      refine zK qS (yQ kY (.inr hal) dd ZCh).2 (fun c hc=>?_) hr
      have:=(CB (LY.2.2 c hc d kS).1).1 dd ZCh
      exact⟨this.1 (.inr hal) (.inr (.inr hal)),this.2.1,this.2.2 hal⟩
     have old:∀c∈π,c.i≠d.i→(listed.setIfInBounds d.i true).getD c.i false=true→listed.getD c.i false=true:=fun c hc rV bM=>by rw[getD_set_ne false rV.symm]at bM;exact bM
     have lt:∀c∈π,listed.getD c.i false=true→f c.i<w.heap.size:=fun c hc bM=>by
      obtain⟨_,_,cur,T,_,_,_,h4,_⟩:=hi.res c hc bM
      exact (bw.1 h4).1
     have uniq:∀c∈π,c.i=d.i→c=d:=by
      intro c hc rV
      rw[hπ,bu]at hc
      rcases hc with hc|hc
      ·exact absurd rV.symm (ne1 c hc)
      ·rcases cz.1 hc with h|hc
       ·exact h
       ·exact absurd rV.symm (ne2 c hc)
     refine ih π (listed.setIfInBounds d.i true) ?_ ⟨setSize,fun j hj yG=>?_,fun c hc bM=>?_,hd.lt,setCl,hd.nd,hd.facts,hd.pw⟩ (put e (some dd) .any) b l F L _ _ (fun i=>if i=d.i then w.heap.size else f i)
      ⟨YD,hi.len,s1,(hi.env.mono (fun _ h=>h) (st1.immEq hi.sim) (fun _ _ _ h=>h)).put (some dd) (RepA.any _),hi.step.trans st1,fun c hc bM=>?_,fun c hc c' hc' bM hcl' fX=>?_⟩
     ·have e1:=GT (listed:=listed) ne1
      have e2:=GT (listed:=listed) ne2
      rw[hπ,gq,jl]at hn⊢
      rw[e1,e2]
      rw[hdl]at hn
      have:(listed.setIfInBounds d.i true).getD d.i false=true:=by simp[ZIF]
      rw[this]
      simp at hn⊢
      omega
     ·by_cases hjd:d.i=j
      ·subst hjd;simp[ZIF]at yG
      ·rw[getD_set_ne true hjd]at yG;exact hd.unl j hj yG
     ·by_cases rV:c.i=d.i
      ·rw[uniq c hc rV];exact hal
      ·exact hd.al c hc (old c hc rV bM)
     ·by_cases rV:c.i=d.i
      ·rw[if_pos rV,uniq c hc rV]
       refine⟨zs,dd,z.cells,t,hdo,fun hdd=>?_,hi.step.size,?_,?_,fun j x hx=>?_,nF,nO⟩
       ·simp only[Act.put]at hdd⊢
        rw[jt]
        simp at hdd⊢
        exact hdd
       ·show (w.heap.push _)[w.heap.size]? = _
        simp
       ·have:=c1.1;simp at this;omega
       ·obtain⟨y,rfl⟩:=ZIU hzt x (ci hx)
        obtain⟨u,hu,hr⟩:=c1.get hx
        cases hr with
        |v _ _ hr=>exact⟨y,u,rfl,by simpa using hu,hr⟩
      ·rw[if_neg rV]
       refine (hi.res c hc (old c hc rV bM)).step hi.sim st1 (fun j hj=>⟨hps,hpo j ?_⟩)
       rintro rfl
       exact ZNB c hc rV hj
     ·by_cases rV:c.i=d.i
      ·by_cases hci':c'.i=d.i
       ·rw[rV,hci']
       ·rw[if_pos rV,if_neg hci']at fX
        have:=lt c' hc' (old c' hc' hci' hcl')
        omega
      ·by_cases hci':c'.i=d.i
       ·rw[if_neg rV,if_pos hci']at fX
        have:=lt c hc (old c hc rV bM)
        omega
       ·rw[if_neg rV,if_neg hci']at fX
        exact hi.inj c hc c' hc' (old c hc rV bM) (old c' hc' hci' hcl') fX
    ·obtain⟨p1,p2,hπ⟩:=ka P8
     subst hπ
     have hal:d.o.op.isAlloc=false:=by simpa using hal
     have ZIg:∀x,x∈p1→listed.getD x.i false=false→anc ops x.i ops.size d.i=false:=by
      intro x hx hxl
      cases ha:anc ops x.i ops.size d.i with
      |false=>rfl
      |true =>
        have hl:=RN hd.cl (fun o2 ho2 ed hed S4=>by rw[ho]at ho2;cases ho2;exact hj2 ed hed S4) ha
        rw[hxl]at hl;cases hl
     have ZNC:=jx.1 hd.pw
     have hqO:∀x∈p1,x.o.op.quiet=true∨listed.getD x.i false=true:=by
      intro x hx
      cases hxl:listed.getD x.i false with
      |true=>exact .inr rfl
      |false =>
        refine .inl ((((CB (ZNC.2.2 x hx d kS).1).2.1 (ZIg x hx hxl)).1).resolve_right ?_)
        rw[hal];simp
     obtain⟨q1,e',l',L',k1,k2,k3,hd',hi'⟩:=D4 qS p1.length p1 e b l L rfl hqO (rest:=d::p2) hd hi
     have LY:=jx.1 hd'.pw
     have hq:∀x∈q1,x.o.op.quiet=true:=fun x hx=>(k1 x hx).1
     have hql:∀x∈q1,listed.getD x.i false=false:=by
      intro x hx
      cases hxl:listed.getD x.i false with
      |false=>rfl
      |true =>
        have:=hd'.al x (by simp[hx]) hxl
        rw[TH (hq x hx)]at this;cases this
     have ZIG:∀x∈q1,anc ops x.i ops.size d.i=false:=fun x hx=>ZIg x (k1 x hx).2 (hql x hx)
     have hpr:∀x∈q1,ZCd ops fin x d:=fun x hx=>LY.2.2 x hx d kS
     have gM:=ZFV qS hi'.run (fun x hx=>⟨hq x hx,(hd'.facts x (by simp[hx])).2.1 (hq x hx)⟩) (dP (fun x hx=>⟨hq x hx,fun hm=>by
      have:=(CB (hpr x hx).1).2.2 hm
      rw[ZIG x hx]at this;cases this⟩) (fun x hx=>(hd'.facts x (by simp[hx])).1) LY.1)
      (fun x hx n hn=>⟨((CB (hpr x hx).1).1 n hn).1 (.inl (hq x hx)) (.inr (.inl (ZIG x hx))),((CB (hpr x hx).1).1 n hn).2.1⟩) (fun x hx n hn=>((CB (hpr x hx).1).2.1 (ZIG x hx)).2 n hn)
      (by
       cases hqd:d.o.op.quiet with
       |true=>exact .inl rfl
       |false=>exact .inr fun x hx=>((hpr x hx).2 (hq x hx) (ZIG x hx)).resolve_left (by rw[hqd];simp))
     have ON:(q1++p2).Sublist (q1++d::p2):=jy (ix _) (lj _ _)
     have hnd:=hd'.nd
     rw[bj,bh,ib]at hnd
     obtain⟨n1,n2,n3⟩:=hnd
     have ne1:∀x∈q1,d.i≠x.i:=fun x hx jS=>n3 _ (co.2 ⟨x,hx,rfl⟩) _ kS jS.symm
     have ne2:∀x∈p2,d.i≠x.i:=fun x hx jS=>(jz.1 n2).1 (by rw[jS];exact co.2 ⟨x,hx,rfl⟩)
     have ne:∀x∈q1++p2,d.i≠x.i:=fun x hx=>(bu.1 hx).elim (ne1 x) (ne2 x)
     have old:∀c∈q1++p2,(listed.setIfInBounds d.i true).getD c.i false=true→listed.getD c.i false=true:=fun c hc bM=>by rw[getD_set_ne false (ne c hc)]at bM;exact bM
     have next:∀e2 b2 l2 F2 L2 a2 w2,TG C (q1++p2) e2 b2 l2 Q→Sim F2 L2 (b2++l2) w2→MB w2 F2 L2 e2 a2→Step nb F L' (b++l') w F2 L2 (b2++l2) w2→b2.length=nb→(∃v,a2=a.put d.o.dst v)→wpAny P .any ops Q' n (listed.setIfInBounds d.i true) a2 w2:=by
      rintro e2 b2 l2 F2 L2 a2 w2 hk s2 gJ st2 gR ⟨v,rfl⟩
      refine ih (q1++p2) (listed.setIfInBounds d.i true) ?_ ⟨setSize,fun j hj yG=>?_,fun c hc bM=>hd'.al c (ON.subset hc) (old c hc bM),fun c hc=>hd'.lt c (ON.subset hc),setCl,hd'.nd.sublist (ON.map _),fun c hc=>hd'.facts c (ON.subset hc),hd'.pw.sublist ON⟩ e2 b2 l2 F2 L2 w2 _ f
       ⟨hk,gR,s2,gJ,hi'.step.trans st2,fun c hc bM=>?_,fun c hc c' hc' bM hcl' fX=>hi'.inj c (ON.subset hc) c' (ON.subset hc') (old c hc bM) (old c' hc' hcl') fX⟩
      ·rw[gq,jl,hdl]at hn
       rw[GT ne,gq,k3]
       simp at hn⊢
       omega
      ·by_cases hjd:d.i=j
       ·subst hjd;simp[ZIF]at yG
       ·rw[getD_set_ne true hjd]at yG
        have:=hd'.unl j hj yG
        simp only[bj,bh,bu,cz]at this⊢
        rcases this with h1|h1|h1
        ·exact .inl h1
        ·exact absurd h1.symm hjd
        ·exact .inr h1
      ·refine (hi'.res c (ON.subset hc) (old c hc bM)).step hi'.sim st2 (fun j hj=>⟨by cases hdd:d.o.dst<;>simp[Act.put],?_⟩)
       have hcp:c∈p2:=by
        refine (bu.1 hc).resolve_left (fun h=>?_)
        have:=hql c h
        rw[old c hc bM]at this;cases this
       have hdj:d.o.dst≠some j:=((CB ((List.pairwise_cons.1 LY.2.1).1 c hcp).1).1 j hj).2.1
       cases hdd:d.o.dst with
       |none=>rfl
       |some m =>
         have:m≠j:=fun e=>hdj (by rw[hdd,e])
         simp only[Act.put]
         rw[io this]
     unfold wpOp
     rw[ho]
     simp only
     unfold uE at gM
     split at gM
     case h_2=>exact gM.elim
     rename_i t hg
     rw[ZFc hi'.env zS hg]
     cases t
     ·simp only[dw,if_false]at gM⊢
      rw[←gY]
      exact next _ _ _ F L' _ w gM hi'.sim (hi'.env.put d.o.dst (RepA.undef _ _ _)) (Step.refl _ _ _ _ _) hi'.len ⟨_,rfl⟩
     ·simp only[if_true]at gM⊢
      rw[gY]at gM
      refine .inl (ZIN II hC (K:=fun e b l=>TG C (q1++p2) e b l Q) gM hi'.sim hi'.env Q' ?_)
      intro e2 b2 l2 F2 L2 a2 w2 hk s2 gJ st2 gR ha2
      exact next e2 b2 l2 F2 L2 a2 w2 hk s2 gJ (hi'.len▸st2) (gR.trans hi'.len) (by rw[gY];exact ha2)

theorem j7 {ops:Array Oper} {is:List Nat} (h:JY ops is=true) (aB:is.length=ops.size) (yA:∀j∈is,j<ops.size):∀(i:Nat) (o:Oper),ops[i]? = some o→∀ed∈o.after,Region.binds .any ed=true→ed.on<ops.size∧FM is ed.on<FM is i:=by
 intro i o ho ed hed S4
 have hi:i<ops.size:=(bw.1 ho).1
 unfold JY at h
 have h1:=bl.1 h i (by simpa using hi)
 rw[ho]at h1
 have h2:=bl.1 h1 ed (by simpa using hed)
 rw[S4]at h2
 have h3:FM is ed.on<FM is i:=by simpa using h2
 refine⟨?_,h3⟩
 have h4:FM is i≤is.length:=List.findIdx_le_length
 have h5:is.findIdx (· == ed.on)<is.length:=by unfold FM at h3 h4;omega
 have h6:=List.findIdx_getElem (w:=h5)
 have h7:is[is.findIdx (· == ed.on)]=ed.on:=by simpa using h6
 rw[←h7]
 exact yA _ (ak h5)
inductive Path (ops:Array Oper):Nat→Array Bool→List Nat→Prop
 |out {listed:Array Bool}:Path ops 0 listed []
 |stop {n:Nat} {listed:Array Bool}:Region.ready .any ops listed=[]→Path ops n listed []
 |cons {n j:Nat} {listed:Array Bool} {is:List Nat}:j∈Region.ready .any ops listed→Path ops n (listed.setIfInBounds j true) is→Path ops (n+1) listed (j::is)
theorem ZE7 {ops:Array Oper} {Q:Exit→Act→World→Prop} {n:Nat} {listed:Array Bool} {is:List Nat} (p:Path ops n listed is):∀{a:Act} {w:World},wpAny P .any ops Q n listed a w→wpOps P ops Q is a w:=by
 induction p with
 |out=>intro a w h;exact h.2
 |@stop n listed hr =>
   intro a w h
   cases n with
   |zero=>exact h.2
   |succ n=>exact h.1 hr
 |cons hj _ ih =>
   intro a w h
   rw[wpOps_cons]
   exact wpOp_mono (fun a w h=>ih h) (h.2 _ hj)
theorem EX {ops:Array Oper}:∀(n t:Nat) (listed:Array Bool),Path ops n listed (Region.linearise.go .any ops n t listed [])
 |0,t,listed=>by simpa [Region.linearise.go] using Path.out
 |n+1,t,listed=>by
   have hr:Region.ready .any ops listed=(List.range ops.size).filter fun i=>!listed.getD i true&&((ops[i]?).map (·.after.all fun e=>!Region.binds .any e||listed.getD e.on false)).getD false:=rfl
   unfold Region.linearise.go
   rw[←hr]
   simp only
   split
   ·rename_i i hi
    rw[linearise_go_acc]
    exact Path.cons (ci hi) (EX n _ _)
   ·rename_i hi
    refine Path.stop ?_
    cases h:Region.ready .any ops listed with
    |nil=>rfl
    |cons x xs =>
      rw[h]at hi
      rw[List.getElem?_eq_none_iff]at hi
      have:=Nat.mod_lt t (show 0<(x::xs).length by simp)
      omega
theorem rN {ops:Array Oper} {k i:Nat}:(VC ops k i).size=ops.size:=by
 unfold VC
 split
 ·rw[lk]
 ·rfl
theorem tJ {ops:Array Oper} {k i j:Nat} (h:j≠k):(VC ops k i)[j]? = ops[j]?:=by
 unfold VC
 split
 ·rw[io (fun e=>h e.symm)]
 ·rfl
theorem nJ {ops:Array Oper} {k i:Nat} {o:Oper} (h:ops[k]? = some o):(VC ops k i)[k]? = some {o with after:=o.after.push ⟨i,.data⟩}:=by
 unfold VC
 rw[h]
 exact mc (bw.1 h).1
theorem pS {ops:Array Oper} {k i j:Nat} {listed:Array Bool} (h:j∈Region.ready .any (VC ops k i) listed):j∈Region.ready .any ops listed:=by
 obtain⟨h1,o,h2,h3⟩:=mem_ready.1 h
 by_cases e:j=k
 ·subst e
  cases ho:ops[j]? with
  |none=>unfold VC at h2;rw[ho]at h2;simp only at h2;rw[ho]at h2;cases h2
  |some o' =>
    rw[nJ ho]at h2
    cases h2
    exact mem_ready.2 ⟨h1,o',ho,fun ed hed hb=>h3 ed (Array.mem_push_of_mem _ hed) hb⟩
 ·rw[tJ e]at h2
  exact mem_ready.2 ⟨h1,o,h2,h3⟩
theorem dM {ops:Array Oper} {k i j:Nat} {listed:Array Bool} (h:j∈Region.ready .any ops listed) (hk:j≠k∨listed.getD i false=true):j∈Region.ready .any (VC ops k i) listed:=by
 obtain⟨h1,o,h2,h3⟩:=mem_ready.1 h
 by_cases e:j=k
 ·subst e
  refine mem_ready.2 ⟨h1,_,nJ h2,fun ed hed hb=>?_⟩
  rcases Array.mem_push.1 hed with hed|rfl
  ·exact h3 ed hed hb
  ·exact hk.resolve_left (fun h=>h rfl)
 ·exact mem_ready.2 ⟨h1,o,by rw[tJ e];exact h2,h3⟩
theorem ZBv {listed:Array Bool} {i j:Nat} (h:listed.getD i false=true):(listed.setIfInBounds j true).getD i false=true:=getD_set_true h
theorem CV {ops:Array Oper} {k i n:Nat} {listed:Array Bool} {is:List Nat} (p:Path ops n listed is) (hi:listed.getD i false=true):Path (VC ops k i) n listed is:=by
 induction p with
 |out=>exact .out
 |stop hr =>
   refine .stop ?_
   cases h:Region.ready .any (VC ops k i) _ with
   |nil=>rfl
   |cons x xs =>
     have:=pS (h▸List.mem_cons_self (a:=x) (l:=xs))
     rw[hr]at this;cases this
 |cons hj _ ih=>exact .cons (dM hj (.inr hi)) (ih (ZBv hi))
theorem path_split {ops:Array Oper} {k i n:Nat} (I8:i≠k) {listed:Array Bool} {is:List Nat} (p:Path ops n listed is) (hs:i<listed.size∧k<listed.size):Path (VC ops k i) n listed is∨Path (VC ops i k) n listed is:=by
 induction p with
 |out=>exact .inl .out
 |stop hr =>
   refine .inl (.stop ?_)
   cases h:Region.ready .any (VC ops k i) _ with
   |nil=>rfl
   |cons x xs =>
     have:=pS (h▸List.mem_cons_self (a:=x) (l:=xs))
     rw[hr]at this;cases this
 |@cons n j listed is hj p ih =>
   by_cases h1:j=i
   ·subst h1
    exact .inl (.cons (dM hj (.inl I8)) (CV p (by simp[hs.1])))
   ·by_cases h2:j=k
    ·subst h2
     exact .inr (.cons (dM hj (.inl h1)) (CV p (by simp[hs.2])))
    ·rcases ih (by rw[lk];exact hs) with h|h
     ·exact .inl (.cons (dM hj (.inl h2)) h)
     ·exact .inr (.cons (dM hj (.inl h1)) h)
theorem EL {ops:Array Oper} {Q:Exit→Act→World→Prop} {k i:Nat}:∀{is:List Nat} {a:Act} {w:World},wpOps P (VC ops k i) Q is a w→wpOps P ops Q is a w
 |[],a,w,h=>h
 |j::is,a,w,h=>by
   rw[wpOps_cons]at h⊢
   have hy:yielded (VC ops k i) a.tmps=yielded ops a.tmps:=by
    funext g
    unfold yielded
    by_cases e:g=k
    ·subst e
     cases ho:ops[g]? with
     |none=>unfold VC;rw[ho];simp only;rw[ho]
     |some o=>rw[nJ ho];rfl
    ·rw[tJ e]
   have hm:=wpOp_mono (K':=wpOps P ops Q is) (fun a w h=>EL h) h
   unfold wpOp at hm⊢
   rw[hy]at hm
   by_cases e:j=k
   ·subst e
    cases ho:ops[j]? with
    |none =>
      have:(VC ops j i)[j]? = none:=by unfold VC;rw[ho];exact ho
      rw[this]at hm;exact hm
    |some o=>rw[nJ ho]at hm;exact hm
   ·rw[tJ e]at hm;exact hm
def gK (P:Program) (ops:Array Oper) (Q:Exit→Act→World→Prop) (a:Act) (w:World):Prop:=∀is,Path ops ops.size (Array.replicate ops.size false) is→wpOps P ops Q is a w
theorem xZ {ops:Array Oper} {Q:Exit→Act→World→Prop} {a:Act} {w:World} {i k:Nat} (I8:i≠k) (hi:i<ops.size) (hk:k<ops.size) (h1:gK P (VC ops k i) Q a w) (h2:gK P (VC ops i k) Q a w):gK P ops Q a w:=by
 intro is p
 rcases path_split I8 p (by simp[hi,hk]) with p|p
 ·exact EL (h1 is (by rw[rN];exact p))
 ·exact EL (h2 is (by rw[rN];exact p))
theorem QX {id:Nat} {ops:Array Oper} {Q:Exit→Act→World→Prop} {a:Act} {w:World} (hm:P.follows .mixedOrders=true) (h:gK P ops Q a {w with drawn:=w.drawn+1}):(Code.region id ops true).wp P Q a w:=
 wp_region_draw fun t=>by
  simp only[Region.schedule,hm,kb,if_true]
  exact h _ (EX _ _ _)
theorem JT {imm:Bool} {ops:Array Oper} {ds:List DOper} (qP:tR P imm ops=some ds):P.follows .mixedOrders=true:=by
 unfold tR at qP
 split at qP
 case h_2=>cases qP
 simp only at qP
 split at qP
 case isFalse=>cases qP
 rename_i hb
 exact hb.1
theorem YT {imm:Bool} {C:CallP} (hC:∀f args b l Q,C f args b l Q→QA P f args b l Q) (qS:∀f args b l (Q Q':AV→List Row→List Row→Prop),C f args b l Q→(∀x b' l',Q x b' l'→Q' x b' l')→C f args b l Q')
  {ops:Array Oper} {ds:List DOper} (qP:tR P imm ops=some ds) (e:List AV) (b l:List Row) {Q:AExit→List AV→List Row→List Row→Prop}
  (h:run C VA (.draw ds) e b l Q) {F:Nat→Prop} {L:LMap} {w:World} {a:Act} (s:Sim F L (b++l) w) (he:MB w F L e a) :
  gK P ops (Aft b.length F L (b++l) w Q) a {w with drawn:=w.drawn+1}:=by
 unfold tR at qP
 split at qP
 case h_2=>cases qP
 rename_i aos ZCw
 simp only at qP
 split at qP
 case isFalse=>cases qP
 rename_i hb
 obtain⟨hmix,ZFf,ZLK,ZJw,aB,hnd,wF⟩:=hb
 cases qP
 obtain⟨m1,m2⟩:=UW (ops:=ops) (aos:=aos) (is:=YR ops (aos.map (·.op.quiet)) (aos.map (·.op.isAlloc)) ops.size (List.range ops.size) []) (done:=[])
 generalize hdsd:mkD ops aos [] (YR ops (aos.map (·.op.quiet)) (aos.map (·.op.isAlloc)) ops.size (List.range ops.size) [])=ds at *
 obtain⟨g1,g2⟩:=VO ZJw
 obtain⟨k1,k2⟩:=ET ZCw
 have DW:∀j,j<ops.size→j∈ds.map (·.i):=fun j hj=>by
  have:=bl.1 wF j (by simpa using hj)
  simpa using this
 have ZN:∀d∈ds,d.i<ops.size∧∃o,ops[d.i]? = some o∧PY P imm o.op=some d.o.op∧vR ops o.guard=some d.o.guard∧d.o.dst=o.dst:=by
  intro d hd
  obtain⟨o,ho,h1,h2,h3⟩:=k2 d.i d.o (m1 d hd).1
  have ho':ops[d.i]? = some o:=by simpa using ho
  exact⟨(bw.1 ho').1,o,ho',h1,h2,h3⟩
 have hs':Sim F L (b++l) {w with drawn:=w.drawn+1}:=s.same rfl
 have he':MB {w with drawn:=w.drawn+1} F L e a:=he.mono (fun _ h=>h) (fun _ _=>rfl) (fun _ _ _ h=>h)
 have CY:∀i:Nat,(Array.replicate ops.size false).getD i false=false:=fun i=>by
  by_cases hi:i<ops.size<;>simp[hi]
 refine fun is p=>ZE7 p (ZEY hC qS (j7 ZFf (by rw[aB]) (fun j hj=>by
  obtain⟨d,hd,rfl⟩:=co.1 hj
  exact (ZN d hd).1)) (nb:=b.length) (F0:=F) (L0:=L) (h0:=b++l) (w0:=w) (Q:=Q .normal) (Q':=Aft b.length F L (b++l) w Q) ?_ ops.size ds (Array.replicate ops.size false) ?_
  ⟨by simp,fun j hj _=>DW j hj,fun d _ hl=>(by rw[CY]at hl;cases hl),fun d hd=>(ZN d hd).1,fun j o _ hl=>(by rw[CY]at hl;cases hl),hnd,fun d hd=>⟨g1 d hd,(m1 d hd).2.1,bl.1 ZLK _ (ci (m1 d hd).1),(ZN d hd).2⟩,List.Pairwise.and g2 m2 |>.imp (fun h=>⟨h.1,h.2⟩)⟩
  e b l F L _ a (fun _=>0) ⟨h,rfl,hs',he',Step.same rfl rfl rfl rfl,fun d _ hl=>(by rw[CY]at hl;cases hl),fun d _ _ _ hl=>(by rw[CY]at hl;cases hl)⟩)
 ·intro e2 b2 l2 F2 L2 a2 w2 hq s2 gJ st2 gR
  exact⟨.normal,e2,b2,l2,F2,L2,trivial,s2,gJ,st2,gR,hq⟩
 ·rw[List.filter_eq_self.2 (fun d _=>by rw[CY];rfl)]
  simpa using aB

theorem GQ {imm:Bool} {C:CallP} (hC:∀f args b l Q,C f args b l Q→QA P f args b l Q) (qS:∀f args b l (Q Q':AV→List Row→List Row→Prop),C f args b l Q→(∀x b' l',Q x b' l'→Q' x b' l')→C f args b l Q') :
  ∀(n:Nat) (ops:Array Oper) (c:ACode),jI P imm n ops=some c→∀(e:List AV) (b l:List Row) (Q:AExit→List AV→List Row→List Row→Prop),run C VA c e b l Q→∀(F:Nat→Prop) (L:LMap) (w:World) (a:Act),Sim F L (b++l) w→MB w F L e a →
   P.follows .mixedOrders=true∧gK P ops (Aft b.length F L (b++l) w Q) a {w with drawn:=w.drawn+1}:=by
 intro n
 induction n with
 |zero =>
   intro ops c hc e b l Q h F L w a s he
   obtain⟨ds,qP,rfl⟩:=map_some hc
   exact⟨JT qP,YT hC qS qP e b l h s he⟩
 |succ n ih =>
   intro ops c hc e b l Q h F L w a s he
   unfold jI at hc
   split at hc
   ·rename_i ds qP
    cases hc
    exact⟨JT qP,YT hC qS qP e b l h s he⟩
   ·split at hc
    case h_2=>cases hc
    split at hc
    case h_2=>cases hc
    split at hc
    case isFalse=>cases hc
    rename_i I8
    split at hc
    case h_2=>cases hc
    rename_i x y hx hy
    cases hc
    obtain⟨hm,h1⟩:=ih _ x hx e b l Q h.1 F L w a s he
    exact⟨hm,xZ I8.1 I8.2.1 I8.2.2 h1 (ih _ y hy e b l Q h.2 F L w a s he).2⟩

theorem gE {C:CallP} {W:WeakP} {e:List AV} {b l:List Row} {Q:AExit→List AV→List Row→List Row→Prop} (h:run C W uY e b l Q):False:=by
 simp[uY,run,vF,gd,uE,aop,ev,uK]at h

theorem ZBT {C:CallP} (hC:∀f args b l Q,C f args b l Q→QA P f args b l Q) (qS:∀f args b l (Q Q':AV→List Row→List Row→Prop),C f args b l Q→(∀x b' l',Q x b' l'→Q' x b' l')→C f args b l Q'):∀(code:Code) (ac:ACode),AH P code=some ac→∀e b l Q,run C VA ac e b l Q →
  ∀F L w a,Sim F L (b++l) w→MB w F L e a→code.wp P (Aft b.length F L (b++l) w Q) a w:=by
 intro code
 induction code with
 |skip =>
   intro ac hc e b l Q h F L w a s he
   cases hc
   exact wp_skip ⟨.normal,e,b,l,F,L,trivial,s,he,Step.refl _ _ _ _ _,rfl,h⟩
 |region id ops draw =>
   intro ac hc e b l Q h F L w a s he
   cases hc
   cases hc:ZGB P ops draw with
   |none=>rw[hc]at h;exact (gE h).elim
   |some ac =>
   rw[hc]at h
   replace h:run C VA ac e b l Q:=h
   simp only[ZGB]at hc
   cases draw
   case true =>
    simp only[if_true]at hc
    obtain⟨imm,hc⟩:∃imm,jI P imm 6 ops=some ac:=by
     cases hf:jI P false 6 ops with
     |some c=>rw[hf]at hc;cases hc;exact⟨false,hf⟩
     |none=>rw[hf]at hc;exact⟨true,hc⟩
    obtain⟨hm,hp⟩:=GQ hC qS 6 ops ac hc e b l Q h F L w a s he
    exact QX hm hp
   simp only[dw,if_false]at hc
   obtain⟨aos,hao,rfl⟩:=map_some hc
   refine wp_region (rY hC ops ops.toList (List.range ops.size) aos hao ?_ e b l h rfl F L w a s he (Step.refl _ _ _ _ _) ?_)
   ·apply ec
    intro i
    simp only[an]
    by_cases hi:i<ops.size
    ·simp[hi]
    ·simp[hi]
   ·intro e' b' l' F' L' a' w' hq s' he' st hb
    exact⟨.normal,e',b',l',F',L',trivial,s',he',st,hb,hq⟩
 |seq x y ihx ihy =>
   intro ac hc e b l Q h F L w a s he
   simp only[AH]at hc
   split at hc
   case h_2=>cases hc
   rename_i x' y' hx hy
   cases hc
   refine wp_seq (wp_mono (ihx x' hx e b l _ h F L w a s he) ?_)
   rintro ex a1 w1 ⟨ax,e1,b1,l1,F1,L1,hex,s1,QI,st1,wJ,hq⟩
   cases ex<;>cases ax<;>first|exact hex.elim|skip
   ·simp only[Exit.then]
    refine wp_mono (ihy y' hy e1 b1 l1 Q hq F1 L1 w1 a1 s1 QI) ?_
    rintro ex2 a2 w2 ⟨ax2,e2,b2,l2,F2,L2,ZKJ,s2,gJ,st2,gR,QU⟩
    exact⟨ax2,e2,b2,l2,F2,L2,ZKJ,s2,gJ,st1.trans (wJ▸st2),gR.trans wJ,QU⟩
   ·exact⟨_,e1,b1,l1,F1,L1,hex,s1,QI,st1,wJ,hq⟩
   ·exact⟨_,e1,b1,l1,F1,L1,hex,s1,QI,st1,wJ,hq⟩
 |cond c x y ihx ihy =>
   intro ac hc e b l Q h F L w a s he
   simp only[AH]at hc
   split at hc
   case h_2=>cases hc
   rename_i c' x' y' fX hx hy
   cases hc
   simp only[run]at h
   have hr:=mA he fX
   generalize ev e c'=q at *
   split at h
   case h_2=>exact h.elim
   rename_i t
   refine wp_cond (uM hr) ?_
   cases t
   ·simp only[dw,if_false]at h⊢
    exact ihy y' hy e b l Q h F L w a s he
   ·simp only[if_true]at h⊢
    exact ihx x' hx e b l Q h F L w a s he
 |block id c ih =>
   intro ac hc e b l Q h F L w a s he
   simp only[AH]at hc
   obtain⟨c',fX,rfl⟩:=map_some hc
   refine wp_block (wp_mono (ih c' fX e b l _ h F L w a s he) ?_)
   rintro ex a1 w1 ⟨ax,e1,b1,l1,F1,L1,hex,s1,QI,st1,wJ,hq⟩
   cases ex<;>cases ax<;>first|exact hex.elim|skip
   ·exact⟨.normal,e1,b1,l1,F1,L1,trivial,s1,QI,st1,wJ,hq⟩
   ·rename_i i j
    have j5:i=j:=hex
    subst j5
    simp only[Exit.inBlock]
    simp only[E4]at hq
    split
    ·rename_i hi;rw[if_pos hi]at hq;exact⟨.normal,e1,b1,l1,F1,L1,trivial,s1,QI,st1,wJ,hq⟩
    ·rename_i hi;rw[if_neg hi]at hq;exact⟨.exit i,e1,b1,l1,F1,L1,rfl,s1,QI,st1,wJ,hq⟩
   ·exact⟨.ret,e1,b1,l1,F1,L1,trivial,s1,QI,st1,wJ,hq⟩
 |loop c ih =>
   intro ac hc e b l Q h F L w a s he
   simp only[AH]at hc
   obtain⟨c',fX,rfl⟩:=map_some hc
   obtain⟨I,⟨e0,b0,l0,m0,hw0,hI0⟩,S9⟩:=h
   obtain⟨F0,L0,s0,he0,st0,hb0⟩:=hw0 F L w a s he
   refine wp_loop_ghost (fun n a1 w1=>∃e1 b1 l1 F1 L1,Sim F1 L1 (b1++l1) w1∧MB w1 F1 L1 e1 a1∧Step b.length F L (b++l) w F1 L1 (b1++l1) w1∧b1.length=b.length∧I e1 b1 l1 n) m0 ⟨e0,b0,l0,F0,L0,s0,he0,st0,hb0,hI0⟩ ?_
   rintro n a1 w1 ⟨e1,b1,l1,F1,L1,s1,QI,st1,wJ,hI1⟩
   refine wp_mono (ih c' fX e1 b1 l1 _ (S9 e1 b1 l1 n hI1) F1 L1 w1 a1 s1 QI) ?_
   rintro ex a2 w2 ⟨ax,e2,b2,l2,F2,L2,hex,s2,gJ,st2,gR,hq⟩
   have st12:=st1.trans (wJ▸st2)
   cases ex<;>cases ax<;>first|exact hex.elim|skip
   ·obtain⟨e3,b3,l3,m3,hw3,hI3,yA⟩:=hq
    obtain⟨F3,L3,s3,he3,st3,hb3⟩:=hw3 F2 L2 w2 a2 s2 gJ
    have hbb:b2.length=b.length:=gR.trans wJ
    exact⟨m3,yA,e3,b3,l3,F3,L3,s3,he3,st12.trans (hbb▸st3),hb3.trans hbb,hI3⟩
   ·exact⟨_,e2,b2,l2,F2,L2,hex,s2,gJ,st12,gR.trans wJ,hq⟩
   ·exact⟨_,e2,b2,l2,F2,L2,hex,s2,gJ,st12,gR.trans wJ,hq⟩
 |exit i =>
   intro ac hc e b l Q h F L w a s he
   cases hc
   exact wp_exit ⟨.exit i,e,b,l,F,L,rfl,s,he,Step.refl _ _ _ _ _,rfl,h⟩
 |ret =>
   intro ac hc e b l Q h F L w a s he
   cases hc
   exact wp_ret ⟨.ret,e,b,l,F,L,trivial,s,he,Step.refl _ _ _ _ _,rfl,h⟩
 |rangeFunc f ps az c ih1 ih2=>intro ac hc e b l Q h;cases hc;exact (gE h).elim
 |scope c ih=>intro ac hc e b l Q h;cases hc;exact (gE h).elim
 |label i=>intro ac hc e b l Q h;cases hc;exact (gE h).elim
 |goto i=>intro ac hc e b l Q h;cases hc;exact (gE h).elim
 |refuse y=>intro ac hc e b l Q h;cases hc;exact (gE h).elim

theorem rS {C:CallP} (qS:∀f args b l (Q Q':AV→List Row→List Row→Prop),C f args b l Q→(∀x b' l',Q x b' l'→Q' x b' l')→C f args b l Q') {b l:List Row} {K K':AV→List Row→List Row→Prop} {r:OpR} (h:uK C b l K r) (hk:∀x b l,K x b l→K' x b l):uK C b l K' r:=by
 cases r with
 |val x b' l'=>exact hk _ _ _ h
 |two c x y=>exact⟨fun hc=>hk _ _ _ (h.1 hc),hk _ _ _ h.2⟩
 |call f az=>exact qS _ _ _ _ _ _ h hk
 |bad=>exact h
theorem ES {t:Option Bool} {A B A' B':Prop} (h:uE t A B) (h1:A→A') (h2:B→B'):uE t A' B':=by
 unfold uE at *
 cases t with
 |none=>exact h
 |some t=>cases t<;>simp at h⊢ <;> first|exact h1 h|exact h2 h
theorem CL {C:CallP} (qS:∀f args b l (Q Q':AV→List Row→List Row→Prop),C f args b l Q→(∀x b' l',Q x b' l'→Q' x b' l')→C f args b l Q') {K K':List AV→List Row→List Row→Prop} (hk:∀e b l,K e b l→K' e b l) :
  ∀{os:List AOper} {e:List AV} {b l:List Row},vF C os e b l K→vF C os e b l K'
 |[],e,b,l,h=>hk _ _ _ h
 |o::os,e,b,l,h=>ES h (fun h=>rS qS h (fun x b l h=>CL qS hk h)) (fun h=>CL qS hk h)
theorem yP {C:CallP} (qS:∀f args b l (Q Q':AV→List Row→List Row→Prop),C f args b l Q→(∀x b' l',Q x b' l'→Q' x b' l')→C f args b l Q') {K K':List AV→List Row→List Row→Prop} (hk:∀e b l,K e b l→K' e b l) :
  ∀{ds:List DOper} {e:List AV} {b l:List Row},TG C ds e b l K→TG C ds e b l K'
 |[],e,b,l,h=>hk _ _ _ h
 |d::ds,e,b,l,h=>ES h (fun h=>rS qS h (fun x b l h=>⟨h.1,yP qS hk h.2⟩)) (fun h=>yP qS hk h)
theorem ZBU {C:CallP} (qS:∀f args b l (Q Q':AV→List Row→List Row→Prop),C f args b l Q→(∀x b' l',Q x b' l'→Q' x b' l')→C f args b l Q') {W:WeakP}:∀{c:ACode} {e:List AV} {b l:List Row} {Q Q':AExit→List AV→List Row→List Row→Prop},
  run C W c e b l Q→(∀ex e b l,Q ex e b l→Q' ex e b l)→run C W c e b l Q':=by
 intro c
 induction c with
 |skip=>intro e b l Q Q' h hq;exact hq _ _ _ _ h
 |region ops=>intro e b l Q Q' h hq;exact CL qS (fun _ _ _ h=>hq _ _ _ _ h) h
 |draw ds=>intro e b l Q Q' h hq;exact yP qS (fun _ _ _ h=>hq _ _ _ _ h) h
 |both x y ihx ihy=>intro e b l Q Q' h hq;exact⟨ihx h.1 hq,ihy h.2 hq⟩
 |seq x y ihx ihy =>
   intro e b l Q Q' h hq
   refine ihx (Q:=lW (fun e b l=>run C W y e b l Q) Q) h ?_
   intro ex e b l h
   cases ex with
   |normal=>exact ihy (Q:=Q) h hq
   |exit i=>exact hq _ _ _ _ h
   |ret=>exact hq _ _ _ _ h
 |cond c x y ihx ihy =>
   intro e b l Q Q' h hq
   simp only[run]at h⊢
   split at h
   ·split at h
    ·rename_i ht;rw[if_pos ht];exact ihx h hq
    ·rename_i ht;rw[if_neg ht];exact ihy h hq
   ·exact h
 |block i c ih =>
   intro e b l Q Q' h hq
   refine ih (Q:=E4 i Q) h ?_
   intro ex e b l h
   cases ex with
   |normal=>exact hq _ _ _ _ h
   |exit j =>
     simp only[E4]at h⊢
     split
     ·rename_i hj;rw[if_pos hj]at h;exact hq _ _ _ _ h
     ·rename_i hj;rw[if_neg hj]at h;exact hq _ _ _ _ h
   |ret=>exact hq _ _ _ _ h
 |loop c ih =>
   rintro e b l Q Q' ⟨I,h1,h2⟩ hq
   refine⟨I,h1,fun e b l m hI=>ih (h2 e b l m hI) ?_⟩
   intro ex e b l h
   cases ex with
   |normal=>exact h
   |exit j=>exact hq _ _ _ _ h
   |ret=>exact hq _ _ _ _ h
 |exit i=>intro e b l Q Q' h hq;exact hq _ _ _ _ h
 |ret=>intro e b l Q Q' h hq;exact hq _ _ _ _ h

theorem Z9 {w:World} {F:Nat→Prop} {L:LMap} {b l:List Row} {e:List AV} {a:Act} (s:Sim F L (b++l) w) (he:MB w F L e a) (g:ResultVar→Sem Value)
  (iA:∀t,g (.tmp t)=pure (a.tmps.getD t undef)) (GD:∀p t,g (.cell p t)=(do loadVar t (←asAddr (a.tmps.getD p undef)))):∀{rs:List ResultVar} {ars:List ARes} {xs:List AV},ZCq P rs=some ars→resVs e b l ars=some xs →
  ∃vs:List Value,(rs.mapM g).run P w=.ok vs w∧DA w F L xs vs
 |[],ars,xs,hc,h=>by
   simp[ZCq]at hc
   subst hc
   simp[resVs]at h
   subst h
   exact⟨[],by simp,DA.nil⟩
 |.tmp t::rs,ars,xs,hc,h=>by
   simp only[ZCq]at hc
   obtain⟨ars',hc',rfl⟩:=map_some hc
   simp only[resVs,resV]at h
   split at h
   case h_2=>cases h
   rename_i x ys h1 h2
   cases h1
   cases h
   obtain⟨vs,h3,h4⟩:=Z9 s he g iA GD hc' h2
   refine⟨a.tmps.getD t undef::vs,?_,DA.cons (he.nth t) h4⟩
   rw[List.mapM_cons]
   simp only[Sem.run_bind,Sem.run_pure,Result.andThen_ok,iA,h3]
 |.cell p t::rs,ars,xs,hc,h=>by
   simp only[ZCq]at hc
   split at hc
   case h_2=>cases hc
   rename_i n ars' hn hc'
   cases hc
   simp only[resVs,resV]at h
   split at h
   case h_2=>cases h
   rename_i x ys h1 h2
   cases h
   split at h1
   case h_2=>cases h1
   rename_i x' b1 l1 hld
   cases h1
   obtain⟨blk,q,u,g1,g2,g3,_,_⟩:=G4 (P:=P) s hn (he.nth p) hld
   obtain⟨vs,h3,h4⟩:=Z9 s he g iA GD hc' h2
   refine⟨u::vs,?_,DA.cons g3 h4⟩
   rw[List.mapM_cons]
   have hra:(asAddr (a.tmps.getD p undef)).run P w=.ok ⟨blk,q,none⟩ w:=by rw[g1];rfl
   simp only[Sem.run_bind,Sem.run_pure,Result.andThen_ok,GD,hra,g2,h3]

def uH (rs:List ARes) (Q:AV→List Row→List Row→Prop) (nb:Nat):AExit→List AV→List Row→List Row→Prop:=fun ex e b l =>
 (ex=.normal∨ex=.ret)∧∃xs,resVs e b l rs=some xs∧∃y b' l',VA [one xs] b l [y] b' l'∧Q y (b'.take nb) (b'.drop nb++l')

inductive AVlt (m:Nat):AV→Prop where
 |any:AVlt m AV.any
 |v (x:IV):AVlt m (.v x)
 |agg (cs:List AV) (h:∀c∈cs,AVlt m c):AVlt m (.agg cs)
 |tup (cs:List AV) (h:∀c∈cs,AVlt m c):AVlt m (.tup cs)
 |sl (id ver off len:Nat) (h:id<m):AVlt m (.sl id ver off len)
 |ptr (id ver k j:Nat) (h:id<m):AVlt m (.ptr id ver k j)
 |fn (f:Nat) (cs:List AV) (h:∀c∈cs,AVlt m c):AVlt m (.fn f cs)
 |mp (id ver:Nat) (h:id<m):AVlt m (.mp id ver)
def gA (m:Nat) (h:List Row):Prop:=∀(id ver sz:Nat) (els:List (List AV)),h[id]? = some (Row.live ver sz els)→∀row∈els,∀c∈row,AVlt m c

theorem RepA.lt {w:World} {F:Nat→Prop} {L:LMap} {x:AV} {v:Value} (h:RepA w F L x v) {m:Nat} (hL:∀id ver l,L id ver=some l→id<m):AVlt m x:=by
 have sub:∀{cs:List AV} {vs:Array Value},cs.length=vs.size→(∀(i:Nat) (a:AV) (v:Value),cs[i]? = some a→vs[i]? = some v→AVlt m a)→∀c∈cs,AVlt m c:=by
  intro cs vs hl h c hc
  obtain⟨i,hi⟩:=ek.1 hc
  have yA:i<vs.size:=by rw[←hl];exact (am.1 hi).1
  exact h i c vs[i] hi (fx yA)
 induction h with
 |any v=>exact .any
 |v x v h=>exact .v x
 |agg cs vs hl _ ih=>exact .agg cs (sub hl ih)
 |tup cs vs hl _ ih=>exact .tup cs (sub hl ih)
 |sl id ver off len b o sz cap h1 h2 h3=>exact .sl id ver off len (hL _ _ _ h1)
 |slz id ver off b o sz cap x h1 h2=>exact .sl id ver off 0 (hL _ _ _ h1)
 |sln id ver ad h1=>exact .sl id ver 0 0 (hL _ _ _ h1)
 |ptr id ver k j b o sz cap h1=>exact .ptr id ver k j (hL _ _ _ h1)
 |fn f cs vs hl _ ih=>exact .fn f cs (sub hl ih)
 |mp id ver b h1=>exact .mp id ver (hL _ _ _ h1)

theorem RepA.cut {w:World} {F:Nat→Prop} {L L':LMap} {x:AV} {v:Value} (h:RepA w F L x v) {m:Nat} (hx:AVlt m x) (hL:∀id ver,id<m→L' id ver=L id ver):RepA w F L' x v:=by
 induction h with
 |any v=>exact .any v
 |v x v h=>exact .v x v h
 |agg cs vs hl _ ih=>cases hx with|agg _ h=>exact .agg cs vs hl (fun i a v hi hv=>ih i a v hi hv (h a (ci hi)))
 |tup cs vs hl _ ih=>cases hx with|tup _ h=>exact .tup cs vs hl (fun i a v hi hv=>ih i a v hi hv (h a (ci hi)))
 |sl id ver off len b o sz cap h1 h2 h3=>cases hx with|sl _ _ _ _ h=>exact .sl id ver off len b o sz cap (by rw[hL _ _ h];exact h1) h2 h3
 |slz id ver off b o sz cap x h1 h2=>cases hx with|sl _ _ _ _ h=>exact .slz id ver off b o sz cap x (by rw[hL _ _ h];exact h1) h2
 |sln id ver ad h1=>cases hx with|sl _ _ _ _ h=>exact .sln id ver ad (by rw[hL _ _ h];exact h1)
 |ptr id ver k j b o sz cap h1=>cases hx with|ptr _ _ _ _ h=>exact .ptr id ver k j b o sz cap (by rw[hL _ _ h];exact h1)
 |fn f cs vs hl _ ih=>cases hx with|fn _ _ h=>exact .fn f cs vs hl (fun i a v hi hv=>ih i a v hi hv (h a (ci hi)))
 |mp id ver b h1=>cases hx with|mp _ _ h=>exact .mp id ver b (by rw[hL _ _ h];exact h1)

theorem Sim.rowsLt {F:Nat→Prop} {L:LMap} {h:List Row} {w:World} (s:Sim F L h w):gA h.length h:=by
 intro id ver sz els hr row RC c hc
 obtain⟨l,h1,h2⟩:=s.row id ver sz els hr
 cases l with
 |nil =>
   have h2:els=[]:=h2
   subst h2
   simp at RC
 |pl b o z cap =>
   obtain⟨_,_,_,cur,T,_,_,_,k8⟩:=h2
   obtain⟨k,hk⟩:=ek.1 RC
   obtain⟨j,hj⟩:=ek.1 hc
   obtain⟨_,v,_,hv⟩:=k8 k row j c hk hj
   exact hv.lt (fun id ver l hl=>s.lt hl)
 |mp b =>
   obtain⟨es,clk,_,k4,k5⟩:=h2
   obtain⟨k,hk⟩:=ek.1 RC
   have hke:k<es.size:=by rw[k4];exact (am.1 hk).1
   obtain⟨x,y,rfl,e1,e2⟩:=k5 k row es[k] hk (fx hke)
   simp only[cz,ic,or_false]at hc
   rcases hc with rfl|rfl
   ·exact e1.lt (fun id ver l hl=>s.lt hl)
   ·exact e2.lt (fun id ver l hl=>s.lt hl)

theorem FT {f:Nat} {af:AFunc} (hf:qA P f=some af) {args:List AV} (ha:args.length=af.nargs) {b l:List Row} {Q:AV→List Row→List Row→Prop}
  (h:∀B,B=b++l→gA B.length B→(∀x∈args,AVlt B.length x)→run (QA P) VA af.body (args++List.replicate (af.ntmps-args.length) (.tup [])) B [] (uH af.res Q b.length)):QA P f args b l Q:=by
 unfold qA at hf
 split at hf
 case h_2=>cases hf
 rename_i fn hfn
 split at hf
 case isTrue=>cases hf
 rename_i yV
 split at hf
 case h_2=>cases hf
 rename_i c hbody
 split at hf
 case h_2=>cases hf
 rename_i ac rs fX hrs
 cases hf
 refine⟨⟨fn,hfn,by simpa using yV,by rw[hbody];rfl⟩,fun F L w vs s hr=>?_⟩
 refine calls_of_wp hfn hbody ?_
 have KS:vs.size=args.length:=by have:=hr.1;simpa using this.symm
 have ZKH:MB w F L (args++List.replicate (fn.ntmps-args.length) (.tup [])) {tmps:=vs++Array.replicate (fn.ntmps-vs.size) undef,defers:=[]}:=by
  refine⟨rfl,by simp[KS],fun i x v hx hv=>?_⟩
  by_cases hi:i<args.length
  ·rw[aw hi]at hx
   rw[ck oM]at hv
   exact hr.2 i x v hx (by simpa using hv)
  ·rw[aq oM,gp]at hx
   rw[ei oM,Array.getElem?_replicate]at hv
   split at hx
   ·split at hv
    ·cases hx;cases hv;exact RepA.undef _ _ _
    ·cases hv
   ·cases hx
 refine wp_mono (ZBT (P:=P) (fun _ _ _ _ _ h=>h) eD c ac fX _ (b++l) [] _ (h _ rfl s.rowsLt (fun x hx=>by
  obtain⟨i,hi⟩:=ek.1 hx
  obtain⟨v,_,hv⟩:=hr.get hi
  exact hv.lt (fun id ver l hl=>s.lt hl))) F L w _ (by simpa using s) ZKH) ?_
 rintro ex a1 w1 ⟨ax,e1,b1,l1,F1,L1,hex,s1,QI,st1,wJ,hax,xs,N8,y,b2,l2,ZLL,hq⟩
 obtain⟨us,hu1,hu2⟩:=Z9 (P:=P) s1 QI (fun
  |.tmp t=>pure (a1.tmps.getD t undef)
  |.cell a t=>do loadVar t (←asAddr (a1.tmps.getD a undef))) (fun _=>rfl) (fun _ _=>rfl) hrs N8
 have ZKI:(results fn a1.tmps).run P w1=.ok (if h:us.toArray.size=1 then us.toArray[0] else .tuple us.toArray) w1:=by
  have hm:(fn.results.mapM (fun
    |.tmp t=>pure (a1.tmps.getD t undef)
    |.cell a t=>do loadVar t (←asAddr (a1.tmps.getD a undef)):ResultVar→Sem Value)).run P w1=.ok us.toArray w1:=by
   rw[Array.mapM_eq_mapM_toList]
   simp only[map_eq_pure_bind,Sem.run_bind,hu1,Result.andThen_ok,Sem.run_pure]
  unfold results
  rw[Sem.run_bind]
  erw[hm]
  rfl
 have ZCt:RepA w1 F1 L1 (one xs) (if h:us.toArray.size=1 then us.toArray[0] else .tuple us.toArray):=by
  have hl:=hu2.1
  cases xs with
  |nil =>
    have:us=[]:=ct (by simpa using hl.symm)
    subst this
    exact DA.tup (by simpa using DA.nil)
  |cons x xs =>
    cases xs with
    |nil =>
      cases us with
      |nil=>simp at hl
      |cons u us =>
        have:us=[]:=ct (by simpa using hl)
        subst this
        simpa [one] using hu2.2 0 x u rfl rfl
    |cons x2 xs =>
      have h2:¬us.toArray.size=1:=by simp at hl⊢;omega
      rw[dif_neg h2]
      exact DA.tup (by simpa [one] using hu2)
 generalize FY:(if h:us.toArray.size=1 then us.toArray[0] else Value.tuple us.toArray)=val at *
 obtain⟨F2,L2,s2,gJ,st2,gR⟩:=ZLL F1 L1 w1 {tmps:=#[val],defers:=[]} s1 ⟨rfl,rfl,fun i x v hx hv=>by
  cases i with
  |zero=>simp at hx hv;subst hx;subst hv;exact ZCt
  |succ i=>simp at hx⟩
 have hd:a1.defers=[]:=QI.1
 have aG:∃v,(results fn a1.tmps).run P w1=.ok v w1∧∃v' x b' l' F' L',Ending.returned v=.returned v'∧RepA w1 F' L' x v'∧Sim F' L' (b'++l') w1∧Step (b++l).length F L (b++l) w F' L' (b'++l') w1∧b'.length=b.length∧Q x b' l':=by
  have ZF7:b2.take b.length++(b2.drop b.length++l2)=b2++l2:=by rw[←bf,iy]
  refine⟨val,ZKI,val,y,b2.take b.length,b2.drop b.length++l2,F2,L2,rfl,gJ.2.2 0 y val rfl rfl,by rw[ZF7];exact s2,?_,?_,hq⟩
  ·rw[ZF7]
   have h1:b1.length=(b++l).length:=wJ
   have:=st1.trans (wJ▸st2)
   simpa using this
  ·have h1:b1.length=(b++l).length:=wJ
   have:b2.length=b.length+l.length:=by rw[gR,h1];simp
   simp;omega
 cases ex<;>cases ax<;>first|exact hex.elim|skip
 ·obtain⟨v,q1,q2⟩:=aG
  exact⟨hd,v,q1,q2⟩
 ·rcases hax with h|h<;>cases h
 ·obtain⟨v,q1,q2⟩:=aG
  exact⟨hd,v,q1,q2⟩
end

section
variable (C:CallP) (W:WeakP)
def seqC (y:ACode) (Q:AExit→List AV→List Row→List Row→Prop):AExit→List AV→List Row→List Row→Prop:=lW (fun e b l=>run C W y e b l Q) Q
def atN (Q:AExit→List AV→List Row→List Row→Prop):List AV→List Row→List Row→Prop:=Q .normal
def opK (d:Option Nat) (os:List AOper) (e:List AV) (K:List AV→List Row→List Row→Prop):AV→List Row→List Row→Prop:=fun x b l=>vF C os (put e d x) b l K
def opS (r:OpR) (d:Option Nat) (os:List AOper) (e:List AV) (b l:List Row) (K:List AV→List Row→List Row→Prop):Prop:=uK C b l (opK C d os e K) r
def ZFy (t:Option Bool) (d:Option Nat) (op:AOp) (os:List AOper) (e:List AV) (b l:List Row) (K:List AV→List Row→List Row→Prop):Prop:=
 uE t (opS C (aop e b l op) d os e b l K) (vF C os (put e d (.tup [])) b l K)
def dK (d:Option Nat) (re:List AOper) (ds:List DOper) (e:List AV) (K:List AV→List Row→List Row→Prop):AV→List Row→List Row→Prop:=fun x b l=>DG e b l re∧TG C ds (put e d x) b l K
def dS (r:OpR) (d:Option Nat) (re:List AOper) (ds:List DOper) (e:List AV) (b l:List Row) (K:List AV→List Row→List Row→Prop):Prop:=uK C b l (dK C d re ds e K) r
def ZFz (t:Option Bool) (d:Option Nat) (op:AOp) (re:List AOper) (ds:List DOper) (e:List AV) (b l:List Row) (K:List AV→List Row→List Row→Prop):Prop:=
 uE t (dS C (aop e b l op) d re ds e b l K) (TG C ds (put e d (.tup [])) b l K)
def ifC (v:AV) (x y:ACode) (e:List AV) (b l:List Row) (Q:AExit→List AV→List Row→List Row→Prop):Prop:=match v with
 |.v (.bool t)=>uE (some t) (run C W x e b l Q) (run C W y e b l Q)
 |_=>False
end

theorem nr.{u} {α:Sort u} {x y:α} (h:x=y):x=y:=h
section
variable {C:CallP} {W:WeakP} {e:List AV} {b l b' l':List Row} {Q:AExit→List AV→List Row→List Row→Prop} {K R:List AV→List Row→List Row→Prop} {KV:AV→List Row→List Row→Prop} {A B:Prop}
 {d:Option Nat} {op:AOp} {os:List AOper} {ds:List DOper} {re:List AOper} {x y:AV} {cx cy:ACode}
theorem kC:run C W .skip e b l Q=Q .normal e b l:=nr rfl
theorem JB {ops:List AOper}:run C W (.region ops) e b l Q=vF C ops e b l (atN Q):=nr rfl
theorem xC {ops:List DOper}:run C W (.draw ops) e b l Q=TG C ops e b l (atN Q):=nr rfl
theorem iC:run C W (.both cx cy) e b l Q=(run C W cx e b l Q∧run C W cy e b l Q):=nr rfl
theorem yD:run C W (.seq cx cy) e b l Q=run C W cx e b l (seqC C W cy Q):=nr rfl
theorem mB {i:Nat}:run C W (.block i cx) e b l Q=run C W cx e b l (E4 i Q):=nr rfl
theorem wC {i:Nat}:run C W (.exit i) e b l Q=Q (.exit i) e b l:=nr rfl
theorem kD:run C W .ret e b l Q=Q .ret e b l:=nr rfl
theorem uC {c:Opd}:run C W (.cond c cx cy) e b l Q=ifC C W (ev e c) cx cy e b l Q:=by
 simp only[run,ifC]
 generalize ev e c=q
 cases q with
 |v z=>cases z<;>rfl
 |_=>rfl
theorem nD:atN Q e b l=Q .normal e b l:=nr rfl
theorem TA:seqC C W cy Q .normal e b l=run C W cy e b l Q:=nr rfl
theorem pB {i:Nat}:seqC C W cy Q (.exit i) e b l=Q (.exit i) e b l:=nr rfl
theorem yC:seqC C W cy Q .ret e b l=Q .ret e b l:=nr rfl
theorem SA:lW R Q .normal e b l=R e b l:=nr rfl
theorem nB {i:Nat}:lW R Q (.exit i) e b l=Q (.exit i) e b l:=nr rfl
theorem vC:lW R Q .ret e b l=Q .ret e b l:=nr rfl
theorem AA {i:Nat}:E4 i Q .normal e b l=Q .normal e b l:=nr rfl
theorem bB {i j:Nat}:E4 i Q (.exit j) e b l=if j=i then Q .normal e b l else Q (.exit j) e b l:=nr rfl
theorem pC {i:Nat}:E4 i Q .ret e b l=Q .ret e b l:=nr rfl
theorem VB:vF C [] e b l K=K e b l:=nr rfl
theorem MA {g:Option (Nat×Bool)}:vF C (⟨d,op,g⟩::os) e b l K=ZFy C (gd e g) d op os e b l K:=nr rfl
theorem dC:TG C [] e b l K=K e b l:=nr rfl
theorem lB {i:Nat} {g:Option (Nat×Bool)}:TG C (⟨i,⟨d,op,g⟩,re⟩::ds) e b l K=ZFz C (gd e g) d op re ds e b l K:=nr rfl
theorem fB:ZFy C (some true) d op os e b l K=opS C (aop e b l op) d os e b l K:=by simp[ZFy,uE]
theorem qB:ZFy C (some false) d op os e b l K=vF C os (put e d (.tup [])) b l K:=by simp[ZFy,uE]
theorem eB:ZFz C (some true) d op re ds e b l K=dS C (aop e b l op) d re ds e b l K:=by simp[ZFz,uE]
theorem jB:ZFz C (some false) d op re ds e b l K=TG C ds (put e d (.tup [])) b l K:=by simp[ZFz,uE]
theorem XC:ifC C W (.v (.bool true)) cx cy e b l Q=run C W cx e b l Q:=by simp[ifC,uE]
theorem sB:ifC C W (.v (.bool false)) cx cy e b l Q=run C W cy e b l Q:=by simp[ifC,uE]
theorem wD:opS C (.val x b' l') d os e b l K=vF C os (put e d x) b' l' K:=nr rfl
theorem rC {f:Nat} {az:List AV}:opS C (.call f az) d os e b l K=C f az b l (opK C d os e K):=nr rfl
theorem gD {c:Bool}:opS C (.two c x y) d os e b l K=((c=true→vF C os (put e d x) b l K)∧vF C os (put e d y) b l K):=nr rfl
theorem xD:opK C d os e K x b l=vF C os (put e d x) b l K:=nr rfl
theorem lE:dS C (.val x b' l') d re ds e b l K=(DG e b' l' re∧TG C ds (put e d x) b' l' K):=nr rfl
theorem tD {f:Nat} {az:List AV}:dS C (.call f az) d re ds e b l K=C f az b l (dK C d re ds e K):=nr rfl
theorem fE {c:Bool}:dS C (.two c x y) d re ds e b l K=((c=true→DG e b l re∧TG C ds (put e d x) b l K)∧(DG e b l re∧TG C ds (put e d y) b l K)):=nr rfl
theorem eE:dK C d re ds e K x b l=(DG e b l re∧TG C ds (put e d x) b l K):=nr rfl
theorem ZBs {t:Bool} (h1:t=true→run C W cx e b l Q) (h2:t=false→run C W cy e b l Q):ifC C W (.v (.bool t)) cx cy e b l Q:=by
 cases t
 ·rw[sB];exact h2 rfl
 ·rw[XC];exact h1 rfl
theorem dD:gd e none=some true:=nr rfl
theorem iD {s:Nat} {w:Bool}:gd e (some (s,w))=(match nth e s with
  |.v (.bool t)=>some (t==w)
  |.tup []=>some false
  |_=>none):=nr rfl
theorem UB:DG e b l []=True:=nr rfl
theorem LA {r:AOper} {rs:List AOper}:DG e b l (r::rs)=(QE e b l r∧DG e b l rs):=nr rfl
theorem Y3 {a:AV} {l:List AV}:nth (a::l) 0=a:=nr rfl
theorem J3 {a:AV} {l:List AV} {n:Nat}:nth (a::l) (n+1)=nth l n:=nr rfl
theorem J1 {a x:AV} {l:List AV}:upd (a::l) 0 x=x::l:=nr rfl
theorem V1 {a x:AV} {l:List AV} {n:Nat}:upd (a::l) (n+1) x=a::upd l n x:=nr rfl
theorem mT {n:Nat} {x:AV}:put e (some n) x=upd e n x:=nr rfl
theorem O2 {x:AV}:put e none x=e:=nr rfl
theorem UL {n:Nat}:ev e (.t n)=nth e n:=nr rfl
theorem KL {x:AV}:ev e (.c x)=x:=nr rfl
theorem sD:evs e []=[]:=nr rfl
theorem sC {x:Opd} {xs:List Opd}:evs e (x::xs)=ev e x::evs e xs:=nr rfl
theorem tC {x:Opd}:evo e (some x)=some (ev e x):=nr rfl
theorem nC:evo e none=none:=nr rfl
theorem XD {i:Nat}:hget b l (b.length+i)=l[i]?:=by
 unfold hget;rw[if_neg oM,cj]
theorem nA:hget b l b.length=l[0]?:=XD (i:=0)
theorem JC {i:Nat} {r:Row}:xE b (b.length+i) r=b:=by unfold xE;rw[if_neg oM]
theorem EA {r:Row}:xE b b.length r=b:=JC (i:=0)
theorem YC {i:Nat} {r:Row}:aE b l (b.length+i) r=l.set i r:=by unfold aE;rw[if_neg oM,cj]
theorem FA {r:Row}:aE b l b.length r=l.set 0 r:=YC (i:=0)
theorem KB:YJ (some x) b l=.val x b l:=nr rfl
end

theorem vB {A B:Prop}:uE (some true) A B=A:=by simp[uE]
theorem CA {A B:Prop}:uE (some false) A B=B:=by simp[uE]
theorem mE {x:AV} {b l:List Row} {A:Prop}:(∃v,OpR.val x b l=.val v b l∧(x=v∨A))=True:=eq_true ⟨x,rfl,.inl rfl⟩
theorem rD {x:AV} {b l:List Row}:(∃v,OpR.val x b l=.val v b l∧True)=True:=eq_true ⟨x,rfl,trivial⟩

theorem pA {n:Int} (h1:-9223372036854775808≤n) (h2:n≤9223372036854775807):IntKind.i64.wrap n=n:=by rw[IntKind.wrap_i64];omega

theorem XL {a b:Nat} (h:a≤b):(a≤b)=True:=eq_true h
theorem sK {a b:Nat} (h:a<b):(a<b)=True:=eq_true h
theorem YL {a b:Nat} (h:¬a≤b):(a≤b)=False:=eq_false h
theorem QL {a b:Nat} (h:¬a<b):(a<b)=False:=eq_false h
theorem dG {a b:Int} (h:a≤b):(a≤b)=True:=eq_true h
theorem uG {a b:Int} (h:a<b):(a<b)=True:=eq_true h
theorem rG {a b:Int} (h:¬a≤b):(a≤b)=False:=eq_false h
theorem iG {a b:Int} (h:¬a<b):(a<b)=False:=eq_false h
theorem geI {a b:Int}:(a≥b)=(b≤a):=rfl
theorem gtI {a b:Int}:(a>b)=(b<a):=rfl
theorem sG {α:Type} {l:List α} {i:Nat} (h:i<l.length):l[i]? = some l[i]:=ah h
theorem zF {α:Type} {l:List α} {k:Nat} (h:k<l.length):l.take (k+1)=l.take k++[l[k]]:=jh h

def vs (rows:List (List IV)):List (List AV):=rows.map (·.map .v)
theorem pE {rows:List (List IV)}:rows.map (fun r=>r.map AV.v)=vs rows:=nr rfl
theorem DB {rows:List (List IV)}:(vs rows).length=rows.length:=by simp[vs]
theorem xB {rows:List (List IV)} {i:Nat}:(vs rows)[i]? = (rows[i]?).map (·.map .v):=by simp[vs]
theorem zD {rows:List (List IV)} {i:Nat}:(vs rows).take i=vs (rows.take i):=by simp[vs,ge]
theorem vD {rows:List (List IV)} {i:Nat}:(vs rows).drop i=vs (rows.drop i):=by simp[vs,fy]
theorem ZEt {r q:List (List IV)}:vs r++vs q=vs (r++q):=by simp[vs]
theorem ZJE:vs []=[]:=rfl
theorem jC {r:List (List IV)} {a:IV}:vs r++[[.v a]]=vs (r++[[a]]):=by simp[vs]
theorem qC {r:List (List IV)} {a c:IV}:vs r++[[.v a,.v c]]=vs (r++[[a,c]]):=by simp[vs]
theorem zC {r:List (List IV)} {a c d:IV}:vs r++[[.v a,.v c,.v d]]=vs (r++[[a,c,d]]):=by simp[vs]
theorem KC {r:List (List IV)} {a c d f g:IV}:vs r++[[.v a,.v c,.v d,.v f,.v g]]=vs (r++[[a,c,d,f,g]]):=by simp[vs]
theorem jD {r:List (List IV)} {i:Nat} {a:IV}:(vs r).set i [.v a]=vs (r.set i [a]):=by rw[vs,vs,fa];rfl
theorem qD {r:List (List IV)} {i:Nat} {a c:IV}:(vs r).set i [.v a,.v c]=vs (r.set i [a,c]):=by rw[vs,vs,fa];rfl
theorem nE {n:Nat} {a:IV}:List.replicate n [AV.v a]=vs (List.replicate n [a]):=by rw[vs,List.map_replicate];rfl
theorem IM {α β:Type} {f:α→β} {l:List α} {k:Nat} (h:k<l.length):(l.take k).map f++[f l[k]]=(l.take (k+1)).map f:=by rw[zF h,bj];rfl
theorem fJ {m:Nat} {rows:List (List IV)}:(∀row∈vs rows,∀c∈row,AVlt m c)↔True:=by
 refine⟨fun _=>trivial,fun _ row hr c hc=>?_⟩
 simp[vs]at hr
 obtain⟨r,_,rfl⟩:=hr
 simp at hc
 obtain⟨x,_,rfl⟩:=hc
 exact .v x

section
variable {e e':List AV} {b b' l l':List Row}

theorem VA.refl (e:List AV) (b l:List Row):VA e b l e b l:=fun F L w a s he=>⟨F,L,s,he,Step.refl _ _ _ _ _,rfl⟩
theorem kF {b l:List Row}:∀e,VA e b l e b l:=fun e=>VA.refl e b l
theorem VA.trans {e1 e2 e3:List AV} {b1 b2 b3 l1 l2 l3:List Row} (h:VA e1 b1 l1 e2 b2 l2) (k:VA e2 b2 l2 e3 b3 l3):VA e1 b1 l1 e3 b3 l3:=by
 intro F L w a s he
 obtain⟨F1,L1,s1,QI,st1,wJ⟩:=h F L w a s he
 obtain⟨F2,L2,s2,gJ,st2,gR⟩:=k F1 L1 w a s1 QI
 exact⟨F2,L2,s2,gJ,st1.trans (wJ▸st2),gR.trans wJ⟩

def Fgt:List AV→List AV→Prop
 |[],[]=>True
 |a::az,c::cs=>(c=AV.any∨a=c)∧Fgt az cs
 |_,_=>False
theorem Fgt.len:∀{az cs:List AV},Fgt az cs→az.length=cs.length
 |[],[],_=>rfl
 |_::az,_::cs,h=>by simp[Fgt.len h.2]
 |[],_::_,h=>h.elim
 |_::_,[],h=>h.elim
theorem Fgt.get:∀{az cs:List AV},Fgt az cs→∀(i:Nat) (c:AV),cs[i]? = some c→c=AV.any∨az[i]? = some c
 |[],[],_,i,c,h=>by simp at h
 |a::az,x::cs,h,i,c,hc=>by
   cases i with
   |zero =>
     simp at hc
     subst hc
     rcases h.1 with h1|h1
     ·exact .inl h1
     ·exact .inr (by simp[h1])
   |succ i=>simp at hc⊢;exact Fgt.get h.2 i c hc
 |[],_::_,h,_,_,_=>h.elim
 |_::_,[],h,_,_,_=>h.elim
theorem VA.forget (h:Fgt e e'):VA e b l e' b l:=by
 intro F L w a s he
 refine⟨F,L,s,⟨he.1,by rw[he.2.1,h.len],fun i x v hx hv=>?_⟩,Step.refl _ _ _ _ _,rfl⟩
 rcases h.get i x hx with rfl|hi
 ·exact .any v
 ·exact he.2.2 i x v hi hv

theorem yR {m:Nat} {x:IV}:AVlt m (.v x)↔True:=⟨fun _=>trivial,fun _=>.v x⟩
theorem ZEo {m:Nat}:AVlt m AV.any↔True:=⟨fun _=>trivial,fun _=>.any⟩
theorem PO {m id ver off len:Nat}:AVlt m (.sl id ver off len)↔id<m:=⟨fun h=>by cases h;assumption,fun h=>.sl _ _ _ _ h⟩
theorem ZEn {m id ver k j:Nat}:AVlt m (.ptr id ver k j)↔id<m:=⟨fun h=>by cases h;assumption,fun h=>.ptr _ _ _ _ h⟩
theorem ZHe {m id ver:Nat}:AVlt m (.mp id ver)↔id<m:=⟨fun h=>by cases h;assumption,.mp id ver⟩
theorem ZEp {m:Nat} {cs:List AV}:AVlt m (.agg cs)↔∀c∈cs,AVlt m c:=⟨fun h=>by cases h;assumption,fun h=>.agg _ h⟩
theorem ZEm {m:Nat} {cs:List AV}:AVlt m (.tup cs)↔∀c∈cs,AVlt m c:=⟨fun h=>by cases h;assumption,fun h=>.tup _ h⟩
theorem ZHf {m f:Nat} {cs:List AV}:AVlt m (.fn f cs)↔∀c∈cs,AVlt m c:=⟨fun h=>by cases h;assumption,fun h=>.fn _ _ h⟩
theorem tE {m:Nat}:gA m []:=fun id ver sz els h=>by simp at h
theorem PQ {m:Nat} {r:Row} {h:List Row}:gA m (r::h)↔(∀ver sz els,r=.live ver sz els→∀row∈els,∀c∈row,AVlt m c)∧gA m h:=by
 refine⟨fun hh=>⟨fun ver sz els hr=>hh 0 ver sz els (by rw[hr];rfl),fun id ver sz els hi=>hh (id+1) ver sz els (by simpa using hi)⟩,fun ⟨h1,h2⟩ id ver sz els hi=>?_⟩
 cases id with
 |zero=>simp at hi;exact h1 ver sz els hi
 |succ id=>simp at hi;exact h2 id ver sz els hi
theorem DC {m ver sz:Nat} {els:List (List AV)} {h:List Row}:gA m (.live ver sz els::h)↔(∀row∈els,∀c∈row,AVlt m c)∧gA m h:=by
 rw[PQ]
 exact⟨fun ⟨h1,h2⟩=>⟨h1 ver sz els rfl,h2⟩,fun ⟨h1,h2⟩=>⟨fun v s e he=>by cases he;exact h1,h2⟩⟩
theorem C0 {m ver:Nat} {h:List Row}:gA m (.dead ver::h)↔gA m h:=by
 rw[PQ]
 exact⟨fun ⟨_,h2⟩=>h2,fun h2=>⟨fun v s e he=>(by cases he),h2⟩⟩
theorem AVlt.mono {m m':Nat} {x:AV} (h:AVlt m x) (hm:m≤m'):AVlt m' x:=by
 induction h with
 |any=>exact .any
 |v x=>exact .v x
 |agg cs _ ih=>exact .agg cs ih
 |tup cs _ ih=>exact .tup cs ih
 |sl id ver off len h=>exact .sl _ _ _ _ oM
 |ptr id ver k j h=>exact .ptr _ _ _ _ oM
 |fn f cs _ ih=>exact .fn f cs ih
 |mp id ver h=>exact .mp _ _ oM
theorem gA.mono {m m':Nat} {h:List Row} (hh:gA m h) (hm:m≤m'):gA m' h:=fun id ver sz els hr row RC c hc=>(hh id ver sz els hr row RC c hc).mono hm

theorem VA.trim {l1 junk:List Row} (hl:l=l1++junk) (he:∀x∈e,AVlt (b.length+l1.length) x) (hb:gA (b.length+l1.length) b) (h1:gA (b.length+l1.length) l1):VA e b l e b l1:=by
 subst hl
 intro F L w a s DU
 have hm:(b++l1).length=b.length+l1.length:=by simp
 obtain⟨L',hL1,hL2⟩:∃L':LMap,(∀id ver,id<b.length+l1.length→L' id ver=L id ver)∧∀id ver,¬id<b.length+l1.length→L' id ver=none:=
  ⟨fun id ver=>if id<b.length+l1.length then L id ver else none,fun id ver h=>by simp[h],fun id ver h=>by simp[h]⟩
 have bR:∀{id ver q},L' id ver=some q→id<b.length+l1.length∧L id ver=some q:=by
  intro id ver q hq
  by_cases hid:id<b.length+l1.length
  ·rw[hL1 id ver hid]at hq;exact⟨hid,hq⟩
  ·rw[hL2 id ver hid]at hq;cases hq
 have hget:∀id,id<b.length+l1.length→(b++(l1++junk))[id]? = (b++l1)[id]?:=by
  intro id hid
  rw[←bf,aw oM]
 have FF:∀k,GC L' (b++l1) k→GC L (b++(l1++junk)) k:=by
  rintro k ⟨id,ver,sz,els,q,q1,q2,q4⟩
  obtain⟨hid,q3⟩:=bR q2
  exact⟨id,ver,sz,els,q,by rw[hget id hid];exact q1,q3,q4⟩
 have WW:gA (b.length+l1.length) (b++l1):=by
  intro id ver sz els hr
  by_cases hid:id<b.length
  ·rw[aw hid]at hr;exact hb id ver sz els hr
  ·rw[aq oM]at hr;exact h1 _ ver sz els hr
 refine⟨F,L',⟨?_,?_,?_,fun k hk=>⟨(s.imm k hk).1,fun ho=>(s.imm k hk).2 (FF k ho)⟩,s.glob⟩,⟨DU.1,DU.2.1,fun i x v hx hv=>(DU.2.2 i x v hx hv).cut (he x (ci hx)) hL1⟩,
  ⟨fun _ h=>h,fun id ver q hid hq=>by rw[hL1 id ver oM];exact hq,rfl,rfl,rfl,ai _,fun _ _ _=>rfl,fun k _ ho=>FF k ho,fun id hid v hv=>by
   rw[aw hid]at hv⊢;exact hv,fun _ _ h=>.inl h⟩,rfl⟩
 ·intro id ver sz els hr
  have hid:id<b.length+l1.length:=by rw[←hm];exact (am.1 hr).1
  obtain⟨q,q1,q2⟩:=s.row id ver sz els (by rw[hget id hid];exact hr)
  refine⟨q,by rw[hL1 id ver hid];exact q1,?_⟩
  cases q with
  |nil=>exact q2
  |pl blk o z cap =>
    obtain⟨k1,k2,k3,cur,T,k4,k5,k6,k7⟩:=q2
    exact⟨k1,k2,k3,cur,T,k4,k5,k6,fun k row j c hk hj=>by
     obtain⟨g1,v,g2,g3⟩:=k7 k row j c hk hj
     exact⟨g1,v,g2,g3.cut (WW id ver sz els hr row (ci hk) c (ci hj)) hL1⟩⟩
  |mp blk =>
    obtain⟨es,clk,k4,k5,k6⟩:=q2
    refine⟨es,clk,k4,k5,fun k row e1 hk he=>?_⟩
    obtain⟨x,y,rfl,g2,g3⟩:=k6 k row e1 hk he
    exact⟨x,y,rfl,g2.cut (WW id ver sz els hr _ (ci hk) x kS) hL1,g3.cut (WW id ver sz els hr _ (ci hk) y kS) hL1⟩
 ·intro id ver q hq
  obtain⟨hid,q1⟩:=bR hq
  obtain⟨r,r1,r2⟩:=s.born id ver q q1
  exact⟨r,by rw[←hget id hid];exact r1,r2⟩
 ·intro id id' ver ver' z z' e1 e2 bb l1' l2' q1 q2 q3 q4 q7 q8
  obtain⟨i1,q5⟩:=bR q3
  obtain⟨i2,q6⟩:=bR q4
  exact s.apart id id' ver ver' z z' e1 e2 bb l1' l2' (by rw[hget id i1];exact q1) (by rw[hget id' i2];exact q2) q5 q6 q7 q8

theorem V3 {sz:Nat} (F:Nat→Prop) (L:LMap) (w:World) (s:Sim F L (b++l) w):∃L':LMap,Sim F L' (b++(l++[.live 0 sz []])) w∧L' (b.length+l.length) 0=some .nil∧(∀i v q,L i v=some q→L' i v=some q) ∧
  Step b.length F L (b++l) w F L' (b++(l++[.live 0 sz []])) w:=by
 have aB:(b++l).length=b.length+l.length:=by simp
 have i5:L (b.length+l.length) 0=none:=by
  cases hq:L (b.length+l.length) 0 with
  |none=>rfl
  |some q=>exact absurd (s.lt hq) oM
 obtain⟨L',ZU,wY,HU⟩:∃L':LMap,L' (b.length+l.length) 0=some .nil∧(∀i v q,L i v=some q→L' i v=some q)∧∀i v,(i≠b.length+l.length∨v≠0)→L' i v=L i v:=by
  refine⟨fun i v=>if i=b.length+l.length∧v=0 then some .nil else L i v,by simp,?_,?_⟩
  ·intro i v q hl
   by_cases hi:i=b.length+l.length∧v=0
   ·obtain⟨rfl,rfl⟩:=hi
    rw[i5]at hl;cases hl
   ·simp[hi,hl]
  ·intro i v hi
   have:¬(i=b.length+l.length∧v=0):=fun ⟨a,b⟩=>hi.elim (fun h=>h a) (fun h=>h b)
   simp[this]
 have YH:∀j,j≠b.length+l.length→(b++(l++[Row.live 0 sz []]))[j]? = (b++l)[j]?:=by
  intro j hj
  rw[←bf]
  by_cases yG:j<(b++l).length
  ·rw[aw yG]
  ·rw[cg (by simp;omega),cg oM]
 have bG:(b++(l++[Row.live 0 sz []]))[b.length+l.length]? = some (.live 0 sz []):=by
  rw[←bf,aq oM];simp
 have own:∀k,GC L' (b++(l++[Row.live 0 sz []])) k→GC L (b++l) k:=by
  rintro k ⟨i,v,z,e1,q1,h1,h2,h3⟩
  by_cases hi:i=b.length+l.length
  ·subst hi
   rw[bG]at h1;cases h1
   rw[ZU]at h2;cases h2
   exact h3.elim
  ·rw[YH i hi]at h1
   rw[HU i v (.inl hi)]at h2
   exact⟨i,v,z,e1,q1,h1,h2,h3⟩
 have mono:∀{x:AV} {v:Value},RepA w F L x v→RepA w F L' x v:=fun hx=>hx.mono (fun _ h=>h) (fun _ _=>rfl) wY
 refine⟨L',⟨?_,?_,?_,fun k hk=>⟨(s.imm k hk).1,fun ho=>(s.imm k hk).2 (own k ho)⟩,s.glob⟩,ZU,wY,⟨fun _ h=>h,fun i v q _ hl=>wY i v q hl,rfl,rfl,rfl,ai _,fun _ _ _=>rfl,fun k _ ho=>own k ho,fun i hi v hv=>by rw[YH i oM];exact hv,fun _ _ h=>.inl h⟩⟩
 ·intro j v z e1 hj
  by_cases fF:j=b.length+l.length
  ·subst fF
   rw[bG]at hj
   cases hj
   exact⟨.nil,ZU,rfl⟩
  ·rw[YH j fF]at hj
   obtain⟨q,aO,IU⟩:=s.row j v z e1 hj
   exact⟨q,wY _ _ _ aO,IU.mono (fun _ _=>rfl) (fun _ _=>mono)⟩
 ·intro i v q aO
  by_cases hi:i=b.length+l.length
  ·subst hi
   refine⟨_,bG,?_⟩
   by_cases hv:v=0
   ·subst hv;exact ai _
   ·rw[HU _ v (.inr hv)]at aO
    exact absurd (s.lt aO) oM
  ·rw[HU i v (.inl hi)]at aO
   obtain⟨r,h1,h2⟩:=s.born _ _ _ aO
   exact⟨r,by rw[YH i hi];exact h1,h2⟩
 ·intro i i' v v' z z' e1 e2 bb q1 q2 h1 h2 h3 h4 h5 h6
  by_cases hi:i=b.length+l.length
  ·subst hi
   rw[bG]at h1;cases h1
   rw[ZU]at h3;cases h3
   exact h5.elim
  ·by_cases hi':i'=b.length+l.length
   ·subst hi'
    rw[bG]at h2;cases h2
    rw[ZU]at h4;cases h4
    exact h6.elim
   ·rw[YH i hi]at h1
    rw[YH i' hi']at h2
    rw[HU i v (.inl hi)]at h3
    rw[HU i' v' (.inl hi')]at h4
    exact s.apart i i' v v' z z' e1 e2 bb q1 q2 h1 h2 h3 h4 h5 h6
theorem VA.nilrow {k sz:Nat} (hk:nth e k=.v .zsl) (yA:k<e.length):VA e b l (upd e k (.sl (b.length+l.length) 0 0 0)) b (l++[.live 0 sz []]):=by
 intro F L w a s DU
 obtain⟨L',s',ZU,wY,st⟩:=V3 (sz:=sz) F L w s
 have mono:∀{x:AV} {v:Value},RepA w F L x v→RepA w F L' x v:=fun hx=>hx.mono (fun _ h=>h) (fun _ _=>rfl) wY
 refine⟨F,L',s',?_,st,rfl⟩
 ·rw[QK]
  refine⟨DU.1,by simp[DU.2.1],fun i x v hx hv=>?_⟩
  by_cases hi:k=i
  ·subst hi
   rw[ba yA]at hx
   cases hx
   rw[PN]at hk
   cases hq:e[k]? with
   |none=>rw[hq]at hk;cases hk
   |some y =>
     rw[hq]at hk
     have hy:y=.v .zsl:=hk
     subst hy
     have:=DU.2.2 k _ v hq hv
     cases this.vI
     exact .sln _ _ _ ZU
  ·rw[bo hi]at hx
   exact mono (DU.2.2 i x v hx hv)


theorem Sim.setCell {F:Nat→Prop} {L:LMap} {h:List Row} {w:World} (s:Sim F L h w) {i ver z k j:Nat} {els:List (List AV)} {row:List AV} {x y:AV} (hi:h[i]? = some (.live ver z els)) (hk:els[k]? = some row) (hj:row[j]? = some x)
  (hy:∀v,RepA w F L x v→RepA w F L y v) (hc:y.cell=true):Sim F L (h.set i (.live ver z (els.set k (row.set j y)))) w∧∀b,GC L (h.set i (.live ver z (els.set k (row.set j y)))) b→GC L h b:=by
 have M9:i<h.length:=(am.1 hi).1
 have back:∀{i' v z':Nat} {e':List (List AV)},(h.set i (Row.live ver z (els.set k (row.set j y))))[i']? = some (Row.live v z' e')→∃e0,h[i']? = some (Row.live v z' e0)∧(e'=e0∨(e0=els∧e'=els.set k (row.set j y))):=by
  intro i' v z' e' h1
  by_cases hii:i=i'
  ·subst hii
   rw[ba M9]at h1
   cases h1
   exact⟨els,hi,.inr ⟨rfl,rfl⟩⟩
  ·rw[bo hii]at h1
   exact⟨e',h1,.inl rfl⟩
 have own:∀b,GC L (h.set i (.live ver z (els.set k (row.set j y)))) b→GC L h b:=by
  rintro b ⟨i',v,z',e1,q1,h1,h2,h4⟩
  obtain⟨e0,h3,_⟩:=back h1
  exact⟨i',v,z',e0,q1,h3,h2,h4⟩
 refine⟨⟨fun i' v z' e' h1=>?_,fun i' v q hq=>?_,fun i1 i2 v v' z1 z2 e1 e2 bb q1 q2 h1 h2 h3 h4 h5 h6=>?_,fun b hb=>⟨(s.imm b hb).1,fun ho=>(s.imm b hb).2 (own b ho)⟩,s.glob⟩,own⟩
 ·obtain⟨e0,h2,h3⟩:=back h1
  obtain⟨q,g1,g2⟩:=s.row _ _ _ _ h2
  refine⟨q,g1,?_⟩
  rcases h3 with rfl|⟨rfl,rfl⟩
  ·exact g2
  ·cases q with
   |nil=>have g2:e0=[]:=g2;subst g2;simp at hk
   |pl blk o z1 c =>
     obtain⟨q1,q2,q3,cur,T,q4,q5,q6,q7⟩:=g2
     refine⟨q1,by simpa using q2,q3,cur,T,q4,q5,fun k' r hk'=>?_,fun k' r jj c hk' hjj=>?_⟩
     ·by_cases zP:k=k'
      ·subst zP
       rw[ba (am.1 hk).1]at hk'
       cases hk'
       simpa using q6 k row hk
      ·rw[bo zP]at hk';exact q6 k' r hk'
     ·by_cases zP:k=k'
      ·subst zP
       rw[ba (am.1 hk).1]at hk'
       cases hk'
       by_cases hjk:j=jj
       ·subst hjk
        rw[ba (am.1 hj).1]at hjj
        cases hjj
        obtain⟨_,u,t2,t3⟩:=q7 k row j x hk hj
        exact⟨hc,u,t2,hy u t3⟩
       ·rw[bo hjk]at hjj;exact q7 k row jj c hk hjj
      ·rw[bo zP]at hk';exact q7 k' r jj c hk' hjj
   |mp blk =>
     obtain⟨es,clk,q4,q5,q6⟩:=g2
     refine⟨es,clk,q4,by simpa using q5,fun k' r e1 hk' he=>?_⟩
     by_cases zP:k=k'
     ·subst zP
      rw[ba (am.1 hk).1]at hk'
      cases hk'
      obtain⟨x1,y1,rfl,t2,t3⟩:=q6 k row e1 hk he
      cases j with
      |zero=>simp at hj;subst hj;exact⟨y,y1,rfl,hy _ t2,t3⟩
      |succ j =>
        cases j with
        |zero=>simp at hj;subst hj;exact⟨x1,y,rfl,t2,hy _ t3⟩
        |succ j=>simp at hj
     ·rw[bo zP]at hk';exact q6 k' r e1 hk' he
 ·obtain⟨r,h1,h2⟩:=s.born i' v q hq
  by_cases hii:i=i'
  ·subst hii
   rw[hi]at h1;cases h1
   exact⟨_,ba M9,h2⟩
  ·exact⟨r,by rw[bo hii];exact h1,h2⟩
 ·obtain⟨_,k1,_⟩:=back h1
  obtain⟨_,k2,_⟩:=back h2
  exact s.apart i1 i2 v v' z1 z2 _ _ bb q1 q2 k1 k2 h3 h4 h5 h6

theorem VA.nilcell {i ver z k j sz:Nat} {els:List (List AV)} {row:List AV} (hi:l[i]? = some (.live ver z els)) (hk:els[k]? = some row) (hj:row[j]? = some (.v .zsl)) :
  VA e b l e b (l.set i (.live ver z (els.set k (row.set j (.sl (b.length+l.length) 0 0 0))))++[.live 0 sz []]):=by
 intro F L w a s DU
 obtain⟨L',s',ZU,wY,st⟩:=V3 (sz:=sz) F L w s
 have M9:i<l.length:=(am.1 hi).1
 have hi':(b++(l++[Row.live 0 sz []]))[b.length+i]? = some (.live ver z els):=by
  rw[aq oM,cj,aw M9];exact hi
 obtain⟨s2,own⟩:=s'.setCell hi' hk hj (y:=.sl (b.length+l.length) 0 0 0) (fun v hv=>by cases hv.vI;exact .sln _ _ _ ZU) rfl
 have mK:(b++(l++[Row.live 0 sz []])).set (b.length+i) (.live ver z (els.set k (row.set j (.sl (b.length+l.length) 0 0 0))))=b++(l.set i (.live ver z (els.set k (row.set j (.sl (b.length+l.length) 0 0 0))))++[.live 0 sz []]):=by
  rw[jg _ _ oM,cj,jf _ _ M9]
 rw[mK]at s2 own
 refine⟨F,L',s2,DU.mono (fun _ h=>h) (fun _ _=>rfl) wY,⟨st.imm,st.loc,st.os,st.tape,st.output,st.size,st.block,fun q hq ho=>st.own q hq (own q ho),fun id hid v hv=>?_,st.fnew⟩,rfl⟩
 have:=st.base id hid v hv
 rw[aw hid]at this⊢
 exact this

def CD (id ver sz:Nat) (rows:List (List IV)):AV→AV
 |.sl i v off len=>if i=id∧v=ver∧off+len≤rows.length then .v (.isl sz ((rows.drop off).take len)) else .sl i v off len
 |x=>x
def frz (id ver sz:Nat) (rows:List (List IV)):AV→AV
 |.agg cs=>.agg (cs.map (CD id ver sz rows))
 |.tup cs=>.tup (cs.map (CD id ver sz rows))
 |x=>CD id ver sz rows x

theorem sJ {i ver sz:Nat} {rows:List (List IV)} (hi:l[i]? = some (.live ver sz (rows.map (·.map .v)))) (F:Nat→Prop) (L:LMap) (w:World) (a:Act) (s:Sim F L (b++l) w) (DU:MB w F L e a) :
  ∃F':Nat→Prop,Sim F' L (b++l.set i (.dead ver)) w∧MB w F' L (e.map (frz (b.length+i) ver sz rows)) a∧Step b.length F L (b++l) w F' L (b++l.set i (.dead ver)) w ∧
   ∀(x:AV) (v:Value),RepA w F' L x v→RepA w F' L (CD (b.length+i) ver sz rows x) v:=by
 have M9:i<l.length:=(am.1 hi).1
 have RC:(b++l)[b.length+i]? = some (.live ver sz (rows.map (·.map .v))):=by rw[aq oM,cj];exact hi
 have mK:b++l.set i (.dead ver)=(b++l).set (b.length+i) (.dead ver):=by rw[jg _ _ oM,cj]
 have ZCx:b.length+i<(b++l).length:=by simp;omega
 obtain⟨lc,k1,k2⟩:=s.row _ _ _ _ RC
 have s5:∀{j v z els},((b++l).set (b.length+i) (.dead ver))[j]? = some (.live v z els)→j≠b.length+i∧(b++l)[j]? = some (.live v z els):=by
  intro j v z els hj
  by_cases fF:b.length+i=j
  ·subst fF
   rw[ba ZCx]at hj
   cases hj
  ·rw[bo fF]at hj
   exact⟨fun h=>fF h.symm,hj⟩
 have FF:∀k,GC L ((b++l).set (b.length+i) (.dead ver)) k→GC L (b++l) k:=by
  rintro k ⟨j,v,z,els,q,h1,h2,h3⟩
  exact⟨j,v,z,els,q,(s5 h1).2,h2,h3⟩
 obtain⟨F',hFF,ZLM,hF',ZLN⟩:∃F':Nat→Prop,(∀k,F k→F' k)∧(∀k,F' k→F k∨GC L (b++l) k)∧(∀k,F' k→k<w.heap.size∧¬GC L ((b++l).set (b.length+i) (.dead ver)) k)∧∀blk o z c,lc=.pl blk o z c→F' blk:=by
  cases lc with
  |nil=>exact⟨F,fun _ h=>h,fun _ h=>.inl h,fun k hk=>⟨(s.imm k hk).1,fun ho=>(s.imm k hk).2 (FF k ho)⟩,fun blk o z c h=>by cases h⟩
  |mp blk=>exact⟨F,fun _ h=>h,fun _ h=>.inl h,fun k hk=>⟨(s.imm k hk).1,fun ho=>(s.imm k hk).2 (FF k ho)⟩,fun blk o z c h=>by cases h⟩
  |pl blk o z c =>
    obtain⟨_,_,_,cur,T,k4,_⟩:=k2
    refine⟨fun k=>F k∨k=blk,fun k h=>.inl h,fun k hk=>hk.imp id (fun h=>by subst h;exact⟨_,_,_,_,_,RC,k1,rfl⟩),fun k hk=>?_,fun blk' o' z' c' h=>by cases h;exact .inr rfl⟩
    rcases hk with hk|rfl
    ·exact⟨(s.imm k hk).1,fun ho=>(s.imm k hk).2 (FF k ho)⟩
    ·refine⟨(bw.1 k4).1,?_⟩
     rintro⟨j,v,z',els,q',h1,h2,h4⟩
     obtain⟨zG,h3⟩:=s5 h1
     exact zG (s.apart j (b.length+i) v ver z' sz els _ k q' _ h3 RC h2 k1 h4 rfl)
 have mono:∀{x:AV} {v:Value},RepA w F L x v→RepA w F' L x v:=fun hx=>hx.mono hFF (fun _ _=>rfl) (fun _ _ _ h=>h)
 have f0:∀{x:AV} {v:Value},RepA w F' L x v→RepA w F' L (CD (b.length+i) ver sz rows x) v:=by
  intro x v hx
  cases x with
  |sl id ver' off len =>
    simp only[CD]
    split
    ·rename_i hc
     obtain⟨rfl,rfl,PJ⟩:=hc
     refine .v _ _ ?_
     have aB:((rows.drop off).take len).length=len:=by simp;omega
     cases hx with
     |sl _ _ _ _ blk o z cap hL h1 h2 =>
       rw[k1]at hL;cases hL
       obtain⟨q1,q2,q3,cur,T,q4,q5,q6,q7⟩:=k2
       subst q1
       have qG:∀(k:Nat) (row:List IV) (j:Nat) (c:IV),((rows.drop off).take len)[k]? = some row→row[j]? = some c→∃u,w.cell? ⟨blk,o+off*z+k*z+j,none⟩=some u∧RepI w F c u:=by
        intro k row j c hk hj
        rw[de]at hk
        split at hk
        ·rw[dp]at hk
         obtain⟨_,u,g1,g2⟩:=q7 (off+k) (row.map .v) j (.v c) (by rw[an,hk];rfl) (by rw[an,hj];rfl)
         refine⟨u,?_,g2.vI⟩
         rw[bx]at g1
         simp only[World.cell?,q4]
         rw[←g1]
         simp[cw]
        ·cases hk
       have:=RepI.isl (w:=w) (F:=F') ((rows.drop off).take len) blk (o+off*z) z (cap-off) (fun k j=>(w.cell? ⟨blk,o+off*z+k*z+j,none⟩).getD undef) (ZLN _ _ _ _ rfl) oM oM
        (fun k row hk=>by
         rw[de]at hk
         split at hk
         ·rw[dp]at hk
          have:=q6 (off+k) (row.map .v) (by rw[an,hk];rfl)
          simpa using this
         ·cases hk)
        (fun k row j c hk hj=>by
         obtain⟨u,g1,_⟩:=qG k row j c hk hj
         rw[g1];rfl)
        (fun k row j c hk hj=>by
         obtain⟨u,g1,g2⟩:=qG k row j c hk hj
         rw[g1];exact g2.mono hFF (fun _ _=>rfl))
       rw[aB]at this
       exact this
     |slz =>
       have:(rows.drop off).take 0=[]:=by simp
       rw[this];exact .isl0 _ _ _ oM
     |sln =>
       have:(rows.drop 0).take 0=[]:=by simp
       rw[this];exact .isl0 _ _ _ oM
    ·exact hx
  |_=>exact hx
 have fl:∀{cs:List AV} {vs:Array Value},DA w F L cs vs.toList→DA w F' L (cs.map (CD (b.length+i) ver sz rows)) vs.toList:=by
  intro cs vs h
  refine⟨by simpa using h.1,fun j x v hx hv=>?_⟩
  rw[an]at hx
  cases hq:cs[j]? with
  |none=>simp[hq]at hx
  |some y=>simp[hq]at hx;subst hx;exact f0 (mono (h.2 j y v hq hv))
 have ff:∀{x:AV} {v:Value},RepA w F L x v→RepA w F' L (frz (b.length+i) ver sz rows x) v:=by
  intro x v hx
  cases x with
  |agg cs=>obtain⟨vs,rfl,hl⟩:=hx.aggL;exact DA.agg (fl hl)
  |tup cs=>obtain⟨vs,rfl,hl⟩:=hx.tupL;exact DA.tup (fl hl)
  |_=>exact f0 (mono hx)
 refine⟨F',?_,⟨DU.1,by simpa using DU.2.1,fun j x v hx hv=>?_⟩,⟨hFF,fun _ _ _ _ h=>h,rfl,rfl,rfl,ai _,fun _ _ _=>rfl,fun k _ ho=>by rw[mK]at ho;exact FF k ho,fun id hid v hv=>?_,fun k hk hf=>ZLM k hf⟩,fun x v h=>f0 h⟩
 ·rw[mK]
  refine⟨fun j v z els hj=>?_,fun j v q hq=>?_,fun j j' v v' z z' e1 e2 bb q1 q2 h1 h2 h3 h4 h5 h6=>s.apart j j' v v' z z' e1 e2 bb q1 q2 (s5 h1).2 (s5 h2).2 h3 h4 h5 h6,hF',s.glob.mono hFF (fun _ _=>rfl)⟩
  ·obtain⟨_,h3⟩:=s5 hj
   obtain⟨q,g1,g2⟩:=s.row j v z els h3
   exact⟨q,g1,g2.mono (fun _ _=>rfl) (fun _ _=>mono)⟩
  ·obtain⟨r,h1,h2⟩:=s.born j v q hq
   by_cases fF:b.length+i=j
   ·subst fF
    rw[RC]at h1;cases h1
    exact⟨.dead ver,ba ZCx,h2⟩
   ·exact⟨r,by rw[bo fF];exact h1,h2⟩
 ·rw[an]at hx
  cases hq:e[j]? with
  |none=>simp[hq]at hx
  |some y=>simp[hq]at hx;subst hx;exact ff (DU.2.2 j y v hq hv)
 ·rw[aw hid]at hv⊢;exact hv

theorem VA.freeze {i ver sz:Nat} {rows:List (List IV)} (hi:l[i]? = some (.live ver sz (rows.map (·.map .v)))):VA e b l (e.map (frz (b.length+i) ver sz rows)) b (l.set i (.dead ver)):=by
 intro F L w a s DU
 obtain⟨F',h1,h2,h3,_⟩:=sJ hi F L w a s DU
 exact⟨F',L,h1,h2,h3,rfl⟩

def RE (g:AV→AV):Row→Row
 |.live v s els=>.live v s (els.map (·.map g))
 |.dead v=>.dead v
theorem SK {g:AV→AV} {b l:List Row} {j v z:Nat} {els:List (List AV)} (h:(b++l.map (RE g))[j]? = some (.live v z els)):∃els0,(b++l)[j]? = some (.live v z els0)∧(els=els0∨els=els0.map (·.map g)):=by
 by_cases hj:j<b.length
 ·rw[aw hj]at h⊢
  exact⟨els,h,.inl rfl⟩
 ·rw[aq oM,an]at h
  rw[aq oM]
  cases hq:l[j-b.length]? with
  |none=>rw[hq]at h;cases h
  |some r =>
    rw[hq]at h
    cases r with
    |live v' z' els0=>cases h;exact⟨els0,rfl,.inr rfl⟩
    |dead v'=>cases h
theorem Sim.mapRows {F:Nat→Prop} {L:LMap} {b l:List Row} {w:World} (s:Sim F L (b++l) w) {g:AV→AV} (hg:∀(x:AV) (v:Value),RepA w F L x v→RepA w F L (g x) v) (hc:∀x:AV,x.cell=true→(g x).cell=true) :
  Sim F L (b++l.map (RE g)) w∧∀k,GC L (b++l.map (RE g)) k→GC L (b++l) k:=by
 have own:∀k,GC L (b++l.map (RE g)) k→GC L (b++l) k:=by
  rintro k ⟨i,v,z,e1,q1,h1,h2,h4⟩
  obtain⟨els0,h3,_⟩:=SK h1
  exact⟨i,v,z,els0,q1,h3,h2,h4⟩
 refine⟨⟨fun j v z els hj=>?_,fun i v q hq=>?_,fun i i' v v' z z' e1 e2 bb q1 q2 h1 h2 h3 h4 h5 h6=>?_,fun k hk=>⟨(s.imm k hk).1,fun ho=>(s.imm k hk).2 (own k ho)⟩,s.glob⟩,own⟩
 ·obtain⟨els0,h1,h2⟩:=SK hj
  obtain⟨q,g1,g2⟩:=s.row _ _ _ _ h1
  refine⟨q,g1,?_⟩
  rcases h2 with rfl|rfl
  ·exact g2
  ·cases q with
   |nil=>have g2:els0=[]:=g2;subst g2;rfl
   |pl blk o z1 c =>
     obtain⟨q1,q2,q3,cur,T,q4,q5,q6,q7⟩:=g2
     refine⟨q1,by simpa using q2,q3,cur,T,q4,q5,fun k row hk=>?_,fun k row jj c hk hjj=>?_⟩
     ·rw[an]at hk
      cases hr:els0[k]? with
      |none=>rw[hr]at hk;cases hk
      |some r0=>rw[hr]at hk;cases hk;simpa using q6 k r0 hr
     ·rw[an]at hk
      cases hr:els0[k]? with
      |none=>rw[hr]at hk;cases hk
      |some r0 =>
        rw[hr]at hk;cases hk
        rw[an]at hjj
        cases hx:r0[jj]? with
        |none=>rw[hx]at hjj;cases hjj
        |some x =>
          rw[hx]at hjj;cases hjj
          obtain⟨t1,u,t2,t3⟩:=q7 k r0 jj x hr hx
          exact⟨hc x t1,u,t2,hg x u t3⟩
   |mp blk =>
     obtain⟨es,clk,q4,q5,q6⟩:=g2
     refine⟨es,clk,q4,by simpa using q5,fun k row e1 hk he=>?_⟩
     rw[an]at hk
     cases hr:els0[k]? with
     |none=>rw[hr]at hk;cases hk
     |some r0 =>
       rw[hr]at hk;cases hk
       obtain⟨x1,y1,rfl,t2,t3⟩:=q6 k r0 e1 hr he
       exact⟨g x1,g y1,rfl,hg _ _ t2,hg _ _ t3⟩
 ·obtain⟨r,h1,h2⟩:=s.born i v q hq
  by_cases hj:i<b.length
  ·rw[aw hj]at h1⊢;exact⟨r,h1,h2⟩
  ·rw[aq oM]at h1⊢
   rw[an,h1]
   refine⟨_,rfl,?_⟩
   cases r<;>exact h2
 ·obtain⟨_,k1,_⟩:=SK h1
  obtain⟨_,k2,_⟩:=SK h2
  exact s.apart i i' v v' z z' _ _ bb q1 q2 k1 k2 h3 h4 h5 h6

theorem ZBw {id ver sz:Nat} {rows:List (List IV)} (x:AV) (h:x.cell=true):(CD id ver sz rows x).cell=true:=by
 cases x<;>first|exact h|skip
 simp only[CD]
 split<;>rfl

theorem VA.round {l1 junk:List Row} (hf:Fgt e e') (hl:l=l1++junk) (he:∀x∈e',AVlt (b.length+l1.length) x) (hb:gA b.length b) (h1:gA (b.length+l1.length) l1):VA e b l e' b l1:=
 (VA.forget hf).trans (VA.trim hl he (hb.mono oM) h1)

def Round {ι:Type} (E:ι→List AV) (B L:ι→List Row) (Cd:ι→Prop) (μ:ι→Nat) (i:ι):List AV→List Row→List Row→Prop:=
 fun e b l=>∃i',Cd i'∧μ i'<μ i∧VA e b l (E i') (B i') (L i')

theorem pP {P:Program} {c:ACode} {Q:AExit→List AV→List Row→List Row→Prop} {ι:Type} (E:ι→List AV) (B L:ι→List Row) (Cd:ι→Prop) (μ:ι→Nat) (i0:ι) (h0:Cd i0) (hw:VA e b l (E i0) (B i0) (L i0))
  (step:∀i,Cd i→run (QA P) VA c (E i) (B i) (L i) (lW (Round E B L Cd μ i) Q)):run (QA P) VA (.loop c) e b l Q:=by
 refine⟨fun e b l m=>∃i,Cd i∧μ i=m∧e=E i∧b=B i∧l=L i,⟨E i0,B i0,L i0,μ i0,hw,i0,h0,rfl,rfl,rfl,rfl⟩,?_⟩
 rintro e b l m ⟨i,hi,rfl,rfl,rfl,rfl⟩
 refine ZBU eD (step i hi) ?_
 intro ex e b l h
 cases ex with
 |normal =>
   obtain⟨i',h1,h2,h3⟩:=h
   exact⟨E i',B i',L i',μ i',h3,⟨i',h1,rfl,rfl,rfl,rfl⟩,h2⟩
 |exit j=>exact h
 |ret=>exact h

theorem MU {rs:List ARes} {Q:AV→List Row→List Row→Prop} {B:List Row} {ex:AExit} (hex:ex=.normal∨ex=.ret) {xs:List AV} (hx:resVs e B l rs=some xs) {y:AV} {l':List Row} (hw:VA [one xs] B l [y] B l') {b0 l0:List Row} (hB:B=b0++l0) (hq:Q y b0 (l0++l')) :
  uH rs Q b0.length ex e B l:=by
 refine⟨hex,xs,hx,y,B,l',hw,?_⟩
 subst hB
 simpa using hq

theorem aA {rs:List ARes} {Q:AV→List Row→List Row→Prop} {B:List Row} {ex:AExit} (hex:ex=.normal∨ex=.ret) {xs:List AV} (hx:resVs e B l rs=some xs) (yA:AVlt B.length (one xs)) (hR:gA B.length B) {b0 l0:List Row} (hB:B=b0++l0) (hq:Q (one xs) b0 l0) :
  uH rs Q b0.length ex e B l:=
 MU hex hx (VA.trim (l1:=[]) rfl (by simpa using yA) (by simpa using hR) tE) hB (by simpa using hq)

theorem JM {e : List AV} {l : List Row} {rs : List ARes} {Q : AV → List Row → List Row → Prop} {B : List Row} {ex : AExit} {xs : List AV} {b0 l0 : List Row} (yA : AVlt B.length (one xs)) (hR : gA B.length B) (hB : B = b0 ++ l0) (hq : Q (one xs) b0 l0)
    (hx:resVs e B l rs=some xs:=by first|simp (disch:=first|decide|omega) only[resVs,resV,go_sem,hA,iA,GD,AG]|simp (disch:=first|decide|omega) only[resVs,resV,go_sem,hA,iA,GD]|simp (disch:=first|decide|omega) only[resVs,resV,go_sem,hA,iA]|simp (disch:=first|decide|omega) only[resVs,resV,go_sem,hA])
    (hex:ex=.normal∨ex=.ret:=by first|exact .inr rfl|exact .inl rfl):uH rs Q b0.length ex e B l:=aA hex hx yA hR hB hq
theorem pM {id ver sz n:Nat} {rows:List (List IV)} (hn:n=rows.length):CD id ver sz rows (.sl id ver 0 n)=.v (.isl sz rows):=by
 subst hn
 simp[CD]

theorem mP {rs:List ARes} {Q:AV→List Row→List Row→Prop} {B:List Row} {ex:AExit} (hex:ex=.normal∨ex=.ret) {i ver sz n:Nat} {rows:List (List IV)} (hx:resVs e B l rs=some [.sl (B.length+i) ver 0 n]) (hi:l[i]? = some (.live ver sz (vs rows))) (hn:n=rows.length)
  (hR:gA B.length B) {b0 l0:List Row} (hB:B=b0++l0) (hq:Q (.v (.isl sz rows)) b0 l0):uH rs Q b0.length ex e B l:=by
 refine MU hex hx (y:=.v (.isl sz rows)) ((VA.freeze (i:=i) (rows:=rows) hi).trans ?_) (l':=[]) hB (by simpa using hq)
 have h1:List.map (frz (B.length+i) ver sz rows) [one [AV.sl (B.length+i) ver 0 n]]=[.v (.isl sz rows)]:=by
  simp only[bh,cd,one,frz,pM hn]
 rw[h1]
 exact VA.trim (l1:=[]) rfl (by intro x hx;simp at hx;subst hx;exact .v _) (by simpa using hR) tE

theorem N6 {rs:List ARes} {Q:AV→List Row→List Row→Prop} {B:List Row} {ex:AExit} (hex:ex=.normal∨ex=.ret) {i ver sz n:Nat} {rows:List (List IV)} {z:IV} (hx:resVs e B l rs=some [.sl (B.length+i) ver 0 n,.v z]) (hi:l[i]? = some (.live ver sz (vs rows))) (hn:n=rows.length)
  (hR:gA B.length B) {b0 l0:List Row} (hB:B=b0++l0) (hq:Q (.tup [.v (.isl sz rows),.v z]) b0 l0):uH rs Q b0.length ex e B l:=by
 refine MU hex hx (y:=.tup [.v (.isl sz rows),.v z]) ((VA.freeze (i:=i) (rows:=rows) hi).trans ?_) (l':=[]) hB (by simpa using hq)
 have h1:List.map (frz (B.length+i) ver sz rows) [one [AV.sl (B.length+i) ver 0 n,.v z]]=[.tup [.v (.isl sz rows),.v z]]:=by
  subst hn
  simp[one,frz,CD]
 rw[h1]
 refine VA.trim (l1:=[]) rfl (by intro x hx;simp at hx;subst hx;exact .tup _ (by intro c hc;simp at hc;rcases hc with rfl|rfl<;>exact .v _)) (by simpa using hR) tE
end
def lts:=PLift.up <| And.intro @yR <| And.intro @ZEo <| And.intro @PO <| And.intro @ZEn <| And.intro @ZHe <| And.intro @ZEp <| And.intro @ZEm <| And.intro @ZHf <| And.intro @tE <| And.intro @DC <| And.intro @C0 <| And.intro @List.mem_cons.{0} <| And.intro @List.not_mem_nil.{0} <| And.intro @List.forall_mem_cons.{0} <| And.intro @List.forall_mem_nil.{0} <| And.intro @or_false <| And.intro @false_or <| And.intro @forall_eq_or_imp.{1} <| And.intro @forall_eq.{1} <| And.intro @fJ <| And.intro @Nat.add_lt_add_iff_left <| And.intro @true_and <| And.intro @and_true <| And.intro @and_self <| And.intro @List.length_cons.{0} <| And.intro @List.length_nil.{0} <| And.intro @cn <| And.intro @implies_true.{1} <| And.intro @false_imp_iff <| And.intro @sK <| @List.mem_map.{0,0}
theorem kL {p:Prop} (h:p:=by simp (disch:=omega) only[lts.down,Nat.reduceLT,Nat.reduceAdd]):p:=h
theorem kO {p:Prop} (h:p:=by simp only[one,lts.down,Nat.reduceLT,Nat.reduceAdd]):p:=h
theorem ZA {e:List AV} {l:List Row} {rs:List ARes} {Q:AV→List Row→List Row→Prop} {B:List Row} {ex:AExit} {xs:List AV} {b0 l0:List Row} (hq:Q (one xs) b0 l0:=by exact⟨rfl,rfl,rfl⟩) (hx:resVs e B l rs=some xs:=by exact kR) (yA:AVlt B.length (one xs):=by exact kO) (hR:gA B.length B:=by assumption) (hB:B=b0++l0:=by assumption) (hex:ex=.normal∨ex=.ret:=by first|exact .inr rfl|exact .inl rfl):uH rs Q b0.length ex e B l:=aA hex hx yA hR hB hq
theorem kN {p:Prop} (h:p:=by simp only[lts.down,Nat.reduceLT,Nat.reduceAdd]):p:=h

def ZCr:List Bool→List AV→List AV
 |true::m,_::l=>.any::ZCr m l
 |false::m,a::l=>a::ZCr m l
 |_,l=>l
theorem anyM_t {m:List Bool} {a:AV} {l:List AV}:ZCr (true::m) (a::l)=.any::ZCr m l:=nr rfl
theorem anyM_f {m:List Bool} {a:AV} {l:List AV}:ZCr (false::m) (a::l)=a::ZCr m l:=nr rfl
theorem anyM_nil {l:List AV}:ZCr [] l=l:=by cases l<;>rfl
def ovr:List (Nat×AV)→List AV→List AV
 |[],e=>e
 |(n,x)::r,e=>ovr r (upd e n x)
theorem ovr_nil {e:List AV}:ovr [] e=e:=nr rfl
theorem ovr_cons {n:Nat} {x:AV} {r:List (Nat×AV)} {e:List AV}:ovr ((n,x)::r) e=ovr r (upd e n x):=nr rfl


def kOf (N:Nat) (f:Nat→AV):List AV:=(List.range N).map f
def kUp (f:Nat→AV) (n:Nat) (x:AV):Nat→AV:=fun m=>if n=m then x else f m
theorem RB {f:Nat→AV} {n:Nat} {x:AV}:kUp f n x n=x:=by unfold kUp;rw[if_pos rfl]
theorem AB {f:Nat→AV} {n m:Nat} {x:AV} (h:n≠m):kUp f n x m=f m:=by unfold kUp;rw[if_neg h]
theorem tI {N:Nat} {f:Nat→AV}:(kOf N f).length=N:=by simp[kOf]
theorem XF {N:Nat} {f:Nat→AV} {i:Nat}:(kOf N f)[i]? = if i<N then some (f i) else none:=by
 unfold kOf
 rw[an]
 split
 ·rename_i h;rw[jn h];rfl
 ·rename_i h;rw[cg (by simp;omega)];rfl
theorem uD {N:Nat} {f:Nat→AV} {m:Nat} (h:m<N):nth (kOf N f) m=f m:=by
 rw[PN,XF,if_pos h];rfl
theorem QD {N:Nat} {f:Nat→AV} {n:Nat} {x:AV}:put (kOf N f) (some n) x=kOf N (kUp f n x):=by
 apply ec
 intro i
 rw[mT,QK,XF]
 by_cases hi:n=i
 ·subst hi
  rw[je,tI]
  simp only[if_true]
  split
  ·rw[RB]
  ·rfl
 ·rw[bo hi,XF,AB hi]
theorem MD {N:Nat} {f:Nat→AV} {x:AV}:put (kOf N f) none x=kOf N f:=nr rfl

def kIn:List (Nat×Nat)→Nat→Bool
 |[],_=>false
 |(a,c)::r,n=>(Nat.ble a n&&Nat.ble n c)||kIn r n
def yF (p:List (Nat×Nat)) (f:Nat→AV):Nat→AV:=fun m=>if kIn p m=true then .any else f m
theorem kAny_up {p:List (Nat×Nat)} {f:Nat→AV} {n:Nat} {x:AV} (h:kIn p n=true):yF p (kUp f n x)=yF p f:=by
 funext m
 unfold yF kUp
 by_cases hn:n=m
 ·subst hn;rw[if_pos h,if_pos h]
 ·rw[if_neg hn]
theorem jW {p:List (Nat×Nat)} {f:Nat→AV}:yF p (yF p f)=yF p f:=by
 funext m;unfold yF;split<;>rfl
theorem fT {p:List (Nat×Nat)} {f:Nat→AV} {n:Nat} (h:kIn p n=false):yF p f n=f n:=by unfold yF;rw[h];simp

def mF (f:Nat→AV):List (Nat×AV)→Prop
 |[]=>True
 |(n,x)::r=>f n=x∧mF f r
def kOv:List (Nat×AV)→(Nat→AV)→Nat→AV
 |[],f=>f
 |(n,x)::r,f=>kUp (kOv r f) n x
theorem bD {f:Nat→AV}:kOv [] f=f:=nr rfl
theorem tB {n:Nat} {x:AV} {r:List (Nat×AV)} {f:Nat→AV}:kOv ((n,x)::r) f=kUp (kOv r f) n x:=nr rfl
def KLt (m:Nat) (f:Nat→AV):Prop:=∀i,AVlt m (f i)
theorem KLt.up {m n:Nat} {f:Nat→AV} {x:AV} (h:KLt m f) (hx:AVlt m x):KLt m (kUp f n x):=by
 intro i;unfold kUp;split
 ·exact hx
 ·exact h i
theorem KLt.mono {m m':Nat} {f:Nat→AV} (h:KLt m f) (hm:m≤m'):KLt m' f:=fun i=>(h i).mono hm
theorem KLt.any {m:Nat} {p:List (Nat×Nat)} {f:Nat→AV} (h:KLt m f):KLt m (yF p f):=by
 intro i;unfold yF;split
 ·exact .any
 ·exact h i
def bH (m:Nat):List (Nat×AV)→Prop
 |[]=>True
 |(_,x)::r=>AVlt m x∧bH m r
theorem KLt.ov {m:Nat} {f:Nat→AV} (h:KLt m f):∀{ov:List (Nat×AV)},bH m ov→KLt m (kOv ov f)
 |[],_=>h
 |(n,x)::r,ho=>by rw[tB];exact KLt.up (KLt.ov h ho.2) ho.1
theorem KLt.env {m N:Nat} {f:Nat→AV} (h:KLt m f):∀x∈kOf N f,AVlt m x:=by
 intro x hx
 unfold kOf at hx
 obtain⟨i,_,rfl⟩:=co.1 hx
 exact h i

theorem kOv_get {f:Nat→AV} {i:Nat}:∀{ov:List (Nat×AV)},kOv ov f i=f i∨(i,kOv ov f i)∈ov
 |[]=>.inl rfl
 |(n,x)::r=>by
   rw[tB]
   by_cases hi:n=i
   ·subst hi;rw[RB];exact .inr kS
   ·rw[AB hi];exact (kOv_get (ov:=r)).imp id (fun h=>by simp[h])
theorem mF.mem {f:Nat→AV} {n:Nat} {x:AV}:∀{ov:List (Nat×AV)},mF f ov→(n,x)∈ov→f n=x
 |[],_,h=>by simp at h
 |(m,y)::r,hh,h=>by
   rcases cz.1 h with h|h
   ·cases h;exact hh.1
   ·exact mF.mem hh.2 h
theorem VA.named {N:Nat} {f:Nat→AV} {b l:List Row} (p:List (Nat×Nat)) (ov:List (Nat×AV)) (h:mF f ov):VA (kOf N f) b l (kOf N (kOv ov (yF p f))) b l:=by
 intro F L w a s he
 refine⟨F,L,s,⟨he.1,by rw[he.2.1,tI,tI],fun i x v hx hv=>?_⟩,Step.refl _ _ _ _ _,rfl⟩
 rw[XF]at hx
 split at hx
 ·rename_i hi
  cases hx
  rcases kOv_get (ov:=ov) (f:=yF p f) (i:=i) with hg|hg
  ·rw[hg]
   unfold yF
   split
   ·exact .any v
   ·exact he.2.2 i _ v (by rw[XF,if_pos hi]) hv
  ·rw[←h.mem hg]
   exact he.2.2 i _ v (by rw[XF,if_pos hi]) hv
 ·cases hx

def b9 {ι:Type} (N:Nat) (g:Nat→AV) (ov:ι→List (Nat×AV)) (B:List Row) (L:ι→List Row) (Cd:ι→Prop) (μ:ι→Nat) (i:ι):List AV→List Row→List Row→Prop:=
 fun e b l=>∃i',Cd i'∧μ i'<μ i∧VA e b l (kOf N (kOv (ov i') g)) B (L i')

theorem JA {P:Program} {c:ACode} {Q:AExit→List AV→List Row→List Row→Prop} {N:Nat} {f:Nat→AV} {b l:List Row} {ι:Type} (p:List (Nat×Nat)) (ov:ι→List (Nat×AV)) (k:Nat) (L:ι→List Row) (Cd:ι→Prop) (μ:ι→Nat) (i0:ι) (h0:Cd i0)
  (yA:KLt (b.length+k) f) (hov:mF f (ov i0)) (hw:∀e,VA e b l e b (L i0))
  (step:∀g,KLt (b.length+k) g→yF p g=g→(∀n,kIn p n=false→g n=f n)→∀i,Cd i→run (QA P) VA c (kOf N (kOv (ov i) g)) b (L i) (lW (b9 N g ov b L Cd μ i) Q)):run (QA P) VA (.loop c) (kOf N f) b l Q:=
 pP (fun i=>kOf N (kOv (ov i) (yF p f))) (fun _=>b) L Cd μ i0 h0 ((VA.named p _ hov).trans (hw _))
  (step (yF p f) yA.any jW (fun _ h=>fT h))

theorem VA.kround {N:Nat} {p:List (Nat×Nat)} {ov:List (Nat×AV)} {f g:Nat→AV} {b l l1 junk:List Row} {k:Nat} (he:yF p f=g) (h:mF f ov) (hl:l=l1++junk) (hE:KLt (b.length+k) g) (hk:k≤l1.length) (ho:bH (b.length+l1.length) ov) (hb:gA b.length b) (h1:gA (b.length+l1.length) l1) :
  VA (kOf N f) b l (kOf N (kOv ov g)) b l1:=by
 subst he
 exact (VA.named p ov h).trans (VA.trim hl (((hE.mono oM).ov ho).env) (hb.mono oM) h1)

def KA (f:Nat→AV):Nat→List AV→Prop
 |_,[]=>True
 |i,a::r=>f i=a∧KA f (i+1) r
theorem P3 {args:List AV}:∀{r pre:List AV},args=pre++r→KA (fun i=>args.getD i (.tup [])) pre.length r
 |[],_,_=>trivial
 |a::r,pre,h=>by
   refine⟨?_,?_⟩
   ·simp only[h,au];rw[aq (ai _)];simp
   ·have:=P3 (args:=args) (r:=r) (pre:=pre++[a]) (by rw[h];simp)
    simpa using this
theorem XA {P:Program} {f:Nat} {af:AFunc} (hf:qA P f=some af) {args:List AV} (ha:args.length=af.nargs) (hn:af.nargs≤af.ntmps) {b l:List Row} {Q:AV→List Row→List Row→Prop}
  (h:∀B g,B=b++l→gA B.length B→KLt B.length g→KA g 0 args→run (QA P) VA af.body (kOf af.ntmps g) B [] (uH af.res Q b.length)):QA P f args b l Q:=by
 refine FT hf ha (fun B hB hR hA=>?_)
 have:=h B (fun i=>args.getD i (.tup [])) hB hR ?_ (P3 (pre:=[]) rfl)
 ·have e:kOf af.ntmps (fun i=>args.getD i (.tup []))=args++List.replicate (af.ntmps-args.length) (.tup []):=by
   apply ec
   intro i
   rw[XF]
   by_cases hi:i<args.length
   ·rw[if_pos oM,aw hi,au,ah hi];rfl
   ·rw[aq oM,gp,au,cg oM]
    by_cases h2:i<af.ntmps
    ·rw[if_pos h2,if_pos oM];rfl
    ·rw[if_neg h2,if_neg oM]
  rw[←e];exact this
 ·intro i
  simp only[au]
  cases hq:args[i]? with
  |none=>exact .tup _ kS
  |some x=>exact hA x (ci hq)
theorem kAny_sub {p q:List (Nat×Nat)} {g f:Nat→AV} (hg:∀n,kIn q n=false→g n=f n) (hs:∀n,kIn q n=true→kIn p n=true):yF p g=yF p f:=by
 funext m
 unfold yF
 cases hq:kIn q m with
 |true=>rw[hs m hq];simp
 |false=>rw[hg m hq]
theorem ZAg {p:List (Nat×Nat)} {a c n:Nat}:∀{p:List (Nat×Nat)},p.any (fun y=>Nat.ble y.1 a&&Nat.ble c y.2)=true→a≤n→n≤c→kIn p n=true
 |[],h,_,_=>by simp at h
 |(x,y)::r,h,h1,h2=>by
   simp only[List.any_cons,gi,ar,Nat.ble_eq]at h
   simp only[kIn,gi,ar,Nat.ble_eq]
   rcases h with h|h
   ·exact .inl ⟨by omega,by omega⟩
   ·exact .inr (ZAg (p:=p) h h1 h2)
theorem kIn_sub {p:List (Nat×Nat)}:∀{q:List (Nat×Nat)},q.all (fun x=>p.any (fun y=>Nat.ble y.1 x.1&&Nat.ble x.2 y.2))=true→∀n,kIn q n=true→kIn p n=true
 |[],_,n,hn=>by simp[kIn]at hn
 |(a,c)::r,h,n,hn=>by
   simp only[List.all_cons,ar]at h
   simp only[kIn,gi,ar,Nat.ble_eq]at hn
   rcases hn with hn|hn
   ·exact ZAg (p:=p) h.1 hn.1 hn.2
   ·exact kIn_sub h.2 n hn
theorem kV {p:Prop} (h:p:=by simp (disch:=omega) only[bH,lts.down,Nat.reduceLT,Nat.reduceAdd]):p:=h
theorem ZHP {N:Nat} {f:Nat→AV} {n:Nat} {x:AV}:upd (kOf N f) n x=kOf N (kUp f n x):=QD (n:=n)
theorem VA.knil {N:Nat} {f:Nat→AV} {b l:List Row} (s sz:Nat) (hs:f s=.v .zsl) (hN:s<N):VA (kOf N f) b l (kOf N (kUp f s (.sl (b.length+l.length) 0 0 0))) b (l++[.live 0 sz []]):=by
 have:=VA.nilrow (e:=kOf N f) (b:=b) (l:=l) (k:=s) (sz:=sz) (by rw[uD hN,hs]) (by rw[tI];exact hN)
 rwa [ZHP]at this
theorem LL {P:Program} {c:ACode} {Q:AExit→List AV→List Row→List Row→Prop} {N:Nat} {f f':Nat→AV} {b l l':List Row} {ι:Type} (p:List (Nat×Nat)) (ov:ι→List (Nat×AV)) (k:Nat) (L:ι→List Row) (Cd:ι→Prop) (μ:ι→Nat) (i0:ι) (h0:Cd i0)
  (hw0:VA (kOf N f) b l (kOf N f') b l') (yA:KLt (b.length+k) f') (hov:mF f' (ov i0)) (hw:∀e,VA e b l' e b (L i0))
  (step:∀g,KLt (b.length+k) g→yF p g=g→(∀n,kIn p n=false→g n=f' n)→∀i,Cd i→run (QA P) VA c (kOf N (kOv (ov i) g)) b (L i) (lW (b9 N g ov b L Cd μ i) Q)):run (QA P) VA (.loop c) (kOf N f) b l Q:=
 pP (fun i=>kOf N (kOv (ov i) (yF p f'))) (fun _=>b) L Cd μ i0 h0 (hw0.trans ((VA.named p _ hov).trans (hw _)))
  (step (yF p f') yA.any jW (fun _ h=>fT h))
theorem iE {P:Program} {c:ACode} {Q:AExit→List AV→List Row→List Row→Prop} {N:Nat} {f:Nat→AV} {b l:List Row} {ι:Type} (s sz:Nat) (p:List (Nat×Nat)) (ov:ι→List (Nat×AV)) (k:Nat) (L:ι→List Row) (Cd:ι→Prop) (μ:ι→Nat) (i0:ι) (h0:Cd i0)
  (hs:f s=.v .zsl) (hN:s<N) (hp:kIn p s=true) (yA:KLt (b.length+k) (kUp f s (.sl (b.length+l.length) 0 0 0))) (hov:mF (kUp f s (.sl (b.length+l.length) 0 0 0)) (ov i0)) (hw:∀e,VA e b (l++[.live 0 sz []]) e b (L i0))
  (step:∀g,KLt (b.length+k) g→yF p g=g→(∀n,kIn p n=false→g n=f n)→∀i,Cd i→run (QA P) VA c (kOf N (kOv (ov i) g)) b (L i) (lW (b9 N g ov b L Cd μ i) Q)):run (QA P) VA (.loop c) (kOf N f) b l Q:=
 LL p ov k L Cd μ i0 h0 (VA.knil s sz hs hN) yA hov hw (fun g h1 h2 h3=>step g h1 h2 (fun n hn=>by
  rw[h3 n hn,AB]
  intro e;subst e;rw[hp]at hn;cases hn))
theorem QA.nxt {P:Program} {f:Nat} {args:List AV} {b l B' L':List Row} {x:AV} {K:AV→List Row→List Row→Prop} (h:QA P f args b l (fun r b' l'=>r=x∧b'=B'∧l'=L')) (k:K x B' L'):QA P f args b l K:=by
 refine eD _ _ _ _ _ _ h ?_
 rintro r b' l' ⟨rfl,rfl,rfl⟩
 exact k
theorem QA.frzA {P:Program} {f i ver sz:Nat} {args:List AV} {rows:List (List IV)} {b l:List Row} {Q:AV→List Row→List Row→Prop} (hi:l[i]? = some (.live ver sz (vs rows))) (h:QA P f (args.map (frz (b.length+i) ver sz rows)) b (l.set i (.dead ver)) Q):QA P f args b l Q:=by
 refine⟨h.1,fun F L w us s hr=>?_⟩
 obtain⟨F',s1,QI,st1,_⟩:=sJ (e:=args) hi F L w {tmps:=us,defers:=[]} s ⟨rfl,by have:=hr.1;simpa using this.symm,fun j x v hx hv=>hr.2 j x v hx (by simpa using hv)⟩
 refine Calls.mono (h.2 F' L w us s1 ⟨by have:=hr.1;simpa using this,fun j x v hx hv=>QI.2.2 j x v hx (by simpa using hv)⟩) ?_
 rintro en w' ⟨v,x,b',l',F2,L2,h1,h2,h3,h4,h5,h6⟩
 have aB:(b++l.set i (.dead ver)).length=(b++l).length:=by simp
 have st:Step (b++l).length F L (b++l) w F' L (b++l.set i (.dead ver)) w:=by
  refine⟨st1.imm,fun _ _ _ _ hl=>hl,rfl,rfl,rfl,ai _,fun _ _ _=>rfl,st1.own,fun id hid v hv=>?_,st1.fnew⟩
  by_cases hj:id<b.length
  ·rw[aw hj]at hv⊢;exact hv
  ·rw[aq oM]at hv⊢
   by_cases fF:i=id-b.length
   ·rw[←fF,hi]at hv;cases hv
   ·rw[bo fF];exact hv
 exact⟨v,x,b',l',F2,L2,h1,h2,h3,st.trans (aB▸h4),h5,h6⟩

theorem QA.frzB {P:Program} {f i ver sz:Nat} {args args':List AV} {rows:List (List IV)} {b l:List Row} {Q:AV→List Row→List Row→Prop} (hi:l[i]? = some (.live ver sz (vs rows))) (ha:args.map (frz (b.length+i) ver sz rows)=args') (h:QA P f args' b (l.set i (.dead ver)) Q):QA P f args b l Q:=by
 subst ha
 exact QA.frzA hi h

def ltB (m:Nat):Nat→AV→Bool
 |0,_=>false
 |n+1,x=>match x with
   |.any=>true
   |.v _=>true
   |.agg cs=>cs.all (ltB m n)
   |.tup cs=>cs.all (ltB m n)
   |.sl id _ _ _=>decide (id<m)
   |.ptr id _ _ _=>decide (id<m)
   |.fn _ cs=>cs.all (ltB m n)
   |.mp id _=>decide (id<m)
inductive XV where
 |bad
 |ok (y:AV) (b l:List Row) (t:Bool)

def unV:AV→Option IV
 |.v x=>some x
 |_=>none
def mapO {α β:Type} (f:α→Option β):List α→Option (List β)
 |[]=>some []
 |a::az=>match f a,mapO f az with
   |some x,some xs=>some (x::xs)
   |_,_=>none
def deep (g:AV→AV):Nat→AV→AV
 |0,x=>x
 |n+1,x=>match x with
   |.agg cs=>.agg (cs.map (deep g n))
   |.tup cs=>.tup (cs.map (deep g n))
   |x=>g x
def QS (nb:Nat):List Nat→AV→List Row→AV×List Row
 |[],y,l=>(y,l)
 |i::is,y,l=>match l[i]? with
   |some (.live ver sz els)=>match mapO (mapO unV) els with
     |some rows=>QS nb is (deep (CD (nb+i) ver sz rows) 6 y) ((l.set i (.dead ver)).map (RE (CD (nb+i) ver sz rows)))
     |none=>QS nb is y l
   |_=>QS nb is y l
def ZIK {α:Type}:Nat→List α→List α
 |0,_=>[]
 |n+1,l=>l++ZIK n l

def fin (z:Nat) (b l:List Row) (y:AV) (B l':List Row) (t:Bool):XV:=
 let p:=QS (b.length+l.length) (ZIK z (List.range l'.length).reverse) y l'
 if t=false∧ltB (b.length+l.length) 20 p.1=true then .ok p.1 b l false
 else if B.length=b.length+l.length then .ok p.1 (B.take b.length) (B.drop b.length++p.2) t else .bad

section
variable (T:Nat→Option AFunc) (O:Nat→List AV→Option AV) (Z:Nat→Nat)
end

section
variable {P:Program} {T:Nat→Option AFunc} {O:Nat→List AV→Option AV} {Z:Nat→Nat}

end

def fl {α:Type} (n:Nat) (f:Nat→α):List α:=(List.range n).map f
def fUp {α:Type} (f:Nat→α) (i:Nat) (x:α):Nat→α:=fun j=>if j=i then x else f j
section
variable {α β:Type}
theorem xA {n:Nat} {f:Nat→α}:(fl n f).length=n:=by simp[fl]
theorem FB {n:Nat} {f:Nat→α} {i:Nat} (h:i<n):(fl n f)[i]? = some (f i):=by
 unfold fl;rw[an,jn h];rfl
theorem VH {n:Nat} {f:Nat→α} {i:Nat} (h:n≤i):(fl n f)[i]? = none:=by
 rw[cg];rw[xA];exact h
theorem mM {n:Nat} {f g:Nat→α} (h:∀i,i<n→f i=g i):fl n f=fl n g:=by
 unfold fl
 refine iz (fun i hi=>h i (ay.1 hi))
theorem ZFS {n:Nat} {f:Nat→α} {g:α→β}:(fl n f).map g=fl n (fun i=>g (f i)):=by simp[fl]
theorem ZFR {n:Nat} {f:Nat→α} {i:Nat} {x:α}:(fl n f).set i x=fl n (fUp f i x):=by
 apply ec
 intro j
 by_cases hj:j<n
 ·rw[FB hj]
  unfold fUp
  by_cases j5:j=i
  ·subst j5
   rw[ba (by rw[xA];exact hj),if_pos rfl]
  ·rw[bo (Ne.symm j5),FB hj,if_neg j5]
 ·rw[VH oM,cg];rw[dh,xA];omega
theorem ZH1 {l:List α} {d:α}:fl l.length (fun i=>l.getD i d)=l:=by
 apply ec
 intro j
 by_cases hj:j<l.length
 ·rw[FB hj,au,ah hj];rfl
 ·rw[VH oM,cg oM]
theorem ZAn {n i:Nat} {f:Nat→α} {d:α} (h:i<n):(fl n f).getD i d=f i:=by
 rw[au,FB h];rfl
theorem BI {f:Nat→α} {i:Nat} {x:α}:fUp f i x i=x:=by unfold fUp;rw[if_pos rfl]
theorem UU {f:Nat→α} {i j:Nat} {x:α} (h:j≠i):fUp f i x j=f j:=by unfold fUp;rw[if_neg h]
end

theorem VA.freezeR {e:List AV} {b l:List Row} {i ver sz:Nat} {rows:List (List IV)} (hi:l[i]? = some (.live ver sz (vs rows))) :
  VA e b l (e.map (frz (b.length+i) ver sz rows)) b ((l.set i (.dead ver)).map (RE (CD (b.length+i) ver sz rows))):=by
 intro F L w a s DU
 obtain⟨F',h1,h2,h3,h4⟩:=sJ hi F L w a s DU
 obtain⟨s2,own⟩:=h1.mapRows h4 (fun x hx=>ZBw x hx)
 refine⟨F',L,s2,h2,⟨h3.imm,h3.loc,h3.os,h3.tape,h3.output,h3.size,h3.block,fun k hk ho=>h3.own k hk (own k ho),fun id hid v hv=>?_,h3.fnew⟩,rfl⟩
 have:=h3.base id hid v hv
 rw[aw hid]at this⊢
 exact this
section
variable {P:Program} {nn:Nat}

theorem MR {f:Nat} {args:Array Value} {w:World} {R:Ending→World→Prop} {m:Nat} (h:Calls P f args w R):CallsIn Fence.wide m P f args w R:=callsIn_wide.2 h
theorem yU {row:String} {args:Array Value} {w:World} {R:Value→World→Prop} {m:Nat} (h:Rows P row args w R):RowsIn Fence.wide m P row args w R:=by
 intro c cs _
 obtain⟨v,w',r,s⟩:=h c cs
 exact⟨v,w',r,(stepsIn_wide.2 s:StepsIn (Machine.fenced P Fence.wide) P _ _)⟩
theorem ZB4 {o:Oper} {a:Act} {w:World} {next:Act→World→Prop} {Q:Exit→Act→World→Prop} (hd:∀c,o.op≠.defer c) (h:o.wp P a w next Q):o.wpIn Fence.wide nn P a w next Q:=by
 refine⟨fun _ _=>trivial,?_⟩
 rw[Oper.semAt_eq _ _ _ hd]
 unfold Oper.wp at h
 generalize (execOp a.eval o).run P w=r at *
 cases r with
 |ok x w' =>
   cases x<;>simp only[Oper.upon,Oper.uponIn]at h⊢ <;>
    first
     |exact h
     |exact⟨fun hh=>(by cases hh),MR h⟩
     |exact⟨fun hh=>(by cases hh),yU h⟩
     |exact h.elim
 |halt x w'=>cases x<;>simp only[Oper.upon,Oper.uponIn]at h⊢ <;> exact h
theorem MG {ops:Array Oper} {Q:Exit→Act→World→Prop} (hQ:¬LetsOut Q) (hd:∀(i:Nat) (o:Oper),ops[i]? = some o→∀c,o.op≠.defer c):∀{is:List Nat} {a:Act} {w:World},wpOps P ops Q is a w→wpOpsIn Fence.wide nn P ops Q is a w
 |[],a,w,h=>h
 |i::is,a,w,h=>by
   simp only[wpOps]at h
   simp only[wpOpsIn]
   cases ho:ops[i]? with
   |none=>rw[ho]at h;exact MG hQ hd h
   |some o =>
     rw[ho]at h
     simp only at h⊢
     split
     ·rename_i hw
      rw[if_pos hw]at h
      exact Oper.wpIn_mono (fun a w h=>MG hQ hd h) (ZB4 (hd i o ho) (h.resolve_right (fun hh=>hQ hh.2)))
     ·rename_i hw
      rw[if_neg hw]at h
      exact⟨fun _ _=>trivial,MG hQ hd h⟩
theorem I4 {nb:Nat} {F:Nat→Prop} {L:LMap} {h:List Row} {w:World} {Q:AExit→List AV→List Row→List Row→Prop}:¬LetsOut (Aft nb F L h w Q):=by
 intro hh
 obtain⟨a,w1,ax,_,_,_,_,_,hex,_⟩:=hh
 exact hex
theorem OK {imm:Bool} {ops:Array Oper} {aos:List AOper} (h:vT P imm ops ops.toList=some aos) {i:Nat} {o:Oper} (ho:ops[i]? = some o):∀c,o.op≠.defer c:=by
 intro c hc
 obtain⟨k1,k2⟩:=ET h
 have yA:i<aos.length:=by rw[k1];simpa using (bw.1 ho).1
 obtain⟨o',g1,g2,_⟩:=k2 i aos[i] (ah yA)
 have:o'=o:=by
  have h1:ops[i]? = some o':=by simpa using g1
  rw[ho]at h1;cases h1;rfl
 subst this
 rw[hc]at g2
 simp[PY,cOp]at g2

theorem y7 {imm:Bool} {ops:Array Oper} {n:Nat} {c:ACode} (h:jI P imm n ops=some c):∃aos,vT P imm ops ops.toList=some aos:=by
 have one:∀ds,tR P imm ops=some ds→∃aos,vT P imm ops ops.toList=some aos:=fun ds qP=>by
  unfold tR at qP
  split at qP
  case h_2=>cases qP
  rename_i aos ZCw
  exact⟨aos,ZCw⟩
 cases n with
 |zero =>
   obtain⟨ds,qP,_⟩:=map_some h
   exact one ds qP
 |succ n =>
   unfold jI at h
   split at h
   ·rename_i ds qP;exact one ds qP
   ·split at h
    case h_2=>cases h
    rename_i aos ZCw
    exact⟨aos,ZCw⟩
theorem C5 {C:CallP} (hC:∀f args b l Q,C f args b l Q→QA P f args b l Q) (qS:∀f args b l (Q Q':AV→List Row→List Row→Prop),C f args b l Q→(∀x b' l',Q x b' l'→Q' x b' l')→C f args b l Q'):∀(code:Code) (ac:ACode),AH P code=some ac→∀e b l Q,run C VA ac e b l Q →
  ∀F L w a,Sim F L (b++l) w→MB w F L e a→code.wpIn Fence.wide nn P (Aft b.length F L (b++l) w Q) a w:=by
 intro code
 induction code with
 |skip =>
   intro ac hc e b l Q h F L w a s he
   cases hc
   exact wpIn_skip ⟨.normal,e,b,l,F,L,trivial,s,he,Step.refl _ _ _ _ _,rfl,h⟩
 |region id ops draw =>
   intro ac hc e b l Q h F L w a s he
   cases hc
   cases hc:ZGB P ops draw with
   |none=>rw[hc]at h;exact (gE h).elim
   |some ac =>
   rw[hc]at h
   replace h:run C VA ac e b l Q:=h
   simp only[ZGB]at hc
   cases draw
   case true =>
    simp only[if_true]at hc
    obtain⟨imm,hc⟩:∃imm,jI P imm 6 ops=some ac:=by
     cases hf:jI P false 6 ops with
     |some c=>rw[hf]at hc;cases hc;exact⟨false,hf⟩
     |none=>rw[hf]at hc;exact⟨true,hc⟩
    obtain⟨hm,hp⟩:=GQ hC qS 6 ops ac hc e b l Q h F L w a s he
    obtain⟨aos,ZCw⟩:=y7 hc
    refine wpIn_region_draw fun t=>?_
    simp only[Region.schedule,hm,kb,if_true]
    exact MG I4 (fun i o ho=>OK ZCw ho) (hp _ (EX _ _ _))
   simp only[dw,if_false]at hc
   obtain⟨aos,hao,rfl⟩:=map_some hc
   refine wpIn_region (MG I4 (fun i o ho=>OK hao ho) (rY hC ops ops.toList (List.range ops.size) aos hao ?_ e b l h rfl F L w a s he (Step.refl _ _ _ _ _) ?_))
   ·apply ec
    intro i
    simp only[an]
    by_cases hi:i<ops.size
    ·simp[hi]
    ·simp[hi]
   ·intro e' b' l' F' L' a' w' hq s' he' st hb
    exact⟨.normal,e',b',l',F',L',trivial,s',he',st,hb,hq⟩
 |seq x y ihx ihy =>
   intro ac hc e b l Q h F L w a s he
   simp only[AH]at hc
   split at hc
   case h_2=>cases hc
   rename_i x' y' hx hy
   cases hc
   refine wpIn_seq (wpIn_mono (ihx x' hx e b l _ h F L w a s he) ?_)
   rintro ex a1 w1 ⟨ax,e1,b1,l1,F1,L1,hex,s1,QI,st1,wJ,hq⟩
   cases ex<;>cases ax<;>first|exact hex.elim|skip
   ·simp only[Exit.then]
    refine wpIn_mono (ihy y' hy e1 b1 l1 Q hq F1 L1 w1 a1 s1 QI) ?_
    rintro ex2 a2 w2 ⟨ax2,e2,b2,l2,F2,L2,ZKJ,s2,gJ,st2,gR,QU⟩
    exact⟨ax2,e2,b2,l2,F2,L2,ZKJ,s2,gJ,st1.trans (wJ▸st2),gR.trans wJ,QU⟩
   ·exact⟨_,e1,b1,l1,F1,L1,hex,s1,QI,st1,wJ,hq⟩
   ·exact⟨_,e1,b1,l1,F1,L1,hex,s1,QI,st1,wJ,hq⟩
 |cond c x y ihx ihy =>
   intro ac hc e b l Q h F L w a s he
   simp only[AH]at hc
   split at hc
   case h_2=>cases hc
   rename_i c' x' y' fX hx hy
   cases hc
   simp only[run]at h
   have hr:=mA he fX
   generalize ev e c'=q at *
   split at h
   case h_2=>exact h.elim
   rename_i t
   refine wpIn_cond (uM hr) ?_
   cases t
   ·simp only[dw,if_false]at h⊢
    exact ihy y' hy e b l Q h F L w a s he
   ·simp only[if_true]at h⊢
    exact ihx x' hx e b l Q h F L w a s he
 |block id c ih =>
   intro ac hc e b l Q h F L w a s he
   simp only[AH]at hc
   obtain⟨c',fX,rfl⟩:=map_some hc
   refine wpIn_block (wpIn_mono (ih c' fX e b l _ h F L w a s he) ?_)
   rintro ex a1 w1 ⟨ax,e1,b1,l1,F1,L1,hex,s1,QI,st1,wJ,hq⟩
   cases ex<;>cases ax<;>first|exact hex.elim|skip
   ·exact⟨.normal,e1,b1,l1,F1,L1,trivial,s1,QI,st1,wJ,hq⟩
   ·rename_i i j
    have j5:i=j:=hex
    subst j5
    simp only[Exit.inBlock]
    simp only[E4]at hq
    split
    ·rename_i hi;rw[if_pos hi]at hq;exact⟨.normal,e1,b1,l1,F1,L1,trivial,s1,QI,st1,wJ,hq⟩
    ·rename_i hi;rw[if_neg hi]at hq;exact⟨.exit i,e1,b1,l1,F1,L1,rfl,s1,QI,st1,wJ,hq⟩
   ·exact⟨.ret,e1,b1,l1,F1,L1,trivial,s1,QI,st1,wJ,hq⟩
 |loop c ih =>
   intro ac hc e b l Q h F L w a s he
   simp only[AH]at hc
   obtain⟨c',fX,rfl⟩:=map_some hc
   obtain⟨I,⟨e0,b0,l0,m0,hw0,hI0⟩,S9⟩:=h
   obtain⟨F0,L0,s0,he0,st0,hb0⟩:=hw0 F L w a s he
   refine wpIn_loop_ghost (fun n a1 w1=>∃e1 b1 l1 F1 L1,Sim F1 L1 (b1++l1) w1∧MB w1 F1 L1 e1 a1∧Step b.length F L (b++l) w F1 L1 (b1++l1) w1∧b1.length=b.length∧I e1 b1 l1 n) m0 ⟨e0,b0,l0,F0,L0,s0,he0,st0,hb0,hI0⟩ ?_
   rintro n a1 w1 ⟨e1,b1,l1,F1,L1,s1,QI,st1,wJ,hI1⟩
   refine wpIn_mono (ih c' fX e1 b1 l1 _ (S9 e1 b1 l1 n hI1) F1 L1 w1 a1 s1 QI) ?_
   rintro ex a2 w2 ⟨ax,e2,b2,l2,F2,L2,hex,s2,gJ,st2,gR,hq⟩
   have st12:=st1.trans (wJ▸st2)
   cases ex<;>cases ax<;>first|exact hex.elim|skip
   ·obtain⟨e3,b3,l3,m3,hw3,hI3,yA⟩:=hq
    obtain⟨F3,L3,s3,he3,st3,hb3⟩:=hw3 F2 L2 w2 a2 s2 gJ
    have hbb:b2.length=b.length:=gR.trans wJ
    exact⟨m3,yA,e3,b3,l3,F3,L3,s3,he3,st12.trans (hbb▸st3),hb3.trans hbb,hI3⟩
   ·exact⟨_,e2,b2,l2,F2,L2,hex,s2,gJ,st12,gR.trans wJ,hq⟩
   ·exact⟨_,e2,b2,l2,F2,L2,hex,s2,gJ,st12,gR.trans wJ,hq⟩
 |exit i =>
   intro ac hc e b l Q h F L w a s he
   cases hc
   exact wpIn_exit ⟨.exit i,e,b,l,F,L,rfl,s,he,Step.refl _ _ _ _ _,rfl,h⟩
 |ret =>
   intro ac hc e b l Q h F L w a s he
   cases hc
   exact wpIn_ret ⟨.ret,e,b,l,F,L,trivial,s,he,Step.refl _ _ _ _ _,rfl,h⟩
 |rangeFunc f ps az c ih1 ih2=>intro ac hc e b l Q h;cases hc;exact (gE h).elim
 |scope c ih=>intro ac hc e b l Q h;cases hc;exact (gE h).elim
 |label i=>intro ac hc e b l Q h;cases hc;exact (gE h).elim
 |goto i=>intro ac hc e b l Q h;cases hc;exact (gE h).elim
 |refuse y=>intro ac hc e b l Q h;cases hc;exact (gE h).elim

end
set_option linter.unusedSimpArgs false
inductive Dv (n:Nat) (l:List Row):AV→AV→Prop where
 |v (x:IV):Dv n l (.v x) (.v x)
 |z (sz:Nat):Dv n l (.v .zsl) (.v (.isl sz []))
 |sl (i ver off len sz:Nat) (els:List (List AV)) (rows:List (List IV)) (hi:l[i]? = some (.live ver sz els)) (PJ:off+len≤els.length) (hl:rows.length=len)
   (h1:∀(k:Nat) (r:List AV) (row:List IV),els[off+k]? = some r→rows[k]? = some row→r.length=row.length)
   (h2:∀(k:Nat) (r:List AV) (row:List IV) (j:Nat) (a:AV) (c:IV),els[off+k]? = some r→rows[k]? = some row→r[j]? = some a→row[j]? = some c→Dv n l a (.v c)):Dv n l (.sl (n+i) ver off len) (.v (.isl sz rows))
 |agg (cs ds:List AV) (hl:cs.length=ds.length) (h:∀(i:Nat) (c d:AV),cs[i]? = some c→ds[i]? = some d→Dv n l c d):Dv n l (.agg cs) (.agg ds)
 |tup (cs ds:List AV) (hl:cs.length=ds.length) (h:∀(i:Nat) (c d:AV),cs[i]? = some c→ds[i]? = some d→Dv n l c d):Dv n l (.tup cs) (.tup ds)
def DvR (n:Nat) (l:List Row) (r:List AV) (row:List IV):Prop:=r.length=row.length∧∀(j:Nat) (a:AV) (c:IV),r[j]? = some a→row[j]? = some c→Dv n l a (.v c)
theorem DvR.nil {n:Nat} {l:List Row}:DvR n l [] []:=⟨rfl,fun j a c h=>by simp at h⟩
theorem DvR.cons {n:Nat} {l:List Row} {a:AV} {c:IV} {r:List AV} {row:List IV} (h:Dv n l a (.v c)) (t:DvR n l r row):DvR n l (a::r) (c::row):=by
 refine⟨by simp[t.1],fun j x y hx hy=>?_⟩
 cases j with
 |zero=>simp at hx hy;subst hx;subst hy;exact h
 |succ j=>exact t.2 j x y (by simpa using hx) (by simpa using hy)
theorem DvR.plain {n:Nat} {l:List Row} {row:List IV}:DvR n l (row.map .v) row:=by
 refine⟨by simp,fun j a c ha hc=>?_⟩
 rw[an,hc]at ha
 cases ha
 exact .v c
def DvL (n:Nat) (l:List Row) (cs ds:List AV):Prop:=cs.length=ds.length∧∀(i:Nat) (c d:AV),cs[i]? = some c→ds[i]? = some d→Dv n l c d
theorem DvL.nil {n:Nat} {l:List Row}:DvL n l [] []:=⟨rfl,fun j a c h=>by simp at h⟩
theorem DvL.cons {n:Nat} {l:List Row} {a d:AV} {cs ds:List AV} (h:Dv n l a d) (t:DvL n l cs ds):DvL n l (a::cs) (d::ds):=by
 refine⟨by simp[t.1],fun j x y hx hy=>?_⟩
 cases j with
 |zero=>simp at hx hy;subst hx;subst hy;exact h
 |succ j=>exact t.2 j x y (by simpa using hx) (by simpa using hy)
theorem Dv.aggL {n:Nat} {l:List Row} {cs ds:List AV} (h:DvL n l cs ds):Dv n l (.agg cs) (.agg ds):=.agg cs ds h.1 h.2
theorem Dv.tupL {n:Nat} {l:List Row} {cs ds:List AV} (h:DvL n l cs ds):Dv n l (.tup cs) (.tup ds):=.tup cs ds h.1 h.2
theorem Dv.slR {n:Nat} {l:List Row} {i ver off len sz:Nat} {els:List (List AV)} {rows:List (List IV)} (hi:l[i]? = some (.live ver sz els)) (PJ:off+len≤els.length) (hl:rows.length=len)
  (h:∀(k:Nat) (r:List AV) (row:List IV),els[off+k]? = some r→rows[k]? = some row→DvR n l r row):Dv n l (.sl (n+i) ver off len) (.v (.isl sz rows)):=
 .sl i ver off len sz els rows hi PJ hl (fun k r row h1 h2=>(h k r row h1 h2).1) (fun k r row j a c h1 h2=>(h k r row h1 h2).2 j a c)
theorem Dv.slV {n:Nat} {l:List Row} {i ver sz len:Nat} {rows:List (List IV)} (hi:l[i]? = some (.live ver sz (vs rows))) (hl:len=rows.length):Dv n l (.sl (n+i) ver 0 len) (.v (.isl sz rows)):=by
 refine Dv.slR hi (by rw[DB];omega) hl.symm (fun k r row h1 h2=>?_)
 rw[cn,xB,h2]at h1
 cases h1
 exact DvR.plain
theorem Dv.slVoff {n:Nat} {l:List Row} {i ver sz off len:Nat} {rows:List (List IV)} (hi:l[i]? = some (.live ver sz (vs rows))) (hl:off+len=rows.length):Dv n l (.sl (n+i) ver off len) (.v (.isl sz (rows.drop off))):=by
 refine Dv.slR hi (by rw[DB];omega) (by rw[cr];omega) (fun k r row h1 h2=>?_)
 rw[dp]at h2
 rw[xB,h2]at h1
 cases h1
 exact DvR.plain
theorem Dv.lt {n:Nat} {l:List Row} {x y:AV} (h:Dv n l x y) (m:Nat):AVlt m y:=by
 induction h with
 |v x=>exact .v x
 |z sz=>exact .v _
 |sl=>exact .v _
 |agg cs ds hl _ ih =>
   refine .agg _ (fun d hd=>?_)
   obtain⟨i,hi⟩:=ek.1 hd
   have IU:=(am.1 hi).1
   exact ih i cs[i] d (ah oM) hi
 |tup cs ds hl _ ih =>
   refine .tup _ (fun d hd=>?_)
   obtain⟨i,hi⟩:=ek.1 hd
   have IU:=(am.1 hi).1
   exact ih i cs[i] d (ah oM) hi
theorem Dv.more {n:Nat} {l:List Row} (k:List Row) {x y:AV} (h:Dv n l x y):Dv n (l++k) x y:=by
 induction h with
 |v x=>exact .v x
 |z sz=>exact .z sz
 |sl i ver off len sz els rows hi PJ hl h1 _ ih =>
   exact .sl i ver off len sz els rows (by rw[aw (am.1 hi).1];exact hi) PJ hl h1 ih
 |agg cs ds hl _ ih=>exact .agg cs ds hl ih
 |tup cs ds hl _ ih=>exact .tup cs ds hl ih
def FD (F:Nat→Prop) (L:LMap) (n:Nat) (l:List Row) (k:Nat):Prop:=F k∨∃i ver sz els q,l[i]? = some (.live ver sz els)∧L (n+i) ver=some q∧q.on k
theorem Dv.rep {F:Nat→Prop} {L:LMap} {b l:List Row} {w:World} (s:Sim F L (b++l) w) {x y:AV} (h:Dv b.length l x y):∀v,RepA w F L x v→RepA w (FD F L b.length l) L y v:=by
 have mono:∀{x:AV} {v:Value},RepA w F L x v→RepA w (FD F L b.length l) L x v:=fun hx=>hx.mono (fun _ h=>.inl h) (fun _ _=>rfl) (fun _ _ _ h=>h)
 induction h with
 |v x=>exact fun v hv=>mono hv
 |z sz =>
   intro v hv
   cases hv.vI
   exact .v _ _ (.isl0 _ _ _ (aj _))
 |sl i ver off len sz els rows hi PJ hl h1 h2 ih =>
   intro v hv
   have RC:(b++l)[b.length+i]? = some (.live ver sz els):=by rw[aq oM,cj];exact hi
   obtain⟨q,k1,k2⟩:=s.row _ _ _ _ RC
   refine .v _ _ ?_
   cases hv with
   |sl _ _ _ _ blk o z cap hL g1 g2 =>
     rw[k1]at hL;cases hL
     obtain⟨q1,q2,q3,cur,T,q4,q5,q6,q7⟩:=k2
     subst q1
     have qG:∀(k:Nat) (row:List IV) (j:Nat) (c:IV),rows[k]? = some row→row[j]? = some c→∃u,w.cell? ⟨blk,o+off*z+k*z+j,none⟩=some u∧RepI w (FD F L b.length l) c u:=by
      intro k row j c hk hj
      have FJ:=(am.1 hk).1
      have yG:=(am.1 hj).1
      have hr:els[off+k]? = some els[off+k]:=ah oM
      have hlr:=h1 k _ row hr hk
      have ha:els[off+k][j]? = some els[off+k][j]:=ah oM
      obtain⟨_,u,g3,g4⟩:=q7 (off+k) _ j _ hr ha
      refine⟨u,?_,(ih k _ row j _ c hr hk ha hj u g4).vI⟩
      rw[bx]at g3
      simp only[World.cell?,q4]
      rw[←g3]
      simp[cw]
     have:=RepI.isl (w:=w) (F:=FD F L b.length l) rows blk (o+off*z) z (cap-off) (fun k j=>(w.cell? ⟨blk,o+off*z+k*z+j,none⟩).getD undef) (.inr ⟨i,ver,z,els,_,hi,k1,rfl⟩) oM oM
      (fun k row hk=>by
       have FJ:=(am.1 hk).1
       have hr:els[off+k]? = some els[off+k]:=ah oM
       rw[←h1 k _ row hr hk]
       exact q6 _ _ hr)
      (fun k row j c hk hj=>by
       obtain⟨u,g3,_⟩:=qG k row j c hk hj
       rw[g3];rfl)
      (fun k row j c hk hj=>by
       obtain⟨u,g3,g4⟩:=qG k row j c hk hj
       rw[g3];exact g4)
     rw[hl]at this
     exact this
   |slz =>
     have:rows=[]:=ct hl
     rw[this];exact .isl0 _ _ _ oM
   |sln =>
     have:rows=[]:=ct hl
     rw[this];exact .isl0 _ _ _ oM
 |agg cs ds hl _ ih =>
   intro v hv
   obtain⟨us,rfl,hu⟩:=hv.aggL
   refine DA.agg ⟨by rw[←hl];exact hu.1,fun j d u hd hju=>?_⟩
   have yG:=(am.1 hd).1
   have hc:cs[j]? = some cs[j]:=ah oM
   exact ih j _ d hc hd u (hu.2 j _ u hc hju)
 |tup cs ds hl _ ih =>
   intro v hv
   obtain⟨us,rfl,hu⟩:=hv.tupL
   refine DA.tup ⟨by rw[←hl];exact hu.1,fun j d u hd hju=>?_⟩
   have yG:=(am.1 hd).1
   have hc:cs[j]? = some cs[j]:=ah oM
   exact ih j _ d hc hd u (hu.2 j _ u hc hju)
def iF (r:Row):Row:=.dead r.ver
theorem VK {b l:List Row} {j v z:Nat} {els:List (List AV)} (h:(b++l.map iF)[j]? = some (.live v z els)):j<b.length∧(b++l)[j]? = some (.live v z els):=by
 by_cases hj:j<b.length
 ·rw[aw hj]at h⊢
  exact⟨hj,h⟩
 ·rw[aq oM,an]at h
  cases hq:l[j-b.length]? with
  |none=>rw[hq]at h;cases h
  |some r=>rw[hq]at h;cases h
theorem VA.deep {b l:List Row} {e e':List AV} (hl:e.length=e'.length) (hd:∀(i:Nat) (x y:AV),e[i]? = some x→e'[i]? = some y→Dv b.length l x y) (hR:gA b.length b):VA e b l e' b []:=by
 refine VA.trans (e2:=e') (b2:=b) (l2:=l.map iF) ?_ (VA.trim (l1:=[]) rfl (fun y hy=>?_) (by simpa using hR) tE)
 ·intro F L w a s DU
  have FF:∀k,GC L (b++l.map iF) k→GC L (b++l) k:=by
   rintro k ⟨j,v,z,els,q,h1,h2,h3⟩
   exact⟨j,v,z,els,q,(VK h1).2,h2,h3⟩
  have UE:∀{i ver sz els},l[i]? = some (.live ver sz els)→(b++l)[b.length+i]? = some (.live ver sz els):=fun hi=>by
   rw[aq oM,cj];exact hi
  refine⟨FD F L b.length l,L,⟨fun j v z els hj=>?_,fun j v q hq=>?_,fun j j' v v' z z' e1 e2 bb q1 q2 h1 h2=>s.apart j j' v v' z z' e1 e2 bb q1 q2 (VK h1).2 (VK h2).2,fun k hk=>?_,s.glob.mono (fun _ h=>.inl h) (fun _ _=>rfl)⟩,
   ⟨DU.1,by rw[←hl];exact DU.2.1,fun i y v hy hv=>?_⟩,⟨fun _ h=>.inl h,fun _ _ _ _ h=>h,rfl,rfl,rfl,ai _,fun _ _ _=>rfl,fun k _ ho=>FF k ho,fun id hid v hv=>?_,fun k hk hf=>?_⟩,rfl⟩
  ·obtain⟨q,g1,g2⟩:=s.row j v z els (VK hj).2
   exact⟨q,g1,g2.mono (fun _ _=>rfl) (fun _ _ h=>h.mono (fun _ h=>.inl h) (fun _ _=>rfl) (fun _ _ _ h=>h))⟩
  ·obtain⟨r,h1,h2⟩:=s.born j v q hq
   by_cases hj:j<b.length
   ·exact⟨r,by rw[aw hj]at h1⊢;exact h1,h2⟩
   ·rw[aq oM]at h1
    exact⟨iF r,by rw[aq oM,an,h1];rfl,h2⟩
  ·rcases hk with hk|⟨i,ver,sz,els,q,h1,h2,h3⟩
   ·exact⟨(s.imm k hk).1,fun ho=>(s.imm k hk).2 (FF k ho)⟩
   ·obtain⟨q',g1,g2⟩:=s.row _ _ _ _ (UE h1)
    rw[h2]at g1;cases g1
    refine⟨g2.lt h3,?_⟩
    rintro⟨j,v,z,els',q2,k1,k2,k3⟩
    obtain⟨hj,k4⟩:=VK k1
    have:=s.apart j (b.length+i) v ver z sz els' els k q2 q k4 (UE h1) k2 h2 k3 h3
    omega
  ·have M9:=(am.1 hy).1
   have hx:e[i]? = some e[i]:=ah oM
   exact (hd i _ y hx hy).rep s v (DU.2.2 i _ v hx hv)
  ·rw[aw hid]at hv⊢;exact hv
  ·rcases hf with hf|⟨i,ver,sz,els,q,h1,h2,h3⟩
   ·exact .inl hf
   ·exact .inr ⟨_,_,_,_,_,UE h1,h2,h3⟩
 ·obtain⟨i,hi⟩:=ek.1 hy
  have M9:=(am.1 hi).1
  exact (hd i _ y (ah (show i<e.length by omega)) hi).lt _
theorem GA {e:List AV} {l:List Row} {rs:List ARes} {Q:AV→List Row→List Row→Prop} {B:List Row} {ex:AExit} (hex:ex=.normal∨ex=.ret) {xs:List AV} (hx:resVs e B l rs=some xs) {y:AV} (hd:Dv B.length l (one xs) y) (hR:gA B.length B) {b0 l0:List Row} (hB:B=b0++l0) (hq:Q y b0 l0) :
  uH rs Q b0.length ex e B l:=
 MU hex hx (y:=y) (l':=[]) (VA.deep rfl (fun i x z hx hz=>by
  cases i with
  |zero=>simp at hx hz;subst hx;subst hz;exact hd
  |succ i=>simp at hx) hR) hB (by rw[cu];exact hq)
theorem QA.deep {P:Program} {f:Nat} {args:List AV} {b l N:List Row} {x y:AV} (hd:Dv (b.length+l.length) N x y)
  (h:QA P f args b l (fun r b' l'=>r=x∧b'=b∧l'=l++N)):QA P f args b l (fun r b' l'=>r=y∧b'=b∧l'=l):=by
 refine⟨h.1,fun F L w vs s hr=>Calls.mono (h.2 F L w vs s hr) ?_⟩
 rintro en w' ⟨v,x',b',l',F',L',h1,h2,h3,h4,h5,rfl,rfl,rfl⟩
 have hbl:(b'++l).length=b'.length+l.length:=ap
 have ZKK:Sim F' L' ((b'++l)++N) w':=by rw[bf];exact h3
 have hw:VA [x'] (b'++l) N [y] (b'++l) []:=VA.deep rfl (fun i x z hx hz=>by
  cases i with
  |zero=>simp at hx hz;subst hx;subst hz;rw[hbl];exact hd
  |succ i=>simp at hx) s.rowsLt
 obtain⟨F3,L3,k1,k2,k3,k5⟩:=hw F' L' w' {tmps:=#[v],defers:=[]} ZKK ⟨rfl,rfl,fun j z u hz hu=>by
  cases j with
  |zero=>simp at hz hu;subst hz;subst hu;exact h2
  |succ j=>simp at hz⟩
 rw[cu]at k1 k3
 refine⟨v,y,b',l,F3,L3,h1,k2.2.2 0 _ v rfl rfl,k1,?_,h5,rfl,rfl,rfl⟩
 refine h4.trans ?_
 rw[←bf]
 exact k3
end Go.Proofs.YtmaokjojbjdpoaaGreatDoor
