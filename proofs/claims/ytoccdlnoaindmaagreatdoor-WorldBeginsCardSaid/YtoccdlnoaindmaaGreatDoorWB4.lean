/- Texts of one proof, laid together: VL, Y, V, RI, RD, OM, KP, PP, OA, RQ, FD, CT. No condition. -/
import Derived.Test.YtoccdlnoaindmaaGreatDoorWB1
import Derived.Test.YtoccdlnoaindmaaGreatDoorWB3
import Derived.KernelRfl
import Derived.Laws.MakeOwn
set_option maxHeartbeats 4000000
set_option maxRecDepth 100000
namespace Go.Proofs.YtoccdlnoaindmaaGreatDoor
set_option linter.unusedVariables false
set_option linter.unusedSimpArgs false

theorem KA {α:Type} {l:List α} {i:Nat} {d:α} (h:i<l.length):l.getD i d=l[i]:=by simp[List.getD,h]
theorem ZA4 {v w:List Int} (h:v.length=w.length) (hg:∀i,i<v.length→v.getD i 0=w.getD i 0):v=w:=by
 refine List.ext_getElem h (fun i h1 h2=>?_)
 have:=hg i h1
 rwa [KA h1,KA h2]at this
theorem getD_set_ne {α:Type} {l:List α} {i j:Nat} {x d:α} (h:i≠j):(l.set i x).getD j d=l.getD j d:=by
 simp only[List.getD_eq_getElem?_getD,List.getElem?_set_ne h]
open Go.RowKit
attribute [local go_sem] Oper.semAt_some

def YI (t:Tr) (w:World) (u:Value) (bL:Nat) (l:List (Nat×Nat)) (W:World):Prop:=
 (((((UA W w.heap.size 36 #[u]∧UA W (w.heap.size+1) 143 #[.pointer (some ⟨bL,0,none⟩)])∧UA W (w.heap.size+1+1) 81 #[.int .i64 0,.int .i64 0])∧UA W (w.heap.size+1+1+1) 4 #[.bool false])∧Ext w W)∧∀x∈l,¬Hb t x x)
def YX (t:Tr) (w:World) (l:List (Nat×Nat)) (W:World):Prop:=
 ∃a x,(((l=a++[x]∧(∀y∈a,¬Hb t y y)∧Hb t x x)∧UA W (w.heap.size+1+1) 81 #[.int .i64 x.1,.int .i64 x.2])∧UA W (w.heap.size+1+1+1) 4 #[.bool true])∧Ext w W
open Classical in
noncomputable def VH (t:Tr):Option (Nat×Nat):=(ids t).find? (fun x=>decide (Hb t x x))
def YPost (t:Tr) (w:World) (e:Ending) (w':World):Prop:=Ext w w' ∧
 ((∃x,VH t=some x∧e=.returned (.tuple #[UB x,.bool true]))∨(VH t=none∧e=.returned (.tuple #[UB (0,0),.bool false])))
theorem R2 (t:Tr) (w:World) (u:Value) (bL:Nat) {n:Nat} (hn:w.heap.size≤n):OwnFrom n (fun (pre:List (Idt t)) W=>YI t w u bL (pre.map (·.1)) W):=
 OwnFrom.and (OwnFrom.and (OwnFrom.and (OwnFrom.and (OwnFrom.and (rA _ _ _ _) (rA _ _ _ _)) (rA _ _ _ _)) (rA _ _ _ _)) (pG hn)) (ownFrom_pure _ _)
theorem ZCJ (t:Tr) (w:World) {n:Nat} (hn:w.heap.size≤n):OwnFrom n (fun (pre:List (Idt t)) W=>YX t w (pre.map (·.1)) W):=by
 rintro s X Y row ⟨a,x,h⟩ hg hr
 refine⟨a,x,⟨⟨h.1.1.1,?_⟩,?_⟩,pG hn () X Y row h.2 hg hr⟩
 ·exact rA _ n _ (fun (_:Unit)=>_) () X Y row h.1.1.2 hg hr
 ·exact rA _ n _ (fun (_:Unit)=>_) () X Y row h.1.2 hg hr
theorem ZDD {t:Tr} (h:∀x∈ids t,¬Hb t x x):VH t=none:=by
 unfold VH
 rw[List.find?_eq_none]
 intro x hx;simpa using h x hx
open Classical in
theorem ZDC {t:Tr} {a:List (Nat×Nat)} {x:Nat×Nat} (hp:a++[x] <+: ids t) (ha:∀y∈a,¬Hb t y y) (hx:Hb t x x):VH t=some x:=by
 obtain⟨c,hc⟩:=hp
 unfold VH
 rw[←hc,List.append_assoc,List.find?_append]
 have:a.find? (fun x=>decide (Hb t x x))=none:=by
  rw[List.find?_eq_none]
  intro y hy;simpa using ha y hy
 rw[this]
 simp[hx]
def tU (w:World) (r:Nat):Nat:=match w.heap[r]? with|some (.map es _)=>es.size|_=>0
theorem VI.size {w:World} {r:Nat} {S:List (Nat×Nat)} (h:VI w r S):tU w r=S.length:=by
 obtain⟨es,clock,hb,hS⟩:=h
 unfold tU
 rw[hb]
 have:=congrArg List.length hS
 simpa using this
def lenV:Value→Nat|.slice _ n _=>n|_=>0
def SrI (t:Tr) (id:Nat×Nat) (W:World) (r:Nat) (v:Value) (wr:World):Prop:=∃S R,DfsI t id S R∧VI wr r S∧SD wr W.heap.size v R∧Ext W wr∧2*((ids t).length-S.length)+R.length≤2*(ids t).length+1
def SrJ (t:Tr) (id x:Nat×Nat) (W:World) (r N:Nat) (v2 i v:Value) (wr:World):Prop:=∃S R k,DfsJ t id x S R k∧k≤(HH t x).length∧i=.int .i64 k∧VI wr r S∧SD wr W.heap.size v R∧Ext W wr∧2*((ids t).length-S.length)+R.length≤N∧SD wr 0 v2 (HH t x)∧(∀k,v.ownBlock=some k→v2.ownBlock≠some k)
theorem snoc_cases {α:Type} (l:List α):l=[]∨∃L b,l=L++[b]:=by
 rcases List.eq_nil_or_concat l with h|⟨L,b,h⟩
 ·exact .inl h
 ·exact .inr ⟨L,b,by rw[h,List.concat_eq_append]⟩
theorem ZAV {l:List (Nat×Nat)}:∀{k:Nat} {z:Nat×Nat},l[k]? = some z→(OJ l)[k*2]? = some (.int .i64 z.1)∧(OJ l)[k*2+1]? = some (.int .i64 z.2):=by
 induction l with
 |nil=>intro k z h;simp at h
 |cons a l ih =>
   intro k z h
   have e:OJ (a::l)=(.int .i64 a.1)::(.int .i64 a.2)::OJ l:=rfl
   rw[e]
   cases k with
   |zero=>simp at h;subst h;simp
   |succ k =>
     have:=ih (k:=k) (z:=z) (by simpa using h)
     rw[show (k+1)*2=k*2+1+1 by omega]
     simpa using this
theorem SD.at_ {w:World} {B:Nat} {v:Value} {l:List (Nat×Nat)} (h:SD w B v l) (h0:0<l.length):∃g off cap,v=.slice (some ⟨g,off,none⟩) l.length cap∧l.length≤cap∧cap≤maxLen∧B≤g∧g<w.heap.size ∧
  ∀(k:Nat) (z:Nat×Nat),l[k]? = some z→w.cell? ⟨g,off+k*2,none⟩=some (.int .i64 z.1)∧w.cell? ⟨g,off+k*2+1,none⟩=some (.int .i64 z.2):=by
 obtain⟨g,off,cap,cur,rfl,h1,h2,h3,h4,h5,h6⟩:=tB.open_ h h0
 refine⟨g,off,cap,rfl,h3,h4,h1,h2.lt,fun k z hk=>?_⟩
 obtain⟨a,b⟩:=ZAV hk
 exact⟨h2.cell (h6 _ _ a),h2.cell (h6 _ _ b)⟩
theorem SD.pop {w:World} {B:Nat} {A:Option Addr} {c n:Nat} {l:List (Nat×Nat)} {y:Nat×Nat} (h:SD w B (.slice A n c) (l++[y])):SD w B (.slice A l.length c) l:=by
 obtain⟨A',c',hv,_⟩:=tB.form h
 injection hv with e1 e2 e3
 subst e1;subst e2;subst e3
 have:=tB.take h l.length (by simp)
 have e:(OJ (l++[y])).take (l.length*2)=OJ l:=by
  rw[show OJ (l++[y])=OJ l++OJ [y] by simp[OJ],List.take_left' (ZAU l)]
 rw[e]at this
 exact this

theorem uZ (u:Value) (t:Tr) (bL:Nat) (cs:Array Value) (w:World) (hl:t.length≤1000000) (rK:∀x∈t,x.evs.length≤1000000) (hN:(ids t).length≤1000000) (hs:SlR 3 RPr w u t) (FM:∀x∈ids t,CB t.length x.1 (sA t x)=true)
  (hL:UA w bL 187 cs) (hA:fN t (ids t) cs) :
  Calls Tryz.prog 146 #[.agg #[u],.pointer (some ⟨bL,0,none⟩)] w fun e w'=>YPost t w e w':=by
 refine callsIn_wide (n:=9).1 ?_
 refine callsIn_of_wp_marks Tryz.func146 rfl trivial ?_ rfl
 simp only[Tryz.ntmps146,List.size_toArray,List.length_cons,List.length_nil,Nat.reduceAdd,Nat.reduceSub,Array.replicate_succ,Array.replicate_zero,List.push_toArray,List.append_toArray,List.nil_append,List.cons_append]
 gi_wp2_with (refine⟨trivial,?_⟩;gi_at_call 101;refine (callsIn_wide.2 (CH _ _)).mono ?_;rintro e w' ⟨rfl,rfl⟩)
 obtain⟨W0,j0⟩:∃W0,(((((w.alloc (Obj.cells #[u] 36)).alloc (Obj.cells #[Value.pointer (some ⟨bL,0,none⟩)] 143)).alloc (Obj.cells #[Value.int IntKind.i64 0,Value.int IntKind.i64 0] 81)).alloc (Obj.cells #[Value.bool false] 4)).alloc (Obj.cells #[u] 36))=W0:=⟨_,rfl⟩
 rw[j0]
 have sM:W0.heap.size=w.heap.size+1+1+1+1+1:=by rw[←j0];simp
 have hM0:YI t w u bL [] W0:=by
  rw[←j0]
  refine⟨⟨⟨⟨⟨?_,?_⟩,?_⟩,?_⟩,?_⟩,fun x hx=>by cases hx⟩
  ·exact ((((UA.newAt _ _ (by simp)).alloc _).alloc _).alloc _).alloc _
  ·exact (((UA.newAt _ _ (by simp)).alloc _).alloc _).alloc _
  ·exact ((UA.newAt _ _ (by simp)).alloc _).alloc _
  ·exact (UA.newAt _ _ (by simp)).alloc _
  ·exact (((((Ext.refl w).alloc _).alloc _).alloc _).alloc _).alloc _
 have bt:UA W0 (w.heap.size+1+1+1+1) 36 #[u]:=by rw[←j0];exact UA.newAt _ _ (by simp)
 clear j0
 have qO:Ext w W0:=hM0.1.2
 refine wpIn_rangeFunc_ownH rfl oM (gf:=148) (lb:=#[.pointer (some ⟨w.heap.size+1+1+1+1,0,none⟩)]) rfl trivial (DC Tryz.func148 (by decide) rfl)
  (gG 8 oM w u t (w.heap.size+1+1+1+1) W0 hl rK hs qO (bt.cell rfl) oM) belowK_t (belowK_b oM) (Below.refl _ _) (fun _=>rfl)
  (fun pre W=>YI t w u bL (pre.map (·.1)) W) (fun c pre W=>c=.ret∧YX t w (pre.map (·.1)) W) (R2 t w u bL oM) (fun c=>OwnFrom.and (ownFrom_pure _ _) (ZCJ t w oM)) hM0
  (fun x a' W=>∃B6 v14 v15,w.heap.size+1+1+1<B6∧UA W B6 81 #[.int .i64 x.1.1,.int .i64 x.1.2] ∧
   a'={tmps:=#[.agg #[u],.pointer (some ⟨bL,0,none⟩),.pointer (some ⟨w.heap.size,0,none⟩),.pointer (some ⟨w.heap.size+1,0,none⟩),.pointer (some ⟨w.heap.size+1+1,0,none⟩),.pointer (some ⟨w.heap.size+1+1+1,0,none⟩),.pointer (some ⟨B6,0,none⟩),undef,undef,undef,undef,undef,.agg #[u],.func (.func 148) #[] #[.pointer (some ⟨w.heap.size+1+1+1+1,0,none⟩)],v14,v15,undef,undef,undef,undef,undef,undef,undef,undef,undef,undef,undef,undef,undef,undef,undef,undef,undef,undef,undef,undef,undef,undef,undef,undef,undef,undef,undef,undef,undef,undef,undef,undef,undef,undef,undef,undef,undef,undef,undef,undef,undef,undef],defers:=[]})
  ?hax ?assign ?body ?done ?stop
 case hax =>
  rintro x a' _ X Y row ⟨B6,v14,v15,hB,b6,ha⟩ hg hr
  exact⟨B6,v14,v15,hB,rA B6 _ _ (fun (_:Unit)=>_) () X Y row b6 hg hr,ha⟩
 case assign =>
  rintro l pre x W K hI hK
  have hsW:=hI.1.2.size
  have h5:=hI.1.1.2.lt
  unfold UB
  gi_wp2
  exact hK _ _ ((KeepsOthers.alloc _ _).from _) ((Below.refl _ W).alloc hsW _) ((R2 t w u bL (Nat.le_refl _)).alloc _ hI) ⟨W.heap.size,_,_,h5,UA.new _ _ _,rfl⟩
 case body =>
  rintro l pre x a' W hlW ⟨r,hr⟩ hI ⟨B6,v14,v15,hB,b6,rfl⟩ FC
  have hI0:=hI
  obtain⟨⟨⟨⟨⟨tb,lb⟩,r1⟩,r2⟩,hx0⟩,jP⟩:=hI
  have hsW:=hx0.size
  have hB6:=b6.lt
  have t3:=r2.lt
  have HNO:=jA jP
  clear jP
  have i0:=b6.cell (j:=0) rfl
  have i1:=b6.cell (j:=1) rfl
  have hmm:=@run_makeMap Tryz.prog
  gi_wp2
  clear hmm i0 i1
  gi_loopw [8] (fun v wr=>SrI t x.1 W W.heap.size v wr) (fun v wr=>2*((ids t).length-tU wr W.heap.size)+lenV v)
  case atStart =>
   refine⟨[],[x.1],DfsI.start t x.1,(VI.new W).alloc _,?_,((Ext.refl W).alloc _).alloc _,by simp⟩
   exact tB.madeAt (by simp) #[.int .i64 x.1.1,.int .i64 x.1.2] (by simp) (by simp[maxLen]) rfl
  case round =>
   obtain⟨Sn,R,hD,hm,ho,hx,C8⟩:=hrel
   have HM:=jA hm
   have HO:=jA ho
   have HD:=jA hD
   have tb1:=tb.ext hx
   have lb1:=lb.ext hx
   have b61:=b6.ext hx
   have lt1:=tb1.lt
   have lt2:=lb1.lt
   have lt3:=b61.lt
   have t0:=tb1.cell (j:=0) rfl
   have l0:=lb1.cell (j:=0) rfl
   have i0:=b61.cell (j:=0) rfl
   have i1:=b61.cell (j:=1) rfl
   rcases snoc_cases R with rfl|⟨R',y,rfl⟩
   ·obtain⟨A,c,rfl,_,_⟩:=ho.form
    clear hm ho hD
    gi_wp2
    refine⟨KF.ext (KeepsFrom.refl _ _) hx,BL.ext (Below.refl _ _) hx hsW,?_⟩
    show YI t w u bL ((pre++[x]).map (·.1)) _
    rw[MF]
    refine⟨⟨⟨⟨⟨tb1,lb1⟩,r1.ext hx⟩,r2.ext hx⟩,hx0.trans hx⟩,fun z hz=>?_⟩
    rcases List.mem_append.1 hz with h1|h1
    ·exact HNO.out z h1
    ·rw[show z=x.1 by simpa using h1];exact HD.out.no
   ·obtain⟨g,off,cap,rfl,KB,IG,NO,hg4,hg5⟩:=ho.at_ (by simp)
    have hop:=jA (SD.pop ho)
    obtain⟨c0,c1⟩:=hg5 R'.length y (by simp)
    rw[List.length_append,List.length_singleton]at KB
    have hJ:=jA hD.pop
    have hy:=hJ.out.mem x.2
    have IE:=dB c0
    clear hm ho hD hg5
    simp only[List.length_append,List.length_cons,List.length_nil,Nat.zero_add]at *
    unfold maxLen at IG
    gi_wp2_with fail
    refine⟨trivial,?_⟩
    have rH:Ext W (wr.alloc (.cells #[.int .i64 y.1,.int .i64 y.2] 81)):=hx.alloc _
    refine (CallsIn.inRound l (callsIn_wide (n:=6).2 (r7 u t y.1 y.2 bL cs _ hl rK (hs.ext RPr.keeps (hx0.trans rH)) hy FM (hL.ext (hx0.trans rH)) hA))).mono ?_
    rintro e w2 ⟨v2,rfl,U9,sI⟩
    have A8:=(HM.out.alloc _).ext sI
    have ho3:=tB.ext (tB.alloc hop.out _) sI
    have tb2:=(tb1.alloc _).ext sI
    have lb2:=(lb1.alloc _).ext sI
    have b62:=(b61.alloc _).ext sI
    have hx2:=rH.trans sI
    have ho4:SD w2 0 v2 (HH t (y.1,y.2)):=tB.mono U9 (Nat.zero_le _)
    have KH:∀k,(Value.slice (some ⟨g,off,none⟩) R'.length cap).ownBlock=some k→v2.ownBlock≠some k:=fun k hk e=>by
     simp[Value.ownBlock]at hk;subst hk
     have:=(tB.blk U9 _ e).1
     simp at this;omega
    have HM2:=jA (show SrJ t x.1 y W W.heap.size (2*((ids t).length-Sn.length)+R'.length) v2 (.int .i64 0) (.slice (some ⟨g,off,none⟩) R'.length cap) w2 from⟨Sn,R',0,hJ.out,Nat.zero_le _,rfl,A8,ho3,hx2,Nat.le_refl _,ho4,KH⟩)
    obtain⟨A2,c2,rfl,hv1,hv2⟩:=tB.form U9
    unfold maxLen at hv2
    have hv3:(HH t y).length≤c2:=hv1
    clear A8 ho3 ho4 KH U9 c0 c1 t0 l0 i0 i1
    gi_wp2
    gi_loopw [38,8] (fun i v wi=>SrJ t x.1 y W W.heap.size (2*((ids t).length-Sn.length)+R'.length) (.slice A2 (HH t (y.1,y.2)).length c2) i v wi) (fun i _ _=>(HH t y).length-(intOf i).toNat)
    case atStart=>exact HM2.out
    case round =>
     obtain⟨S,R,k,hJ,hk,rfl,hm,ho,BP,hNN,hd2,KH⟩:=hrel
     have HJ:=jA hJ
     have HM3:=jA hm
     have HO3:=jA ho
     have HD2:=jA hd2
     have HNE:=jA KH
     have tb3:=tb.ext BP
     have lb3:=lb.ext BP
     have b63:=b6.ext BP
     have r13:=r1.ext BP
     have r23:=r2.ext BP
     have lt13:=tb3.lt
     have lt23:=lb3.lt
     have lt33:=b63.lt
     have lt43:=r13.lt
     have lt53:=r23.lt
     have i0:=b63.cell (j:=0) rfl
     have i1:=b63.cell (j:=1) rfl
     by_cases LA:k<(HH t y).length
     ·obtain⟨⟨za,zb⟩,hz⟩:∃z,(HH t y)[k]? = some z:=⟨_,List.getElem?_eq_getElem LA⟩
      obtain⟨g2,off2,cap2,hv,RR,_,_,ZKe,ZB3⟩:=hd2.at_ oM
      injection hv with hA2 _ hc22
      subst hA2;subst hc22
      obtain⟨e0,e1⟩:=ZB3 k _ hz
      have HZ:=jA hz
      clear ZB3 hz hJ hm ho hd2 KH
      by_cases hid:(za,zb)=x.1
      ·have HZ2:=jA (show Hb t x.1 x.1 by have:=HJ.out.hb HZ.out;rw[hid]at this;exact this)
       obtain rfl:za=x.1.1:=by rw[←hid]
       obtain rfl:zb=x.1.2:=by rw[←hid]
       clear hid
       have ZHF:KeepsFrom (w.heap.size+1+1+1+1+1) W wr:=KF.ext (KeepsFrom.refl _ _) BP
       have ZKf:Below w.heap.size W wr:=BL.ext (Below.refl _ _) BP hsW
       have ZHG:Ext w wr:=hx0.trans BP
       have f1:=r13.frozen 0
       have f2:=r13.frozen 1
       have f3:=r23.frozen 0
       have p1:=r13.cell (j:=0) rfl
       have p2:=r13.cell (j:=1) rfl
       have p3:=r23.cell (j:=0) rfl
       gi_wp2
       refine⟨?_,rfl,pre.map (·.1),x.1,⟨⟨⟨MF pre x,HNO.out,HZ2.out⟩,?_⟩,?_⟩,?_⟩
       all_goals exact kW0
      ·by_cases hz1:za=x.1.1
       ·have hz2:zb≠x.1.2:=fun e=>hid (Prod.ext hz1 e)
        subst hz1
        have hq3:((zb:Int)==(x.1.2:Int))=false:=by simp;omega
        have hq4:¬((zb:Int)=(x.1.2:Int)):=by omega
        have HID:=jA hid
        clear hid hz2
        by_cases ME:(x.1.1,zb)∈S
        ·have hlk:=TG (HM3.out.alloc (.cells #[.int .i64 x.1.1,.int .i64 zb] 81)) (x.1.1,zb)
         rw[decide_eq_true ME]at hlk
         unfold UB at hlk
         have HIN:=jA ME
         clear ME
         gi_wp2
         go_roundw
         case rel=>exact⟨S,R,k+1,HJ.out.skip HZ.out HIN.out,LA,by go_num,HM3.out.alloc _,tB.alloc HO3.out _,BP.alloc _,hNN,tB.alloc HD2.out _,HNE.out⟩
         case measure=>simp[intOf];omega
        ·have hlk:=TG (HM3.out.alloc (.cells #[.int .i64 x.1.1,.int .i64 zb] 81)) (x.1.1,zb)
         rw[decide_eq_false ME]at hlk
         obtain⟨w3,vD,hm4,NQ⟩:=XM (HM3.out.alloc (.cells #[.int .i64 x.1.1,.int .i64 zb] 81)) (x.1.1,zb) ME
         unfold UB at hlk vD
         have HIN:=jA ME
         have HG3:=jA NQ
         have HM4:=jA hm4
         have pS:=HM3.out.lt
         have bz:UA w3 wr.heap.size 81 #[.int .i64 x.1.1,.int .i64 zb]:=(UA.new wr _ _).kept NQ (by simp;omega)
         have z0:=bz.cell (j:=0) rfl
         have z1:=bz.cell (j:=1) rfl
         have ho5:SD w3 W.heap.size u8 R:=tB.kept (tB.alloc HO3.out _) NQ (.inr (tB.not_map (tB.alloc HO3.out (.cells #[.int .i64 x.1.1,.int .i64 zb] 81)) (HM3.out.alloc _)))
         have hx3:Ext W w3:=Ext.grown (BP.alloc (.cells #[.int .i64 x.1.1,.int .i64 zb] 81)) NQ (fun k hk=>by injection hk with hk;omega)
         have ZFf:=NQ.size
         rw[World.size_alloc]at ZFf
         have R0:R.length≤2000001:=by omega
         have HO5:=jA ho5
         clear ME NQ hm4 ho5
         gi_wp2_with (gi_at_builtin;go_must (refine ZQ (v:=u8) (.tmp 52) (.tmp 54) ZBq rfl rfl rfl rfl (tB.alloc HO5.out _) (SlC.lit (x:=(x.1.1,zb)) _ rfl rfl rfl) (UL _) oM (by have:=hx3.size;simp;omega) ?_;intro v4 w4 hown4 R8 hbl4))
         go_roundw
         case rel =>
          refine⟨_,_,_,?_,rfl,rfl,rfl⟩
          have hd3:SD w3 0 (.slice (some ⟨g2,off2,none⟩) (HH t (y.1,y.2)).length c2) (HH t y):=tB.kept (tB.alloc HD2.out _) HG3.out (.inr (tB.not_map (tB.alloc HD2.out (.cells #[.int .i64 x.1.1,.int .i64 zb] 81)) (HM3.out.alloc _)))
          refine⟨S++[(x.1.1,zb)],R++[(x.1.1,zb)],k+1,HJ.out.push HZ.out HIN.out HID.out,LA,by go_num,(HM4.out.alloc _).kept R8.1 (tB.not_map HO5.out HM4.out).symm,SD.snoc hown4 rfl,Ext.more (hx3.alloc _) hbl4,?_,tB.kept (tB.alloc hd3 _) R8.1 (.inr fun e=>HNE.out _ e.symm rfl),?_⟩
          ·have h1:=HJ.out.push HZ.out HIN.out HID.out
           have h2:=h1.few x.2
           simp at h2⊢
           omega
          ·intro q hq e
           rcases R8.2 q hq with h1|h1
           ·exact HNE.out q h1 e
           ·simp[Value.ownBlock]at e
            subst e
            simp at h1;omega
         case measure=>simp[intOf];omega
       ·have hq1:((za:Int)==(x.1.1:Int))=false:=by simp;omega
        have kR:¬((za:Int)=(x.1.1:Int)):=by omega
        have HID:=jA hid
        clear hid hz1
        by_cases ME:(za,zb)∈S
        ·have hlk:=TG (HM3.out.alloc (.cells #[.int .i64 za,.int .i64 zb] 81)) (za,zb)
         rw[decide_eq_true ME]at hlk
         unfold UB at hlk
         have HIN:=jA ME
         clear ME
         gi_wp2
         go_roundw
         case rel=>exact⟨S,R,k+1,HJ.out.skip HZ.out HIN.out,LA,by go_num,HM3.out.alloc _,tB.alloc HO3.out _,BP.alloc _,hNN,tB.alloc HD2.out _,HNE.out⟩
         case measure=>simp[intOf];omega
        ·have hlk:=TG (HM3.out.alloc (.cells #[.int .i64 za,.int .i64 zb] 81)) (za,zb)
         rw[decide_eq_false ME]at hlk
         obtain⟨w3,vD,hm4,NQ⟩:=XM (HM3.out.alloc (.cells #[.int .i64 za,.int .i64 zb] 81)) (za,zb) ME
         unfold UB at hlk vD
         have HIN:=jA ME
         have HG3:=jA NQ
         have HM4:=jA hm4
         have pS:=HM3.out.lt
         have bz:UA w3 wr.heap.size 81 #[.int .i64 za,.int .i64 zb]:=(UA.new wr _ _).kept NQ (by simp;omega)
         have z0:=bz.cell (j:=0) rfl
         have z1:=bz.cell (j:=1) rfl
         have ho5:SD w3 W.heap.size u8 R:=tB.kept (tB.alloc HO3.out _) NQ (.inr (tB.not_map (tB.alloc HO3.out (.cells #[.int .i64 za,.int .i64 zb] 81)) (HM3.out.alloc _)))
         have hx3:Ext W w3:=Ext.grown (BP.alloc (.cells #[.int .i64 za,.int .i64 zb] 81)) NQ (fun k hk=>by injection hk with hk;omega)
         have ZFf:=NQ.size
         rw[World.size_alloc]at ZFf
         have R0:R.length≤2000001:=by omega
         have HO5:=jA ho5
         clear ME NQ hm4 ho5
         gi_wp2_with (gi_at_builtin;go_must (refine ZQ (v:=u8) (.tmp 52) (.tmp 54) ZBq rfl rfl rfl rfl (tB.alloc HO5.out _) (SlC.lit (x:=(za,zb)) _ rfl rfl rfl) (UL _) oM (by have:=hx3.size;simp;omega) ?_;intro v4 w4 hown4 R8 hbl4))
         go_roundw
         case rel =>
          refine⟨_,_,_,?_,rfl,rfl,rfl⟩
          have hd3:SD w3 0 (.slice (some ⟨g2,off2,none⟩) (HH t (y.1,y.2)).length c2) (HH t y):=tB.kept (tB.alloc HD2.out _) HG3.out (.inr (tB.not_map (tB.alloc HD2.out (.cells #[.int .i64 za,.int .i64 zb] 81)) (HM3.out.alloc _)))
          refine⟨S++[(za,zb)],R++[(za,zb)],k+1,HJ.out.push HZ.out HIN.out HID.out,LA,by go_num,(HM4.out.alloc _).kept R8.1 (tB.not_map HO5.out HM4.out).symm,SD.snoc hown4 rfl,Ext.more (hx3.alloc _) hbl4,?_,tB.kept (tB.alloc hd3 _) R8.1 (.inr fun e=>HNE.out _ e.symm rfl),?_⟩
          ·have h1:=HJ.out.push HZ.out HIN.out HID.out
           have h2:=h1.few x.2
           simp at h2⊢
           omega
          ·intro q hq e
           rcases R8.2 q hq with h1|h1
           ·exact HNE.out q h1 e
           ·simp[Value.ownBlock]at e
            subst e
            simp at h1;omega
         case measure=>simp[intOf];omega
     ·clear hJ hm ho hd2 KH
      gi_wp2
      go_roundw
      case rel=>exact⟨S,R,HJ.out.fin oM,HM3.out,HO3.out,BP,by omega⟩
      case measure =>
       rw[HM3.out.size,HM.out.size]
       obtain⟨A3,c3,rfl,_,_⟩:=HO3.out.form
       simp[lenV]
       omega
 case done =>
  rintro D ys W hD hys ⟨⟨⟨⟨⟨tb,lb⟩,r1⟩,r2⟩,hx⟩,jP⟩ hK
  rw[hys]at jP
  have q2:=r1.frozen 0
  have q3:=r1.frozen 1
  have q4:=r2.frozen 0
  have p2:=r1.cell (j:=0) rfl
  have p3:=r1.cell (j:=1) rfl
  have p4:=r2.cell (j:=0) rfl
  have HNO:=jA (ZDD jP)
  clear jP
  gi_wp2
  obtain⟨Wr,JJ⟩:∃Wr,(((W.setCell ⟨w.heap.size+1+1,0,none⟩ (Value.int .i64 0)).setCell ⟨w.heap.size+1+1,1,none⟩ (Value.int .i64 0)).setCell ⟨w.heap.size+1+1+1,0,none⟩ (Value.bool false))=Wr:=⟨_,rfl⟩
  rw[JJ]
  have s2:UA Wr (w.heap.size+1+1) 81 #[.int .i64 0,.int .i64 0]:=by rw[←JJ];exact kW0
  have s3:UA Wr (w.heap.size+1+1+1) 4 #[.bool false]:=by rw[←JJ];exact kW0
  have sx:Ext w Wr:=by rw[←JJ];exact kW0
  have AP:Wr.heap[D]? = some (.deferred (some [])):=by rw[←JJ];exact (KF.set (KF.set (KF.set (KeepsFrom.refl W0.heap.size W) _ _) _ _) _ _).same D _ hD hK rfl
  clear JJ
  have e2:=(s2.putObj AP rfl (.deferred none)).cell (j:=0) rfl
  have e3:=(s2.putObj AP rfl (.deferred none)).cell (j:=1) rfl
  have e4:=(s3.putObj AP rfl (.deferred none)).cell (j:=0) rfl
  refine⟨by simp,.inl ⟨_,_,rfl,run_takeDeferred AP,?_⟩⟩
  refine⟨.tuple #[UB (0,0),.bool false],?_,sx.putObj oM AP _,.inr ⟨HNO.out,rfl⟩⟩
  simp[results,Tryz.f146,go_sem,e2,e3,e4,UB]
 case stop =>
  rintro D c pre W hD ZK ⟨rfl,a,x,⟨⟨⟨hp,jP,hhb⟩,r1⟩,r2⟩,hx⟩ hK
  rw[hp]at ZK
  have HST:=jA (ZDC ZK jP hhb)
  clear jP hhb
  gi_wp2
  have e2:=(r1.putObj hK rfl (.deferred none)).cell (j:=0) rfl
  have e3:=(r1.putObj hK rfl (.deferred none)).cell (j:=1) rfl
  have e4:=(r2.putObj hK rfl (.deferred none)).cell (j:=0) rfl
  refine⟨by simp,.inl ⟨_,_,rfl,run_takeDeferred hK,?_⟩⟩
  refine⟨.tuple #[UB x,.bool true],?_,hx.putObj oM hK _,.inl ⟨x,HST.out,rfl⟩⟩
  simp[results,Tryz.f146,go_sem,e2,e3,e4,UB]

structure Small (t:Tr):Prop where
 np:t.length≤1000000
 nv:∀x∈t,x.vars.length≤1000000
 ne:∀x∈t,x.evs.length≤1000000
 na:∀x∈t,∀e∈x.evs,e.asg.length≤1000000
structure Sm (t:Tr):Prop where
 np:t.length≤1000000
 nv:∀x∈t,x.vars.length≤1000000
 ne:∀x∈t,x.evs.length≤9223372036854775807
 na:∀x∈t,∀e∈x.evs,e.asg.length≤1000000
theorem Small.sm {t:Tr} (h:Small t):Sm t:=⟨h.np,h.nv,fun x hx=>Nat.le_trans (h.ne x hx) (by decide),h.na⟩
theorem iJ {t:Tr} {p:Nat} (hp:p<t.length) (h:bD t p=0):t[p].evs.length≤64:=by
 rw[KN t p hp]at h
 split at h
 ·cases h
 split at h
 ·cases h
 split at h
 ·rename_i h2;exact absurd h h2
 split at h
 ·cases h
 ·omega
theorem Sm.small {t:Tr} (h:Sm t) (hz:∀q,q<t.length→bD t q=0):Small t:=
 ⟨h.np,h.nv,fun x hx=>by
  obtain⟨p,hp,rfl⟩:=List.getElem_of_mem hx
  have:=iJ hp (hz p hp)
  omega,h.na⟩
def FPost (t:Tr) (w:World) (e:Ending) (w':World):Prop:=e=.returned (.tuple #[UB (vF t).1,.int .i64 (vF t).2])∧Ext w w'
theorem Z7 {t:Tr} (h:inB t.length 1 8=false):vF t=((0,0),1):=by
 unfold vF
 rw[if_pos (by simp[inB]at h;omega)]
theorem yZ {t:Tr} {p:Nat} (h:inB t.length 1 8=true) (hp:p<t.length) (h0:∀q,q<p→bD t q=0) (KH:bD t p≠0):vF t=((p,0),bD t p):=by
 have hf:(List.range t.length).find? (fun p=>bD t p != 0)=some p:=by
  rw[show t.length=p+(1+(t.length-p-1)) by omega,List.range_add,List.find?_append]
  have:(List.range p).find? (fun p=>bD t p != 0)=none:=by
   rw[List.find?_eq_none];intro q hq;simp[h0 q (List.mem_range.1 hq)]
  rw[this,Nat.add_comm 1,List.range_succ_eq_map]
  simp[KH]
 unfold vF
 rw[if_neg (by simp[inB]at h;omega),hf]
theorem rL {t:Tr} (h0:∀q,q<t.length→bD t q=0):(List.range t.length).find? (fun p=>bD t p != 0)=none:=by
 rw[List.find?_eq_none];intro q hq;simp[h0 q (List.mem_range.1 hq)]
theorem kZ {t:Tr} {x:Nat×Nat} (h:inB t.length 1 8=true) (h0:∀q,q<t.length→bD t q=0) (hx:(ids t).find? (fun x=>ZE t x != 0)=some x):vF t=(x,ZE t x):=by
 unfold vF
 rw[if_neg (by simp[inB]at h;omega),rL h0]
 simp only[hx]
theorem vZ {t:Tr} {x:Nat×Nat} (h:inB t.length 1 8=true) (h0:∀q,q<t.length→bD t q=0) (hf:(ids t).find? (fun x=>ZE t x != 0)=none) (hx:(ids t).find? (fun x=>QF t x != 0)=some x):vF t=(x,QF t x):=by
 unfold vF
 rw[if_neg (by simp[inB]at h;omega),rL h0]
 simp only[hf,hx]
theorem ZA3 {t:Tr} {x:Nat×Nat} (h:inB t.length 1 8=true) (h0:∀q,q<t.length→bD t q=0) (hf:(ids t).find? (fun x=>ZE t x != 0)=none) (hp:(ids t).find? (fun x=>QF t x != 0)=none) (hx:VH t=some x):vF t=(x,10):=by
 unfold VH at hx
 unfold vF
 rw[if_neg (by simp[inB]at h;omega),rL h0]
 simp only[hf,hp,hx]
theorem ZA2 {t:Tr} (h:inB t.length 1 8=true) (h0:∀q,q<t.length→bD t q=0) (hf:(ids t).find? (fun x=>ZE t x != 0)=none) (hp:(ids t).find? (fun x=>QF t x != 0)=none) (hx:VH t=none):vF t=((0,0),0):=by
 unfold VH at hx
 unfold vF
 rw[if_neg (by simp[inB]at h;omega),rL h0]
 simp only[hf,hp,hx]
theorem TM {t:Tr} {x:Nat×Nat} (h:ZE t x=0):CB t.length x.1 (sA t x)=true:=by
 unfold ZE at h
 cases hb:CB t.length x.1 (sA t x) with
 |true=>rfl
 |false=>rw[hb]at h;simp at h
def GI (t:Tr) (w:World) (u:Value) (l:List (Nat×Nat)) (W:World):Prop:=
 (((UA W w.heap.size 36 #[u]∧UA W (w.heap.size+1) 81 #[.int .i64 0,.int .i64 0])∧UA W (w.heap.size+1+1) 39 #[.int .i64 0])∧Ext w W)∧∀x∈l,ZE t x=0
def GX (t:Tr) (w:World) (l:List (Nat×Nat)) (W:World):Prop:=
 ∃a x,(((l=a++[x]∧(∀y∈a,ZE t y=0)∧ZE t x≠0)∧UA W (w.heap.size+1) 81 #[.int .i64 x.1,.int .i64 x.2])∧UA W (w.heap.size+1+1) 39 #[.int .i64 (ZE t x)])∧Ext w W
theorem pU (t:Tr) (w:World) (u:Value) {n:Nat} (hn:w.heap.size≤n):OwnFrom n (fun (pre:List (Idt t)) W=>GI t w u (pre.map (·.1)) W):=
 OwnFrom.and (OwnFrom.and (OwnFrom.and (OwnFrom.and (rA _ _ _ _) (rA _ _ _ _)) (rA _ _ _ _)) (pG hn)) (ownFrom_pure _ _)
theorem ZDF (t:Tr) (w:World) {n:Nat} (hn:w.heap.size≤n):OwnFrom n (fun (pre:List (Idt t)) W=>GX t w (pre.map (·.1)) W):=by
 rintro s X Y row ⟨a,x,h⟩ hg hr
 refine⟨a,x,⟨⟨h.1.1.1,?_⟩,?_⟩,pG hn () X Y row h.2 hg hr⟩
 ·exact rA _ n _ (fun (_:Unit)=>_) () X Y row h.1.1.2 hg hr
 ·exact rA _ n _ (fun (_:Unit)=>_) () X Y row h.1.2 hg hr
theorem vX {f:Nat→List (Nat×Nat)} {b:Nat}:∀n:Nat,(∀p,p<n→(f p).length≤b)→((List.range n).flatMap f).length≤n*b
 |0,_=>by simp
 |n+1,h=>by
   rw[List.range_succ,List.flatMap_append,List.length_append]
   have h1:=vX n fun p hp=>h p oM
   have h2:=h n oM
   have h3:([n].flatMap f).length=(f n).length:=by simp
   rw[h3,Nat.add_mul]
   omega
theorem ZDB {t:Tr} (h1:t.length≤1000000) (h2:∀x∈t,x.evs.length≤1000000) (h:inB t.length 1 8=true) (h0:∀q,q<t.length→bD t q=0):(ids t).length≤1000000:=by
 have:=vX (f:=zM t) (b:=64) t.length fun p hp=>by
  unfold zM DA
  rw[List.length_map,List.length_range,JC dfPr t hp]
  exact iJ hp (h0 p hp)
 simp[inB]at h
 unfold ids
 have h3:t.length*64≤8*64:=Nat.mul_le_mul_right _ oM
 omega
theorem C6 {t:Tr} (h:∀x∈ids t,ZE t x=0):(ids t).find? (fun x=>ZE t x != 0)=none:=by
 rw[List.find?_eq_none];intro x hx;simp[h x hx]
theorem E6 {t:Tr} {a:List (Nat×Nat)} {x:Nat×Nat} (hp:a++[x] <+: ids t) (ha:∀y∈a,ZE t y=0) (hx:ZE t x≠0):(ids t).find? (fun x=>ZE t x != 0)=some x:=by
 obtain⟨c,hc⟩:=hp
 rw[←hc,List.append_assoc,List.find?_append]
 have:a.find? (fun x=>ZE t x != 0)=none:=by
  rw[List.find?_eq_none];intro y hy;simp[ha y hy]
 rw[this]
 simp[hx]
theorem A7 (u:Value) (t:Tr) (w:World) (hS:Sm t) (hs:SlR 3 RPr w u t) :
  Calls Tryz.prog 98 #[.agg #[u]] w fun e w'=>FPost t w e w':=by
 refine callsIn_wide (n:=9).1 ?_
 refine callsIn_of_wp_marks Tryz.func98 rfl trivial ?_ rfl
 simp only[Tryz.ntmps98,List.size_toArray,List.length_cons,List.length_nil,Nat.reduceAdd,Nat.reduceSub,Array.replicate_succ,Array.replicate_zero,List.push_toArray,List.append_toArray,List.nil_append,List.cons_append]
 obtain⟨A,c,rfl,_,mL,_⟩:=hs.at_
 have HI:=jA (fun w=>callsIn_wide (n:=8).2 (gK t.length 1 8 w))
 cases ME:inB t.length 1 8
 ·rw[ME]at HI
  have HF:=jA (Z7 ME)
  clear ME
  gi_wp2_with (refine⟨trivial,?_⟩;gi_at_call 99;refine (HI.out _).mono ?_;rintro e w' ⟨rfl,rfl⟩)
  refine⟨.tuple #[UB (0,0),.int .i64 1],by simp[results,Tryz.f98,go_sem,UB],by rw[HF.out];rfl,(((Ext.refl w).alloc _).alloc _).alloc _⟩
 ·have HIN:=jA ME
  rw[ME]at HI
  clear ME
  gi_wp2_with (refine⟨trivial,?_⟩;gi_at_call 99;refine (HI.out _).mono ?_;rintro e w' ⟨rfl,rfl⟩)
  have tb0:=((UA.new w 36 #[.slice A t.length c]).alloc (.cells #[.int .i64 0,.int .i64 0] 81)).alloc (.cells #[.int .i64 0] 39)
  obtain⟨W1,xH⟩:∃W1,((w.alloc (Obj.cells #[Value.slice A t.length c] 36)).alloc (Obj.cells #[Value.int .i64 0,Value.int .i64 0] 81)).alloc (Obj.cells #[Value.int .i64 0] 39)=W1:=⟨_,rfl⟩
  rw[xH]at tb0⊢
  have hx1:Ext w W1:=by rw[←xH];exact (((Ext.refl w).alloc _).alloc _).alloc _
  have rb1:UA W1 (w.heap.size+1) 81 #[.int .i64 0,.int .i64 0]:=by rw[←xH];exact (UA.newAt _ _ (by simp)).alloc _
  have rb2:UA W1 (w.heap.size+1+1) 39 #[.int .i64 0]:=by rw[←xH];exact UA.newAt _ _ (by simp)
  have ZHH:Hx (W1.heap.size=w.heap.size+1+1+1):=jA (by rw[←xH];simp)
  clear xH
  have hnp:=hS.np
  gi_loopw [23] (fun i wr=>∃k:Nat,k≤t.length∧i=.int .i64 k∧(∀q,q<k→bD t q=0)∧Ext W1 wr) (fun i _=>t.length-(intOf i).toNat)
  case atStart=>exact⟨0,Nat.zero_le _,rfl,fun q hq=>absurd hq (Nat.not_lt_zero _),Ext.refl _⟩
  case round =>
   obtain⟨k,hk,rfl,h0,hx⟩:=hrel
   have H0:=jA h0
   clear h0
   have tb:=tb0.ext hx
   have r1:=rb1.ext hx
   have r2:=rb2.ext hx
   have t0:=tb.cell (j:=0) rfl
   by_cases LA:k<t.length
   ·have HP:=jA (fun w' (he:Ext w w')=>callsIn_wide (n:=8).2 (WN (.slice A t.length c) t k w' LA hnp (hS.nv _ (List.getElem_mem LA)) (hS.ne _ (List.getElem_mem LA)) (hs.ext RPr.keeps he)))
    gi_wp2_with fail
    refine⟨trivial,?_⟩
    refine (HP.out _ (hx1.trans hx)).mono ?_
    rintro e w2 ⟨rfl,sI⟩
    by_cases hz:bD t k=0
    ·have HZ:=jA hz
     rw[hz]
     clear hz
     gi_wp2
     go_roundw
     case rel=>exact⟨k+1,LA,by go_num,fun q hq=>(Nat.lt_succ_iff_lt_or_eq.1 hq).elim (H0.out q) (fun e=>e▸HZ.out),hx.trans sI⟩
     case measure=>simp[intOf];omega
    ·have HF:=jA (yZ HIN.out LA H0.out hz)
     have KH:((bD t k:Int) != 0)=true:=by simp;omega
     have r12:=r1.ext sI
     have r22:=r2.ext sI
     have f1:=r12.frozen 0
     have f2:=r12.frozen 1
     have f3:=r22.frozen 0
     have p1:=r12.cell (j:=0) rfl
     have p2:=r12.cell (j:=1) rfl
     have p3:=r22.cell (j:=0) rfl
     gi_wp2
     obtain⟨Wr,JJ⟩:∃Wr,((w2.setCell ⟨w.heap.size+1,0,none⟩ (Value.int .i64 k)).setCell ⟨w.heap.size+1,1,none⟩ (Value.int .i64 0)).setCell ⟨w.heap.size+1+1,0,none⟩ (Value.int .i64 (bD t k))=Wr:=⟨_,rfl⟩
     rw[JJ]
     have ZFg:Ext w w2:=hx1.trans (hx.trans sI)
     have s1:UA Wr (w.heap.size+1) 81 #[.int .i64 k,.int .i64 0]:=by rw[←JJ];exact kW0
     have s2:UA Wr (w.heap.size+1+1) 39 #[.int .i64 (bD t k)]:=by rw[←JJ];exact kW0
     have sx:Ext w Wr:=by rw[←JJ];exact kW0
     clear JJ
     exact⟨.tuple #[UB (k,0),.int .i64 (bD t k)],by simp[results,Tryz.f98,go_sem,UB,s1.cell (j:=0) rfl,s1.cell (j:=1) rfl,s2.cell (j:=0) rfl],by rw[HF.out],sx⟩
   ·obtain rfl:k=t.length:=by omega
    have hS:=hS.small H0.out
    have ZHI:Ext w wr:=hx1.trans hx
    gi_wp2_with (refine⟨trivial,?_⟩;gi_at_call 101;refine (callsIn_wide.2 (CH _ _)).mono ?_;rintro e w' ⟨rfl,rfl⟩)
    have bt:=UA.new wr 36 #[.slice A t.length c]
    have hM0:GI t w (.slice A t.length c) [] (wr.alloc (.cells #[.slice A t.length c] 36)):=⟨⟨⟨⟨tb.alloc _,r1.alloc _⟩,r2.alloc _⟩,ZHI.alloc _⟩,fun x hx=>by cases hx⟩
    obtain⟨W0,j0⟩:∃W0,wr.alloc (.cells #[.slice A t.length c] 36)=W0:=⟨_,rfl⟩
    have GT:W0.heap.size=wr.heap.size+1:=by rw[←j0];simp
    have hwr:w.heap.size≤wr.heap.size:=ZHI.size
    rw[j0]at bt hM0⊢
    clear j0
    have qO:Ext w W0:=hM0.1.2
    have HSZ0:=jA GT
    have j9:w.heap.size≤W0.heap.size:=by omega
    clear GT
    refine wpIn_rangeFunc_ownH rfl oM (gf:=148) (lb:=#[.pointer (some ⟨wr.heap.size,0,none⟩)]) rfl trivial (DC Tryz.func148 (by decide) rfl)
     (gG 8 oM w (.slice A t.length c) t wr.heap.size W0 hnp hS.ne hs qO (bt.cell rfl) hwr) belowK_t (belowK_b j9) (Below.refl _ _) (fun _=>rfl)
     (fun pre W=>GI t w (.slice A t.length c) (pre.map (·.1)) W) (fun c pre W=>c=.ret∧GX t w (pre.map (·.1)) W) (pU t w _ j9) (fun c=>OwnFrom.and (ownFrom_pure _ _) (ZDF t w j9)) hM0
     (fun x a' W=>∃B6 B7 A4 n4 c4 v37 v38,(w.heap.size+1+1<B6∧w.heap.size+1+1<B7∧SlR 2 RAsg w (.slice A4 n4 c4) (sA t x.1).asg)∧UA W B6 81 #[.int .i64 x.1.1,.int .i64 x.1.2]∧UA W B7 79 #[.int .i64 (sA t x.1).kind,.int .i64 (sA t x.1).peer,.int .i64 (sA t x.1).msg,.int .i64 (sA t x.1).time,.slice A4 n4 c4] ∧
      a'={tmps:=#[.agg #[.slice A t.length c],.pointer (some ⟨w.heap.size,0,none⟩),.pointer (some ⟨w.heap.size+1,0,none⟩),.pointer (some ⟨w.heap.size+1+1,0,none⟩),u4,u5,.pointer (some ⟨B6,0,none⟩),.pointer (some ⟨B7,0,none⟩),undef,undef,undef,undef,undef,undef,.pointer (some ⟨w.heap.size,0,none⟩),.slice A t.length c,.int .i64 t.length,.bool true,.bool false,undef,.pointer (some ⟨w.heap.size,0,none⟩),.slice A t.length c,.int .i64 t.length,.int .i64 t.length,.bool false,u25,u26,u27,u28,u29,u30,u31,u32,u33,u34,.agg #[.slice A t.length c],.func (.func 148) #[] #[.pointer (some ⟨wr.heap.size,0,none⟩)],v37,v38,undef,undef,undef,undef,undef,undef,undef,undef,undef,undef,undef,undef,undef,undef,undef,undef,undef,undef,undef,undef,undef,undef,undef,undef,undef,undef,undef],defers:=[]})
     ?hax ?assign ?body ?done ?stop
    case hax =>
     rintro x a' _ X Y row ⟨B6,B7,A4,n4,c4,v37,v38,hB,b6,b7,ha⟩ hg hr
     exact⟨B6,B7,A4,n4,c4,v37,v38,hB,rA B6 _ _ (fun (_:Unit)=>_) () X Y row b6 hg hr,rA B7 _ _ (fun (_:Unit)=>_) () X Y row b7 hg hr,ha⟩
    case assign =>
     rintro l pre x W K hI hK
     obtain⟨a,hv,hsa⟩:=JR hs x.2
     obtain⟨A4,c4,rfl,_,_,_⟩:=hsa.at_
     simp only[hv]
     have hsW:=hI.1.2.size
     have h5:=hI.1.1.2.lt
     unfold UB
     gi_wp2
     exact hK _ _ (((KeepsOthers.alloc _ _).trans (KeepsOthers.alloc _ _)).from _) (((Below.refl _ W).alloc hsW _).alloc (by simp;omega) _) ((pU t w _ (Nat.le_refl _)).alloc _ ((pU t w _ (Nat.le_refl _)).alloc _ hI))
      ⟨W.heap.size,W.heap.size+1,A4,_,c4,_,_,⟨h5,by omega,hsa⟩,(UA.new _ _ _).alloc _,UA.newAt _ _ (by simp),rfl⟩
    case body =>
     rintro l pre x a' W hlW ⟨r,hr⟩ hI ⟨B6,B7,A4,n4,c4,v37,v38,⟨hB6,hB7,hsa⟩,b6,b7,rfl⟩ FC
     obtain⟨⟨⟨⟨tbW,r1W⟩,r2W⟩,V5⟩,hg⟩:=hI
     have hsW:=V5.size
     have HG:=jA hg
     have HSA:=jA hsa
     clear hg hsa
     have k0:=b7.cell (j:=0) rfl
     have k1:=b7.cell (j:=1) rfl
     have k2:=b7.cell (j:=2) rfl
     have k3:=b7.cell (j:=3) rfl
     have k4:=b7.cell (j:=4) rfl
     have i0:=b6.cell (j:=0) rfl
     have i1:=b6.cell (j:=1) rfl
     have t0:=tbW.cell (j:=0) rfl
     obtain⟨hp,K9,V9⟩:=LD.1 x.2
     have hee:t[x.1.1].evs[x.1.2-1]=sA t x.1:=by
      unfold sA DA;rw[JC dfPr t hp,JC lJ _ oM]
     have HE:=jA (fun w' (he:Ext w w')=>CallsIn.inRound l (callsIn_wide (n:=6).2 (mP (.slice A t.length c) (.slice A4 n4 c4) t x.1.1 x.1.2 (sA t x.1) w' hp K9 V9 hee hnp (hS.nv _ (List.getElem_mem hp)) (hS.ne _ (List.getElem_mem hp)) (by rw[←hee];exact hS.na _ (List.getElem_mem hp) _ (List.getElem_mem _)) (hs.ext RPr.keeps he) (HSA.out.ext RAsg.keeps he))))
     clear hee
     gi_wp2_with fail
     refine⟨trivial,?_⟩
     refine (HE.out _ V5).mono ?_
     rintro e w2 ⟨rfl,sI⟩
     by_cases hz:ZE t x.1=0
     ·have HZ:=jA hz
      rw[show ZE t (x.1.1,x.1.2)=0 from hz]
      clear hz
      gi_wp2
      refine⟨KF.ext (KeepsFrom.refl _ _) sI,BL.ext (Below.refl _ _) sI hsW,?_⟩
      show GI t w (.slice A t.length c) ((pre++[x]).map (·.1)) _
      rw[MF]
      refine⟨⟨⟨⟨tbW.ext sI,r1W.ext sI⟩,r2W.ext sI⟩,V5.trans sI⟩,fun z hz=>?_⟩
      rcases List.mem_append.1 hz with h1|h1
      ·exact HG.out z h1
      ·rw[show z=x.1 by simpa using h1];exact HZ.out
     ·have KH:((ZE t (x.1.1,x.1.2):Int) != 0)=true:=by
       have:¬ZE t (x.1.1,x.1.2)=0:=hz
       simp;omega
      have HZ:=jA hz
      clear hz
      have r12:=r1W.ext sI
      have r22:=r2W.ext sI
      have b62:=b6.ext sI
      have f1:=r12.frozen 0
      have f2:=r12.frozen 1
      have f3:=r22.frozen 0
      have p1:=r12.cell (j:=0) rfl
      have p2:=r12.cell (j:=1) rfl
      have p3:=r22.cell (j:=0) rfl
      have i02:=b62.cell (j:=0) rfl
      have i12:=b62.cell (j:=1) rfl
      have ZHF:KeepsFrom W0.heap.size W w2:=KF.ext (KeepsFrom.refl _ _) sI
      have ZHG:Ext w w2:=V5.trans sI
      gi_wp2
      refine⟨?_,rfl,pre.map (·.1),x.1,⟨⟨⟨MF pre x,HG.out,HZ.out⟩,?_⟩,?_⟩,?_⟩
      all_goals exact kW0
    case done =>
     rintro D ys W hD hys ⟨⟨⟨⟨tbW,r1W⟩,r2W⟩,V5⟩,hg⟩ hK
     rw[hys]at hg
     have HG:=jA hg
     clear hg
     have FM:∀x∈ids t,CB t.length x.1 (sA t x)=true:=fun x hx=>TM (HG.out x hx)
     have hfn:=jA (C6 HG.out)
     have t0:=tbW.cell (j:=0) rfl
     have HMF:=jA (fun w' (he:Ext w w')=>callsIn_wide (n:=8).2 (GN (.slice A t.length c) t w' hnp hS.ne (hs.ext RPr.keeps he) FM))
     have hform':=jA FM
     clear FM
     gi_wp2_with fail
     refine⟨trivial,?_⟩
     refine (HMF.out _ V5).mono ?_
     rintro e w2 ⟨sI,hm⟩
     have ZIO:KeepsFrom W0.heap.size W w2:=KF.ext (KeepsFrom.refl _ _) sI
     have ZFg:Ext w w2:=V5.trans sI
     have r12:=r1W.ext sI
     have r22:=r2W.ext sI
     have tb2:=tbW.ext sI
     have t02:=tb2.cell (j:=0) rfl
     have lt1:=tb2.lt
     have lt2:=r12.lt
     have lt3:=r22.lt
     clear t0
     rcases hm with ⟨x,hx,rfl⟩|⟨hpn,b,cs,hb,hbox,hlet,rfl⟩
     ·have HP:=jA (vZ HIN.out H0.out hfn.out hx)
      have ZKg:((QF t x:Int) != 0)=true:=by
       have:=List.find?_some hx
       simp at this⊢;omega
      clear hx
      unfold UB
      have f1:=r12.frozen 0
      have f2:=r12.frozen 1
      have f3:=r22.frozen 0
      have p1:=r12.cell (j:=0) rfl
      have p2:=r12.cell (j:=1) rfl
      have p3:=r22.cell (j:=0) rfl
      gi_wp2
      obtain⟨Wr,JJ⟩:∃Wr,(((w2.setCell ⟨w.heap.size+1,0,none⟩ (Value.int .i64 x.1)).setCell ⟨w.heap.size+1,1,none⟩ (Value.int .i64 x.2)).setCell ⟨w.heap.size+1+1,0,none⟩ (Value.int .i64 (QF t x))).alloc (Obj.cells #[Value.int .i64 x.1,Value.int .i64 x.2] 81)=Wr:=⟨_,rfl⟩
      rw[JJ]
      have s1:UA Wr (w.heap.size+1) 81 #[.int .i64 x.1,.int .i64 x.2]:=by rw[←JJ];exact kW0
      have s2:UA Wr (w.heap.size+1+1) 39 #[.int .i64 (QF t x)]:=by rw[←JJ];exact kW0
      have sx:Ext w Wr:=by rw[←JJ];exact kW0
      have hkf:KeepsFrom W0.heap.size W Wr:=by rw[←JJ];exact kW0
      have AP:Wr.heap[D]? = some (.deferred (some [])):=hkf.same D _ hD hK rfl
      clear JJ
      have e2:=(s1.putObj AP rfl (.deferred none)).cell (j:=0) rfl
      have e3:=(s1.putObj AP rfl (.deferred none)).cell (j:=1) rfl
      have e4:=(s2.putObj AP rfl (.deferred none)).cell (j:=0) rfl
      refine⟨by simp,.inl ⟨_,_,rfl,run_takeDeferred AP,?_⟩⟩
      refine⟨.tuple #[UB x,.int .i64 (QF t x)],?_,by first|(rw[HP.out];done)|(rw[HP.out];rfl),sx.putObj oM AP _⟩
      simp[results,Tryz.f98,go_sem,e2,e3,e4,UB]
     ·have HPN:=jA hpn
      clear hpn
      have HC:=jA (fun w' (he:Ext w w') (hb':UA w' b 187 cs)=>callsIn_wide (n:=8).2 (uZ (.slice A t.length c) t b cs w' hnp hS.ne (ZDB hnp (fun x hx=>hS.ne x hx) HIN.out H0.out) (hs.ext RPr.keeps he) hform'.out hb' hlet))
      unfold UB
      gi_wp2_with fail
      refine⟨trivial,?_⟩
      refine (HC.out _ (ZFg.alloc _) (hbox.alloc _)).mono ?_
      rintro e w3 ⟨he3,hm3⟩
      have ZDg:Ext w2 w3:=Ext.trans ((Ext.refl w2).alloc _) he3
      have ZHF:KeepsFrom W0.heap.size W w3:=KF.ext ZIO ZDg
      have ZHG:Ext w w3:=ZFg.trans ZDg
      have r13:=r12.ext ZDg
      have r23:=r22.ext ZDg
      have lt13:=r13.lt
      have lt23:=r23.lt
      have f1:=r13.frozen 0
      have f2:=r13.frozen 1
      have f3:=r23.frozen 0
      have p1:=r13.cell (j:=0) rfl
      have p2:=r13.cell (j:=1) rfl
      have p3:=r23.cell (j:=0) rfl
      rcases hm3 with ⟨x,hx,rfl⟩|⟨hx,rfl⟩
      ·have HP:=jA (ZA3 HIN.out H0.out hfn.out HPN.out hx)
       clear hx
       unfold UB
       gi_wp2
       obtain⟨Wr,JJ⟩:∃Wr,(((w3.setCell ⟨w.heap.size+1,0,none⟩ (Value.int .i64 x.1)).setCell ⟨w.heap.size+1,1,none⟩ (Value.int .i64 x.2)).setCell ⟨w.heap.size+1+1,0,none⟩ (Value.int .i64 10)).alloc (Obj.cells #[Value.int .i64 x.1,Value.int .i64 x.2] 81)=Wr:=⟨_,rfl⟩
       rw[JJ]
       have s1:UA Wr (w.heap.size+1) 81 #[.int .i64 x.1,.int .i64 x.2]:=by rw[←JJ];exact kW0
       have s2:UA Wr (w.heap.size+1+1) 39 #[.int .i64 10]:=by rw[←JJ];exact kW0
       have sx:Ext w Wr:=by rw[←JJ];exact kW0
       have hkf:KeepsFrom W0.heap.size W Wr:=by rw[←JJ];exact kW0
       have AP:Wr.heap[D]? = some (.deferred (some [])):=hkf.same D _ hD hK rfl
       clear JJ
       have e2:=(s1.putObj AP rfl (.deferred none)).cell (j:=0) rfl
       have e3:=(s1.putObj AP rfl (.deferred none)).cell (j:=1) rfl
       have e4:=(s2.putObj AP rfl (.deferred none)).cell (j:=0) rfl
       refine⟨by simp,.inl ⟨_,_,rfl,run_takeDeferred AP,?_⟩⟩
       refine⟨.tuple #[UB x,.int .i64 10],?_,by first|(rw[HP.out];done)|(rw[HP.out];rfl),sx.putObj oM AP _⟩
       simp[results,Tryz.f98,go_sem,e2,e3,e4,UB]
      ·have HP:=jA (ZA2 HIN.out H0.out hfn.out HPN.out hx)
       clear hx
       unfold UB
       gi_wp2
       obtain⟨Wr,JJ⟩:∃Wr,(((w3.setCell ⟨w.heap.size+1,0,none⟩ (Value.int .i64 0)).setCell ⟨w.heap.size+1,1,none⟩ (Value.int .i64 0)).setCell ⟨w.heap.size+1+1,0,none⟩ (Value.int .i64 0)).alloc (Obj.cells #[Value.int .i64 0,Value.int .i64 0] 81)=Wr:=⟨_,rfl⟩
       rw[JJ]
       have s1:UA Wr (w.heap.size+1) 81 #[.int .i64 0,.int .i64 0]:=by rw[←JJ];exact kW0
       have s2:UA Wr (w.heap.size+1+1) 39 #[.int .i64 0]:=by rw[←JJ];exact kW0
       have sx:Ext w Wr:=by rw[←JJ];exact kW0
       have hkf:KeepsFrom W0.heap.size W Wr:=by rw[←JJ];exact kW0
       have AP:Wr.heap[D]? = some (.deferred (some [])):=hkf.same D _ hD hK rfl
       clear JJ
       have e2:=(s1.putObj AP rfl (.deferred none)).cell (j:=0) rfl
       have e3:=(s1.putObj AP rfl (.deferred none)).cell (j:=1) rfl
       have e4:=(s2.putObj AP rfl (.deferred none)).cell (j:=0) rfl
       refine⟨by simp,.inl ⟨_,_,rfl,run_takeDeferred AP,?_⟩⟩
       refine⟨.tuple #[UB (0,0),.int .i64 0],?_,by first|(rw[HP.out];done)|(rw[HP.out];rfl),sx.putObj oM AP _⟩
       simp[results,Tryz.f98,go_sem,e2,e3,e4,UB]
    case stop =>
     rintro D c' pre W hD ZK ⟨rfl,a,x,⟨⟨⟨hp,hg,KH⟩,r1W⟩,r2W⟩,V5⟩ hK
     rw[hp]at ZK
     have HST:=jA (kZ HIN.out H0.out (E6 ZK hg KH))
     clear hg
     gi_wp2
     have e2:=(r1W.putObj hK rfl (.deferred none)).cell (j:=0) rfl
     have e3:=(r1W.putObj hK rfl (.deferred none)).cell (j:=1) rfl
     have e4:=(r2W.putObj hK rfl (.deferred none)).cell (j:=0) rfl
     refine⟨by simp,.inl ⟨_,_,rfl,run_takeDeferred hK,?_⟩⟩
     refine⟨.tuple #[UB x,.int .i64 (ZE t x)],?_,by rw[HST.out],V5.putObj oM hK _⟩
     simp[results,Tryz.f98,go_sem,e2,e3,e4,UB]

theorem YO (u:Value) (t:Tr) (w:World) (hS:Sm t) (hs:SlR 3 RPr w u t) :
  Calls Tryz.prog 44 #[.agg #[u]] w fun e w'=>e=.returned (.bool (pE t))∧Ext w w':=by
 have HF:=jA (fun w' (he:Ext w w')=>A7 u t w' hS (hs.ext RPr.keeps he))
 obtain⟨A,c,rfl,_,mL,_⟩:=hs.at_
 go_enter Tryz.func44,Tryz.ntmps44
 go_wp2_with fail
 refine (HF.out _ ((Ext.refl w).alloc _)).mono ?_
 rintro e w2 ⟨rfl,sI⟩
 unfold UB
 go_wp2
 go_ret
 refine⟨M9 ?_,Ext.alloc (Ext.trans ((Ext.refl w).alloc _) sI) _⟩
 unfold pE
 rw[Bool.eq_iff_iff];simp

def xG (t:Tr) (k m:Int):Nat×Nat:=yA t (ids t) k m


def KO (t:Tr) (x:Nat×Nat):List (Nat×Nat):=(if 1<x.2 then [(x.1,x.2-1)] else [])++if (sA t x).kind==3 then [xG t 2 (sA t x).msg] else []


def ZBm (D:List Nat):Array Value:=(D.map fun d:Nat=>Value.int .i64 d).toArray
theorem P9 (D:List Nat) (k d:Nat):(ZBm D).setIfInBounds k (.int .i64 d)=ZBm (D.set k d):=by
 unfold ZBm
 rw[List.setIfInBounds_toArray,List.map_set]
theorem UA.setRow {W:World} {B:Nat} {t:TypeId} {D:List Nat} {k:Nat} (h:UA W B t (ZBm D)) (d:Nat):UA (W.setCell ⟨B,k,none⟩ (.int .i64 d)) B t (ZBm (D.set k d)):=by
 rw[←P9];exact h.set _ _
end Go.Proofs.YtoccdlnoaindmaaGreatDoor
namespace Go.Proofs.YtoccdlnoaindmaaGreatDoor
set_option linter.unusedVariables false

theorem Hb.back {t:Tr} {x z:Nat×Nat} (h:Hb t x z):∃y,Dir t y z∧(y=x∨Hb t x y):=by
 cases h with
 |one h=>exact⟨_,h,.inl rfl⟩
 |more h1 h2=>exact⟨_,h2,.inr h1⟩
def TQ (D:List Nat) (x:Nat×Nat):Prop:=x.2≤D.getD x.1 0
structure KI (t:Tr) (D:List Nat):Prop where
 len:D.length=t.length
 le:∀p (hp:p<t.length),D.getD p 0≤t[p].evs.length
 closed:∀x∈ids t,TQ D x→∀y∈ids t,Dir t y x→TQ D y
 acyc:∀x∈ids t,TQ D x→¬Hb t x x
theorem KI.start (t:Tr):KI t (List.replicate t.length 0):=by
 have h0:∀p,(List.replicate t.length 0).getD p 0=0:=fun p=>by
  rw[List.getD_eq_getElem?_getD,List.getElem?_replicate];split<;>rfl
 have hn:∀x∈ids t,¬TQ (List.replicate t.length 0) x:=fun x hx hg=>by
  have:=eG hx
  unfold TQ at hg;rw[h0]at hg;omega
 exact⟨by simp,fun p hp=>by rw[h0];exact Nat.zero_le _,fun x hx hg=>absurd hg (hn x hx),fun x hx hg=>absurd hg (hn x hx)⟩
theorem KI.gone_back {t:Tr} {D:List Nat} (h:KI t D) {x z:Nat×Nat} (hx:x∈ids t) (hz:z∈ids t) (hg:TQ D z) (hb:Hb t x z):TQ D x:=by
 induction hb with
 |one hd=>exact h.closed _ hz hg _ hx hd
 |more h1 hd ih =>
   have hy:=h1.mem hx
   exact ih hy (h.closed _ hz hg _ hy hd)
theorem uX {D:List Nat} {p q d:Nat} (hp:p<D.length):(D.set p d).getD q 0=if q=p then d else D.getD q 0:=by
 rw[List.getD_eq_getElem?_getD,List.getElem?_set]
 by_cases h:p=q
 ·subst h;rw[if_pos rfl,if_pos rfl,if_pos hp];rfl
 ·rw[if_neg h,if_neg (fun e=>h e.symm),List.getD_eq_getElem?_getD]
theorem KI.step {t:Tr} {D:List Nat} (h:KI t D) {p:Nat} (hp:p<t.length) (hi:D.getD p 0<t[p].evs.length) (ZK:∀y∈ids t,Dir t y (p,D.getD p 0+1)→TQ D y):KI t (D.set p (D.getD p 0+1)):=by
 have FC:p<D.length:=by rw[h.len];exact hp
 have mS:∀x,x∈ids t→(TQ (D.set p (D.getD p 0+1)) x↔TQ D x∨x=(p,D.getD p 0+1)):=fun x hx=>by
  unfold TQ
  rw[uX FC]
  obtain⟨a,b⟩:=x
  simp only[Prod.mk.injEq]
  by_cases ha:a=p
  ·subst ha;rw[if_pos rfl];omega
  ·rw[if_neg ha];simp[ha]
 have ZFh:(p,D.getD p 0+1)∈ids t:=LD.2 ⟨hp,by simp,hi⟩
 have hnx:¬TQ D (p,D.getD p 0+1):=by unfold TQ;simp
 refine⟨by simpa using h.len,fun q hq=>?_,fun x hx hg y hy hd=>?_,fun x hx hg hb=>?_⟩
 ·rw[uX FC]
  split
  ·rename_i e;subst e;exact hi
  ·exact h.le q hq
 ·rcases (mS x hx).1 hg with h1|rfl
  ·exact (mS y hy).2 (.inl (h.closed x hx h1 y hy hd))
  ·exact (mS y hy).2 (.inl (ZK y hy hd))
 ·rcases (mS x hx).1 hg with h1|rfl
  ·exact h.acyc x hx h1 hb
  ·obtain⟨y,hd,he⟩:=hb.back
   rcases he with rfl|h2
   ·exact hnx (ZK _ ZFh hd)
   ·have hy:=h2.mem ZFh
    exact hnx (h.gone_back ZFh hy (ZK y hy hd) h2)
theorem KI.all {t:Tr} {D:List Nat} (h:KI t D) (hd:∀p (hp:p<t.length),t[p].evs.length≤D.getD p 0):∀x∈ids t,¬Hb t x x:=by
 intro x hx
 obtain⟨hp,h1,h2⟩:=LD.1 hx
 exact h.acyc x hx (Nat.le_trans h2 (hd x.1 hp))
open Go.RowKit

theorem sY {t:Tr} {q m p:Nat} (hq:q<t.length) (h:AF t q m p=true):∃y,mD t 2 m=some y:=by
 have e:mD t 2 m=(ids t).find? (uF t 2 m):=rfl
 rw[e]
 unfold AF DA at h
 rw[JC dfPr t hq,List.any_eq_true]at h
 obtain⟨ev,he,hk⟩:=h
 obtain⟨j,hj,LU⟩:=List.mem_iff_getElem.1 he
 simp only[Bool.and_eq_true,beq_iff_eq]at hk
 have OX:(q,j+1)∈ids t:=LD.2 ⟨hq,by simp,hj⟩
 cases hf:(ids t).find? (uF t 2 m) with
 |some y=>exact⟨y,rfl⟩
 |none =>
   rw[List.find?_eq_none]at hf
   refine absurd ?_ (hf _ OX)
   unfold uF
   rw[rN hq hj,LU,hk.1.1,hk.1.2]
   simp
structure Paired (t:Tr):Prop where
 form:∀x∈ids t,CB t.length x.1 (sA t x)=true
 pair:∀x∈ids t,QF t x=0
theorem Paired.recv {t:Tr} (h:Paired t) {x:Nat×Nat} (hx:x∈ids t) (hk:(sA t x).kind=3):mD t 3 (sA t x).msg=some x∧∃y,mD t 2 (sA t x).msg=some y:=by
 have hp:=h.pair x hx
 obtain⟨m,q,hm,_,hq,kR,_⟩:=ZH (h.form x hx) (by rw[hk];rfl)
 unfold QF at hp
 rw[hk]at hp
 simp only[show ((3:Int)==2)=false from rfl,show ((3:Int)==3)=true from rfl,if_true,Bool.false_eq_true,if_false]at hp
 by_cases h1:(mD t 3 (sA t x).msg==some x)=true
 ·rw[if_pos h1]at hp
  refine⟨by simpa using h1,?_⟩
  by_cases h2:AF t (sA t x).peer.toNat (sA t x).msg x.1=true
  ·rw[hq,hm,Int.toNat_natCast]at h2
   rw[hm]
   exact sY kR h2
  ·rw[if_neg h2]at hp;cases hp
 ·rw[if_neg h1]at hp;cases hp
theorem Paired.send {t:Tr} (h:Paired t) {x:Nat×Nat} (hx:x∈ids t) (hk:(sA t x).kind=2):mD t 2 (sA t x).msg=some x:=by
 have hp:=h.pair x hx
 unfold QF at hp
 rw[hk]at hp
 simp only[show ((2:Int)==2)=true from rfl,if_true]at hp
 by_cases h1:(mD t 2 (sA t x).msg==some x)=true
 ·simpa using h1
 ·rw[if_neg h1]at hp;cases hp
theorem AE {t:Tr} {k m:Int} {y:Nat×Nat} (h:mD t k m=some y):(sA t y).kind=k∧(sA t y).msg=m:=by
 have e:mD t k m=(ids t).find? (uF t k m):=rfl
 rw[e]at h
 have:=List.find?_some h
 simpa [uF] using this
theorem EG {t:Tr} (h:Paired t) {x y:Nat×Nat} (hx:x∈ids t):y∈KO t x↔(y∈ids t∧Dir t y x):=by
 obtain⟨hp,h1,h2⟩:=LD.1 hx
 unfold KO
 rw[List.mem_append]
 constructor
 ·rintro (hy|hy)
  ·split at hy
   ·rename_i LA
    have:y=(x.1,x.2-1):=by simpa using hy
    subst this
    refine⟨LD.2 ⟨hp,by simp;omega,by simp;omega⟩,.inl ⟨?_,?_⟩⟩
    ·ext<;>simp;omega
    ·unfold DA;simp only;rw[JC dfPr t hp];omega
   ·cases hy
  ·split at hy
   ·rename_i hk
    have hk3:(sA t x).kind=3:=by simpa using hk
    obtain⟨h3,z,hz⟩:=h.recv hx hk3
    have hv:xG t 2 (sA t x).msg=z:=(YD hz).1
    have:y=z:=by rw[←hv];simpa using hy
    subst this
    obtain⟨k2,m2⟩:=AE hz
    refine⟨(YD hz).2.2,.inr ⟨k2,?_⟩⟩
    rw[m2];exact h3
   ·cases hy
 ·rintro⟨hy,(⟨he,hl⟩|⟨hk,hf⟩)⟩
  ·obtain⟨_,hy1,_⟩:=LD.1 hy
   left
   rw[he]
   simp only
   rw[if_pos oM]
   simp
  ·right
   obtain⟨k3,m3⟩:=AE hf
   rw[k3]
   simp only[show ((3:Int)==3)=true from rfl,if_true]
   have:=h.send hy hk
   rw[m3,show xG t 2 (sA t y).msg=y from (YD this).1]
   simp
theorem Hb.cons {t:Tr} {x y z:Nat×Nat} (h:Dir t x y) (k:Hb t y z):Hb t x z:=by
 induction k with
 |one h2=>exact .more (.one h) h2
 |more _ h2 ih=>exact .more ih h2
structure PaI (t:Tr) (x:Nat×Nat) (S R:List (Nat×Nat)):Prop where
 nod:S.Nodup
 s:∀y∈S,y∈ids t∧Hb t y x
 r:∀y∈R,y∈ids t∧Hb t y x
 closed:∀z,z=x∨z∈S→∀y∈ids t,Dir t y z→y∈S∨y∈R
structure PaJ (t:Tr) (x z0:Nat×Nat) (S R:List (Nat×Nat)) (k:Nat):Prop where
 nod:S.Nodup
 s:∀y∈S,y∈ids t∧Hb t y x
 r:∀y∈R,y∈ids t∧Hb t y x
 cur:z0∈S
 done:∀y∈(KO t z0).take k,y∈R
 closed:∀z,z=x∨z∈S→z≠z0→∀y∈ids t,Dir t y z→y∈S∨y∈R
theorem PaI.start {t:Tr} (h:Paired t) {x:Nat×Nat} (hx:x∈ids t):PaI t x [] (KO t x):=
 ⟨List.nodup_nil,by simp,fun y hy=>let ⟨a,b⟩:=(EG h hx).1 hy;⟨a,.one b⟩,fun z hz y hy hd=>by
  rcases hz with rfl|h1
  ·exact .inr ((EG h hx).2 ⟨hy,hd⟩)
  ·cases h1⟩
theorem PaI.skip {t:Tr} {x y:Nat×Nat} {S R:List (Nat×Nat)} (h:PaI t x S (y::R)) (hy:y∈S):PaI t x S R:=
 ⟨h.nod,h.s,fun z hz=>h.r z (by simp[hz]),fun z hz w hw hd=>by
  rcases h.closed z hz w hw hd with h1|h1
  ·exact .inl h1
  ·rcases List.mem_cons.1 h1 with rfl|h2
   ·exact .inl hy
   ·exact .inr h2⟩
theorem PaJ.push {t:Tr} (hp:Paired t) {x z0 y:Nat×Nat} {S R:List (Nat×Nat)} {k:Nat} (h:PaJ t x z0 S R k) (hk:(KO t z0)[k]? = some y):PaJ t x z0 S (R++[y]) (k+1):=by
 obtain⟨hz,hzx⟩:=h.s z0 h.cur
 obtain⟨hy,hd⟩:=(EG hp hz).1 (List.mem_of_getElem? hk)
 refine⟨h.nod,h.s,fun w hw=>?_,h.cur,fun w hw=>?_,fun z hz' KH w hw hd'=>?_⟩
 ·rcases List.mem_append.1 hw with h1|h1
  ·exact h.r w h1
  ·have:w=y:=by simpa using h1
   subst this;exact⟨hy,.cons hd hzx⟩
 ·rw[yM hk]at hw
  rcases List.mem_append.1 hw with h1|h1
  ·simp[h.done w h1]
  ·exact List.mem_append.2 (.inr h1)
 ·rcases h.closed z hz' KH w hw hd' with h1|h1
  ·exact .inl h1
  ·exact .inr (by simp[h1])
theorem PaJ.fin {t:Tr} (hp:Paired t) {x z0:Nat×Nat} {S R:List (Nat×Nat)} {k:Nat} (h:PaJ t x z0 S R k) (hk:(KO t z0).length≤k):PaI t x S R:=
 ⟨h.nod,h.s,h.r,fun z hz w hw hd=>by
  by_cases he:z=z0
  ·subst he
   refine .inr (h.done w ?_)
   rw[List.take_of_length_le hk]
   exact (EG hp (h.s z h.cur).1).2 ⟨hw,hd⟩
  ·exact h.closed z hz he w hw hd⟩
theorem PaI.all {t:Tr} {x:Nat×Nat} {S:List (Nat×Nat)} (h:PaI t x S []):∀y∈ids t,y∈S↔Hb t y x:=by
 intro y hy
 refine⟨fun hs=>(h.s y hs).2,fun hb=>?_⟩
 have key:∀z,Hb t y z→(z=x∨z∈S)→y∈S:=by
  intro z hz
  induction hz with
  |one hd=>exact fun hc=>(h.closed _ hc _ hy hd).resolve_right (by simp)
  |more h1 hd ih=>exact fun hc=>ih (.inr ((h.closed _ hc _ (h1.mem hy) hd).resolve_right (by simp)))
 exact key x hb (.inl rfl)
theorem PaI.few {t:Tr} {x:Nat×Nat} {S R:List (Nat×Nat)} (h:PaI t x S R):S.length≤(ids t).length:=jI h.nod fun y hy=>(h.s y hy).1
theorem PaJ.few {t:Tr} {x z0:Nat×Nat} {S R:List (Nat×Nat)} {k:Nat} (h:PaJ t x z0 S R k):S.length≤(ids t).length:=jI h.nod fun y hy=>(h.s y hy).1
def rowM (S:List (Nat×Nat)) (p n:Nat):Array Value:=((List.range n).map fun i=>Value.bool (decide ((p,i)∈S))).toArray
theorem N9 {S:List (Nat×Nat)} {p n i:Nat} (h:i<n):(rowM S p n)[i]? = some (.bool (decide ((p,i)∈S))):=by simp[rowM,h]
def rowV (q:Nat×Nat):Value:=.slice (some ⟨q.1,0,none⟩) q.2 q.2
structure GridM (tr tb:TypeId) (W:World) (B:Nat) (v:Value) (gs S:List (Nat×Nat)):Prop where
 out:tB 1 tr W B v gs.length (gs.map rowV)
 row:∀p (hp:p<gs.length),UA W gs[p].1 tb (rowM S p gs[p].2)∧B≤gs[p].1
 nod:∀p q (hp:p<gs.length) (hq:q<gs.length),gs[p].1=gs[q].1→p=q
section
variable {tr tb:TypeId} {W W':World} {B:Nat} {v:Value} {gs S:List (Nat×Nat)}
theorem GridM.ext (h:GridM tr tb W B v gs S) (he:Ext W W'):GridM tr tb W' B v gs S:=⟨h.out.ext he,fun p hp=>⟨(h.row p hp).1.ext he,(h.row p hp).2⟩,h.nod⟩
theorem GridM.drewN (h:GridM tr tb W B v gs S) (n:Nat):GridM tr tb (W.drewN n) B v gs S:=h.ext ((Ext.refl W).drewN n)
theorem GridM.alloc (h:GridM tr tb W B v gs S) (o:Obj):GridM tr tb (W.alloc o) B v gs S:=h.ext ((Ext.refl W).alloc o)
theorem GridM.kept (h:GridM tr tb W B v gs S) {r:Option Nat} (hg:W.grownBy W' r) (h1:v.ownBlock≠r∨v.ownBlock=none) (h2:∀p (hp:p<gs.length),some gs[p].1≠r):GridM tr tb W' B v gs S:=
 ⟨h.out.kept hg (h1.symm),fun p hp=>⟨(h.row p hp).1.kept hg (h2 p hp),(h.row p hp).2⟩,h.nod⟩
end
def marks (t:Tr) (gs:List (Nat×Nat)) (w:World):Nat:=(ids t).countP fun x=>match w.cell? ⟨(gs.getD x.1 (0,0)).1,x.2,none⟩ with|some (.bool true)=>true|_=>false
theorem ZAQ {t:Tr} {tr tb:TypeId} {W:World} {B:Nat} {v:Value} {gs S:List (Nat×Nat)} (h:GridM tr tb W B v gs S) (hl:∀x∈ids t,∃(hp:x.1<gs.length),x.2<gs[x.1].2) (hn:S.Nodup) (hs:∀y∈S,y∈ids t):marks t gs W=S.length:=by
 have e:marks t gs W=(ids t).countP fun x=>decide (x∈S):=by
  unfold marks
  refine List.countP_congr fun x hx=>?_
  obtain⟨hp,hi⟩:=hl x hx
  rw[JC (0,0) gs hp,(h.row x.1 hp).1.cell (N9 hi)]
  cases decide ((x.1,x.2)∈S)<;>simp
 rw[e,List.countP_eq_length_filter]
 apply Nat.le_antisymm
 ·exact jI ((FS t).filter _) fun x hx=>by simpa using (List.mem_filter.1 hx).2
 ·exact jI hn fun x hx=>List.mem_filter.2 ⟨hs x hx,by simpa using hx⟩

section
variable {size:Nat} {e:TypeId} {w w':World} {B:Nat} {v v':Value} {n:Nat} {cs:List Value}
theorem tB.apart {size' n':Nat} {e':TypeId} {B':Nat} {v':Value} {cs':List Value} (h:tB size e w B v n cs) (h':tB size' e' w B' v' n' cs') (KH:e≠e'):v.ownBlock=none∨v.ownBlock≠v'.ownBlock:=by
 rcases h'.2 with ⟨rfl,_⟩|⟨g,off,cap,cur,rfl,_,hbox,_⟩
 ·cases hv:v.ownBlock
  ·exact .inl rfl
  ·right;simp[Value.ownBlock]
 ·exact .inr (h.not_box hbox KH.symm)
end

abbrev ZBs (W:World) (B:Nat) (v:Value) (gs S:List (Nat×Nat)):Prop:=GridM 199 4 W B v gs S
def GLen (t:Tr) (gs:List (Nat×Nat)) (k:Nat):Prop:=gs.length=k∧∀p (hp:p<gs.length) (ht:p<t.length),gs[p].2=t[p].evs.length+1
theorem ZBs.grow {W W':World} {B n g0:Nat} {v v':Value} {gs:List (Nat×Nat)} (h:ZBs W B v gs []) (hr:UA W g0 4 (rowM [] gs.length n)) (hB:B≤g0) (KG:∀p (hp:p<gs.length),gs[p].1≠g0)
  (hv:tB 1 199 W' B v' (gs.length+1) (gs.map rowV++[rowV (g0,n)])) (hg:Grw W v W' v'):ZBs W' B v' (gs++[(g0,n)]) []:=by
 have KH:∀(b:Nat) (cs:Array Value),UA W b 4 cs→some b≠v.ownBlock:=fun b cs hb e=>h.out.not_box hb (by decide) e.symm
 refine⟨?_,?_,?_⟩
 ·rw[List.length_append,List.map_append];exact hv
 ·intro p hp
  rw[List.length_append,List.length_singleton]at hp
  by_cases LA:p<gs.length
  ·rw[List.getElem_append_left LA]
   exact⟨(h.row p LA).1.kept hg.1 (KH _ _ (h.row p LA).1),(h.row p LA).2⟩
  ·obtain rfl:p=gs.length:=by omega
   rw[List.getElem_append_right (Nat.le_refl _)]
   simp only[Nat.sub_self,List.getElem_singleton]
   exact⟨hr.kept hg.1 (KH _ _ hr),hB⟩
 ·intro p q hp hq he
  rw[List.length_append,List.length_singleton]at hp hq
  by_cases h1:p<gs.length
  ·by_cases h2:q<gs.length
   ·rw[List.getElem_append_left h1,List.getElem_append_left h2]at he
    exact h.nod p q h1 h2 he
   ·obtain rfl:q=gs.length:=by omega
    rw[List.getElem_append_left h1,List.getElem_append_right (Nat.le_refl _)]at he
    simp only[Nat.sub_self,List.getElem_singleton]at he
    exact absurd he (KG p h1)
  ·obtain rfl:p=gs.length:=by omega
   by_cases h2:q<gs.length
   ·rw[List.getElem_append_left h2,List.getElem_append_right (Nat.le_refl _)]at he
    simp only[Nat.sub_self,List.getElem_singleton]at he
    exact absurd he.symm (KG q h2)
   ·omega
theorem ZBs.marks {t:Tr} {W:World} {B:Nat} {v:Value} {gs S:List (Nat×Nat)} (h:ZBs W B v gs S) (hl:GLen t gs t.length) (hn:S.Nodup) (hs:∀y∈S,y∈ids t):marks t gs W=S.length:=
 ZAQ h (fun y hy=>by
  obtain⟨hp,_,h2⟩:=LD.1 hy
  have h3:y.1<gs.length:=by rw[hl.1];exact hp
  exact⟨h3,by rw[hl.2 y.1 h3 hp];omega⟩) hn hs
attribute [local go_sem] Oper.semAt_some

noncomputable def SC (t:Tr) (kd m:Int):Nat×Nat:=if pE t then xG t kd m else (0,0)
noncomputable def aL (t:Tr):Nat:=if pE t then (ids t).length else 0
def Z2 (t:Tr) (kd m:Int) (w:World) (e:Ending) (w':World):Prop:=e=.returned (.tuple #[UB (SC t kd m),.bool (decide (0<(SC t kd m).2))])∧Ext w w'
def FdI (t:Tr) (w:World) (kd m:Int) (l:List (Nat×Nat)) (W:World):Prop:=
 (((((UA W (w.heap.size+1) 3 #[.int .i64 kd]∧UA W (w.heap.size+1+1) 3 #[.int .i64 m])∧UA W (w.heap.size+1+1+1) 81 #[.int .i64 0,.int .i64 0])∧UA W (w.heap.size+1+1+1+1) 4 #[.bool false])∧Ext w W)∧l.find? (uF t kd m)=none)
def FdX (t:Tr) (w:World) (kd m:Int) (l:List (Nat×Nat)) (W:World):Prop:=
 ∃a x,(((l=a++[x]∧a.find? (uF t kd m)=none∧uF t kd m x=true)∧UA W (w.heap.size+1+1+1) 81 #[.int .i64 x.1,.int .i64 x.2])∧UA W (w.heap.size+1+1+1+1) 4 #[.bool true])∧Ext w W
theorem YR (t:Tr) (w:World) (kd m:Int) {n:Nat} (hn:w.heap.size≤n):OwnFrom n (fun (pre:List (Idt t)) W=>FdI t w kd m (pre.map (·.1)) W):=
 OwnFrom.and (OwnFrom.and (OwnFrom.and (OwnFrom.and (OwnFrom.and (rA _ _ _ _) (rA _ _ _ _)) (rA _ _ _ _)) (rA _ _ _ _)) (pG hn)) (ownFrom_pure _ _)
theorem ZA1 (t:Tr) (w:World) (kd m:Int) {n:Nat} (hn:w.heap.size≤n):OwnFrom n (fun (pre:List (Idt t)) W=>FdX t w kd m (pre.map (·.1)) W):=by
 rintro s X Y row ⟨a,x,h⟩ hg hr
 refine⟨a,x,⟨⟨h.1.1.1,?_⟩,?_⟩,pG hn () X Y row h.2 hg hr⟩
 ·exact rA _ n _ (fun (_:Unit)=>_) () X Y row h.1.1.2 hg hr
 ·exact rA _ n _ (fun (_:Unit)=>_) () X Y row h.1.2 hg hr
theorem zZ {t:Tr} {kd m:Int} {a:List (Nat×Nat)} {x:Nat×Nat} (hv:pE t=true) (hp:a++[x] <+: ids t) (h0:a.find? (uF t kd m)=none) (hx:uF t kd m x=true):SC t kd m=x∧0<x.2:=by
 obtain⟨c,hc⟩:=hp
 have hf:(ids t).find? (uF t kd m)=some x:=by
  rw[←hc,List.append_assoc,List.find?_append,h0];simp[hx]
 refine⟨?_,eG (t:=t) (by rw[←hc];simp)⟩
 unfold SC xG yA
 rw[if_pos hv,hf];rfl
theorem qZ {t:Tr} {kd m:Int} (h:(ids t).find? (uF t kd m)=none):SC t kd m=(0,0):=by
 unfold SC xG yA
 rw[h];simp

theorem kW1 {p:Prop} (h:p:=by (with_reducible repeat (first|assumption|exact KeepsFrom.refl _ _|refine KF.set ?_ _ _|refine KF.alloc ?_ _|refine KF.drew ?_|refine KF.drewN ?_ _|refine KF.ext ?_ aS|exact Below.refl _ _|refine BL.set ?_ _ _ _ oM|refine BL.alloc ?_ _ oM|refine BL.drew ?_|refine BL.drewN ?_ _|refine BL.ext ?_ aS oM|exact Ext.refl _|refine Ext.set ?_ oM _|refine Ext.alloc ?_ _|refine Ext.drew ?_|refine Ext.drewN ?_ _|refine Ext.trans ?_ aS|refine UA.alloc ?_ _|refine UA.drew ?_|refine UA.drewN ?_ _|refine UA.other ?_ oM _|refine UA.set ?_ _ _|apply UA.set1|apply UA.set2_1|apply UA.set2_0|apply UA.set5_4|apply UA.set5_3|apply UA.set5_2|apply UA.set5_1|apply UA.set5_0|apply UA.set3_2|apply UA.set3_1|apply UA.set3_0|apply UA.set4_3|apply UA.set4_2|apply UA.set4_1|apply UA.set4_0|refine UA.ext ?_ aS));done):p:=h
theorem sX (u:Value) (t:Tr) (kd m:Int) (w:World) (hS:Small t) (hs:SlR 3 RPr w u t) :
  Calls Tryz.prog 95 #[.agg #[u],.int .i64 kd,.int .i64 m] w fun e w'=>Z2 t kd m w e w':=by
 have HV:=jA (fun w' (he:Ext w w')=>callsIn_wide (n:=8).2 (YO u t w' hS.sm (hs.ext RPr.keeps he)))
 refine callsIn_wide (n:=9).1 ?_
 refine callsIn_of_wp_marks Tryz.func95 rfl trivial ?_ rfl
 simp only[Tryz.ntmps95,List.size_toArray,List.length_cons,List.length_nil,Nat.reduceAdd,Nat.reduceSub,Array.replicate_succ,Array.replicate_zero,List.push_toArray,List.append_toArray,List.nil_append,List.cons_append]
 obtain⟨A,c,rfl,_,mL,_⟩:=hs.at_
 gi_wp2_with fail
 refine⟨trivial,?_⟩
 have hx1:Ext w ((((((w).alloc (.cells #[.slice A t.length c] 36)).alloc (.cells #[.int .i64 kd] 3)).alloc (.cells #[.int .i64 m] 3)).alloc (.cells #[.int .i64 0,.int .i64 0] 81)).alloc (.cells #[.bool false] 4)):=(((((Ext.refl w).alloc _).alloc _).alloc _).alloc _).alloc _
 have b1:UA ((((((w).alloc (.cells #[.slice A t.length c] 36)).alloc (.cells #[.int .i64 kd] 3)).alloc (.cells #[.int .i64 m] 3)).alloc (.cells #[.int .i64 0,.int .i64 0] 81)).alloc (.cells #[.bool false] 4)) (w.heap.size+1) 3 #[.int .i64 kd]:=(((UA.newAt _ _ (by simp)).alloc _).alloc _).alloc _
 have b2:UA ((((((w).alloc (.cells #[.slice A t.length c] 36)).alloc (.cells #[.int .i64 kd] 3)).alloc (.cells #[.int .i64 m] 3)).alloc (.cells #[.int .i64 0,.int .i64 0] 81)).alloc (.cells #[.bool false] 4)) (w.heap.size+1+1) 3 #[.int .i64 m]:=((UA.newAt _ _ (by simp)).alloc _).alloc _
 have b3:UA ((((((w).alloc (.cells #[.slice A t.length c] 36)).alloc (.cells #[.int .i64 kd] 3)).alloc (.cells #[.int .i64 m] 3)).alloc (.cells #[.int .i64 0,.int .i64 0] 81)).alloc (.cells #[.bool false] 4)) (w.heap.size+1+1+1) 81 #[.int .i64 0,.int .i64 0]:=(UA.newAt _ _ (by simp)).alloc _
 have b4:UA ((((((w).alloc (.cells #[.slice A t.length c] 36)).alloc (.cells #[.int .i64 kd] 3)).alloc (.cells #[.int .i64 m] 3)).alloc (.cells #[.int .i64 0,.int .i64 0] 81)).alloc (.cells #[.bool false] 4)) (w.heap.size+1+1+1+1) 4 #[.bool false]:=UA.newAt _ _ (by simp)
 have bT:UA ((((((w).alloc (.cells #[.slice A t.length c] 36)).alloc (.cells #[.int .i64 kd] 3)).alloc (.cells #[.int .i64 m] 3)).alloc (.cells #[.int .i64 0,.int .i64 0] 81)).alloc (.cells #[.bool false] 4)) (w.heap.size) 36 #[.slice A t.length c]:=((((UA.new _ _ _).alloc _).alloc _).alloc _).alloc _
 generalize (((((w).alloc (.cells #[.slice A t.length c] 36)).alloc (.cells #[.int .i64 kd] 3)).alloc (.cells #[.int .i64 m] 3)).alloc (.cells #[.int .i64 0,.int .i64 0] 81)).alloc (.cells #[.bool false] 4)=W1 at *
 refine (HV.out _ hx1).mono ?_
 rintro e w2 ⟨rfl,sI⟩
 replace hx1:=hx1.trans sI
 replace b1:=b1.ext sI
 replace b2:=b2.ext sI
 replace b3:=b3.ext sI
 replace b4:=b4.ext sI
 replace bT:=bT.ext sI
 clear sI
 have f0:=b3.frozen 0
 have f1:=b3.frozen 1
 have f2:=b4.frozen 0
 have r0:w2.cell? ⟨w.heap.size+1+1+1,0,none⟩=some (.int .i64 0):=b3.cell (j:=0) rfl
 have r1:w2.cell? ⟨w.heap.size+1+1+1,1,none⟩=some (.int .i64 0):=b3.cell (j:=1) rfl
 have r2:w2.cell? ⟨w.heap.size+1+1+1+1,0,none⟩=some (.bool false):=b4.cell (j:=0) rfl
 have t0:w2.cell? ⟨w.heap.size,0,none⟩=some (.slice A t.length c):=bT.cell (j:=0) rfl
 cases hv:pE t
 ·have HF:=jA (show SC t kd m=(0,0) by unfold SC;rw[hv];rfl)
  clear hv
  gi_wp2_with fail
  obtain⟨Wr,JJ⟩:∃Wr,((w2.setCell ⟨w.heap.size+1+1+1,0,none⟩ (Value.int .i64 0)).setCell ⟨w.heap.size+1+1+1,1,none⟩ (Value.int .i64 0)).setCell ⟨w.heap.size+1+1+1+1,0,none⟩ (Value.bool false)=Wr:=⟨_,rfl⟩
  rw[JJ]
  have s1:UA Wr (w.heap.size+1+1+1) 81 #[.int .i64 0,.int .i64 0]:=by rw[←JJ];exact kW1
  have s2:UA Wr (w.heap.size+1+1+1+1) 4 #[.bool false]:=by rw[←JJ];exact kW1
  have sx:Ext w Wr:=by rw[←JJ];exact kW1
  clear JJ
  refine⟨.tuple #[UB (0,0),.bool false],by simp[results,Tryz.f95,go_sem,UB,s1.cell (j:=0) rfl,s1.cell (j:=1) rfl,s2.cell (j:=0) rfl],by rw[HF.out];rfl,sx⟩
 ·have HVL:=jA hv
  clear hv
  have hnp:=hS.np
  gi_wp2_with (refine⟨trivial,?_⟩;gi_at_call 101;refine (callsIn_wide.2 (CH _ _)).mono ?_;rintro e w' ⟨rfl,rfl⟩)
  have bt:=UA.new w2 36 #[.slice A t.length c]
  have hM0:FdI t w kd m [] (w2.alloc (.cells #[.slice A t.length c] 36)):=⟨⟨⟨⟨⟨b1.alloc _,b2.alloc _⟩,b3.alloc _⟩,b4.alloc _⟩,hx1.alloc _⟩,rfl⟩
  have hwr:w.heap.size≤w2.heap.size:=hx1.size
  have GT:(w2.alloc (.cells #[.slice A t.length c] 36)).heap.size=w2.heap.size+1:=by simp
  generalize (w2.alloc (.cells #[.slice A t.length c] 36))=W0 at *
  have qO:Ext w W0:=hM0.1.2
  have j9:w.heap.size≤W0.heap.size:=by omega
  clear GT f0 f1 f2 r0 r1 r2 t0
  refine wpIn_rangeFunc_ownH rfl oM (gf:=148) (lb:=#[.pointer (some ⟨w2.heap.size,0,none⟩)]) rfl trivial (DC Tryz.func148 (by decide) rfl)
   (gG 8 oM w (.slice A t.length c) t w2.heap.size W0 hnp hS.ne hs qO (bt.cell rfl) hwr) belowK_t (belowK_b j9) (Below.refl _ _) (fun _=>rfl)
   (fun pre W=>FdI t w kd m (pre.map (·.1)) W) (fun c pre W=>c=.ret∧FdX t w kd m (pre.map (·.1)) W) (YR t w kd m j9) (fun c=>OwnFrom.and (ownFrom_pure _ _) (ZA1 t w kd m j9)) hM0
   (fun x a' W=>∃B6 B7 A4 n4 c4 v13 v14,(w.heap.size+1+1+1+1<B6∧w.heap.size+1+1+1+1<B7)∧UA W B6 81 #[.int .i64 x.1.1,.int .i64 x.1.2]∧UA W B7 79 #[.int .i64 (sA t x.1).kind,.int .i64 (sA t x.1).peer,.int .i64 (sA t x.1).msg,.int .i64 (sA t x.1).time,.slice A4 n4 c4] ∧
    a'={tmps:=#[.agg #[.slice A t.length c],.int .i64 kd,.int .i64 m,.pointer (some ⟨w.heap.size,0,none⟩),.pointer (some ⟨w.heap.size+1,0,none⟩),.pointer (some ⟨w.heap.size+1+1,0,none⟩),.pointer (some ⟨w.heap.size+1+1+1,0,none⟩),.pointer (some ⟨w.heap.size+1+1+1+1,0,none⟩),.pointer (some ⟨B6,0,none⟩),.pointer (some ⟨B7,0,none⟩),.agg #[.slice A t.length c],.bool true,.bool false,undef,.agg #[.slice A t.length c],.func (.func 148) #[] #[.pointer (some ⟨w2.heap.size,0,none⟩)],v13,v14,undef,undef,undef,undef,undef,undef,undef,undef,undef,undef,undef,undef],defers:=[]})
   ?hax ?assign ?body ?done ?stop
  case hax =>
   rintro x a' _ X Y row ⟨B6,B7,A4,n4,c4,v13,v14,hB,b6,b7,ha⟩ hg hr
   exact⟨B6,B7,A4,n4,c4,v13,v14,hB,rA B6 _ _ (fun (_:Unit)=>_) () X Y row b6 hg hr,rA B7 _ _ (fun (_:Unit)=>_) () X Y row b7 hg hr,ha⟩
  case assign =>
   rintro l pre x W K hI hK
   obtain⟨a,hv,hsa⟩:=JR hs x.2
   obtain⟨A4,c4,rfl,_,_,_⟩:=hsa.at_
   clear hsa
   simp only[hv]
   have hsW:=hI.1.2.size
   have h5:=hI.1.1.2.lt
   unfold UB
   gi_wp2
   exact hK _ _ (((KeepsOthers.alloc _ _).trans (KeepsOthers.alloc _ _)).from _) (((Below.refl _ W).alloc hsW _).alloc (by simp;omega) _) ((YR t w kd m (Nat.le_refl _)).alloc _ ((YR t w kd m (Nat.le_refl _)).alloc _ hI))
    ⟨W.heap.size,W.heap.size+1,A4,_,c4,_,_,⟨h5,by omega⟩,(UA.new _ _ _).alloc _,UA.newAt _ _ (by simp),rfl⟩
  case body =>
   rintro l pre x a' W hlW ⟨r,hr⟩ hI ⟨B6,B7,A4,n4,c4,v13,v14,⟨hB6,hB7⟩,b6,b7,rfl⟩ FC
   obtain⟨⟨⟨⟨⟨c1,c2⟩,c3⟩,c4'⟩,V5⟩,jP⟩:=hI
   have hsW:=V5.size
   have HNO:=jA jP
   have HKEY:=jA (show uF t kd m x.1=(((sA t x.1).kind==kd)&&((sA t x.1).msg==m)) from rfl)
   clear jP
   have k0:=b7.cell (j:=0) rfl
   have k1:=b7.cell (j:=1) rfl
   have k2:=b7.cell (j:=2) rfl
   have k3:=b7.cell (j:=3) rfl
   have k4:=b7.cell (j:=4) rfl
   have i0:=b6.cell (j:=0) rfl
   have i1:=b6.cell (j:=1) rfl
   have d1:=c1.cell (j:=0) rfl
   have d2:=c2.cell (j:=0) rfl
   have f0:=c3.frozen 0
   have f1:=c3.frozen 1
   have f2:=c4'.frozen 0
   have r0:=c3.cell (j:=0) rfl
   have r1:=c3.cell (j:=1) rfl
   have r2:=c4'.cell (j:=0) rfl
   have DN:∀b1 b2,((sA t x.1).kind==kd)=b1→((sA t x.1).msg==m)=b2→uF t kd m x.1=(b1&&b2):=fun b1 b2 h1 h2=>by rw[HKEY.out,h1,h2]
   have HKK:=jA DN
   clear DN
   have ZHJ:∀y:Nat×Nat,y=x.1→uF t kd m x.1=false→(pre.map (·.1)++[y]).find? (uF t kd m)=none:=fun y hy h=>by
    rw[List.find?_append,HNO.out,hy];simp[h]
   have HIOK:=jA ZHJ
   clear ZHJ
   cases q1:(sA t x.1).kind==kd
   ·have HN:=jA (HIOK.out x.1 rfl (HKK.out _ _ q1 rfl))
    gi_wp2
    refine⟨KeepsFrom.refl _ _,Below.refl _ _,?_⟩
    show FdI t w kd m ((pre++[x]).map (·.1)) _
    rw[MF]
    exact⟨⟨⟨⟨⟨c1,c2⟩,c3⟩,c4'⟩,V5⟩,HN.out⟩
   ·cases q2:(sA t x.1).msg==m
    ·have HN:=jA (HIOK.out x.1 rfl (by rw[HKK.out _ _ q1 q2];rfl))
     gi_wp2
     refine⟨KeepsFrom.refl _ _,Below.refl _ _,?_⟩
     show FdI t w kd m ((pre++[x]).map (·.1)) _
     rw[MF]
     exact⟨⟨⟨⟨⟨c1,c2⟩,c3⟩,c4'⟩,V5⟩,HN.out⟩
    ·have HN:=jA (HKK.out _ _ q1 q2)
     gi_wp2
     refine⟨?_,rfl,pre.map (·.1),x.1,⟨⟨⟨MF pre x,HNO.out,HN.out⟩,?_⟩,?_⟩,?_⟩
     all_goals exact kW1
  case done =>
   rintro D ys W hD hys ⟨⟨⟨⟨⟨c1,c2⟩,c3⟩,c4⟩,V5⟩,jP⟩ hK
   rw[hys]at jP
   have HF:=jA (qZ jP)
   clear jP
   have f0:=c3.frozen 0
   have f1:=c3.frozen 1
   have f2:=c4.frozen 0
   have r0:=c3.cell (j:=0) rfl
   have r1:=c3.cell (j:=1) rfl
   have r2:=c4.cell (j:=0) rfl
   gi_wp2
   obtain⟨Wr,JJ⟩:∃Wr,((W.setCell ⟨w.heap.size+1+1+1,0,none⟩ (Value.int .i64 0)).setCell ⟨w.heap.size+1+1+1,1,none⟩ (Value.int .i64 0)).setCell ⟨w.heap.size+1+1+1+1,0,none⟩ (Value.bool false)=Wr:=⟨_,rfl⟩
   rw[JJ]
   have s1:UA Wr (w.heap.size+1+1+1) 81 #[.int .i64 0,.int .i64 0]:=by rw[←JJ];exact kW1
   have s2:UA Wr (w.heap.size+1+1+1+1) 4 #[.bool false]:=by rw[←JJ];exact kW1
   have sx:Ext w Wr:=by rw[←JJ];exact kW1
   have hkf:KeepsFrom W0.heap.size W Wr:=by rw[←JJ];exact kW1
   have AP:Wr.heap[D]? = some (.deferred (some [])):=hkf.same D _ hD hK rfl
   clear JJ
   have e2:=(s1.putObj AP rfl (.deferred none)).cell (j:=0) rfl
   have e3:=(s1.putObj AP rfl (.deferred none)).cell (j:=1) rfl
   have e4:=(s2.putObj AP rfl (.deferred none)).cell (j:=0) rfl
   refine⟨by simp,.inl ⟨_,_,rfl,run_takeDeferred AP,?_⟩⟩
   refine⟨.tuple #[UB (0,0),.bool false],?_,by rw[HF.out];rfl,sx.putObj oM AP _⟩
   simp[results,Tryz.f95,go_sem,e2,e3,e4,UB]
  case stop =>
   rintro D c' pre W hD ZK ⟨rfl,a,x,⟨⟨⟨hp,h0,hx⟩,r1W⟩,r2W⟩,V5⟩ hK
   rw[hp]at ZK
   have HST:=jA (zZ HVL.out ZK h0 hx)
   clear h0 hx
   gi_wp2
   have e2:=(r1W.putObj hK rfl (.deferred none)).cell (j:=0) rfl
   have e3:=(r1W.putObj hK rfl (.deferred none)).cell (j:=1) rfl
   have e4:=(r2W.putObj hK rfl (.deferred none)).cell (j:=0) rfl
   refine⟨by simp,.inl ⟨_,_,rfl,run_takeDeferred hK,?_⟩⟩
   refine⟨.tuple #[UB x,.bool true],?_,by rw[HST.out.1,decide_eq_true HST.out.2],V5.putObj oM hK _⟩
   simp[results,Tryz.f95,go_sem,e2,e3,e4,UB]
theorem K0 (u:Value) (t:Tr) (m:Int) (w:World) (hS:Small t) (hs:SlR 3 RPr w u t) :
  Calls Tryz.prog 41 #[.agg #[u],.int .i64 m] w fun e w'=>Z2 t 2 m w e w':=by
 have HF:=jA (fun w' (he:Ext w w')=>sX u t 2 m w' hS (hs.ext RPr.keeps he))
 obtain⟨A,c,rfl,_,mL,_⟩:=hs.at_
 go_enter Tryz.func41,Tryz.ntmps41
 go_wp2_with fail
 have hx1:=((Ext.refl w).alloc (.cells #[.slice A t.length c] 36)).alloc (.cells #[.int .i64 0,.int .i64 0] 81)
 have b3:UA ((w.alloc (.cells #[.slice A t.length c] 36)).alloc (.cells #[.int .i64 0,.int .i64 0] 81)) (w.heap.size+1) 81 #[.int .i64 0,.int .i64 0]:=UA.newAt _ _ (by simp)
 generalize (w.alloc (.cells #[.slice A t.length c] 36)).alloc (.cells #[.int .i64 0,.int .i64 0] 81)=W1 at *
 refine (HF.out _ hx1).mono ?_
 rintro e w2 ⟨rfl,sI⟩
 have hx2:=hx1.trans sI
 have b4:=b3.ext sI
 have f0:=b4.frozen 0
 have f1:=b4.frozen 1
 have r0:=b4.cell (j:=0) rfl
 have r1:=b4.cell (j:=1) rfl
 unfold UB
 go_wp2
 obtain⟨Wr,JJ⟩:∃Wr,(w2.setCell ⟨w.heap.size+1,0,none⟩ (Value.int .i64 (SC t 2 m).1)).setCell ⟨w.heap.size+1,1,none⟩ (Value.int .i64 (SC t 2 m).2)=Wr:=⟨_,rfl⟩
 rw[JJ]
 have s1:UA Wr (w.heap.size+1) 81 #[.int .i64 (SC t 2 m).1,.int .i64 (SC t 2 m).2]:=by rw[←JJ];exact kW1
 have sx:Ext w Wr:=by rw[←JJ];exact kW1
 clear JJ
 refine bodyPost_ret (v:=.tuple #[UB (SC t 2 m),.bool (decide (0<(SC t 2 m).2))]) ?_ rfl ⟨rfl,sx⟩
 simp[results,Tryz.f41,go_sem,UB,s1.cell (j:=0) rfl,s1.cell (j:=1) rfl]
theorem qU (u:Value) (t:Tr) (m:Int) (w:World) (hS:Small t) (hs:SlR 3 RPr w u t) :
  Calls Tryz.prog 171 #[.agg #[u],.int .i64 m] w fun e w'=>Z2 t 3 m w e w':=by
 have HF:=jA (fun w' (he:Ext w w')=>sX u t 3 m w' hS (hs.ext RPr.keeps he))
 obtain⟨A,c,rfl,_,mL,_⟩:=hs.at_
 go_enter Tryz.func171,Tryz.ntmps171
 go_wp2_with fail
 have hx1:=((Ext.refl w).alloc (.cells #[.slice A t.length c] 36)).alloc (.cells #[.int .i64 0,.int .i64 0] 81)
 have b3:UA ((w.alloc (.cells #[.slice A t.length c] 36)).alloc (.cells #[.int .i64 0,.int .i64 0] 81)) (w.heap.size+1) 81 #[.int .i64 0,.int .i64 0]:=UA.newAt _ _ (by simp)
 generalize (w.alloc (.cells #[.slice A t.length c] 36)).alloc (.cells #[.int .i64 0,.int .i64 0] 81)=W1 at *
 refine (HF.out _ hx1).mono ?_
 rintro e w2 ⟨rfl,sI⟩
 have hx2:=hx1.trans sI
 have b4:=b3.ext sI
 have f0:=b4.frozen 0
 have f1:=b4.frozen 1
 have r0:=b4.cell (j:=0) rfl
 have r1:=b4.cell (j:=1) rfl
 unfold UB
 go_wp2
 obtain⟨Wr,JJ⟩:∃Wr,(w2.setCell ⟨w.heap.size+1,0,none⟩ (Value.int .i64 (SC t 3 m).1)).setCell ⟨w.heap.size+1,1,none⟩ (Value.int .i64 (SC t 3 m).2)=Wr:=⟨_,rfl⟩
 rw[JJ]
 have s1:UA Wr (w.heap.size+1) 81 #[.int .i64 (SC t 3 m).1,.int .i64 (SC t 3 m).2]:=by rw[←JJ];exact kW1
 have sx:Ext w Wr:=by rw[←JJ];exact kW1
 clear JJ
 refine bodyPost_ret (v:=.tuple #[UB (SC t 3 m),.bool (decide (0<(SC t 3 m).2))]) ?_ rfl ⟨rfl,sx⟩
 simp[results,Tryz.f171,go_sem,UB,s1.cell (j:=0) rfl,s1.cell (j:=1) rfl]

def CtI (t:Tr) (w:World) (gc:Nat) (l:List (Nat×Nat)) (W:World):Prop:=(UA W gc 3 #[.int .i64 l.length]∧Ext w W)
theorem ZAd (t:Tr) (w:World) (gc:Nat) {n:Nat} (hn:w.heap.size≤n):OwnFrom n (fun (pre:List (Idt t)) W=>CtI t w gc (pre.map (·.1)) W):=
 OwnFrom.and (rA _ _ _ _) (pG hn)
theorem O7 (u:Value) (t:Tr) (w:World) (hS:Small t) (hN:(ids t).length≤1000000) (hs:SlR 3 RPr w u t) :
  Calls Tryz.prog 47 #[.agg #[u]] w fun e w'=>e=.returned (.int .i64 (aL t))∧Ext w w':=by
 have HV:=jA (fun w' (he:Ext w w')=>callsIn_wide (n:=8).2 (YO u t w' hS.sm (hs.ext RPr.keeps he)))
 refine callsIn_wide (n:=9).1 ?_
 refine callsIn_of_wp_marks Tryz.func47 rfl trivial ?_ rfl
 simp only[Tryz.ntmps47,List.size_toArray,List.length_cons,List.length_nil,Nat.reduceAdd,Nat.reduceSub,Array.replicate_succ,Array.replicate_zero,List.push_toArray,List.append_toArray,List.nil_append,List.cons_append]
 obtain⟨A,c,rfl,_,mL,_⟩:=hs.at_
 gi_wp2_with fail
 refine⟨trivial,?_⟩
 have hx1:Ext w (w.alloc (.cells #[.slice A t.length c] 36)):=(Ext.refl w).alloc _
 have bT:UA (w.alloc (.cells #[.slice A t.length c] 36)) (w.heap.size) 36 #[.slice A t.length c]:=UA.new _ _ _
 generalize w.alloc (.cells #[.slice A t.length c] 36)=W1 at *
 refine (HV.out _ hx1).mono ?_
 rintro e w2 ⟨rfl,sI⟩
 replace hx1:=hx1.trans sI
 replace bT:=bT.ext sI
 clear sI
 have t0:w2.cell? ⟨w.heap.size,0,none⟩=some (.slice A t.length c):=bT.cell (j:=0) rfl
 have lt0:=bT.lt
 cases hv:pE t
 ·have HF:=jA (show aL t=0 by unfold aL;rw[hv];rfl)
  clear hv
  gi_wp2_with fail
  exact⟨.int .i64 0,by simp[results,Tryz.f47,go_sem],by rw[HF.out];rfl,hx1⟩
 ·have HVL:=jA (show aL t=(ids t).length by unfold aL;rw[hv];rfl)
  clear hv
  have hnp:=hS.np
  gi_wp2_with (refine⟨trivial,?_⟩;gi_at_call 101;refine (callsIn_wide.2 (CH _ _)).mono ?_;rintro e w' ⟨rfl,rfl⟩)
  have bt:UA ((w2.alloc (.cells #[.int .i64 0] 3)).alloc (.cells #[.slice A t.length c] 36)) (w2.heap.size+1) 36 #[.slice A t.length c]:=UA.newAt _ _ (by simp)
  have hM0:CtI t w w2.heap.size [] ((w2.alloc (.cells #[.int .i64 0] 3)).alloc (.cells #[.slice A t.length c] 36)):=⟨(UA.new _ _ _).alloc _,(hx1.alloc _).alloc _⟩
  have hwr:w.heap.size≤w2.heap.size:=hx1.size
  have GT:((w2.alloc (.cells #[.int .i64 0] 3)).alloc (.cells #[.slice A t.length c] 36)).heap.size=w2.heap.size+1+1:=by simp
  generalize ((w2.alloc (.cells #[.int .i64 0] 3)).alloc (.cells #[.slice A t.length c] 36))=W0 at *
  have qO:Ext w W0:=hM0.2
  have j9:w.heap.size≤W0.heap.size:=by omega
  clear GT t0 lt0 hx1 bT
  generalize w2.heap.size=gc at *
  refine wpIn_rangeFunc_ownH rfl oM (gf:=148) (lb:=#[.pointer (some ⟨gc+1,0,none⟩)]) rfl trivial (DC Tryz.func148 (by decide) rfl)
   (gG 8 oM w (.slice A t.length c) t (gc+1) W0 hnp hS.ne hs qO (bt.cell rfl) oM) belowK_t (belowK_b j9) (Below.refl _ _) (fun _=>rfl)
   (fun pre W=>CtI t w gc (pre.map (·.1)) W) (fun c pre W=>False) (ZAd t w gc j9) (fun c=>ownFrom_pure _ _) hM0
   (fun x a' W=>∃v13 v14,
    a'={tmps:=#[.agg #[.slice A t.length c],.pointer (some ⟨w.heap.size,0,none⟩),.int .i64 0,.pointer (some ⟨gc,0,none⟩),.agg #[.slice A t.length c],.bool true,.bool false,.agg #[.slice A t.length c],.func (.func 148) #[] #[.pointer (some ⟨gc+1,0,none⟩)],v13,v14,undef,undef,undef],defers:=[]})
   ?hax ?assign ?body ?done ?stop
  case hax =>
   rintro x a' _ X Y row ⟨v13,v14,ha⟩ hg hr
   exact⟨v13,v14,ha⟩
  case assign =>
   rintro l pre x W K hI hK
   gi_wp2
   exact hK _ _ (KeepsFrom.refl _ _) (Below.refl _ _) hI ⟨UB x.1,AR w (.slice A t.length c) x.1,by simp⟩
  case body =>
   rintro l pre x a' W hlW ⟨r,hr⟩ hI ⟨v13,v14,rfl⟩ FC
   obtain⟨c1,V5⟩:=hI
   have hsW:=V5.size
   have d0:W.cell? ⟨gc,0,none⟩=some (.int .i64 ((pre.length:Nat):Int)):=by rw[c1.cell (j:=0) rfl];simp
   have f0:=c1.frozen 0
   have nT:pre.length<1000000:=by omega
   have ZIt:=(K5 pre.length 1 1 rfl oM).1
   have HGC:=jA hwr
   gi_wp2
   refine⟨KF.set (KeepsFrom.refl _ _) _ _,BL.set (Below.refl _ _) _ _ _ hwr,?_⟩
   show CtI t w gc ((pre++[x]).map (·.1)) _
   refine⟨?_,Ext.set V5 hwr _⟩
   rw[show (((pre++[x]).map (·.1)).length:Int)=(pre.length:Int)+1 by simp]
   exact UA.set1 c1
  case done =>
   rintro D ys W hD hys ⟨c1,V5⟩ hK
   rw[hys]at c1
   have d0:W.cell? ⟨gc,0,none⟩=some (.int .i64 ((ids t).length:Nat)):=c1.cell (j:=0) rfl
   gi_wp2
   refine⟨by simp,.inl ⟨_,_,rfl,run_takeDeferred hK,?_⟩⟩
   refine⟨.int .i64 ((ids t).length:Nat),?_,by rw[HVL.out],V5.putObj oM hK _⟩
   simp[results,Tryz.f47,go_sem]
  case stop=>rintro D c' pre W hD ZK h;exact h.elim
end Go.Proofs.YtoccdlnoaindmaaGreatDoor
namespace Go.Proofs.YtoccdlnoaindmaaGreatDoor
set_option linter.unusedVariables false

structure Vok (t:Tr):Prop where
 lo:1≤t.length
 hi:t.length≤8
 head:∀p,p<t.length→bD t p=0
 form:∀x∈ids t,ZE t x=0
 pair:∀x∈ids t,QF t x=0
 acyc:∀x∈ids t,¬Hb t x x
theorem vok {t:Tr} (h:pE t=true):Vok t:=by
 unfold pE vF at h
 split at h
 ·simp at h
 rename_i hl
 split at h
 ·rename_i p hp
  have:=List.find?_some hp
  simp at h this;exact absurd h this
 rename_i h1
 split at h
 ·rename_i p hp
  have:=List.find?_some hp
  simp at h this;exact absurd h this
 rename_i h2
 split at h
 ·rename_i p hp
  have:=List.find?_some hp
  simp at h this;exact absurd h this
 rename_i h3
 split at h
 ·simp at h
 rename_i h4
 rw[List.find?_eq_none]at h1 h2 h3 h4
 refine⟨by omega,by omega,fun p hp=>?_,fun x hx=>?_,fun x hx=>?_,fun x hx=>?_⟩
 ·simpa using h1 p (List.mem_range.2 hp)
 ·simpa using h2 x hx
 ·simpa using h3 x hx
 ·simpa using h4 x hx
theorem Vok.paired {t:Tr} (h:Vok t):Paired t:=⟨fun x hx=>TM (h.form x hx),h.pair⟩
theorem LF {t:Tr} {p:Nat} (h:p<t.length):DA t p=t[p].evs:=by unfold DA;simp[List.getD,h]
theorem fE {t:Tr} {p i:Nat}:(p,i+1)∈ids t↔p<t.length∧i<(DA t p).length:=by
 rw[LD]
 constructor
 ·rintro⟨hp,_,h⟩
  have h:i+1≤t[p].evs.length:=h
  exact⟨hp,by rw[LF hp];omega⟩
 ·rintro⟨hp,h⟩;rw[LF hp]at h;exact⟨hp,by simp,(show i+1≤t[p].evs.length by omega)⟩

theorem Hb.trans {t:Tr} {x y z:Nat×Nat} (h:Hb t x y) (k:Hb t y z):Hb t x z:=by
 induction k with
 |one h2=>exact .more h h2
 |more _ h2 ih=>exact .more ih h2
def Le (t:Tr) (x y:Nat×Nat):Prop:=x=y∨Hb t x y
theorem Le.refl {t:Tr} (x:Nat×Nat):Le t x x:=.inl rfl
theorem Le.hb {t:Tr} {x y z:Nat×Nat} (h:Le t x y) (k:Hb t y z):Hb t x z:=by
 rcases h with rfl|h
 ·exact k
 ·exact h.trans k
theorem Le.trans {t:Tr} {x y z:Nat×Nat} (h:Le t x y) (k:Le t y z):Le t x z:=by
 rcases k with rfl|k
 ·exact h
 ·exact .inr (h.hb k)
theorem ZBN {t:Tr} {p i:Nat}:∀{j:Nat},i<j→j≤(DA t p).length→Hb t (p,i) (p,j)
 |0,h,_=>by omega
 |j+1,h,hl=>by
   have d:Dir t (p,j) (p,j+1):=.inl ⟨rfl,hl⟩
   by_cases hj:i=j
   ·subst hj;exact .one d
   ·exact .more (ZBN (show i<j by omega) oM) d
theorem ZFF {t:Tr} {p i j:Nat} (h:i≤j) (hl:j≤(DA t p).length):Le t (p,i) (p,j):=by
 by_cases hj:i=j
 ·exact .inl (by rw[hj])
 ·exact .inr (ZBN oM hl)

noncomputable def leB (t:Tr) (x y:Nat×Nat):Bool:=@decide (Le t x y) (Classical.propDecidable _)
theorem dN {t:Tr} {x y:Nat×Nat}:leB t x y=true↔Le t x y:=by unfold leB;exact @decide_eq_true_iff _ (Classical.propDecidable _)
noncomputable def vc (t:Tr) (x:Nat×Nat) (q:Nat):Nat:=(List.range (DA t q).length).countP fun i=>leB t (q,i+1) x
theorem fQ {P:Nat→Bool}:∀{n:Nat},(∀i j,i<n→j≤i→P i=true→P j=true)→∀i,i<n→(P i=true↔i<(List.range n).countP P)
 |0,_,i,hi=>by omega
 |n+1,h,i,hi=>by
   have ih:=fQ (P:=P) (n:=n) (fun i j hi hj hp=>h i j oM hj hp)
   have rK:=List.countP_le_length (p:=P) (l:=List.range n)
   rw[List.length_range]at rK
   rw[List.range_succ,List.countP_append,List.countP_singleton]
   by_cases hn:P n=true
   ·have all:∀j,j<n→P j=true:=fun j hj=>h n j oM oM hn
    have hc:(List.range n).countP P=n:=by
     rcases Nat.lt_or_ge ((List.range n).countP P) n with LA|CK
     ·have:=(ih _ LA).1 (all _ LA);omega
     ·omega
    rw[if_pos hn,hc]
    constructor
    ·intro _;omega
    ·intro _
     rcases Nat.lt_or_ge i n with LA|CK
     ·exact all i LA
     ·have:i=n:=by omega
      subst this;exact hn
   ·rw[if_neg hn]
    rcases Nat.lt_or_ge i n with LA|CK
    ·exact ih i LA
    ·have:i=n:=by omega
     subst this
     constructor
     ·intro hp;exact absurd hp hn
     ·intro hp;omega
theorem ZEb {t:Tr} {x:Nat×Nat} {q i:Nat} (h:i<(DA t q).length):Le t (q,i+1) x↔i<vc t x q:=by
 have:=fQ (P:=fun i=>leB t (q,i+1) x) (n:=(DA t q).length) (fun i j hi hj hp=>by
  rw[dN]at hp⊢
  exact (ZFF oM oM).trans hp) i h
 rw[←dN]
 exact this
theorem vc_le {t:Tr} {x:Nat×Nat} {q:Nat}:vc t x q≤(DA t q).length:=by
 have:=List.countP_le_length (p:=fun i=>leB t (q,i+1) x) (l:=List.range (DA t q).length)
 rwa [List.length_range]at this
theorem ZEj {a b n:Nat} (ha:a≤n) (hb:b≤n) (h:∀j,j<n→(j<a↔j<b)):a=b:=by
 rcases Nat.lt_trichotomy a b with hl|hl|hl
 ·have:=(h a oM).2 hl;omega
 ·exact hl
 ·have:=(h b oM).1 hl;omega
theorem ZCx {t:Tr} (hv:Vok t) {x w:Nat×Nat} (hx:x∈ids t) (hw:w∈ids t):Le t w x↔w=x∨∃y∈KO t x,Le t w y:=by
 constructor
 ·rintro (h|h)
  ·exact .inl h
  ·obtain⟨y,h1,h2⟩:=h.back
   refine .inr ⟨y,?_,?_⟩
   ·refine (EG hv.paired hx).2 ⟨?_,h1⟩
    rcases h2 with rfl|h2
    ·exact hw
    ·exact h2.mem hw
   ·rcases h2 with rfl|h2
    ·exact .inl rfl
    ·exact .inr h2
 ·rintro (h|⟨y,h1,h2⟩)
  ·exact .inl h
  ·exact .inr (h2.hb (.one ((EG hv.paired hx).1 h1).2))
theorem ZAj {t:Tr} (hv:Vok t) {x y:Nat×Nat} (hx:x∈ids t) (hy:y∈KO t x):y∈ids t∧Hb t y x:=by
 obtain⟨h1,h2⟩:=(EG hv.paired hx).1 hy
 exact⟨h1,.one h2⟩
noncomputable def sndr (t:Tr) (x:Nat×Nat):Nat×Nat:=xG t 2 (sA t x).msg
noncomputable def rk (t:Tr) (x:Nat×Nat):Nat:=(ids t).countP fun z=>leB t z x
theorem UT {α:Type} {P Q:α→Bool}:∀{l:List α} {a:α},(∀x∈l,P x=true→Q x=true)→a∈l→P a=false→Q a=true→l.countP P<l.countP Q
 |[],a,_,h,_,_=>by simp at h
 |y::l,a,h,ha,h1,h2=>by
   have rK:l.countP P≤l.countP Q:=List.countP_mono_left (fun x hx hp=>h x (by simp[hx]) hp)
   rw[List.countP_cons,List.countP_cons]
   rcases List.mem_cons.1 ha with rfl|ha
   ·rw[h1,h2];simp;omega
   ·have ih:=UT (fun x hx=>h x (by simp[hx])) ha h1 h2
    have hy:=h y (by simp)
    cases hP:P y
    ·simp;omega
    ·rw[hy hP];simp;omega
theorem rk_lt {t:Tr} (hv:Vok t) {x y:Nat×Nat} (hy:y∈ids t) (h:Hb t x y):rk t x<rk t y:=by
 unfold rk
 refine UT (a:=y) (fun z _ hz=>?_) hy ?_ (dN.2 (.refl y))
 ·rw[dN]at hz⊢;exact .inr (hz.hb h)
 ·rw[Bool.eq_false_iff]
  intro hz
  exact hv.acyc y hy ((dN.1 hz).hb h)
end Go.Proofs.YtoccdlnoaindmaaGreatDoor
