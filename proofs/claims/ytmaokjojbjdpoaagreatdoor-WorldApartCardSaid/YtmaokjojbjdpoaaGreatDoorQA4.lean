/- Texts of one proof, laid together: VL, Y, V, RG, RF, RI, RD, OM, KP, RK, PP, OA, RQ, RP, RV, FD, CT. No condition. -/
import Derived.Test.YtmaokjojbjdpoaaGreatDoorQA1
import Derived.Test.YtmaokjojbjdpoaaGreatDoorQA3
import Derived.KernelRfl
import Derived.Laws.MakeOwn
import Derived.Deep.RegionWith
set_option linter.unusedSimpArgs false
set_option maxHeartbeats 4000000
set_option maxRecDepth 100000
namespace Go.Proofs.YtmaokjojbjdpoaaGreatDoor
set_option linter.unusedVariables false
set_option linter.unusedSimpArgs false

theorem YA {α:Type} {l:List α} {i:Nat} {d:α} (h:i<l.length):l.getD i d=l[i]:=by simp[List.getD,h]
theorem AZ {v w:List Int} (h:v.length=w.length) (hg:∀i,i<v.length→v.getD i 0=w.getD i 0):v=w:=by
 refine lh h (fun i h1 h2=>?_)
 have:=hg i h1
 rwa [YA h1,YA h2]at this
theorem getD_set_ne {α:Type} {l:List α} {i j:Nat} {x d:α} (h:i≠j):(l.set i x).getD j d=l.getD j d:=by
 simp only[ap,bf h]
open Go.RowKit
attribute [local go_sem] Oper.semAt_some

def YI (t:Tr) (w:World) (u:Value) (bL:Nat) (l:List (Nat×Nat)) (W:World):Prop:=
 (((((VA W w.heap.size 30 #[u]∧VA W (w.heap.size+1) 133 #[.pointer (some ⟨bL,0,none⟩)])∧VA W (w.heap.size+1+1) 70 #[.int .i64 0,.int .i64 0])∧VA W (w.heap.size+1+1+1) 4 #[.bool false])∧Ext w W)∧∀x∈l,¬Hb t x x)
def YX (t:Tr) (w:World) (l:List (Nat×Nat)) (W:World):Prop:=
 ∃a x,(((l=a++[x]∧(∀y∈a,¬Hb t y y)∧Hb t x x)∧VA W (w.heap.size+1+1) 70 #[.int .i64 x.1,.int .i64 x.2])∧VA W (w.heap.size+1+1+1) 4 #[.bool true])∧Ext w W
open Classical in
noncomputable def LF (t:Tr):Option (Nat×Nat):=(ids t).find? (fun x=>decide (Hb t x x))
def YPost (t:Tr) (w:World) (e:Ending) (w':World):Prop:=Ext w w' ∧
 ((∃x,LF t=some x∧e=.returned (.tuple #[IA x,.bool true]))∨(LF t=none∧e=.returned (.tuple #[IA (0,0),.bool false])))
theorem L7 (t:Tr) (w:World) (u:Value) (bL:Nat) {n:Nat} (hn:w.heap.size≤n):OwnFrom n (fun (pre:List (Idt t)) W=>YI t w u bL (pre.map (·.1)) W):=
 OwnFrom.and (OwnFrom.and (OwnFrom.and (OwnFrom.and (OwnFrom.and (uA _ _ _ _) (uA _ _ _ _)) (uA _ _ _ _)) (uA _ _ _ _)) (PG hn)) (ownFrom_pure _ _)
theorem ZFE (t:Tr) (w:World) {n:Nat} (hn:w.heap.size≤n):OwnFrom n (fun (pre:List (Idt t)) W=>YX t w (pre.map (·.1)) W):=by
 rintro s X Y row ⟨a,x,h⟩ hg hr
 refine⟨a,x,⟨⟨h.1.1.1,?_⟩,?_⟩,PG hn () X Y row h.2 hg hr⟩
 ·exact uA _ n _ (fun (_:Unit)=>_) () X Y row h.1.1.2 hg hr
 ·exact uA _ n _ (fun (_:Unit)=>_) () X Y row h.1.2 hg hr
theorem ZGD {t:Tr} (h:∀x∈ids t,¬Hb t x x):LF t=none:=by
 unfold LF
 rw[cw]
 intro x hx;simpa using h x hx
open Classical in
theorem ZGC {t:Tr} {a:List (Nat×Nat)} {x:Nat×Nat} (hp:a++[x] <+: ids t) (ha:∀y∈a,¬Hb t y y) (hx:Hb t x x):LF t=some x:=by
 obtain⟨c,hc⟩:=hp
 unfold LF
 rw[←hc,bh,ez]
 have:a.find? (fun x=>decide (Hb t x x))=none:=by
  rw[cw]
  intro y hy;simpa using ha y hy
 rw[this]
 simp[hx]
def bW (w:World) (r:Nat):Nat:=match w.heap[r]? with|some (.map es _)=>es.size|_=>0
theorem fI.size {w:World} {r:Nat} {S:List (Nat×Nat)} (h:fI w r S):bW w r=S.length:=by
 obtain⟨es,clock,hb,hS⟩:=h
 unfold bW
 rw[hb]
 have:=congrArg List.length hS
 simpa using this
def lenV:Value→Nat|.slice _ n _=>n|_=>0
def SrI (t:Tr) (id:Nat×Nat) (W:World) (r:Nat) (v:Value) (wr:World):Prop:=∃S R,DfsI t id S R∧fI wr r S∧ED wr W.heap.size v R∧Ext W wr∧2*((ids t).length-S.length)+R.length≤2*(ids t).length+1
def SrJ (t:Tr) (id x:Nat×Nat) (W:World) (r N:Nat) (v2 i v:Value) (wr:World):Prop:=∃S R k,DfsJ t id x S R k∧k≤(XI t x).length∧i=.int .i64 k∧fI wr r S∧ED wr W.heap.size v R∧Ext W wr∧2*((ids t).length-S.length)+R.length≤N∧ED wr 0 v2 (XI t x)∧(∀k,v.ownBlock=some k→v2.ownBlock≠some k)
theorem snoc_cases {α:Type} (l:List α):l=[]∨∃L b,l=L++[b]:=by
 rcases List.eq_nil_or_concat l with h|⟨L,b,h⟩
 ·exact .inl h
 ·exact .inr ⟨L,b,by rw[h,List.concat_eq_append]⟩
theorem ZCx {l:List (Nat×Nat)}:∀{k:Nat} {z:Nat×Nat},l[k]? = some z→(aK l)[k*2]? = some (.int .i64 z.1)∧(aK l)[k*2+1]? = some (.int .i64 z.2):=by
 induction l with
 |nil=>intro k z h;simp at h
 |cons a l ih =>
   intro k z h
   have e:aK (a::l)=(.int .i64 a.1)::(.int .i64 a.2)::aK l:=rfl
   rw[e]
   cases k with
   |zero=>simp at h;subst h;simp
   |succ k =>
     have:=ih (k:=k) (z:=z) (by simpa using h)
     rw[show (k+1)*2=k*2+1+1 by omega]
     simpa using this
theorem ED.at_ {w:World} {B:Nat} {v:Value} {l:List (Nat×Nat)} (h:ED w B v l) (h0:0<l.length):∃g off cap,v=.slice (some ⟨g,off,none⟩) l.length cap∧l.length≤cap∧cap≤maxLen∧B≤g∧g<w.heap.size ∧
  ∀(k:Nat) (z:Nat×Nat),l[k]? = some z→w.cell? ⟨g,off+k*2,none⟩=some (.int .i64 z.1)∧w.cell? ⟨g,off+k*2+1,none⟩=some (.int .i64 z.2):=by
 obtain⟨g,off,cap,cur,rfl,h1,h2,h3,h4,h5,h6⟩:=vB.open_ h h0
 refine⟨g,off,cap,rfl,h3,h4,h1,h2.lt,fun k z hk=>?_⟩
 obtain⟨a,b⟩:=ZCx hk
 exact⟨h2.cell (h6 _ _ a),h2.cell (h6 _ _ b)⟩
theorem ED.pop {w:World} {B:Nat} {A:Option Addr} {c n:Nat} {l:List (Nat×Nat)} {y:Nat×Nat} (h:ED w B (.slice A n c) (l++[y])):ED w B (.slice A l.length c) l:=by
 obtain⟨A',c',hv,_⟩:=vB.form h
 injection hv with e1 e2 e3
 subst e1;subst e2;subst e3
 have:=vB.take h l.length kS
 have e:(aK (l++[y])).take (l.length*2)=aK l:=by
  rw[show aK (l++[y])=aK l++aK [y] by simp[aK],List.take_left' (ZCw l)]
 rw[e]at this
 exact this

theorem F4 (u:Value) (t:Tr) (bL:Nat) (cs:Array Value) (w:World) (hl:t.length≤1000000) (CJ:∀x∈t,x.evs.length≤1000000) (hN:(ids t).length≤1000000) (hs:SlR 3 RPr w u t) (QL:∀x∈ids t,AA t.length x.1 (gA t x)=true)
  (hL:VA w bL 181 cs) (hA:wO t (ids t) cs) :
  Calls Tryz.prog 136 #[.agg #[u],.pointer (some ⟨bL,0,none⟩)] w fun e w'=>YPost t w e w':=by
 refine callsIn_wide (n:=9).1 ?_
 refine callsIn_of_wp_marks Tryz.func136 rfl trivial ?_ rfl
 simp only[Tryz.ntmps136,dq,ee,fh,Nat.reduceAdd,Nat.reduceSub,ib,ic,ie,ig,dw,da]
 gi_wp2_with (refine⟨trivial,?_⟩;gi_at_call 88;refine (callsIn_wide.2 (tI _ _)).mono ?_;rintro e w' ⟨rfl,rfl⟩)
 obtain⟨W0,y6⟩:∃W0,(((((w.alloc (Obj.cells #[u] 30)).alloc (Obj.cells #[Value.pointer (some ⟨bL,0,none⟩)] 133)).alloc (Obj.cells #[Value.int IntKind.i64 0,Value.int IntKind.i64 0] 70)).alloc (Obj.cells #[Value.bool false] 4)).alloc (Obj.cells #[u] 30))=W0:=⟨_,rfl⟩
 rw[y6]
 have zN:W0.heap.size=w.heap.size+1+1+1+1+1:=by rw[←y6];simp
 have hM0:YI t w u bL [] W0:=by
  rw[←y6]
  refine⟨⟨⟨⟨⟨?_,?_⟩,?_⟩,?_⟩,?_⟩,fun x hx=>by cases hx⟩
  ·exact ((((VA.newAt _ _ kS).alloc _).alloc _).alloc _).alloc _
  ·exact (((VA.newAt _ _ kS).alloc _).alloc _).alloc _
  ·exact ((VA.newAt _ _ kS).alloc _).alloc _
  ·exact (VA.newAt _ _ kS).alloc _
  ·exact (((((Ext.refl w).alloc _).alloc _).alloc _).alloc _).alloc _
 have bt:VA W0 (w.heap.size+1+1+1+1) 30 #[u]:=by rw[←y6];exact VA.newAt _ _ kS
 clear y6
 have QP:Ext w W0:=hM0.1.2
 refine wpIn_rangeFunc_ownH rfl oM (gf:=138) (lb:=#[.pointer (some ⟨w.heap.size+1+1+1+1,0,none⟩)]) rfl trivial (mC Tryz.func138 kE rfl)
  (DG 8 oM w u t (w.heap.size+1+1+1+1) W0 hl CJ hs QP (bt.cell rfl) oM) belowK_t (belowK_b oM) (Below.refl _ _) (fun _=>rfl)
  (fun pre W=>YI t w u bL (pre.map (·.1)) W) (fun c pre W=>c=.ret∧YX t w (pre.map (·.1)) W) (L7 t w u bL oM) (fun c=>OwnFrom.and (ownFrom_pure _ _) (ZFE t w oM)) hM0
  (fun x a' W=>∃B6 v14 v15,w.heap.size+1+1+1<B6∧VA W B6 70 #[.int .i64 x.1.1,.int .i64 x.1.2] ∧
   a'={tmps:=#[.agg #[u],.pointer (some ⟨bL,0,none⟩),.pointer (some ⟨w.heap.size,0,none⟩),.pointer (some ⟨w.heap.size+1,0,none⟩),.pointer (some ⟨w.heap.size+1+1,0,none⟩),.pointer (some ⟨w.heap.size+1+1+1,0,none⟩),.pointer (some ⟨B6,0,none⟩),undef,undef,undef,undef,undef,.agg #[u],.func (.func 138) #[] #[.pointer (some ⟨w.heap.size+1+1+1+1,0,none⟩)],v14,v15,undef,undef,undef,undef,undef,undef,undef,undef,undef,undef,undef,undef,undef,undef,undef,undef,undef,undef,undef,undef,undef,undef,undef,undef,undef,undef,undef,undef,undef,undef,undef,undef,undef,undef,undef,undef,undef,undef,undef,undef,undef,undef],defers:=[]})
  ?hax ?assign ?body ?done ?stop
 case hax =>
  rintro x a' _ X Y row ⟨B6,v14,v15,hB,b6,ha⟩ hg hr
  exact⟨B6,v14,v15,hB,uA B6 _ _ (fun (_:Unit)=>_) () X Y row b6 hg hr,ha⟩
 case assign =>
  rintro l pre x W K hI hK
  have hsW:=hI.1.2.size
  have h5:=hI.1.1.2.lt
  unfold IA
  gi_wp2
  exact hK _ _ ((KeepsOthers.alloc _ _).from _) ((Below.refl _ W).alloc hsW _) ((L7 t w u bL (ai _)).alloc _ hI) ⟨W.heap.size,_,_,h5,VA.new _ _ _,rfl⟩
 case body =>
  rintro l pre x a' W hlW ⟨r,hr⟩ hI ⟨B6,v14,v15,hB,b6,rfl⟩ pC
  have hI0:=hI
  obtain⟨⟨⟨⟨⟨tb,lb⟩,r1⟩,r2⟩,hx0⟩,sO⟩:=hI
  have hsW:=hx0.size
  have hB6:=b6.lt
  have t3:=r2.lt
  have HNO:=UA sO
  clear sO
  have i0:=b6.cell (j:=0) rfl
  have i1:=b6.cell (j:=1) rfl
  have hmm:=@run_makeMap Tryz.prog
  gi_wp2
  clear hmm i0 i1
  gi_loopw [8] (fun v wr=>SrI t x.1 W W.heap.size v wr) (fun v wr=>2*((ids t).length-bW wr W.heap.size)+lenV v)
  case atStart =>
   refine⟨[],[x.1],DfsI.start t x.1,(fI.new W).alloc _,?_,((Ext.refl W).alloc _).alloc _,by simp⟩
   exact vB.madeAt kS #[.int .i64 x.1.1,.int .i64 x.1.2] kS (by simp[maxLen]) rfl
  case round =>
   obtain⟨Sn,R,hD,hm,ho,hx,hbd⟩:=hrel
   have HM:=UA hm
   have HO:=UA ho
   have HD:=UA hD
   have tb1:=tb.ext hx
   have lb1:=lb.ext hx
   have b61:=b6.ext hx
   have lt1:=tb1.lt
   have lt2:=lb1.lt
   have lt3:=b61.lt
   have t0:=tb1.cell (j:=0) rfl
   have l0:=lb1.cell (j:=0) rfl
   have i0:=b61.cell (j:=0) rfl
   have i1:=b61.cell (j:=1) rfl
   rcases snoc_cases R with rfl|⟨R',y,rfl⟩
   ·obtain⟨A,c,rfl,_,_⟩:=ho.form
    clear hm ho hD
    gi_wp2
    refine⟨KF.ext (KeepsFrom.refl _ _) hx,BL.ext (Below.refl _ _) hx hsW,?_⟩
    show YI t w u bL ((pre++[x]).map (·.1)) _
    rw[YG]
    refine⟨⟨⟨⟨⟨tb1,lb1⟩,r1.ext hx⟩,r2.ext hx⟩,hx0.trans hx⟩,fun z hz=>?_⟩
    rcases bn.1 hz with h1|h1
    ·exact HNO.out z h1
    ·rw[show z=x.1 by simpa using h1];exact HD.out.no
   ·obtain⟨g,off,cap,rfl,rA,VE,dH,YR,hg5⟩:=ho.at_ kS
    have hop:=UA (ED.pop ho)
    obtain⟨c0,c1⟩:=hg5 R'.length y kS
    rw[aq,dp]at rA
    have hJ:=UA hD.pop
    have hy:=hJ.out.mem x.2
    have IE:=KB c0
    clear hm ho hD hg5
    simp only[aq,ee,fh,cm]at *
    unfold maxLen at VE
    gi_wp2_with fail
    refine⟨trivial,?_⟩
    have SH:Ext W (wr.alloc (.cells #[.int .i64 y.1,.int .i64 y.2] 70)):=hx.alloc _
    refine (CallsIn.inRound l (callsIn_wide (n:=6).2 (ZAr u t y.1 y.2 bL cs _ hl CJ (hs.ext RPr.keeps (hx0.trans SH)) hy QL (hL.ext (hx0.trans SH)) hA))).mono ?_
    rintro e w2 ⟨v2,rfl,ho2,VJ⟩
    have b9:=(HM.out.alloc _).ext VJ
    have ho3:=vB.ext (vB.alloc hop.out _) VJ
    have tb2:=(tb1.alloc _).ext VJ
    have lb2:=(lb1.alloc _).ext VJ
    have b62:=(b61.alloc _).ext VJ
    have hx2:=SH.trans VJ
    have ho4:ED w2 0 v2 (XI t (y.1,y.2)):=vB.mono ho2 (aj _)
    have VG:∀k,(Value.slice (some ⟨g,off,none⟩) R'.length cap).ownBlock=some k→v2.ownBlock≠some k:=fun k hk e=>by
     simp[Value.ownBlock]at hk;subst hk
     have:=(vB.blk ho2 _ e).1
     simp at this;omega
    have HM2:=UA (show SrJ t x.1 y W W.heap.size (2*((ids t).length-Sn.length)+R'.length) v2 (.int .i64 0) (.slice (some ⟨g,off,none⟩) R'.length cap) w2 from⟨Sn,R',0,hJ.out,aj _,rfl,b9,ho3,hx2,ai _,ho4,VG⟩)
    obtain⟨A2,c2,rfl,hv1,hv2⟩:=vB.form ho2
    unfold maxLen at hv2
    have hv3:(XI t y).length≤c2:=hv1
    clear b9 ho3 ho4 VG ho2 c0 c1 t0 l0 i0 i1
    gi_wp2
    gi_loopw [38,8] (fun i v wi=>SrJ t x.1 y W W.heap.size (2*((ids t).length-Sn.length)+R'.length) (.slice A2 (XI t (y.1,y.2)).length c2) i v wi) (fun i _ _=>(XI t y).length-(intOf i).toNat)
    case atStart=>exact HM2.out
    case round =>
     obtain⟨S,R,k,hJ,hk,rfl,hm,ho,KR,hNN,hd2,VG⟩:=hrel
     have HJ:=UA hJ
     have HM3:=UA hm
     have HO3:=UA ho
     have HD2:=UA hd2
     have HNE:=UA VG
     have tb3:=tb.ext KR
     have lb3:=lb.ext KR
     have b63:=b6.ext KR
     have r13:=r1.ext KR
     have r23:=r2.ext KR
     have lt13:=tb3.lt
     have lt23:=lb3.lt
     have lt33:=b63.lt
     have lt43:=r13.lt
     have lt53:=r23.lt
     have i0:=b63.cell (j:=0) rfl
     have i1:=b63.cell (j:=1) rfl
     by_cases yA:k<(XI t y).length
     ·obtain⟨⟨za,zb⟩,hz⟩:∃z,(XI t y)[k]? = some z:=⟨_,ah yA⟩
      obtain⟨g2,off2,cap2,hv,JR,_,_,ZOR,ZET⟩:=hd2.at_ oM
      injection hv with hA2 _ hc22
      subst hA2;subst hc22
      obtain⟨e0,e1⟩:=ZET k _ hz
      have HZ:=UA hz
      clear ZET hz hJ hm ho hd2 VG
      by_cases hid:(za,zb)=x.1
      ·have HZ2:=UA (show Hb t x.1 x.1 by have:=HJ.out.hb HZ.out;rw[hid]at this;exact this)
       obtain rfl:za=x.1.1:=by rw[←hid]
       obtain rfl:zb=x.1.2:=by rw[←hid]
       clear hid
       have ZKQ:KeepsFrom (w.heap.size+1+1+1+1+1) W wr:=KF.ext (KeepsFrom.refl _ _) KR
       have ZOS:Below w.heap.size W wr:=BL.ext (Below.refl _ _) KR hsW
       have ZKR:Ext w wr:=hx0.trans KR
       have f1:=r13.frozen 0
       have f2:=r13.frozen 1
       have f3:=r23.frozen 0
       have p1:=r13.cell (j:=0) rfl
       have p2:=r13.cell (j:=1) rfl
       have p3:=r23.cell (j:=0) rfl
       gi_wp2
       refine⟨?_,rfl,pre.map (·.1),x.1,⟨⟨⟨YG pre x,HNO.out,HZ2.out⟩,?_⟩,?_⟩,?_⟩
       all_goals exact kW0
      ·by_cases hz1:za=x.1.1
       ·have hz2:zb≠x.1.2:=fun e=>hid (Prod.ext hz1 e)
        subst hz1
        have hq3:((zb:Int)==(x.1.2:Int))=false:=by simp;omega
        have hq4:¬((zb:Int)=(x.1.2:Int)):=by omega
        have HID:=UA hid
        clear hid hz2
        by_cases GE:(x.1.1,zb)∈S
        ·have hlk:=VH (HM3.out.alloc (.cells #[.int .i64 x.1.1,.int .i64 zb] 70)) (x.1.1,zb)
         rw[ae GE]at hlk
         unfold IA at hlk
         have HIN:=UA GE
         clear GE
         gi_wp2
         go_roundw
         case rel=>exact⟨S,R,k+1,HJ.out.skip HZ.out HIN.out,yA,by go_num,HM3.out.alloc _,vB.alloc HO3.out _,KR.alloc _,hNN,vB.alloc HD2.out _,HNE.out⟩
         case measure=>simp[intOf];omega
        ·have hlk:=VH (HM3.out.alloc (.cells #[.int .i64 x.1.1,.int .i64 zb] 70)) (x.1.1,zb)
         rw[ag GE]at hlk
         obtain⟨w3,AC,hm4,vS⟩:=IM (HM3.out.alloc (.cells #[.int .i64 x.1.1,.int .i64 zb] 70)) (x.1.1,zb) GE
         unfold IA at hlk AC
         have HIN:=UA GE
         have HG3:=UA vS
         have HM4:=UA hm4
         have MY:=HM3.out.lt
         have bz:VA w3 wr.heap.size 70 #[.int .i64 x.1.1,.int .i64 zb]:=(VA.new wr _ _).kept vS (by simp;omega)
         have z0:=bz.cell (j:=0) rfl
         have z1:=bz.cell (j:=1) rfl
         have ho5:ED w3 W.heap.size u8 R:=vB.kept (vB.alloc HO3.out _) vS (.inr (vB.not_map (vB.alloc HO3.out (.cells #[.int .i64 x.1.1,.int .i64 zb] 70)) (HM3.out.alloc _)))
         have hx3:Ext W w3:=Ext.grown (KR.alloc (.cells #[.int .i64 x.1.1,.int .i64 zb] 70)) vS (fun k hk=>by injection hk with hk;omega)
         have ZIt:=vS.size
         rw[World.size_alloc]at ZIt
         have r6:R.length≤2000001:=by omega
         have HO5:=UA ho5
         clear GE vS hm4 ho5
         gi_wp2_with (gi_at_builtin;go_must (refine jR (v:=u8) (.tmp 52) (.tmp 54) ZEj rfl rfl rfl rfl (vB.alloc HO5.out _) (SlC.lit (x:=(x.1.1,zb)) _ rfl rfl rfl) (QM _) oM (by have:=hx3.size;simp;omega) ?_;intro v4 w4 hown4 ZBf hbl4))
         go_roundw
         case rel =>
          refine⟨_,_,_,?_,rfl,rfl,rfl⟩
          have hd3:ED w3 0 (.slice (some ⟨g2,off2,none⟩) (XI t (y.1,y.2)).length c2) (XI t y):=vB.kept (vB.alloc HD2.out _) HG3.out (.inr (vB.not_map (vB.alloc HD2.out (.cells #[.int .i64 x.1.1,.int .i64 zb] 70)) (HM3.out.alloc _)))
          refine⟨S++[(x.1.1,zb)],R++[(x.1.1,zb)],k+1,HJ.out.push HZ.out HIN.out HID.out,yA,by go_num,(HM4.out.alloc _).kept ZBf.1 (vB.not_map HO5.out HM4.out).symm,ED.snoc hown4 rfl,Ext.more (hx3.alloc _) hbl4,?_,vB.kept (vB.alloc hd3 _) ZBf.1 (.inr fun e=>HNE.out _ e.symm rfl),?_⟩
          ·have h1:=HJ.out.push HZ.out HIN.out HID.out
           have h2:=h1.few x.2
           simp at h2⊢
           omega
          ·intro q hq e
           rcases ZBf.2 q hq with h1|h1
           ·exact HNE.out q h1 e
           ·simp[Value.ownBlock]at e
            subst e
            simp at h1;omega
         case measure=>simp[intOf];omega
       ·have hq1:((za:Int)==(x.1.1:Int))=false:=by simp;omega
        have FS:¬((za:Int)=(x.1.1:Int)):=by omega
        have HID:=UA hid
        clear hid hz1
        by_cases GE:(za,zb)∈S
        ·have hlk:=VH (HM3.out.alloc (.cells #[.int .i64 za,.int .i64 zb] 70)) (za,zb)
         rw[ae GE]at hlk
         unfold IA at hlk
         have HIN:=UA GE
         clear GE
         gi_wp2
         go_roundw
         case rel=>exact⟨S,R,k+1,HJ.out.skip HZ.out HIN.out,yA,by go_num,HM3.out.alloc _,vB.alloc HO3.out _,KR.alloc _,hNN,vB.alloc HD2.out _,HNE.out⟩
         case measure=>simp[intOf];omega
        ·have hlk:=VH (HM3.out.alloc (.cells #[.int .i64 za,.int .i64 zb] 70)) (za,zb)
         rw[ag GE]at hlk
         obtain⟨w3,AC,hm4,vS⟩:=IM (HM3.out.alloc (.cells #[.int .i64 za,.int .i64 zb] 70)) (za,zb) GE
         unfold IA at hlk AC
         have HIN:=UA GE
         have HG3:=UA vS
         have HM4:=UA hm4
         have MY:=HM3.out.lt
         have bz:VA w3 wr.heap.size 70 #[.int .i64 za,.int .i64 zb]:=(VA.new wr _ _).kept vS (by simp;omega)
         have z0:=bz.cell (j:=0) rfl
         have z1:=bz.cell (j:=1) rfl
         have ho5:ED w3 W.heap.size u8 R:=vB.kept (vB.alloc HO3.out _) vS (.inr (vB.not_map (vB.alloc HO3.out (.cells #[.int .i64 za,.int .i64 zb] 70)) (HM3.out.alloc _)))
         have hx3:Ext W w3:=Ext.grown (KR.alloc (.cells #[.int .i64 za,.int .i64 zb] 70)) vS (fun k hk=>by injection hk with hk;omega)
         have ZIt:=vS.size
         rw[World.size_alloc]at ZIt
         have r6:R.length≤2000001:=by omega
         have HO5:=UA ho5
         clear GE vS hm4 ho5
         gi_wp2_with (gi_at_builtin;go_must (refine jR (v:=u8) (.tmp 52) (.tmp 54) ZEj rfl rfl rfl rfl (vB.alloc HO5.out _) (SlC.lit (x:=(za,zb)) _ rfl rfl rfl) (QM _) oM (by have:=hx3.size;simp;omega) ?_;intro v4 w4 hown4 ZBf hbl4))
         go_roundw
         case rel =>
          refine⟨_,_,_,?_,rfl,rfl,rfl⟩
          have hd3:ED w3 0 (.slice (some ⟨g2,off2,none⟩) (XI t (y.1,y.2)).length c2) (XI t y):=vB.kept (vB.alloc HD2.out _) HG3.out (.inr (vB.not_map (vB.alloc HD2.out (.cells #[.int .i64 za,.int .i64 zb] 70)) (HM3.out.alloc _)))
          refine⟨S++[(za,zb)],R++[(za,zb)],k+1,HJ.out.push HZ.out HIN.out HID.out,yA,by go_num,(HM4.out.alloc _).kept ZBf.1 (vB.not_map HO5.out HM4.out).symm,ED.snoc hown4 rfl,Ext.more (hx3.alloc _) hbl4,?_,vB.kept (vB.alloc hd3 _) ZBf.1 (.inr fun e=>HNE.out _ e.symm rfl),?_⟩
          ·have h1:=HJ.out.push HZ.out HIN.out HID.out
           have h2:=h1.few x.2
           simp at h2⊢
           omega
          ·intro q hq e
           rcases ZBf.2 q hq with h1|h1
           ·exact HNE.out q h1 e
           ·simp[Value.ownBlock]at e
            subst e
            simp at h1;omega
         case measure=>simp[intOf];omega
     ·clear hJ hm ho hd2 VG
      gi_wp2
      go_roundw
      case rel=>exact⟨S,R,HJ.out.fin oM,HM3.out,HO3.out,KR,by omega⟩
      case measure =>
       rw[HM3.out.size,HM.out.size]
       obtain⟨A3,c3,rfl,_,_⟩:=HO3.out.form
       simp[lenV]
       omega
 case done =>
  rintro D ys W hD hys ⟨⟨⟨⟨⟨tb,lb⟩,r1⟩,r2⟩,hx⟩,sO⟩ hK
  rw[hys]at sO
  have q2:=r1.frozen 0
  have q3:=r1.frozen 1
  have q4:=r2.frozen 0
  have p2:=r1.cell (j:=0) rfl
  have p3:=r1.cell (j:=1) rfl
  have p4:=r2.cell (j:=0) rfl
  have HNO:=UA (ZGD sO)
  clear sO
  gi_wp2
  obtain⟨Wr,xI⟩:∃Wr,(((W.setCell ⟨w.heap.size+1+1,0,none⟩ (Value.int .i64 0)).setCell ⟨w.heap.size+1+1,1,none⟩ (Value.int .i64 0)).setCell ⟨w.heap.size+1+1+1,0,none⟩ (Value.bool false))=Wr:=⟨_,rfl⟩
  rw[xI]
  have s2:VA Wr (w.heap.size+1+1) 70 #[.int .i64 0,.int .i64 0]:=by rw[←xI];exact kW0
  have s3:VA Wr (w.heap.size+1+1+1) 4 #[.bool false]:=by rw[←xI];exact kW0
  have sx:Ext w Wr:=by rw[←xI];exact kW0
  have zR:Wr.heap[D]? = some (.deferred (some [])):=by rw[←xI];exact (KF.set (KF.set (KF.set (KeepsFrom.refl W0.heap.size W) _ _) _ _) _ _).same D _ hD hK rfl
  clear xI
  have e2:=(s2.putObj zR rfl (.deferred none)).cell (j:=0) rfl
  have e3:=(s2.putObj zR rfl (.deferred none)).cell (j:=1) rfl
  have e4:=(s3.putObj zR rfl (.deferred none)).cell (j:=0) rfl
  refine⟨by simp,.inl ⟨_,_,rfl,run_takeDeferred zR,?_⟩⟩
  refine⟨.tuple #[IA (0,0),.bool false],?_,sx.putObj oM zR _,.inr ⟨HNO.out,rfl⟩⟩
  simp[results,Tryz.f136,go_sem,e2,e3,e4,IA]
 case stop =>
  rintro D c pre W hD SK ⟨rfl,a,x,⟨⟨⟨hp,sO,hhb⟩,r1⟩,r2⟩,hx⟩ hK
  rw[hp]at SK
  have HST:=UA (ZGC SK sO hhb)
  clear sO hhb
  gi_wp2
  have e2:=(r1.putObj hK rfl (.deferred none)).cell (j:=0) rfl
  have e3:=(r1.putObj hK rfl (.deferred none)).cell (j:=1) rfl
  have e4:=(r2.putObj hK rfl (.deferred none)).cell (j:=0) rfl
  refine⟨by simp,.inl ⟨_,_,rfl,run_takeDeferred hK,?_⟩⟩
  refine⟨.tuple #[IA x,.bool true],?_,hx.putObj oM hK _,.inl ⟨x,HST.out,rfl⟩⟩
  simp[results,Tryz.f136,go_sem,e2,e3,e4,IA]

structure Small (t:Tr):Prop where
 np:t.length≤1000000
 nv:∀x∈t,x.vars.length≤1000000
 ne:∀x∈t,x.evs.length≤1000000
 na:∀x∈t,∀e∈x.evs,e.asg.length≤1000000
structure Sm (t:Tr):Prop where
 np:t.length≤1000000
 nv:∀x∈t,x.vars.length≤1000000
 ne:∀x∈t,x.evs.length≤9223372036854775807
 na:∀x∈t,∀e∈x.evs,e.asg.length≤1000000
theorem Small.sm {t:Tr} (h:Small t):Sm t:=⟨h.np,h.nv,fun x hx=>dh (h.ne x hx) kE,h.na⟩
theorem LJ {t:Tr} {p:Nat} (hp:p<t.length) (h:SC t p=0):t[p].evs.length≤64:=by
 rw[XM t p hp]at h
 split at h
 ·cases h
 split at h
 ·cases h
 split at h
 ·rename_i h2;exact absurd h h2
 split at h
 ·cases h
 ·omega
theorem Sm.small {t:Tr} (h:Sm t) (hz:∀q,q<t.length→SC t q=0):Small t:=
 ⟨h.np,h.nv,fun x hx=>by
  obtain⟨p,hp,rfl⟩:=cn hx
  have:=LJ hp (hz p hp)
  omega,h.na⟩
def FPost (t:Tr) (w:World) (e:Ending) (w':World):Prop:=e=.returned (.tuple #[IA (eE t).1,.int .i64 (eE t).2])∧Ext w w'
theorem CU {t:Tr} (h:inB t.length 1 8=false):eE t=((0,0),1):=by
 unfold eE
 rw[if_pos (by simp[inB]at h;omega)]
theorem OR {t:Tr} {p:Nat} (h:inB t.length 1 8=true) (hp:p<t.length) (h0:∀q,q<p→SC t q=0) (VG:SC t p≠0):eE t=((p,0),SC t p):=by
 have hf:(List.range t.length).find? (fun p=>SC t p != 0)=some p:=by
  rw[show t.length=p+(1+(t.length-p-1)) by omega,kb,ez]
  have:(List.range p).find? (fun p=>SC t p != 0)=none:=by
   rw[cw];intro q hq;simp[h0 q (ba.1 hq)]
  rw[this,gx 1,lj]
  simp[VG]
 unfold eE
 rw[if_neg (by simp[inB]at h;omega),hf]
theorem yM {t:Tr} (h0:∀q,q<t.length→SC t q=0):(List.range t.length).find? (fun p=>SC t p != 0)=none:=by
 rw[cw];intro q hq;simp[h0 q (ba.1 hq)]
theorem ZS {t:Tr} {x:Nat×Nat} (h:inB t.length 1 8=true) (h0:∀q,q<t.length→SC t q=0) (hx:(ids t).find? (fun x=>lC t x != 0)=some x):eE t=(x,lC t x):=by
 unfold eE
 rw[if_neg (by simp[inB]at h;omega),yM h0]
 simp only[hx]
theorem AR {t:Tr} {x:Nat×Nat} (h:inB t.length 1 8=true) (h0:∀q,q<t.length→SC t q=0) (hf:(ids t).find? (fun x=>lC t x != 0)=none) (hx:(ids t).find? (fun x=>ZD t x != 0)=some x):eE t=(x,ZD t x):=by
 unfold eE
 rw[if_neg (by simp[inB]at h;omega),yM h0]
 simp only[hf,hx]
theorem BZ {t:Tr} {x:Nat×Nat} (h:inB t.length 1 8=true) (h0:∀q,q<t.length→SC t q=0) (hf:(ids t).find? (fun x=>lC t x != 0)=none) (hp:(ids t).find? (fun x=>ZD t x != 0)=none) (hx:LF t=some x):eE t=(x,10):=by
 unfold LF at hx
 unfold eE
 rw[if_neg (by simp[inB]at h;omega),yM h0]
 simp only[hf,hp,hx]
theorem WS {t:Tr} (h:inB t.length 1 8=true) (h0:∀q,q<t.length→SC t q=0) (hf:(ids t).find? (fun x=>lC t x != 0)=none) (hp:(ids t).find? (fun x=>ZD t x != 0)=none) (hx:LF t=none):eE t=((0,0),0):=by
 unfold LF at hx
 unfold eE
 rw[if_neg (by simp[inB]at h;omega),yM h0]
 simp only[hf,hp,hx]
theorem zK {t:Tr} {x:Nat×Nat} (h:lC t x=0):AA t.length x.1 (gA t x)=true:=by
 unfold lC at h
 cases hb:AA t.length x.1 (gA t x) with
 |true=>rfl
 |false=>rw[hb]at h;simp at h
def GI (t:Tr) (w:World) (u:Value) (l:List (Nat×Nat)) (W:World):Prop:=
 (((VA W w.heap.size 30 #[u]∧VA W (w.heap.size+1) 70 #[.int .i64 0,.int .i64 0])∧VA W (w.heap.size+1+1) 35 #[.int .i64 0])∧Ext w W)∧∀x∈l,lC t x=0
def GX (t:Tr) (w:World) (l:List (Nat×Nat)) (W:World):Prop:=
 ∃a x,(((l=a++[x]∧(∀y∈a,lC t y=0)∧lC t x≠0)∧VA W (w.heap.size+1) 70 #[.int .i64 x.1,.int .i64 x.2])∧VA W (w.heap.size+1+1) 35 #[.int .i64 (lC t x)])∧Ext w W
theorem GW (t:Tr) (w:World) (u:Value) {n:Nat} (hn:w.heap.size≤n):OwnFrom n (fun (pre:List (Idt t)) W=>GI t w u (pre.map (·.1)) W):=
 OwnFrom.and (OwnFrom.and (OwnFrom.and (OwnFrom.and (uA _ _ _ _) (uA _ _ _ _)) (uA _ _ _ _)) (PG hn)) (ownFrom_pure _ _)
theorem ZGF (t:Tr) (w:World) {n:Nat} (hn:w.heap.size≤n):OwnFrom n (fun (pre:List (Idt t)) W=>GX t w (pre.map (·.1)) W):=by
 rintro s X Y row ⟨a,x,h⟩ hg hr
 refine⟨a,x,⟨⟨h.1.1.1,?_⟩,?_⟩,PG hn () X Y row h.2 hg hr⟩
 ·exact uA _ n _ (fun (_:Unit)=>_) () X Y row h.1.1.2 hg hr
 ·exact uA _ n _ (fun (_:Unit)=>_) () X Y row h.1.2 hg hr
theorem DZ {f:Nat→List (Nat×Nat)} {b:Nat}:∀n:Nat,(∀p,p<n→(f p).length≤b)→((List.range n).flatMap f).length≤n*b
 |0,_=>by simp
 |n+1,h=>by
   rw[fq,ka,aq]
   have h1:=DZ n fun p hp=>h p oM
   have h2:=h n oM
   have h3:([n].flatMap f).length=(f n).length:=by simp
   rw[h3,bp]
   omega
theorem ZGA {t:Tr} (h1:t.length≤1000000) (h2:∀x∈t,x.evs.length≤1000000) (h:inB t.length 1 8=true) (h0:∀q,q<t.length→SC t q=0):(ids t).length≤1000000:=by
 have:=DZ (f:=PM t) (b:=64) t.length fun p hp=>by
  unfold PM iA
  rw[aa,ji,QB dfPr t hp]
  exact LJ hp (h0 p hp)
 simp[inB]at h
 unfold ids
 have h3:t.length*64≤8*64:=ck _ oM
 omega
theorem ZAf {t:Tr} (h:∀x∈ids t,lC t x=0):(ids t).find? (fun x=>lC t x != 0)=none:=by
 rw[cw];intro x hx;simp[h x hx]
theorem ZAe {t:Tr} {a:List (Nat×Nat)} {x:Nat×Nat} (hp:a++[x] <+: ids t) (ha:∀y∈a,lC t y=0) (hx:lC t x≠0):(ids t).find? (fun x=>lC t x != 0)=some x:=by
 obtain⟨c,hc⟩:=hp
 rw[←hc,bh,ez]
 have:a.find? (fun x=>lC t x != 0)=none:=by
  rw[cw];intro y hy;simp[ha y hy]
 rw[this]
 simp[hx]
theorem ZBO (u:Value) (t:Tr) (w:World) (hS:Sm t) (hs:SlR 3 RPr w u t) :
  Calls Tryz.prog 85 #[.agg #[u]] w fun e w'=>FPost t w e w':=by
 refine callsIn_wide (n:=9).1 ?_
 refine callsIn_of_wp_marks Tryz.func85 rfl trivial ?_ rfl
 simp only[Tryz.ntmps85,dq,ee,fh,Nat.reduceAdd,Nat.reduceSub,ib,ic,ie,ig,dw,da]
 obtain⟨A,c,rfl,_,iM,_⟩:=hs.at_
 have HI:=UA (fun w=>callsIn_wide (n:=8).2 (zL t.length 1 8 w))
 cases GE:inB t.length 1 8
 ·rw[GE]at HI
  have HF:=UA (CU GE)
  clear GE
  gi_wp2_with (refine⟨trivial,?_⟩;gi_at_call 86;refine (HI.out _).mono ?_;rintro e w' ⟨rfl,rfl⟩)
  refine⟨.tuple #[IA (0,0),.int .i64 1],by simp[results,Tryz.f85,go_sem,IA],by rw[HF.out];rfl,(((Ext.refl w).alloc _).alloc _).alloc _⟩
 ·have HIN:=UA GE
  rw[GE]at HI
  clear GE
  gi_wp2_with (refine⟨trivial,?_⟩;gi_at_call 86;refine (HI.out _).mono ?_;rintro e w' ⟨rfl,rfl⟩)
  have tb0:=((VA.new w 30 #[.slice A t.length c]).alloc (.cells #[.int .i64 0,.int .i64 0] 70)).alloc (.cells #[.int .i64 0] 35)
  obtain⟨W1,GH⟩:∃W1,((w.alloc (Obj.cells #[Value.slice A t.length c] 30)).alloc (Obj.cells #[Value.int .i64 0,Value.int .i64 0] 70)).alloc (Obj.cells #[Value.int .i64 0] 35)=W1:=⟨_,rfl⟩
  rw[GH]at tb0⊢
  have hx1:Ext w W1:=by rw[←GH];exact (((Ext.refl w).alloc _).alloc _).alloc _
  have rb1:VA W1 (w.heap.size+1) 70 #[.int .i64 0,.int .i64 0]:=by rw[←GH];exact (VA.newAt _ _ kS).alloc _
  have rb2:VA W1 (w.heap.size+1+1) 35 #[.int .i64 0]:=by rw[←GH];exact VA.newAt _ _ kS
  have ZKS:Hx (W1.heap.size=w.heap.size+1+1+1):=UA (by rw[←GH];simp)
  clear GH
  have N7:=hS.np
  gi_loopw [23] (fun i wr=>∃k:Nat,k≤t.length∧i=.int .i64 k∧(∀q,q<k→SC t q=0)∧Ext W1 wr) (fun i _=>t.length-(intOf i).toNat)
  case atStart=>exact⟨0,aj _,rfl,fun q hq=>absurd hq (gq _),Ext.refl _⟩
  case round =>
   obtain⟨k,hk,rfl,h0,hx⟩:=hrel
   have H0:=UA h0
   clear h0
   have tb:=tb0.ext hx
   have r1:=rb1.ext hx
   have r2:=rb2.ext hx
   have t0:=tb.cell (j:=0) rfl
   by_cases yA:k<t.length
   ·have HP:=UA (fun w' (he:Ext w w')=>callsIn_wide (n:=8).2 (iO (.slice A t.length c) t k w' yA N7 (hS.nv _ (am yA)) (hS.ne _ (am yA)) (hs.ext RPr.keeps he)))
    gi_wp2_with fail
    refine⟨trivial,?_⟩
    refine (HP.out _ (hx1.trans hx)).mono ?_
    rintro e w2 ⟨rfl,VJ⟩
    by_cases hz:SC t k=0
    ·have HZ:=UA hz
     rw[hz]
     clear hz
     gi_wp2
     go_roundw
     case rel=>exact⟨k+1,yA,by go_num,fun q hq=>(iz.1 hq).elim (H0.out q) (fun e=>e▸HZ.out),hx.trans VJ⟩
     case measure=>simp[intOf];omega
    ·have HF:=UA (OR HIN.out yA H0.out hz)
     have VG:((SC t k:Int) != 0)=true:=by simp;omega
     have r12:=r1.ext VJ
     have r22:=r2.ext VJ
     have f1:=r12.frozen 0
     have f2:=r12.frozen 1
     have f3:=r22.frozen 0
     have p1:=r12.cell (j:=0) rfl
     have p2:=r12.cell (j:=1) rfl
     have p3:=r22.cell (j:=0) rfl
     gi_wp2
     obtain⟨Wr,xI⟩:∃Wr,((w2.setCell ⟨w.heap.size+1,0,none⟩ (Value.int .i64 k)).setCell ⟨w.heap.size+1,1,none⟩ (Value.int .i64 0)).setCell ⟨w.heap.size+1+1,0,none⟩ (Value.int .i64 (SC t k))=Wr:=⟨_,rfl⟩
     rw[xI]
     have ZIu:Ext w w2:=hx1.trans (hx.trans VJ)
     have s1:VA Wr (w.heap.size+1) 70 #[.int .i64 k,.int .i64 0]:=by rw[←xI];exact kW0
     have s2:VA Wr (w.heap.size+1+1) 35 #[.int .i64 (SC t k)]:=by rw[←xI];exact kW0
     have sx:Ext w Wr:=by rw[←xI];exact kW0
     clear xI
     exact⟨.tuple #[IA (k,0),.int .i64 (SC t k)],by simp[results,Tryz.f85,go_sem,IA,s1.cell (j:=0) rfl,s1.cell (j:=1) rfl,s2.cell (j:=0) rfl],by rw[HF.out],sx⟩
   ·obtain rfl:k=t.length:=by omega
    have hS:=hS.small H0.out
    have ZKT:Ext w wr:=hx1.trans hx
    gi_wp2_with (refine⟨trivial,?_⟩;gi_at_call 88;refine (callsIn_wide.2 (tI _ _)).mono ?_;rintro e w' ⟨rfl,rfl⟩)
    have bt:=VA.new wr 30 #[.slice A t.length c]
    have hM0:GI t w (.slice A t.length c) [] (wr.alloc (.cells #[.slice A t.length c] 30)):=⟨⟨⟨⟨tb.alloc _,r1.alloc _⟩,r2.alloc _⟩,ZKT.alloc _⟩,fun x hx=>by cases hx⟩
    obtain⟨W0,y6⟩:∃W0,wr.alloc (.cells #[.slice A t.length c] 30)=W0:=⟨_,rfl⟩
    have lV:W0.heap.size=wr.heap.size+1:=by rw[←y6];simp
    have hwr:w.heap.size≤wr.heap.size:=ZKT.size
    rw[y6]at bt hM0⊢
    clear y6
    have QP:Ext w W0:=hM0.1.2
    have HSZ0:=UA lV
    have hw0:w.heap.size≤W0.heap.size:=by omega
    clear lV
    refine wpIn_rangeFunc_ownH rfl oM (gf:=138) (lb:=#[.pointer (some ⟨wr.heap.size,0,none⟩)]) rfl trivial (mC Tryz.func138 kE rfl)
     (DG 8 oM w (.slice A t.length c) t wr.heap.size W0 N7 hS.ne hs QP (bt.cell rfl) hwr) belowK_t (belowK_b hw0) (Below.refl _ _) (fun _=>rfl)
     (fun pre W=>GI t w (.slice A t.length c) (pre.map (·.1)) W) (fun c pre W=>c=.ret∧GX t w (pre.map (·.1)) W) (GW t w _ hw0) (fun c=>OwnFrom.and (ownFrom_pure _ _) (ZGF t w hw0)) hM0
     (fun x a' W=>∃B6 B7 A4 n4 c4 v37 v38,(w.heap.size+1+1<B6∧w.heap.size+1+1<B7∧SlR 2 RAsg w (.slice A4 n4 c4) (gA t x.1).asg)∧VA W B6 70 #[.int .i64 x.1.1,.int .i64 x.1.2]∧VA W B7 68 #[.int .i64 (gA t x.1).kind,.int .i64 (gA t x.1).peer,.int .i64 (gA t x.1).msg,.int .i64 (gA t x.1).time,.slice A4 n4 c4] ∧
      a'={tmps:=#[.agg #[.slice A t.length c],.pointer (some ⟨w.heap.size,0,none⟩),.pointer (some ⟨w.heap.size+1,0,none⟩),.pointer (some ⟨w.heap.size+1+1,0,none⟩),u4,u5,.pointer (some ⟨B6,0,none⟩),.pointer (some ⟨B7,0,none⟩),undef,undef,undef,undef,undef,undef,.pointer (some ⟨w.heap.size,0,none⟩),.slice A t.length c,.int .i64 t.length,.bool true,.bool false,undef,.pointer (some ⟨w.heap.size,0,none⟩),.slice A t.length c,.int .i64 t.length,.int .i64 t.length,.bool false,u25,u26,u27,u28,u29,u30,u31,u32,u33,u34,.agg #[.slice A t.length c],.func (.func 138) #[] #[.pointer (some ⟨wr.heap.size,0,none⟩)],v37,v38,undef,undef,undef,undef,undef,undef,undef,undef,undef,undef,undef,undef,undef,undef,undef,undef,undef,undef,undef,undef,undef,undef,undef,undef,undef,undef,undef],defers:=[]})
     ?hax ?assign ?body ?done ?stop
    case hax =>
     rintro x a' _ X Y row ⟨B6,B7,A4,n4,c4,v37,v38,hB,b6,b7,ha⟩ hg hr
     exact⟨B6,B7,A4,n4,c4,v37,v38,hB,uA B6 _ _ (fun (_:Unit)=>_) () X Y row b6 hg hr,uA B7 _ _ (fun (_:Unit)=>_) () X Y row b7 hg hr,ha⟩
    case assign =>
     rintro l pre x W K hI hK
     obtain⟨a,hv,hsa⟩:=GS hs x.2
     obtain⟨A4,c4,rfl,_,_,_⟩:=hsa.at_
     simp only[hv]
     have hsW:=hI.1.2.size
     have h5:=hI.1.1.2.lt
     unfold IA
     gi_wp2
     exact hK _ _ (((KeepsOthers.alloc _ _).trans (KeepsOthers.alloc _ _)).from _) (((Below.refl _ W).alloc hsW _).alloc (by simp;omega) _) ((GW t w _ (ai _)).alloc _ ((GW t w _ (ai _)).alloc _ hI))
      ⟨W.heap.size,W.heap.size+1,A4,_,c4,_,_,⟨h5,by omega,hsa⟩,(VA.new _ _ _).alloc _,VA.newAt _ _ kS,rfl⟩
    case body =>
     rintro l pre x a' W hlW ⟨r,hr⟩ hI ⟨B6,B7,A4,n4,c4,v37,v38,⟨hB6,hB7,hsa⟩,b6,b7,rfl⟩ pC
     obtain⟨⟨⟨⟨tbW,r1W⟩,r2W⟩,a9⟩,hg⟩:=hI
     have hsW:=a9.size
     have HG:=UA hg
     have HSA:=UA hsa
     clear hg hsa
     have k0:=b7.cell (j:=0) rfl
     have k1:=b7.cell (j:=1) rfl
     have k2:=b7.cell (j:=2) rfl
     have k3:=b7.cell (j:=3) rfl
     have k4:=b7.cell (j:=4) rfl
     have i0:=b6.cell (j:=0) rfl
     have i1:=b6.cell (j:=1) rfl
     have t0:=tbW.cell (j:=0) rfl
     obtain⟨hp,hi1,hi2⟩:=TC.1 x.2
     have hee:t[x.1.1].evs[x.1.2-1]=gA t x.1:=by
      unfold gA iA;rw[QB dfPr t hp,QB lI _ oM]
     have HE:=UA (fun w' (he:Ext w w')=>CallsIn.inRound l (callsIn_wide (n:=6).2 (IQ (.slice A t.length c) (.slice A4 n4 c4) t x.1.1 x.1.2 (gA t x.1) w' hp hi1 hi2 hee N7 (hS.nv _ (am hp)) (hS.ne _ (am hp)) (by rw[←hee];exact hS.na _ (am hp) _ (am _)) (hs.ext RPr.keeps he) (HSA.out.ext RAsg.keeps he))))
     clear hee
     gi_wp2_with fail
     refine⟨trivial,?_⟩
     refine (HE.out _ a9).mono ?_
     rintro e w2 ⟨rfl,VJ⟩
     by_cases hz:lC t x.1=0
     ·have HZ:=UA hz
      rw[show lC t (x.1.1,x.1.2)=0 from hz]
      clear hz
      gi_wp2
      refine⟨KF.ext (KeepsFrom.refl _ _) VJ,BL.ext (Below.refl _ _) VJ hsW,?_⟩
      show GI t w (.slice A t.length c) ((pre++[x]).map (·.1)) _
      rw[YG]
      refine⟨⟨⟨⟨tbW.ext VJ,r1W.ext VJ⟩,r2W.ext VJ⟩,a9.trans VJ⟩,fun z hz=>?_⟩
      rcases bn.1 hz with h1|h1
      ·exact HG.out z h1
      ·rw[show z=x.1 by simpa using h1];exact HZ.out
     ·have VG:((lC t (x.1.1,x.1.2):Int) != 0)=true:=by
       have:¬lC t (x.1.1,x.1.2)=0:=hz
       simp;omega
      have HZ:=UA hz
      clear hz
      have r12:=r1W.ext VJ
      have r22:=r2W.ext VJ
      have b62:=b6.ext VJ
      have f1:=r12.frozen 0
      have f2:=r12.frozen 1
      have f3:=r22.frozen 0
      have p1:=r12.cell (j:=0) rfl
      have p2:=r12.cell (j:=1) rfl
      have p3:=r22.cell (j:=0) rfl
      have i02:=b62.cell (j:=0) rfl
      have i12:=b62.cell (j:=1) rfl
      have ZKQ:KeepsFrom W0.heap.size W w2:=KF.ext (KeepsFrom.refl _ _) VJ
      have ZKR:Ext w w2:=a9.trans VJ
      gi_wp2
      refine⟨?_,rfl,pre.map (·.1),x.1,⟨⟨⟨YG pre x,HG.out,HZ.out⟩,?_⟩,?_⟩,?_⟩
      all_goals exact kW0
    case done =>
     rintro D ys W hD hys ⟨⟨⟨⟨tbW,r1W⟩,r2W⟩,a9⟩,hg⟩ hK
     rw[hys]at hg
     have HG:=UA hg
     clear hg
     have QL:∀x∈ids t,AA t.length x.1 (gA t x)=true:=fun x hx=>zK (HG.out x hx)
     have hfn:=UA (ZAf HG.out)
     have t0:=tbW.cell (j:=0) rfl
     have HMF:=UA (fun w' (he:Ext w w')=>callsIn_wide (n:=8).2 (dO (.slice A t.length c) t w' N7 hS.ne (hs.ext RPr.keeps he) QL))
     have hform':=UA QL
     clear QL
     gi_wp2_with fail
     refine⟨trivial,?_⟩
     refine (HMF.out _ a9).mono ?_
     rintro e w2 ⟨VJ,hm⟩
     have ZLc:KeepsFrom W0.heap.size W w2:=KF.ext (KeepsFrom.refl _ _) VJ
     have ZIu:Ext w w2:=a9.trans VJ
     have r12:=r1W.ext VJ
     have r22:=r2W.ext VJ
     have tb2:=tbW.ext VJ
     have t02:=tb2.cell (j:=0) rfl
     have lt1:=tb2.lt
     have lt2:=r12.lt
     have lt3:=r22.lt
     clear t0
     rcases hm with ⟨x,hx,rfl⟩|⟨hpn,b,cs,hb,hbox,hlet,rfl⟩
     ·have HP:=UA (AR HIN.out H0.out hfn.out hx)
      have ZOT:((ZD t x:Int) != 0)=true:=by
       have:=fx hx
       simp at this⊢;omega
      clear hx
      unfold IA
      have f1:=r12.frozen 0
      have f2:=r12.frozen 1
      have f3:=r22.frozen 0
      have p1:=r12.cell (j:=0) rfl
      have p2:=r12.cell (j:=1) rfl
      have p3:=r22.cell (j:=0) rfl
      gi_wp2
      obtain⟨Wr,xI⟩:∃Wr,(((w2.setCell ⟨w.heap.size+1,0,none⟩ (Value.int .i64 x.1)).setCell ⟨w.heap.size+1,1,none⟩ (Value.int .i64 x.2)).setCell ⟨w.heap.size+1+1,0,none⟩ (Value.int .i64 (ZD t x))).alloc (Obj.cells #[Value.int .i64 x.1,Value.int .i64 x.2] 70)=Wr:=⟨_,rfl⟩
      rw[xI]
      have s1:VA Wr (w.heap.size+1) 70 #[.int .i64 x.1,.int .i64 x.2]:=by rw[←xI];exact kW0
      have s2:VA Wr (w.heap.size+1+1) 35 #[.int .i64 (ZD t x)]:=by rw[←xI];exact kW0
      have sx:Ext w Wr:=by rw[←xI];exact kW0
      have hkf:KeepsFrom W0.heap.size W Wr:=by rw[←xI];exact kW0
      have zR:Wr.heap[D]? = some (.deferred (some [])):=hkf.same D _ hD hK rfl
      clear xI
      have e2:=(s1.putObj zR rfl (.deferred none)).cell (j:=0) rfl
      have e3:=(s1.putObj zR rfl (.deferred none)).cell (j:=1) rfl
      have e4:=(s2.putObj zR rfl (.deferred none)).cell (j:=0) rfl
      refine⟨by simp,.inl ⟨_,_,rfl,run_takeDeferred zR,?_⟩⟩
      refine⟨.tuple #[IA x,.int .i64 (ZD t x)],?_,by first|(rw[HP.out];done)|(rw[HP.out];rfl),sx.putObj oM zR _⟩
      simp[results,Tryz.f85,go_sem,e2,e3,e4,IA]
     ·have HPN:=UA hpn
      clear hpn
      have HC:=UA (fun w' (he:Ext w w') (hb':VA w' b 181 cs)=>callsIn_wide (n:=8).2 (F4 (.slice A t.length c) t b cs w' N7 hS.ne (ZGA N7 (fun x hx=>hS.ne x hx) HIN.out H0.out) (hs.ext RPr.keeps he) hform'.out hb' hlet))
      unfold IA
      gi_wp2_with fail
      refine⟨trivial,?_⟩
      refine (HC.out _ (ZIu.alloc _) (hbox.alloc _)).mono ?_
      rintro e w3 ⟨he3,hm3⟩
      have ZGq:Ext w2 w3:=Ext.trans ((Ext.refl w2).alloc _) he3
      have ZKQ:KeepsFrom W0.heap.size W w3:=KF.ext ZLc ZGq
      have ZKR:Ext w w3:=ZIu.trans ZGq
      have r13:=r12.ext ZGq
      have r23:=r22.ext ZGq
      have lt13:=r13.lt
      have lt23:=r23.lt
      have f1:=r13.frozen 0
      have f2:=r13.frozen 1
      have f3:=r23.frozen 0
      have p1:=r13.cell (j:=0) rfl
      have p2:=r13.cell (j:=1) rfl
      have p3:=r23.cell (j:=0) rfl
      rcases hm3 with ⟨x,hx,rfl⟩|⟨hx,rfl⟩
      ·have HP:=UA (BZ HIN.out H0.out hfn.out HPN.out hx)
       clear hx
       unfold IA
       gi_wp2
       obtain⟨Wr,xI⟩:∃Wr,(((w3.setCell ⟨w.heap.size+1,0,none⟩ (Value.int .i64 x.1)).setCell ⟨w.heap.size+1,1,none⟩ (Value.int .i64 x.2)).setCell ⟨w.heap.size+1+1,0,none⟩ (Value.int .i64 10)).alloc (Obj.cells #[Value.int .i64 x.1,Value.int .i64 x.2] 70)=Wr:=⟨_,rfl⟩
       rw[xI]
       have s1:VA Wr (w.heap.size+1) 70 #[.int .i64 x.1,.int .i64 x.2]:=by rw[←xI];exact kW0
       have s2:VA Wr (w.heap.size+1+1) 35 #[.int .i64 10]:=by rw[←xI];exact kW0
       have sx:Ext w Wr:=by rw[←xI];exact kW0
       have hkf:KeepsFrom W0.heap.size W Wr:=by rw[←xI];exact kW0
       have zR:Wr.heap[D]? = some (.deferred (some [])):=hkf.same D _ hD hK rfl
       clear xI
       have e2:=(s1.putObj zR rfl (.deferred none)).cell (j:=0) rfl
       have e3:=(s1.putObj zR rfl (.deferred none)).cell (j:=1) rfl
       have e4:=(s2.putObj zR rfl (.deferred none)).cell (j:=0) rfl
       refine⟨by simp,.inl ⟨_,_,rfl,run_takeDeferred zR,?_⟩⟩
       refine⟨.tuple #[IA x,.int .i64 10],?_,by first|(rw[HP.out];done)|(rw[HP.out];rfl),sx.putObj oM zR _⟩
       simp[results,Tryz.f85,go_sem,e2,e3,e4,IA]
      ·have HP:=UA (WS HIN.out H0.out hfn.out HPN.out hx)
       clear hx
       unfold IA
       gi_wp2
       obtain⟨Wr,xI⟩:∃Wr,(((w3.setCell ⟨w.heap.size+1,0,none⟩ (Value.int .i64 0)).setCell ⟨w.heap.size+1,1,none⟩ (Value.int .i64 0)).setCell ⟨w.heap.size+1+1,0,none⟩ (Value.int .i64 0)).alloc (Obj.cells #[Value.int .i64 0,Value.int .i64 0] 70)=Wr:=⟨_,rfl⟩
       rw[xI]
       have s1:VA Wr (w.heap.size+1) 70 #[.int .i64 0,.int .i64 0]:=by rw[←xI];exact kW0
       have s2:VA Wr (w.heap.size+1+1) 35 #[.int .i64 0]:=by rw[←xI];exact kW0
       have sx:Ext w Wr:=by rw[←xI];exact kW0
       have hkf:KeepsFrom W0.heap.size W Wr:=by rw[←xI];exact kW0
       have zR:Wr.heap[D]? = some (.deferred (some [])):=hkf.same D _ hD hK rfl
       clear xI
       have e2:=(s1.putObj zR rfl (.deferred none)).cell (j:=0) rfl
       have e3:=(s1.putObj zR rfl (.deferred none)).cell (j:=1) rfl
       have e4:=(s2.putObj zR rfl (.deferred none)).cell (j:=0) rfl
       refine⟨by simp,.inl ⟨_,_,rfl,run_takeDeferred zR,?_⟩⟩
       refine⟨.tuple #[IA (0,0),.int .i64 0],?_,by first|(rw[HP.out];done)|(rw[HP.out];rfl),sx.putObj oM zR _⟩
       simp[results,Tryz.f85,go_sem,e2,e3,e4,IA]
    case stop =>
     rintro D c' pre W hD SK ⟨rfl,a,x,⟨⟨⟨hp,hg,VG⟩,r1W⟩,r2W⟩,a9⟩ hK
     rw[hp]at SK
     have HST:=UA (ZS HIN.out H0.out (ZAe SK hg VG))
     clear hg
     gi_wp2
     have e2:=(r1W.putObj hK rfl (.deferred none)).cell (j:=0) rfl
     have e3:=(r1W.putObj hK rfl (.deferred none)).cell (j:=1) rfl
     have e4:=(r2W.putObj hK rfl (.deferred none)).cell (j:=0) rfl
     refine⟨by simp,.inl ⟨_,_,rfl,run_takeDeferred hK,?_⟩⟩
     refine⟨.tuple #[IA x,.int .i64 (lC t x)],?_,by rw[HST.out],a9.putObj oM hK _⟩
     simp[results,Tryz.f85,go_sem,e2,e3,e4,IA]

theorem BO (u:Value) (t:Tr) (w:World) (hS:Sm t) (hs:SlR 3 RPr w u t) :
  Calls Tryz.prog 35 #[.agg #[u]] w fun e w'=>e=.returned (.bool (fD t))∧Ext w w':=by
 have HF:=UA (fun w' (he:Ext w w')=>ZBO u t w' hS (hs.ext RPr.keeps he))
 obtain⟨A,c,rfl,_,iM,_⟩:=hs.at_
 go_enter Tryz.func35,Tryz.ntmps35
 go_wp2_with fail
 refine (HF.out _ ((Ext.refl w).alloc _)).mono ?_
 rintro e w2 ⟨rfl,VJ⟩
 unfold IA
 go_wp2
 go_ret
 refine⟨ZC3 ?_,Ext.alloc (Ext.trans ((Ext.refl w).alloc _) VJ) _⟩
 unfold fD
 rw[dx];simp

theorem form_ways (np p:Nat) (e:Ev):(AA np p e=false∧(((e.kind==1)=true∧(e.peer != 0)=true)∨((e.kind==1)=true∧(e.peer != 0)=false∧(e.msg != 0)=true)∨((e.kind==1)=false∧(e.kind != 2)=true∧(e.kind != 3)=true)∨((e.kind==1)=false∧(e.kind != 2)=false∧(decide (e.peer<0))=true)∨((e.kind==1)=false∧(e.kind != 2)=true∧(e.kind != 3)=false∧(decide (e.peer<0))=true)∨((e.kind==1)=false∧(e.kind != 2)=false∧(decide (e.peer<0))=false∧(decide ((np:Int)≤e.peer))=true)∨((e.kind==1)=false∧(e.kind != 2)=true∧(e.kind != 3)=false∧(decide (e.peer<0))=false∧(decide ((np:Int)≤e.peer))=true)∨((e.kind==1)=false∧(e.kind != 2)=false∧(decide (e.peer<0))=false∧(decide ((np:Int)≤e.peer))=false∧(e.peer==(p:Int))=true)∨((e.kind==1)=false∧(e.kind != 2)=true∧(e.kind != 3)=false∧(decide (e.peer<0))=false∧(decide ((np:Int)≤e.peer))=false∧(e.peer==(p:Int))=true)∨((e.kind==1)=false∧(e.kind != 2)=false∧(decide (e.peer<0))=false∧(decide ((np:Int)≤e.peer))=false∧(e.peer==(p:Int))=false∧(decide (e.msg<0))=true)∨((e.kind==1)=false∧(e.kind != 2)=true∧(e.kind != 3)=false∧(decide (e.peer<0))=false∧(decide ((np:Int)≤e.peer))=false∧(e.peer==(p:Int))=false∧(decide (e.msg<0))=true)∨((e.kind==1)=false∧(e.kind != 2)=false∧(decide (e.peer<0))=false∧(decide ((np:Int)≤e.peer))=false∧(e.peer==(p:Int))=false∧(decide (e.msg<0))=false∧(decide (199<e.msg))=true)∨((e.kind==1)=false∧(e.kind != 2)=true∧(e.kind != 3)=false∧(decide (e.peer<0))=false∧(decide ((np:Int)≤e.peer))=false∧(e.peer==(p:Int))=false∧(decide (e.msg<0))=false∧(decide (199<e.msg))=true)))∨(AA np p e=true∧(((e.kind==1)=true∧(e.peer != 0)=false∧(e.msg != 0)=false)∨((e.kind==1)=false∧(e.kind != 2)=false∧(decide (e.peer<0))=false∧(decide ((np:Int)≤e.peer))=false∧(e.peer==(p:Int))=false∧(decide (e.msg<0))=false∧(decide (199<e.msg))=false)∨((e.kind==1)=false∧(e.kind != 2)=true∧(e.kind != 3)=false∧(decide (e.peer<0))=false∧(decide ((np:Int)≤e.peer))=false∧(e.peer==(p:Int))=false∧(decide (e.msg<0))=false∧(decide (199<e.msg))=false))):=by
 have h:AA np p e=if e.kind==1 then !((e.peer != 0)||(e.msg != 0)) else !(((e.kind != 2)&&(e.kind != 3))||decide (e.peer<0)||decide ((np:Int)≤e.peer)||(e.peer==(p:Int))||decide (e.msg<0)||decide (199<e.msg)):=by
  unfold AA inB
  have d1:decide (0≤e.peer)=!decide (e.peer<0):=by rw[dx];simp
  have d2:decide (e.peer≤(np:Int)-1)=!decide ((np:Int)≤e.peer):=by rw[dx];simp;omega
  have d3:decide (0≤e.msg)=!decide (e.msg<0):=by rw[dx];simp
  have d4:decide (e.msg≤199)=!decide (199<e.msg):=by rw[dx];simp
  have d5:(e.kind==2)=!(e.kind != 2):=by simp[bne]
  have d6:(e.kind==3)=!(e.kind != 3):=by simp[bne]
  have d7:(e.peer != (p:Int))=!(e.peer==(p:Int)):=by simp[bne]
  have d8:(e.peer==0)=!(e.peer != 0):=by simp[bne]
  have d9:(e.msg==0)=!(e.msg != 0):=by simp[bne]
  rw[d1,d2,d3,d4,d5,d6,d7,d8,d9]
  cases e.kind==1<;>cases e.kind != 2<;>cases e.kind != 3<;>cases decide (e.peer<0)<;>cases decide ((np:Int)≤e.peer)<;>cases (e.peer==(p:Int))<;>cases decide (e.msg<0)<;>cases decide (199<e.msg)<;>simp
 rw[h]
 clear h
 cases (e.kind==1)<;>cases (e.peer != 0)<;>cases (e.msg != 0)<;>cases (e.kind != 2)<;>cases (e.kind != 3)<;>cases (decide (e.peer<0))<;>cases (decide ((np:Int)≤e.peer))<;>cases (e.peer==(p:Int))<;>cases (decide (e.msg<0))<;>cases (decide (199<e.msg))<;>simp

theorem ZAg (t:Tr) (p i:Nat) (hp:p<t.length) (hi:i<t[p].evs.length) (L:Int) (hL:AH t (p,i+1)=L):lC t (p,i+1)=if !AA t.length p t[p].evs[i] then 3
 else if !(inB t[p].evs[i].time 0 1099511627776)||decide (t[p].evs[i].time<L) then 11
 else if 8<t[p].evs[i].asg.length then 5
 else uB (YJ t[p].vars.length t[p].evs[i].asg) t[p].evs[i].asg.length:=by
 unfold lC;rw[FF hp hi,hL];simp only[QB dfPr t hp]
theorem TN (x:Int):inB x 0 1099511627776=(!decide (x<0)&&!decide (1099511627776<x)):=by
 unfold inB
 rw[dx];simp
theorem VO (x:Int) (n:Nat):inB x 0 ((n:Int)-1)=(!decide (x<0)&&!decide ((n:Int)≤x)):=by
 unfold inB
 rw[dx];simp;omega
theorem ZA6 (t:Tr) (p i:Nat) (hp:p<t.length) (hi:i<t[p].evs.length):AH t (p,i+1+1)=t[p].evs[i].time:=TU t p i hp hi
theorem J4 (t:Tr) (p:Nat):AH t (p,0+1)=0:=by unfold AH;simp
end Go.Proofs.YtmaokjojbjdpoaaGreatDoor
namespace Go.Proofs.YtmaokjojbjdpoaaGreatDoor
open Go.RowKit
set_option linter.unusedVariables false

def DB (t:Tr) (k m:Int):Nat×Nat:=qA t (ids t) k m

theorem FR {t:Tr} {k m:Int} {p i:Nat} (hp:p<t.length) (hi:i<t[p].evs.length) (h0:(pD t p i).find? (MD t k m)=none) (h1:MD t k m (p,i+1)=true):DB t k m=(p,i+1):=by
 obtain⟨c,hc⟩:=PH t p (i+1) hp hi
 unfold DB qA
 rw[←hc,zG,bh,ez,h0]
 simp[h1]
theorem gM {t:Tr} {k m:Int} {p i:Nat} (h0:(pD t p i).find? (MD t k m)=none) (h1:MD t k m (p,i+1)=false):(pD t p (i+1)).find? (MD t k m)=none:=by
 rw[zG,ez,h0];simp[h1]

theorem ZD6 (u:Value) (t:Tr) (kd m:Int) (w:World) (hS:Small t) (hs:SlR 3 RPr w u t) :
  Calls Tryz.prog 56 #[.agg #[u],.int .i64 kd,.int .i64 m] w fun e w'=>e=.returned (IA (DB t kd m))∧Ext w w':=by
 obtain⟨A,c,rfl,h1,h2,hc⟩:=hs.at_
 have N7:=hS.np
 have HC:=UA hc
 clear hs hc
 have bt:VA ((w.alloc (.cells #[.slice A t.length c] 30)).alloc (.cells #[.int .i64 0,.int .i64 0] 70)) w.heap.size 30 _:=(VA.new w _ _).alloc _
 have br:VA ((w.alloc (.cells #[.slice A t.length c] 30)).alloc (.cells #[.int .i64 0,.int .i64 0] 70)) (w.heap.size+1) 70 _:=VA.newAt _ _ kS
 have hx1:Ext w ((w.alloc (.cells #[.slice A t.length c] 30)).alloc (.cells #[.int .i64 0,.int .i64 0] 70)):=((Ext.refl _).alloc _).alloc _
 go_enter Tryz.func56,Tryz.ntmps56
 go_wp2_with fail
 generalize (w.alloc (.cells #[.slice A t.length c] 30)).alloc (.cells #[.int .i64 0,.int .i64 0] 70)=W1 at *
 go_loopw [7] (fun i wr=>∃k:Nat,k≤t.length∧i=.int .i64 k∧(pD t k 0).find? (MD t kd m)=none∧Ext W1 wr) (fun i _=>t.length-(intOf i).toNat)
 case atStart=>exact⟨0,aj _,rfl,rfl,Ext.refl _⟩
 case round =>
  obtain⟨k,hk,rfl,sO,hx⟩:=hrel
  have HNO:=UA sO
  clear sO
  have bt2:=bt.ext hx
  have br2:=br.ext hx
  have hxx:=hx1.trans hx
  have t0:=bt2.cell (j:=0) rfl
  by_cases yA:k<t.length
  ·obtain⟨b,off,rfl,mJ⟩:=HC.out oM
   obtain⟨_,_,v2,c2,uW⟩:=mJ k yA
   obtain⟨A2,k2,rfl,_,_,JR⟩:=uW.at_
   have HC2:=UA JR
   have VG:=hS.ne _ (am yA)
   clear mJ uW JR
   go_wp2_with fail
   obtain⟨W2,iL⟩:∃W2:World,wr=W2:=⟨_,rfl⟩
   rw[iL]at hx bt2 br2 hxx⊢
   clear t0
   rw[iL]at *
   clear iL
   go_loopw [8] (fun i wr=>∃j:Nat,j≤t[k].evs.length∧i=.int .i64 j∧(pD t k j).find? (MD t kd m)=none∧Ext W2 wr) (fun i _=>t[k].evs.length-(intOf i).toNat)
   case atStart=>exact⟨0,aj _,rfl,HNO.out,Ext.refl _⟩
   case round =>
    obtain⟨j,hj,rfl,ZKU,hx3⟩:=hrel
    have HNO2:=UA ZKU
    clear ZKU
    have t0:=(bt2.ext hx3).cell (j:=0) rfl
    have br3:=br2.ext hx3
    have f0:=br3.frozen 0
    have f1:=br3.frozen 1
    have r0:=br3.cell (j:=0) rfl
    have r1:=br3.cell (j:=1) rfl
    have lt1:=(bt2.ext hx3).lt
    have lt2:=br3.lt
    have hx4:=hxx.trans hx3
    have c2':=hx4.cellAt c2
    by_cases mK:j<t[k].evs.length
    ·obtain⟨b2,off2,rfl,J1⟩:=HC2.out oM
     obtain⟨g0,g1,g2,g3,va,g4,hs4⟩:=J1 j mK
     obtain⟨A4,k4,rfl,_,_,_⟩:=hs4.at_
     have e0:=hx4.cellAt g0
     have e1:=hx4.cellAt g1
     have e2:=hx4.cellAt g2
     have e3:=hx4.cellAt g3
     have e4:=hx4.cellAt g4
     have HK:=UA (show MD t kd m (k,j+1)=((t[k].evs[j].kind==kd)&&(t[k].evs[j].msg==m)) by unfold MD;rw[FF yA mK])
     clear J1 hs4 g0 g1 g2 g3 g4
     cases q1:t[k].evs[j].kind==kd
     ·have HN:=UA (gM HNO2.out (by rw[HK.out,q1];rfl))
      go_wp2_with fail
      go_roundw
      case rel=>exact⟨j+1,mK,by go_num,HN.out,hx3.alloc _⟩
      case measure=>simp[intOf];omega
     ·cases q2:t[k].evs[j].msg==m
      ·have HN:=UA (gM HNO2.out (by rw[HK.out,q1,q2];rfl))
       go_wp2_with fail
       go_roundw
       case rel=>exact⟨j+1,mK,by go_num,HN.out,hx3.alloc _⟩
       case measure=>simp[intOf];omega
      ·have HF:=UA (FR yA mK HNO2.out (by rw[HK.out,q1,q2];rfl))
       go_wp2_with fail
       obtain⟨Wr,xI⟩:∃Wr,(((wr.setCell ⟨w.heap.size+1,0,none⟩ (Value.int .i64 k)).setCell ⟨w.heap.size+1,1,none⟩ (Value.int .i64 ((j:Int)+1))).alloc (Obj.cells #[.int .i64 t[k].evs[j].kind,.int .i64 t[k].evs[j].peer,.int .i64 t[k].evs[j].msg,.int .i64 t[k].evs[j].time,.slice A4 t[k].evs[j].asg.length k4] 68))=Wr:=⟨_,rfl⟩
       rw[xI]
       have s1:VA Wr (w.heap.size+1) 70 #[.int .i64 k,.int .i64 ((j:Int)+1)]:=by rw[←xI];exact kW0
       have sx:Ext w Wr:=by rw[←xI];exact kW0
       clear xI
       refine bodyPost_ret (v:=IA (k,j+1)) ?_ rfl ⟨by rw[HF.out],sx⟩
       simp[results,Tryz.f56,go_sem,IA,s1.cell (j:=0) rfl,s1.cell (j:=1) rfl]
    ·obtain rfl:j=t[k].evs.length:=by omega
     go_wp2_with fail
     go_roundw
     case rel=>exact⟨k+1,yA,by go_num,by rw[←gF t k yA];exact HNO2.out,hx.trans hx3⟩
     case measure=>simp[intOf];omega
  ·obtain rfl:k=t.length:=by omega
   have f0:=br2.frozen 0
   have f1:=br2.frozen 1
   have r0:=br2.cell (j:=0) rfl
   have r1:=br2.cell (j:=1) rfl
   have HF:=UA (show DB t kd m=(0,0) by have:=HNO.out;rw[DJ]at this;unfold DB qA;rw[this];rfl)
   go_wp2_with fail
   have hxr:=hx1.trans hx
   obtain⟨Wr,xI⟩:∃Wr,((wr.setCell ⟨w.heap.size+1,0,none⟩ (Value.int .i64 0)).setCell ⟨w.heap.size+1,1,none⟩ (Value.int .i64 0))=Wr:=⟨_,rfl⟩
   rw[xI]
   have s1:VA Wr (w.heap.size+1) 70 #[.int .i64 0,.int .i64 0]:=by rw[←xI];exact kW0
   have sx:Ext w Wr:=by rw[←xI];exact kW0
   clear xI
   refine bodyPost_ret (v:=IA (0,0)) ?_ rfl ⟨by rw[HF.out],sx⟩
   simp[results,Tryz.f56,go_sem,IA,s1.cell (j:=0) rfl,s1.cell (j:=1) rfl]

def JE (t:Tr) (x:Nat×Nat):List (Nat×Nat):=(if 1<x.2 then [(x.1,x.2-1)] else [])++if (gA t x).kind==3 then [DB t 2 (gA t x).msg] else []


def ZEf (D:List Nat):Array Value:=(D.map fun d:Nat=>Value.int .i64 d).toArray
theorem ZC2 (D:List Nat) (k d:Nat):(ZEf D).setIfInBounds k (.int .i64 d)=ZEf (D.set k d):=by
 unfold ZEf
 rw[List.setIfInBounds_toArray,fo]
theorem VA.setRow {W:World} {B:Nat} {t:TypeId} {D:List Nat} {k:Nat} (h:VA W B t (ZEf D)) (d:Nat):VA (W.setCell ⟨B,k,none⟩ (.int .i64 d)) B t (ZEf (D.set k d)):=by
 rw[←ZC2];exact h.set _ _
theorem ZFS {D:List Nat}:∀{k d:Nat} (hk:k<D.length),(D.set k d).sum+D[k]=D.sum+d:=by
 induction D with
 |nil=>intro k d hk;simp at hk
 |cons a D ih =>
   intro k d hk
   cases k with
   |zero=>simp;omega
   |succ k =>
     have:=ih (k:=k) (d:=d) (by simpa using hk)
     simp at this⊢;omega
end Go.Proofs.YtmaokjojbjdpoaaGreatDoor
namespace Go.Proofs.YtmaokjojbjdpoaaGreatDoor
set_option linter.unusedVariables false

theorem Hb.back {t:Tr} {x z:Nat×Nat} (h:Hb t x z):∃y,Dir t y z∧(y=x∨Hb t x y):=by
 cases h with
 |one h=>exact⟨_,h,.inl rfl⟩
 |more h1 h2=>exact⟨_,h2,.inr h1⟩
def AP (D:List Nat) (x:Nat×Nat):Prop:=x.2≤D.getD x.1 0
structure KI (t:Tr) (D:List Nat):Prop where
 len:D.length=t.length
 le:∀p (hp:p<t.length),D.getD p 0≤t[p].evs.length
 closed:∀x∈ids t,AP D x→∀y∈ids t,Dir t y x→AP D y
 acyc:∀x∈ids t,AP D x→¬Hb t x x
theorem KI.start (t:Tr):KI t (List.replicate t.length 0):=by
 have h0:∀p,(List.replicate t.length 0).getD p 0=0:=fun p=>by
  rw[ap,gi];split<;>rfl
 have hn:∀x∈ids t,¬AP (List.replicate t.length 0) x:=fun x hx hg=>by
  have:=dG hx
  unfold AP at hg;rw[h0]at hg;omega
 exact⟨by simp,fun p hp=>by rw[h0];exact aj _,fun x hx hg=>absurd hg (hn x hx),fun x hx hg=>absurd hg (hn x hx)⟩
theorem KI.gone_back {t:Tr} {D:List Nat} (h:KI t D) {x z:Nat×Nat} (hx:x∈ids t) (hz:z∈ids t) (hg:AP D z) (hb:Hb t x z):AP D x:=by
 induction hb with
 |one hd=>exact h.closed _ hz hg _ hx hd
 |more h1 hd ih =>
   have hy:=h1.mem hx
   exact ih hy (h.closed _ hz hg _ hy hd)
theorem LZ {D:List Nat} {p q d:Nat} (hp:p<D.length):(D.set p d).getD q 0=if q=p then d else D.getD q 0:=by
 rw[ap,jb]
 by_cases h:p=q
 ·subst h;rw[if_pos rfl,if_pos rfl,if_pos hp];rfl
 ·rw[if_neg h,if_neg (fun e=>h e.symm),ap]
theorem KI.step {t:Tr} {D:List Nat} (h:KI t D) {p:Nat} (hp:p<t.length) (hi:D.getD p 0<t[p].evs.length) (SK:∀y∈ids t,Dir t y (p,D.getD p 0+1)→AP D y):KI t (D.set p (D.getD p 0+1)):=by
 have pC:p<D.length:=by rw[h.len];exact hp
 have FM:∀x,x∈ids t→(AP (D.set p (D.getD p 0+1)) x↔AP D x∨x=(p,D.getD p 0+1)):=fun x hx=>by
  unfold AP
  rw[LZ pC]
  obtain⟨a,b⟩:=x
  simp only[Prod.mk.injEq]
  by_cases ha:a=p
  ·subst ha;rw[if_pos rfl];omega
  ·rw[if_neg ha];simp[ha]
 have ZIv:(p,D.getD p 0+1)∈ids t:=TC.2 ⟨hp,by simp,hi⟩
 have hnx:¬AP D (p,D.getD p 0+1):=by unfold AP;simp
 refine⟨by simpa using h.len,fun q hq=>?_,fun x hx hg y hy hd=>?_,fun x hx hg hb=>?_⟩
 ·rw[LZ pC]
  split
  ·rename_i e;subst e;exact hi
  ·exact h.le q hq
 ·rcases (FM x hx).1 hg with h1|rfl
  ·exact (FM y hy).2 (.inl (h.closed x hx h1 y hy hd))
  ·exact (FM y hy).2 (.inl (SK y hy hd))
 ·rcases (FM x hx).1 hg with h1|rfl
  ·exact h.acyc x hx h1 hb
  ·obtain⟨y,hd,he⟩:=hb.back
   rcases he with rfl|h2
   ·exact hnx (SK _ ZIv hd)
   ·have hy:=h2.mem ZIv
    exact hnx (h.gone_back ZIv hy (SK y hy hd) h2)
theorem r9 {t:Tr} {D:List Nat} {p i:Nat} (zU:∀x∈ids t,ZD t x=0) (hp:p<t.length) (hi:i=D.getD p 0) (CJ:i<t[p].evs.length) (hs:(gA t (p,i+1)).kind=3→(DB t 2 (gA t (p,i+1)).msg).2≤D.getD (DB t 2 (gA t (p,i+1)).msg).1 0) :
  ∀y∈ids t,Dir t y (p,i+1)→AP D y:=by
 rintro⟨a,b⟩ hy (⟨he,hl⟩|⟨hk,hf⟩)
 ·injection he with h1 h2
  simp only at h1 h2
  subst h1
  unfold AP
  simp only
  omega
 ·obtain⟨hfo,_,_⟩:=AB hf
  have e:GC t 3 (gA t (a,b)).msg=(ids t).find? (MD t 3 (gA t (a,b)).msg):=rfl
  rw[e]at hf
  have DK:=fx hf
  unfold MD at DK
  simp only[au,beq_iff_eq]at DK
  have hq:=hs DK.1
  rw[DK.2]at hq
  have hpy:=zU (a,b) hy
  unfold ZD at hpy
  rw[hk]at hpy
  simp only[show ((2:Int)==2)=true from rfl,if_true]at hpy
  have hfy:GC t 2 (gA t (a,b)).msg=some (a,b):=by
   by_cases hh:(GC t 2 (gA t (a,b)).msg==some (a,b))=true
   ·simpa using hh
   ·rw[if_neg hh]at hpy;cases hpy
  have hv:DB t 2 (gA t (a,b)).msg=(a,b):=(AB hfy).1
  rw[hv]at hq
  exact hq
theorem KI.all {t:Tr} {D:List Nat} (h:KI t D) (hd:∀p (hp:p<t.length),t[p].evs.length≤D.getD p 0):∀x∈ids t,¬Hb t x x:=by
 intro x hx
 obtain⟨hp,h1,h2⟩:=TC.1 hx
 exact h.acyc x hx (dh h2 (hd x.1 hp))
open Go.RowKit

def sumE (t:Tr):Nat:=(t.map fun x=>x.evs.length).sum
theorem KI.sum_le {t:Tr} {D:List Nat} (h:KI t D):D.sum≤sumE t:=by
 have hl:=h.len
 have CJ:=h.le
 clear h
 unfold sumE
 induction t generalizing D with
 |nil=>cases D<;>simp at hl⊢
 |cons x t ih =>
   cases D with
   |nil=>simp at hl
   |cons d D =>
     have h0:=CJ 0 kS
     have h1:=ih (D:=D) (by simpa using hl) (fun p hp=>CJ (p+1) (by simpa using hp))
     simp at h0 h1⊢;omega


theorem E2 {t:Tr} {q m p:Nat} (hq:q<t.length) (h:sendsB t q m p=true):∃y,GC t 2 m=some y:=by
 have e:GC t 2 m=(ids t).find? (MD t 2 m):=rfl
 rw[e]
 unfold sendsB iA at h
 rw[QB dfPr t hq,fe]at h
 obtain⟨ev,he,hk⟩:=h
 obtain⟨j,hj,QQ⟩:=List.mem_iff_getElem.1 he
 simp only[au,beq_iff_eq]at hk
 have Y1:(q,j+1)∈ids t:=TC.2 ⟨hq,by simp,hj⟩
 cases hf:(ids t).find? (MD t 2 m) with
 |some y=>exact⟨y,rfl⟩
 |none =>
   rw[cw]at hf
   refine absurd ?_ (hf _ Y1)
   unfold MD
   rw[FF hq hj,QQ,hk.1.1,hk.1.2]
   simp
structure Paired (t:Tr):Prop where
 form:∀x∈ids t,AA t.length x.1 (gA t x)=true
 pair:∀x∈ids t,ZD t x=0
theorem Paired.recv {t:Tr} (h:Paired t) {x:Nat×Nat} (hx:x∈ids t) (hk:(gA t x).kind=3):GC t 3 (gA t x).msg=some x∧∃y,GC t 2 (gA t x).msg=some y:=by
 have hp:=h.pair x hx
 obtain⟨m,q,hm,_,hq,FS,_⟩:=sH (h.form x hx) (by rw[hk];rfl)
 unfold ZD at hp
 rw[hk]at hp
 simp only[show ((3:Int)==2)=false from rfl,show ((3:Int)==3)=true from rfl,if_true,dn,if_false]at hp
 by_cases h1:(GC t 3 (gA t x).msg==some x)=true
 ·rw[if_pos h1]at hp
  refine⟨by simpa using h1,?_⟩
  by_cases h2:sendsB t (gA t x).peer.toNat (gA t x).msg x.1=true
  ·rw[hq,hm,cj]at h2
   rw[hm]
   exact E2 FS h2
  ·rw[if_neg h2]at hp;cases hp
 ·rw[if_neg h1]at hp;cases hp
theorem Paired.send {t:Tr} (h:Paired t) {x:Nat×Nat} (hx:x∈ids t) (hk:(gA t x).kind=2):GC t 2 (gA t x).msg=some x:=by
 have hp:=h.pair x hx
 unfold ZD at hp
 rw[hk]at hp
 simp only[show ((2:Int)==2)=true from rfl,if_true]at hp
 by_cases h1:(GC t 2 (gA t x).msg==some x)=true
 ·simpa using h1
 ·rw[if_neg h1]at hp;cases hp
theorem CE {t:Tr} {k m:Int} {y:Nat×Nat} (h:GC t k m=some y):(gA t y).kind=k∧(gA t y).msg=m:=by
 have e:GC t k m=(ids t).find? (MD t k m):=rfl
 rw[e]at h
 have:=fx h
 simpa [MD] using this
theorem jH {t:Tr} (h:Paired t) {x y:Nat×Nat} (hx:x∈ids t):y∈JE t x↔(y∈ids t∧Dir t y x):=by
 obtain⟨hp,h1,h2⟩:=TC.1 hx
 unfold JE
 rw[bn]
 constructor
 ·rintro (hy|hy)
  ·split at hy
   ·rename_i yA
    have:y=(x.1,x.2-1):=by simpa using hy
    subst this
    refine⟨TC.2 ⟨hp,by simp;omega,by simp;omega⟩,.inl ⟨?_,?_⟩⟩
    ·ext<;>simp;omega
    ·unfold iA;simp only;rw[QB dfPr t hp];omega
   ·cases hy
  ·split at hy
   ·rename_i hk
    have hk3:(gA t x).kind=3:=by simpa using hk
    obtain⟨h3,z,hz⟩:=h.recv hx hk3
    have hv:DB t 2 (gA t x).msg=z:=(AB hz).1
    have:y=z:=by rw[←hv];simpa using hy
    subst this
    obtain⟨k2,m2⟩:=CE hz
    refine⟨(AB hz).2.2,.inr ⟨k2,?_⟩⟩
    rw[m2];exact h3
   ·cases hy
 ·rintro⟨hy,(⟨he,hl⟩|⟨hk,hf⟩)⟩
  ·obtain⟨_,hy1,_⟩:=TC.1 hy
   left
   rw[he]
   simp only
   rw[if_pos oM]
   simp
  ·right
   obtain⟨k3,m3⟩:=CE hf
   rw[k3]
   simp only[show ((3:Int)==3)=true from rfl,if_true]
   have:=h.send hy hk
   rw[m3,show DB t 2 (gA t y).msg=y from (AB this).1]
   simp
theorem Hb.cons {t:Tr} {x y z:Nat×Nat} (h:Dir t x y) (k:Hb t y z):Hb t x z:=by
 induction k with
 |one h2=>exact .more (.one h) h2
 |more _ h2 ih=>exact .more ih h2
structure PaI (t:Tr) (x:Nat×Nat) (S R:List (Nat×Nat)):Prop where
 nod:S.Nodup
 s:∀y∈S,y∈ids t∧Hb t y x
 r:∀y∈R,y∈ids t∧Hb t y x
 closed:∀z,z=x∨z∈S→∀y∈ids t,Dir t y z→y∈S∨y∈R
structure PaJ (t:Tr) (x z0:Nat×Nat) (S R:List (Nat×Nat)) (k:Nat):Prop where
 nod:S.Nodup
 s:∀y∈S,y∈ids t∧Hb t y x
 r:∀y∈R,y∈ids t∧Hb t y x
 cur:z0∈S
 done:∀y∈(JE t z0).take k,y∈R
 closed:∀z,z=x∨z∈S→z≠z0→∀y∈ids t,Dir t y z→y∈S∨y∈R
theorem PaI.start {t:Tr} (h:Paired t) {x:Nat×Nat} (hx:x∈ids t):PaI t x [] (JE t x):=
 ⟨List.nodup_nil,by simp,fun y hy=>let ⟨a,b⟩:=(jH h hx).1 hy;⟨a,.one b⟩,fun z hz y hy hd=>by
  rcases hz with rfl|h1
  ·exact .inr ((jH h hx).2 ⟨hy,hd⟩)
  ·cases h1⟩
theorem PaI.skip {t:Tr} {x y:Nat×Nat} {S R:List (Nat×Nat)} (h:PaI t x S (y::R)) (hy:y∈S):PaI t x S R:=
 ⟨h.nod,h.s,fun z hz=>h.r z (by simp[hz]),fun z hz w hw hd=>by
  rcases h.closed z hz w hw hd with h1|h1
  ·exact .inl h1
  ·rcases cu.1 h1 with rfl|h2
   ·exact .inl hy
   ·exact .inr h2⟩
theorem PaI.mark {t:Tr} {x y:Nat×Nat} {S R:List (Nat×Nat)} (h:PaI t x S (y::R)) (hy:y∉S):PaJ t x y (S++[y]) R 0:=by
 obtain⟨h1,h2⟩:=h.r y kS
 refine⟨?_,?_,fun z hz=>h.r z (by simp[hz]),by simp,by simp,?_⟩
 ·refine ia.2 ⟨h.nod,by simp,fun a ha b hb=>?_⟩
  have:b=y:=by simpa using hb
  subst this;exact fun e=>hy (e▸ha)
 ·intro z hz
  rcases bn.1 hz with h3|h3
  ·exact h.s z h3
  ·have:z=y:=by simpa using h3
   subst this;exact⟨h1,h2⟩
 ·intro z hz VG w hw hd
  have hz':z=x∨z∈S:=by
   rcases hz with h3|h3
   ·exact .inl h3
   ·rcases bn.1 h3 with h4|h4
    ·exact .inr h4
    ·exact absurd (by simpa using h4) VG
  rcases h.closed z hz' w hw hd with h3|h3
  ·exact .inl (by simp[h3])
  ·rcases cu.1 h3 with rfl|h4
   ·exact .inl kS
   ·exact .inr h4
theorem PaJ.push {t:Tr} (hp:Paired t) {x z0 y:Nat×Nat} {S R:List (Nat×Nat)} {k:Nat} (h:PaJ t x z0 S R k) (hk:(JE t z0)[k]? = some y):PaJ t x z0 S (R++[y]) (k+1):=by
 obtain⟨hz,hzx⟩:=h.s z0 h.cur
 obtain⟨hy,hd⟩:=(jH hp hz).1 (bw hk)
 refine⟨h.nod,h.s,fun w hw=>?_,h.cur,fun w hw=>?_,fun z hz' VG w hw hd'=>?_⟩
 ·rcases bn.1 hw with h1|h1
  ·exact h.r w h1
  ·have:w=y:=by simpa using h1
   subst this;exact⟨hy,.cons hd hzx⟩
 ·rw[CM hk]at hw
  rcases bn.1 hw with h1|h1
  ·simp[h.done w h1]
  ·exact bn.2 (.inr h1)
 ·rcases h.closed z hz' VG w hw hd' with h1|h1
  ·exact .inl h1
  ·exact .inr (by simp[h1])
theorem PaJ.fin {t:Tr} (hp:Paired t) {x z0:Nat×Nat} {S R:List (Nat×Nat)} {k:Nat} (h:PaJ t x z0 S R k) (hk:(JE t z0).length≤k):PaI t x S R:=
 ⟨h.nod,h.s,h.r,fun z hz w hw hd=>by
  by_cases he:z=z0
  ·subst he
   refine .inr (h.done w ?_)
   rw[cr hk]
   exact (jH hp (h.s z h.cur).1).2 ⟨hw,hd⟩
  ·exact h.closed z hz he w hw hd⟩
theorem PaI.all {t:Tr} {x:Nat×Nat} {S:List (Nat×Nat)} (h:PaI t x S []):∀y∈ids t,y∈S↔Hb t y x:=by
 intro y hy
 refine⟨fun hs=>(h.s y hs).2,fun hb=>?_⟩
 have key:∀z,Hb t y z→(z=x∨z∈S)→y∈S:=by
  intro z hz
  induction hz with
  |one hd=>exact fun hc=>(h.closed _ hc _ hy hd).resolve_right kS
  |more h1 hd ih=>exact fun hc=>ih (.inr ((h.closed _ hc _ (h1.mem hy) hd).resolve_right kS))
 exact key x hb (.inl rfl)
theorem PaI.few {t:Tr} {x:Nat×Nat} {S R:List (Nat×Nat)} (h:PaI t x S R):S.length≤(ids t).length:=II h.nod fun y hy=>(h.s y hy).1
theorem PaJ.few {t:Tr} {x z0:Nat×Nat} {S R:List (Nat×Nat)} {k:Nat} (h:PaJ t x z0 S R k):S.length≤(ids t).length:=II h.nod fun y hy=>(h.s y hy).1
theorem VV (t:Tr) (x:Nat×Nat):(JE t x).length≤2:=by
 unfold JE
 rw[aq]
 split<;>split<;>simp

def LT (S:List (Nat×Nat)) (p n:Nat):Array Value:=((List.range n).map fun i=>Value.bool (decide ((p,i)∈S))).toArray
theorem ZC1 {S:List (Nat×Nat)} {p n i:Nat} (h:i<n):(LT S p n)[i]? = some (.bool (decide ((p,i)∈S))):=by simp[LT,h]
theorem ZC0 {S:List (Nat×Nat)} {p n i:Nat}:(LT S p n).setIfInBounds i (.bool true)=LT (S++[(p,i)]) p n:=by
 apply Array.ext
 ·simp[LT]
 ·intro j h1 h2
  simp[LT]at h2
  rw[Array.getElem_setIfInBounds (by simpa using h1)]
  simp only[LT,List.getElem_toArray,lk,List.getElem_range]
  by_cases uQ:i=j
  ·subst uQ;simp
  ·rw[if_neg uQ]
   congr 1
   rw[dx]
   simp
   omega
theorem Z3 {S:List (Nat×Nat)} {p q n i:Nat} (h:q≠p):LT (S++[(p,i)]) q n=LT S q n:=by
 unfold LT
 congr 1
 apply iy
 intro j _
 congr 1
 rw[dx]
 simp[h]
def rowV (q:Nat×Nat):Value:=.slice (some ⟨q.1,0,none⟩) q.2 q.2
structure GridM (tr tb:TypeId) (W:World) (B:Nat) (v:Value) (gs S:List (Nat×Nat)):Prop where
 out:vB 1 tr W B v gs.length (gs.map rowV)
 row:∀p (hp:p<gs.length),VA W gs[p].1 tb (LT S p gs[p].2)∧B≤gs[p].1
 nod:∀p q (hp:p<gs.length) (hq:q<gs.length),gs[p].1=gs[q].1→p=q
section
variable {tr tb:TypeId} {W W':World} {B:Nat} {v:Value} {gs S:List (Nat×Nat)}
theorem GridM.ext (h:GridM tr tb W B v gs S) (he:Ext W W'):GridM tr tb W' B v gs S:=⟨h.out.ext he,fun p hp=>⟨(h.row p hp).1.ext he,(h.row p hp).2⟩,h.nod⟩
theorem GridM.drewN (h:GridM tr tb W B v gs S) (n:Nat):GridM tr tb (W.drewN n) B v gs S:=h.ext ((Ext.refl W).drewN n)
theorem GridM.alloc (h:GridM tr tb W B v gs S) (o:Obj):GridM tr tb (W.alloc o) B v gs S:=h.ext ((Ext.refl W).alloc o)
theorem GridM.kept (h:GridM tr tb W B v gs S) {r:Option Nat} (hg:W.grownBy W' r) (h1:v.ownBlock≠r∨v.ownBlock=none) (h2:∀p (hp:p<gs.length),some gs[p].1≠r):GridM tr tb W' B v gs S:=
 ⟨h.out.kept hg (h1.symm),fun p hp=>⟨(h.row p hp).1.kept hg (h2 p hp),(h.row p hp).2⟩,h.nod⟩
theorem GridM.mark (h:GridM tr tb W B v gs S) (VG:tr≠tb) {p i:Nat} (hp:p<gs.length):GridM tr tb (W.setCell ⟨gs[p].1,i,none⟩ (.bool true)) B v gs (S++[(p,i)]):=by
 refine⟨h.out.other (h.out.not_box (h.row p hp).1 VG.symm) _,fun q hq=>⟨?_,(h.row q hq).2⟩,h.nod⟩
 by_cases hpq:q=p
 ·subst hpq
  rw[←ZC0]
  exact (h.row q hq).1.set _ _
 ·rw[Z3 hpq]
  exact (h.row q hq).1.other (fun e=>hpq (h.nod q p hq hp e)) _
end
def marks (t:Tr) (gs:List (Nat×Nat)) (w:World):Nat:=(ids t).countP fun x=>match w.cell? ⟨(gs.getD x.1 (0,0)).1,x.2,none⟩ with|some (.bool true)=>true|_=>false
theorem ZCr {t:Tr} {tr tb:TypeId} {W:World} {B:Nat} {v:Value} {gs S:List (Nat×Nat)} (h:GridM tr tb W B v gs S) (hl:∀x∈ids t,∃(hp:x.1<gs.length),x.2<gs[x.1].2) (hn:S.Nodup) (hs:∀y∈S,y∈ids t):marks t gs W=S.length:=by
 have e:marks t gs W=(ids t).countP fun x=>decide (x∈S):=by
  unfold marks
  refine List.countP_congr fun x hx=>?_
  obtain⟨hp,hi⟩:=hl x hx
  rw[QB (0,0) gs hp,(h.row x.1 hp).1.cell (ZC1 hi)]
  cases decide ((x.1,x.2)∈S)<;>simp
 rw[e,List.countP_eq_length_filter]
 apply Nat.le_antisymm
 ·exact II ((bU t).filter _) fun x hx=>by simpa using (kz.1 hx).2
 ·exact II hn fun x hx=>kz.2 ⟨hs x hx,by simpa using hx⟩

section
variable {size:Nat} {e:TypeId} {w w':World} {B:Nat} {v v':Value} {n:Nat} {cs:List Value}
theorem vB.apart {size' n':Nat} {e':TypeId} {B':Nat} {v':Value} {cs':List Value} (h:vB size e w B v n cs) (h':vB size' e' w B' v' n' cs') (VG:e≠e'):v.ownBlock=none∨v.ownBlock≠v'.ownBlock:=by
 rcases h'.2 with ⟨rfl,_⟩|⟨g,off,cap,cur,rfl,_,hbox,_⟩
 ·cases hv:v.ownBlock
  ·exact .inl rfl
  ·right;simp[Value.ownBlock]
 ·exact .inr (h.not_box hbox VG.symm)
end

abbrev ZEl (W:World) (B:Nat) (v:Value) (gs S:List (Nat×Nat)):Prop:=GridM 190 4 W B v gs S
def GLen (t:Tr) (gs:List (Nat×Nat)) (k:Nat):Prop:=gs.length=k∧∀p (hp:p<gs.length) (ht:p<t.length),gs[p].2=t[p].evs.length+1
theorem ZEl.grow {W W':World} {B n g0:Nat} {v v':Value} {gs:List (Nat×Nat)} (h:ZEl W B v gs []) (hr:VA W g0 4 (LT [] gs.length n)) (hB:B≤g0) (nG:∀p (hp:p<gs.length),gs[p].1≠g0)
  (hv:vB 1 190 W' B v' (gs.length+1) (gs.map rowV++[rowV (g0,n)])) (hg:Grw W v W' v'):ZEl W' B v' (gs++[(g0,n)]) []:=by
 have VG:∀(b:Nat) (cs:Array Value),VA W b 4 cs→some b≠v.ownBlock:=fun b cs hb e=>h.out.not_box hb kE e.symm
 refine⟨?_,?_,?_⟩
 ·rw[aq,bq];exact hv
 ·intro p hp
  rw[aq,dp]at hp
  by_cases yA:p<gs.length
  ·rw[jk yA]
   exact⟨(h.row p yA).1.kept hg.1 (VG _ _ (h.row p yA).1),(h.row p yA).2⟩
  ·obtain rfl:p=gs.length:=by omega
   rw[lm (ai _)]
   simp only[eh,ln]
   exact⟨hr.kept hg.1 (VG _ _ hr),hB⟩
 ·intro p q hp hq he
  rw[aq,dp]at hp hq
  by_cases h1:p<gs.length
  ·by_cases h2:q<gs.length
   ·rw[jk h1,jk h2]at he
    exact h.nod p q h1 h2 he
   ·obtain rfl:q=gs.length:=by omega
    rw[jk h1,lm (ai _)]at he
    simp only[eh,ln]at he
    exact absurd he (nG p h1)
  ·obtain rfl:p=gs.length:=by omega
   by_cases h2:q<gs.length
   ·rw[jk h2,lm (ai _)]at he
    simp only[eh,ln]at he
    exact absurd he.symm (nG q h2)
   ·omega
theorem ZEl.marks {t:Tr} {W:World} {B:Nat} {v:Value} {gs S:List (Nat×Nat)} (h:ZEl W B v gs S) (hl:GLen t gs t.length) (hn:S.Nodup) (hs:∀y∈S,y∈ids t):marks t gs W=S.length:=
 ZCr h (fun y hy=>by
  obtain⟨hp,_,h2⟩:=TC.1 hy
  have h3:y.1<gs.length:=by rw[hl.1];exact hp
  exact⟨h3,by rw[hl.2 y.1 h3 hp];omega⟩) hn hs

theorem ZDD {t:Tr} {k m:Int} {x:Nat×Nat} (hx:1≤x.2):(GC t k m==some x)=decide (DB t k m=x):=by
 have e:GC t k m=(ids t).find? (MD t k m):=rfl
 rw[e]
 unfold DB qA
 cases h:(ids t).find? (MD t k m) with
 |none =>
   have:(0,0)≠x:=fun e=>by rw[←e]at hx;simp at hx
   simp[this]
 |some y=>rw[dx];simp
theorem kY {α:Type} {f:α→Bool} {l:List α} {k:Nat} (hk:k<l.length):(l.take (k+1)).any f=((l.take k).any f||f l[k]):=by
 rw[jc hk,lp];simp


theorem JN {t:Tr} {P:Nat×Nat→Bool} {k j:Nat} (h:(pD t k j).find? P=none) (hx:P (k,j+1)=false):(pD t k (j+1)).find? P=none:=by
 rw[zG,ez,h]
 simp[hx]
theorem YN {t:Tr} {P:Nat×Nat→Bool} {k j:Nat} (hk:k<t.length) (hj:j<t[k].evs.length) (h:(pD t k j).find? P=none) (hx:P (k,j+1)=true):(ids t).find? P=some (k,j+1):=by
 obtain⟨r,hr⟩:=PH t k (j+1) hk hj
 rw[←hr,zG,bh,ez,h]
 simp[hx]
theorem MO {t:Tr} {P:Nat×Nat→Bool} (h:(pD t t.length 0).find? P=none):(ids t).find? P=none:=by
 rw[DJ]at h;exact h
theorem CR {t:Tr} {f:Nat×Nat→Nat} (h:(ids t).find? (fun x=>f x != 0)=none):∀x∈ids t,f x=0:=fun x hx=>by
 rw[cw]at h
 simpa using h x hx

open Classical in
noncomputable def hbB (t:Tr) (x:Nat×Nat):Bool:=decide (Hb t x x)
open Classical in
theorem ZCy {t:Tr} {x:Nat×Nat} (h:Hb t x x):hbB t x=true:=by unfold hbB;exact ae h
open Classical in
theorem ZAb {t:Tr} {x:Nat×Nat} (h:¬Hb t x x):hbB t x=false:=by unfold hbB;exact ag h

attribute [local go_sem] Oper.semAt_some

noncomputable def EB (t:Tr) (kd m:Int):Nat×Nat:=if fD t then DB t kd m else (0,0)
noncomputable def sM (t:Tr):Nat:=if fD t then (ids t).length else 0
def s7 (t:Tr) (kd m:Int) (w:World) (e:Ending) (w':World):Prop:=e=.returned (.tuple #[IA (EB t kd m),.bool (decide (0<(EB t kd m).2))])∧Ext w w'
def FdI (t:Tr) (w:World) (kd m:Int) (l:List (Nat×Nat)) (W:World):Prop:=
 (((((VA W (w.heap.size+1) 3 #[.int .i64 kd]∧VA W (w.heap.size+1+1) 3 #[.int .i64 m])∧VA W (w.heap.size+1+1+1) 70 #[.int .i64 0,.int .i64 0])∧VA W (w.heap.size+1+1+1+1) 4 #[.bool false])∧Ext w W)∧l.find? (MD t kd m)=none)
def FdX (t:Tr) (w:World) (kd m:Int) (l:List (Nat×Nat)) (W:World):Prop:=
 ∃a x,(((l=a++[x]∧a.find? (MD t kd m)=none∧MD t kd m x=true)∧VA W (w.heap.size+1+1+1) 70 #[.int .i64 x.1,.int .i64 x.2])∧VA W (w.heap.size+1+1+1+1) 4 #[.bool true])∧Ext w W
theorem bS (t:Tr) (w:World) (kd m:Int) {n:Nat} (hn:w.heap.size≤n):OwnFrom n (fun (pre:List (Idt t)) W=>FdI t w kd m (pre.map (·.1)) W):=
 OwnFrom.and (OwnFrom.and (OwnFrom.and (OwnFrom.and (OwnFrom.and (uA _ _ _ _) (uA _ _ _ _)) (uA _ _ _ _)) (uA _ _ _ _)) (PG hn)) (ownFrom_pure _ _)
theorem ZDG (t:Tr) (w:World) (kd m:Int) {n:Nat} (hn:w.heap.size≤n):OwnFrom n (fun (pre:List (Idt t)) W=>FdX t w kd m (pre.map (·.1)) W):=by
 rintro s X Y row ⟨a,x,h⟩ hg hr
 refine⟨a,x,⟨⟨h.1.1.1,?_⟩,?_⟩,PG hn () X Y row h.2 hg hr⟩
 ·exact uA _ n _ (fun (_:Unit)=>_) () X Y row h.1.1.2 hg hr
 ·exact uA _ n _ (fun (_:Unit)=>_) () X Y row h.1.2 hg hr
theorem I4 {t:Tr} {kd m:Int} {a:List (Nat×Nat)} {x:Nat×Nat} (hv:fD t=true) (hp:a++[x] <+: ids t) (h0:a.find? (MD t kd m)=none) (hx:MD t kd m x=true):EB t kd m=x∧0<x.2:=by
 obtain⟨c,hc⟩:=hp
 have hf:(ids t).find? (MD t kd m)=some x:=by
  rw[←hc,bh,ez,h0];simp[hx]
 refine⟨?_,dG (t:=t) (by rw[←hc];simp)⟩
 unfold EB DB qA
 rw[if_pos hv,hf];rfl
theorem D4 {t:Tr} {kd m:Int} (h:(ids t).find? (MD t kd m)=none):EB t kd m=(0,0):=by
 unfold EB DB qA
 rw[h];simp

theorem kW1 {p:Prop} (h:p:=by (with_reducible repeat (first|assumption|exact KeepsFrom.refl _ _|refine KF.set ?_ _ _|refine KF.alloc ?_ _|refine KF.drew ?_|refine KF.drewN ?_ _|refine KF.ext ?_ aS|exact Below.refl _ _|refine BL.set ?_ _ _ _ oM|refine BL.alloc ?_ _ oM|refine BL.drew ?_|refine BL.drewN ?_ _|refine BL.ext ?_ aS oM|exact Ext.refl _|refine Ext.set ?_ oM _|refine Ext.alloc ?_ _|refine Ext.drew ?_|refine Ext.drewN ?_ _|refine Ext.trans ?_ aS|refine VA.alloc ?_ _|refine VA.drew ?_|refine VA.drewN ?_ _|refine VA.other ?_ oM _|refine VA.set ?_ _ _|apply VA.set1|apply VA.set2_1|apply VA.set2_0|apply VA.set5_4|apply VA.set5_3|apply VA.set5_2|apply VA.set5_1|apply VA.set5_0|apply VA.set3_2|apply VA.set3_1|apply VA.set3_0|apply VA.set4_3|apply VA.set4_2|apply VA.set4_1|apply VA.set4_0|refine VA.ext ?_ aS));done):p:=h
theorem CZ (u:Value) (t:Tr) (kd m:Int) (w:World) (hS:Small t) (hs:SlR 3 RPr w u t) :
  Calls Tryz.prog 80 #[.agg #[u],.int .i64 kd,.int .i64 m] w fun e w'=>s7 t kd m w e w':=by
 have HV:=UA (fun w' (he:Ext w w')=>callsIn_wide (n:=8).2 (BO u t w' hS.sm (hs.ext RPr.keeps he)))
 refine callsIn_wide (n:=9).1 ?_
 refine callsIn_of_wp_marks Tryz.func80 rfl trivial ?_ rfl
 simp only[Tryz.ntmps80,dq,ee,fh,Nat.reduceAdd,Nat.reduceSub,ib,ic,ie,ig,dw,da]
 obtain⟨A,c,rfl,_,iM,_⟩:=hs.at_
 gi_wp2_with fail
 refine⟨trivial,?_⟩
 have hx1:Ext w ((((((w).alloc (.cells #[.slice A t.length c] 30)).alloc (.cells #[.int .i64 kd] 3)).alloc (.cells #[.int .i64 m] 3)).alloc (.cells #[.int .i64 0,.int .i64 0] 70)).alloc (.cells #[.bool false] 4)):=(((((Ext.refl w).alloc _).alloc _).alloc _).alloc _).alloc _
 have b1:VA ((((((w).alloc (.cells #[.slice A t.length c] 30)).alloc (.cells #[.int .i64 kd] 3)).alloc (.cells #[.int .i64 m] 3)).alloc (.cells #[.int .i64 0,.int .i64 0] 70)).alloc (.cells #[.bool false] 4)) (w.heap.size+1) 3 #[.int .i64 kd]:=(((VA.newAt _ _ kS).alloc _).alloc _).alloc _
 have b2:VA ((((((w).alloc (.cells #[.slice A t.length c] 30)).alloc (.cells #[.int .i64 kd] 3)).alloc (.cells #[.int .i64 m] 3)).alloc (.cells #[.int .i64 0,.int .i64 0] 70)).alloc (.cells #[.bool false] 4)) (w.heap.size+1+1) 3 #[.int .i64 m]:=((VA.newAt _ _ kS).alloc _).alloc _
 have b3:VA ((((((w).alloc (.cells #[.slice A t.length c] 30)).alloc (.cells #[.int .i64 kd] 3)).alloc (.cells #[.int .i64 m] 3)).alloc (.cells #[.int .i64 0,.int .i64 0] 70)).alloc (.cells #[.bool false] 4)) (w.heap.size+1+1+1) 70 #[.int .i64 0,.int .i64 0]:=(VA.newAt _ _ kS).alloc _
 have b4:VA ((((((w).alloc (.cells #[.slice A t.length c] 30)).alloc (.cells #[.int .i64 kd] 3)).alloc (.cells #[.int .i64 m] 3)).alloc (.cells #[.int .i64 0,.int .i64 0] 70)).alloc (.cells #[.bool false] 4)) (w.heap.size+1+1+1+1) 4 #[.bool false]:=VA.newAt _ _ kS
 have bT:VA ((((((w).alloc (.cells #[.slice A t.length c] 30)).alloc (.cells #[.int .i64 kd] 3)).alloc (.cells #[.int .i64 m] 3)).alloc (.cells #[.int .i64 0,.int .i64 0] 70)).alloc (.cells #[.bool false] 4)) (w.heap.size) 30 #[.slice A t.length c]:=((((VA.new _ _ _).alloc _).alloc _).alloc _).alloc _
 generalize (((((w).alloc (.cells #[.slice A t.length c] 30)).alloc (.cells #[.int .i64 kd] 3)).alloc (.cells #[.int .i64 m] 3)).alloc (.cells #[.int .i64 0,.int .i64 0] 70)).alloc (.cells #[.bool false] 4)=W1 at *
 refine (HV.out _ hx1).mono ?_
 rintro e w2 ⟨rfl,VJ⟩
 replace hx1:=hx1.trans VJ
 replace b1:=b1.ext VJ
 replace b2:=b2.ext VJ
 replace b3:=b3.ext VJ
 replace b4:=b4.ext VJ
 replace bT:=bT.ext VJ
 clear VJ
 have f0:=b3.frozen 0
 have f1:=b3.frozen 1
 have f2:=b4.frozen 0
 have r0:w2.cell? ⟨w.heap.size+1+1+1,0,none⟩=some (.int .i64 0):=b3.cell (j:=0) rfl
 have r1:w2.cell? ⟨w.heap.size+1+1+1,1,none⟩=some (.int .i64 0):=b3.cell (j:=1) rfl
 have r2:w2.cell? ⟨w.heap.size+1+1+1+1,0,none⟩=some (.bool false):=b4.cell (j:=0) rfl
 have t0:w2.cell? ⟨w.heap.size,0,none⟩=some (.slice A t.length c):=bT.cell (j:=0) rfl
 cases hv:fD t
 ·have HF:=UA (show EB t kd m=(0,0) by unfold EB;rw[hv];rfl)
  clear hv
  gi_wp2_with fail
  obtain⟨Wr,xI⟩:∃Wr,((w2.setCell ⟨w.heap.size+1+1+1,0,none⟩ (Value.int .i64 0)).setCell ⟨w.heap.size+1+1+1,1,none⟩ (Value.int .i64 0)).setCell ⟨w.heap.size+1+1+1+1,0,none⟩ (Value.bool false)=Wr:=⟨_,rfl⟩
  rw[xI]
  have s1:VA Wr (w.heap.size+1+1+1) 70 #[.int .i64 0,.int .i64 0]:=by rw[←xI];exact kW1
  have s2:VA Wr (w.heap.size+1+1+1+1) 4 #[.bool false]:=by rw[←xI];exact kW1
  have sx:Ext w Wr:=by rw[←xI];exact kW1
  clear xI
  refine⟨.tuple #[IA (0,0),.bool false],by simp[results,Tryz.f80,go_sem,IA,s1.cell (j:=0) rfl,s1.cell (j:=1) rfl,s2.cell (j:=0) rfl],by rw[HF.out];rfl,sx⟩
 ·have HVL:=UA hv
  clear hv
  have N7:=hS.np
  gi_wp2_with (refine⟨trivial,?_⟩;gi_at_call 88;refine (callsIn_wide.2 (tI _ _)).mono ?_;rintro e w' ⟨rfl,rfl⟩)
  have bt:=VA.new w2 30 #[.slice A t.length c]
  have hM0:FdI t w kd m [] (w2.alloc (.cells #[.slice A t.length c] 30)):=⟨⟨⟨⟨⟨b1.alloc _,b2.alloc _⟩,b3.alloc _⟩,b4.alloc _⟩,hx1.alloc _⟩,rfl⟩
  have hwr:w.heap.size≤w2.heap.size:=hx1.size
  have lV:(w2.alloc (.cells #[.slice A t.length c] 30)).heap.size=w2.heap.size+1:=by simp
  generalize (w2.alloc (.cells #[.slice A t.length c] 30))=W0 at *
  have QP:Ext w W0:=hM0.1.2
  have hw0:w.heap.size≤W0.heap.size:=by omega
  clear lV f0 f1 f2 r0 r1 r2 t0
  refine wpIn_rangeFunc_ownH rfl oM (gf:=138) (lb:=#[.pointer (some ⟨w2.heap.size,0,none⟩)]) rfl trivial (mC Tryz.func138 kE rfl)
   (DG 8 oM w (.slice A t.length c) t w2.heap.size W0 N7 hS.ne hs QP (bt.cell rfl) hwr) belowK_t (belowK_b hw0) (Below.refl _ _) (fun _=>rfl)
   (fun pre W=>FdI t w kd m (pre.map (·.1)) W) (fun c pre W=>c=.ret∧FdX t w kd m (pre.map (·.1)) W) (bS t w kd m hw0) (fun c=>OwnFrom.and (ownFrom_pure _ _) (ZDG t w kd m hw0)) hM0
   (fun x a' W=>∃B6 B7 A4 n4 c4 v13 v14,(w.heap.size+1+1+1+1<B6∧w.heap.size+1+1+1+1<B7)∧VA W B6 70 #[.int .i64 x.1.1,.int .i64 x.1.2]∧VA W B7 68 #[.int .i64 (gA t x.1).kind,.int .i64 (gA t x.1).peer,.int .i64 (gA t x.1).msg,.int .i64 (gA t x.1).time,.slice A4 n4 c4] ∧
    a'={tmps:=#[.agg #[.slice A t.length c],.int .i64 kd,.int .i64 m,.pointer (some ⟨w.heap.size,0,none⟩),.pointer (some ⟨w.heap.size+1,0,none⟩),.pointer (some ⟨w.heap.size+1+1,0,none⟩),.pointer (some ⟨w.heap.size+1+1+1,0,none⟩),.pointer (some ⟨w.heap.size+1+1+1+1,0,none⟩),.pointer (some ⟨B6,0,none⟩),.pointer (some ⟨B7,0,none⟩),.agg #[.slice A t.length c],.bool true,.bool false,undef,.agg #[.slice A t.length c],.func (.func 138) #[] #[.pointer (some ⟨w2.heap.size,0,none⟩)],v13,v14,undef,undef,undef,undef,undef,undef,undef,undef,undef,undef,undef,undef],defers:=[]})
   ?hax ?assign ?body ?done ?stop
  case hax =>
   rintro x a' _ X Y row ⟨B6,B7,A4,n4,c4,v13,v14,hB,b6,b7,ha⟩ hg hr
   exact⟨B6,B7,A4,n4,c4,v13,v14,hB,uA B6 _ _ (fun (_:Unit)=>_) () X Y row b6 hg hr,uA B7 _ _ (fun (_:Unit)=>_) () X Y row b7 hg hr,ha⟩
  case assign =>
   rintro l pre x W K hI hK
   obtain⟨a,hv,hsa⟩:=GS hs x.2
   obtain⟨A4,c4,rfl,_,_,_⟩:=hsa.at_
   clear hsa
   simp only[hv]
   have hsW:=hI.1.2.size
   have h5:=hI.1.1.2.lt
   unfold IA
   gi_wp2
   exact hK _ _ (((KeepsOthers.alloc _ _).trans (KeepsOthers.alloc _ _)).from _) (((Below.refl _ W).alloc hsW _).alloc (by simp;omega) _) ((bS t w kd m (ai _)).alloc _ ((bS t w kd m (ai _)).alloc _ hI))
    ⟨W.heap.size,W.heap.size+1,A4,_,c4,_,_,⟨h5,by omega⟩,(VA.new _ _ _).alloc _,VA.newAt _ _ kS,rfl⟩
  case body =>
   rintro l pre x a' W hlW ⟨r,hr⟩ hI ⟨B6,B7,A4,n4,c4,v13,v14,⟨hB6,hB7⟩,b6,b7,rfl⟩ pC
   obtain⟨⟨⟨⟨⟨c1,c2⟩,c3⟩,c4'⟩,a9⟩,sO⟩:=hI
   have hsW:=a9.size
   have HNO:=UA sO
   have HKEY:=UA (show MD t kd m x.1=(((gA t x.1).kind==kd)&&((gA t x.1).msg==m)) from rfl)
   clear sO
   have k0:=b7.cell (j:=0) rfl
   have k1:=b7.cell (j:=1) rfl
   have k2:=b7.cell (j:=2) rfl
   have k3:=b7.cell (j:=3) rfl
   have k4:=b7.cell (j:=4) rfl
   have i0:=b6.cell (j:=0) rfl
   have i1:=b6.cell (j:=1) rfl
   have d1:=c1.cell (j:=0) rfl
   have d2:=c2.cell (j:=0) rfl
   have f0:=c3.frozen 0
   have f1:=c3.frozen 1
   have f2:=c4'.frozen 0
   have r0:=c3.cell (j:=0) rfl
   have r1:=c3.cell (j:=1) rfl
   have r2:=c4'.cell (j:=0) rfl
   have tO:∀b1 b2,((gA t x.1).kind==kd)=b1→((gA t x.1).msg==m)=b2→MD t kd m x.1=(b1&&b2):=fun b1 b2 h1 h2=>by rw[HKEY.out,h1,h2]
   have HKK:=UA tO
   clear tO
   have ZKV:∀y:Nat×Nat,y=x.1→MD t kd m x.1=false→(pre.map (·.1)++[y]).find? (MD t kd m)=none:=fun y hy h=>by
    rw[ez,HNO.out,hy];simp[h]
   have HIOK:=UA ZKV
   clear ZKV
   cases q1:(gA t x.1).kind==kd
   ·have HN:=UA (HIOK.out x.1 rfl (HKK.out _ _ q1 rfl))
    gi_wp2
    refine⟨KeepsFrom.refl _ _,Below.refl _ _,?_⟩
    show FdI t w kd m ((pre++[x]).map (·.1)) _
    rw[YG]
    exact⟨⟨⟨⟨⟨c1,c2⟩,c3⟩,c4'⟩,a9⟩,HN.out⟩
   ·cases q2:(gA t x.1).msg==m
    ·have HN:=UA (HIOK.out x.1 rfl (by rw[HKK.out _ _ q1 q2];rfl))
     gi_wp2
     refine⟨KeepsFrom.refl _ _,Below.refl _ _,?_⟩
     show FdI t w kd m ((pre++[x]).map (·.1)) _
     rw[YG]
     exact⟨⟨⟨⟨⟨c1,c2⟩,c3⟩,c4'⟩,a9⟩,HN.out⟩
    ·have HN:=UA (HKK.out _ _ q1 q2)
     gi_wp2
     refine⟨?_,rfl,pre.map (·.1),x.1,⟨⟨⟨YG pre x,HNO.out,HN.out⟩,?_⟩,?_⟩,?_⟩
     all_goals exact kW1
  case done =>
   rintro D ys W hD hys ⟨⟨⟨⟨⟨c1,c2⟩,c3⟩,c4⟩,a9⟩,sO⟩ hK
   rw[hys]at sO
   have HF:=UA (D4 sO)
   clear sO
   have f0:=c3.frozen 0
   have f1:=c3.frozen 1
   have f2:=c4.frozen 0
   have r0:=c3.cell (j:=0) rfl
   have r1:=c3.cell (j:=1) rfl
   have r2:=c4.cell (j:=0) rfl
   gi_wp2
   obtain⟨Wr,xI⟩:∃Wr,((W.setCell ⟨w.heap.size+1+1+1,0,none⟩ (Value.int .i64 0)).setCell ⟨w.heap.size+1+1+1,1,none⟩ (Value.int .i64 0)).setCell ⟨w.heap.size+1+1+1+1,0,none⟩ (Value.bool false)=Wr:=⟨_,rfl⟩
   rw[xI]
   have s1:VA Wr (w.heap.size+1+1+1) 70 #[.int .i64 0,.int .i64 0]:=by rw[←xI];exact kW1
   have s2:VA Wr (w.heap.size+1+1+1+1) 4 #[.bool false]:=by rw[←xI];exact kW1
   have sx:Ext w Wr:=by rw[←xI];exact kW1
   have hkf:KeepsFrom W0.heap.size W Wr:=by rw[←xI];exact kW1
   have zR:Wr.heap[D]? = some (.deferred (some [])):=hkf.same D _ hD hK rfl
   clear xI
   have e2:=(s1.putObj zR rfl (.deferred none)).cell (j:=0) rfl
   have e3:=(s1.putObj zR rfl (.deferred none)).cell (j:=1) rfl
   have e4:=(s2.putObj zR rfl (.deferred none)).cell (j:=0) rfl
   refine⟨by simp,.inl ⟨_,_,rfl,run_takeDeferred zR,?_⟩⟩
   refine⟨.tuple #[IA (0,0),.bool false],?_,by rw[HF.out];rfl,sx.putObj oM zR _⟩
   simp[results,Tryz.f80,go_sem,e2,e3,e4,IA]
  case stop =>
   rintro D c' pre W hD SK ⟨rfl,a,x,⟨⟨⟨hp,h0,hx⟩,r1W⟩,r2W⟩,a9⟩ hK
   rw[hp]at SK
   have HST:=UA (I4 HVL.out SK h0 hx)
   clear h0 hx
   gi_wp2
   have e2:=(r1W.putObj hK rfl (.deferred none)).cell (j:=0) rfl
   have e3:=(r1W.putObj hK rfl (.deferred none)).cell (j:=1) rfl
   have e4:=(r2W.putObj hK rfl (.deferred none)).cell (j:=0) rfl
   refine⟨by simp,.inl ⟨_,_,rfl,run_takeDeferred hK,?_⟩⟩
   refine⟨.tuple #[IA x,.bool true],?_,by rw[HST.out.1,ae HST.out.2],a9.putObj oM hK _⟩
   simp[results,Tryz.f80,go_sem,e2,e3,e4,IA]
theorem j6 (u:Value) (t:Tr) (m:Int) (w:World) (hS:Small t) (hs:SlR 3 RPr w u t) :
  Calls Tryz.prog 31 #[.agg #[u],.int .i64 m] w fun e w'=>s7 t 2 m w e w':=by
 have HF:=UA (fun w' (he:Ext w w')=>CZ u t 2 m w' hS (hs.ext RPr.keeps he))
 obtain⟨A,c,rfl,_,iM,_⟩:=hs.at_
 go_enter Tryz.func31,Tryz.ntmps31
 go_wp2_with fail
 have hx1:=((Ext.refl w).alloc (.cells #[.slice A t.length c] 30)).alloc (.cells #[.int .i64 0,.int .i64 0] 70)
 have b3:VA ((w.alloc (.cells #[.slice A t.length c] 30)).alloc (.cells #[.int .i64 0,.int .i64 0] 70)) (w.heap.size+1) 70 #[.int .i64 0,.int .i64 0]:=VA.newAt _ _ kS
 generalize (w.alloc (.cells #[.slice A t.length c] 30)).alloc (.cells #[.int .i64 0,.int .i64 0] 70)=W1 at *
 refine (HF.out _ hx1).mono ?_
 rintro e w2 ⟨rfl,VJ⟩
 have hx2:=hx1.trans VJ
 have b4:=b3.ext VJ
 have f0:=b4.frozen 0
 have f1:=b4.frozen 1
 have r0:=b4.cell (j:=0) rfl
 have r1:=b4.cell (j:=1) rfl
 unfold IA
 go_wp2
 obtain⟨Wr,xI⟩:∃Wr,(w2.setCell ⟨w.heap.size+1,0,none⟩ (Value.int .i64 (EB t 2 m).1)).setCell ⟨w.heap.size+1,1,none⟩ (Value.int .i64 (EB t 2 m).2)=Wr:=⟨_,rfl⟩
 rw[xI]
 have s1:VA Wr (w.heap.size+1) 70 #[.int .i64 (EB t 2 m).1,.int .i64 (EB t 2 m).2]:=by rw[←xI];exact kW1
 have sx:Ext w Wr:=by rw[←xI];exact kW1
 clear xI
 refine bodyPost_ret (v:=.tuple #[IA (EB t 2 m),.bool (decide (0<(EB t 2 m).2))]) ?_ rfl ⟨rfl,sx⟩
 simp[results,Tryz.f31,go_sem,IA,s1.cell (j:=0) rfl,s1.cell (j:=1) rfl]
theorem vW (u:Value) (t:Tr) (m:Int) (w:World) (hS:Small t) (hs:SlR 3 RPr w u t) :
  Calls Tryz.prog 158 #[.agg #[u],.int .i64 m] w fun e w'=>s7 t 3 m w e w':=by
 have HF:=UA (fun w' (he:Ext w w')=>CZ u t 3 m w' hS (hs.ext RPr.keeps he))
 obtain⟨A,c,rfl,_,iM,_⟩:=hs.at_
 go_enter Tryz.func158,Tryz.ntmps158
 go_wp2_with fail
 have hx1:=((Ext.refl w).alloc (.cells #[.slice A t.length c] 30)).alloc (.cells #[.int .i64 0,.int .i64 0] 70)
 have b3:VA ((w.alloc (.cells #[.slice A t.length c] 30)).alloc (.cells #[.int .i64 0,.int .i64 0] 70)) (w.heap.size+1) 70 #[.int .i64 0,.int .i64 0]:=VA.newAt _ _ kS
 generalize (w.alloc (.cells #[.slice A t.length c] 30)).alloc (.cells #[.int .i64 0,.int .i64 0] 70)=W1 at *
 refine (HF.out _ hx1).mono ?_
 rintro e w2 ⟨rfl,VJ⟩
 have hx2:=hx1.trans VJ
 have b4:=b3.ext VJ
 have f0:=b4.frozen 0
 have f1:=b4.frozen 1
 have r0:=b4.cell (j:=0) rfl
 have r1:=b4.cell (j:=1) rfl
 unfold IA
 go_wp2
 obtain⟨Wr,xI⟩:∃Wr,(w2.setCell ⟨w.heap.size+1,0,none⟩ (Value.int .i64 (EB t 3 m).1)).setCell ⟨w.heap.size+1,1,none⟩ (Value.int .i64 (EB t 3 m).2)=Wr:=⟨_,rfl⟩
 rw[xI]
 have s1:VA Wr (w.heap.size+1) 70 #[.int .i64 (EB t 3 m).1,.int .i64 (EB t 3 m).2]:=by rw[←xI];exact kW1
 have sx:Ext w Wr:=by rw[←xI];exact kW1
 clear xI
 refine bodyPost_ret (v:=.tuple #[IA (EB t 3 m),.bool (decide (0<(EB t 3 m).2))]) ?_ rfl ⟨rfl,sx⟩
 simp[results,Tryz.f158,go_sem,IA,s1.cell (j:=0) rfl,s1.cell (j:=1) rfl]

def CtI (t:Tr) (w:World) (gc:Nat) (l:List (Nat×Nat)) (W:World):Prop:=(VA W gc 3 #[.int .i64 l.length]∧Ext w W)
theorem ZDN (t:Tr) (w:World) (gc:Nat) {n:Nat} (hn:w.heap.size≤n):OwnFrom n (fun (pre:List (Idt t)) W=>CtI t w gc (pre.map (·.1)) W):=
 OwnFrom.and (uA _ _ _ _) (PG hn)
theorem ZBP (u:Value) (t:Tr) (w:World) (hS:Small t) (hN:(ids t).length≤1000000) (hs:SlR 3 RPr w u t) :
  Calls Tryz.prog 39 #[.agg #[u]] w fun e w'=>e=.returned (.int .i64 (sM t))∧Ext w w':=by
 have HV:=UA (fun w' (he:Ext w w')=>callsIn_wide (n:=8).2 (BO u t w' hS.sm (hs.ext RPr.keeps he)))
 refine callsIn_wide (n:=9).1 ?_
 refine callsIn_of_wp_marks Tryz.func39 rfl trivial ?_ rfl
 simp only[Tryz.ntmps39,dq,ee,fh,Nat.reduceAdd,Nat.reduceSub,ib,ic,ie,ig,dw,da]
 obtain⟨A,c,rfl,_,iM,_⟩:=hs.at_
 gi_wp2_with fail
 refine⟨trivial,?_⟩
 have hx1:Ext w (w.alloc (.cells #[.slice A t.length c] 30)):=(Ext.refl w).alloc _
 have bT:VA (w.alloc (.cells #[.slice A t.length c] 30)) (w.heap.size) 30 #[.slice A t.length c]:=VA.new _ _ _
 generalize w.alloc (.cells #[.slice A t.length c] 30)=W1 at *
 refine (HV.out _ hx1).mono ?_
 rintro e w2 ⟨rfl,VJ⟩
 replace hx1:=hx1.trans VJ
 replace bT:=bT.ext VJ
 clear VJ
 have t0:w2.cell? ⟨w.heap.size,0,none⟩=some (.slice A t.length c):=bT.cell (j:=0) rfl
 have lt0:=bT.lt
 cases hv:fD t
 ·have HF:=UA (show sM t=0 by unfold sM;rw[hv];rfl)
  clear hv
  gi_wp2_with fail
  exact⟨.int .i64 0,by simp[results,Tryz.f39,go_sem],by rw[HF.out];rfl,hx1⟩
 ·have HVL:=UA (show sM t=(ids t).length by unfold sM;rw[hv];rfl)
  clear hv
  have N7:=hS.np
  gi_wp2_with (refine⟨trivial,?_⟩;gi_at_call 88;refine (callsIn_wide.2 (tI _ _)).mono ?_;rintro e w' ⟨rfl,rfl⟩)
  have bt:VA ((w2.alloc (.cells #[.int .i64 0] 3)).alloc (.cells #[.slice A t.length c] 30)) (w2.heap.size+1) 30 #[.slice A t.length c]:=VA.newAt _ _ kS
  have hM0:CtI t w w2.heap.size [] ((w2.alloc (.cells #[.int .i64 0] 3)).alloc (.cells #[.slice A t.length c] 30)):=⟨(VA.new _ _ _).alloc _,(hx1.alloc _).alloc _⟩
  have hwr:w.heap.size≤w2.heap.size:=hx1.size
  have lV:((w2.alloc (.cells #[.int .i64 0] 3)).alloc (.cells #[.slice A t.length c] 30)).heap.size=w2.heap.size+1+1:=by simp
  generalize ((w2.alloc (.cells #[.int .i64 0] 3)).alloc (.cells #[.slice A t.length c] 30))=W0 at *
  have QP:Ext w W0:=hM0.2
  have hw0:w.heap.size≤W0.heap.size:=by omega
  clear lV t0 lt0 hx1 bT
  generalize w2.heap.size=gc at *
  refine wpIn_rangeFunc_ownH rfl oM (gf:=138) (lb:=#[.pointer (some ⟨gc+1,0,none⟩)]) rfl trivial (mC Tryz.func138 kE rfl)
   (DG 8 oM w (.slice A t.length c) t (gc+1) W0 N7 hS.ne hs QP (bt.cell rfl) oM) belowK_t (belowK_b hw0) (Below.refl _ _) (fun _=>rfl)
   (fun pre W=>CtI t w gc (pre.map (·.1)) W) (fun c pre W=>False) (ZDN t w gc hw0) (fun c=>ownFrom_pure _ _) hM0
   (fun x a' W=>∃v13 v14,
    a'={tmps:=#[.agg #[.slice A t.length c],.pointer (some ⟨w.heap.size,0,none⟩),.int .i64 0,.pointer (some ⟨gc,0,none⟩),.agg #[.slice A t.length c],.bool true,.bool false,.agg #[.slice A t.length c],.func (.func 138) #[] #[.pointer (some ⟨gc+1,0,none⟩)],v13,v14,undef,undef,undef],defers:=[]})
   ?hax ?assign ?body ?done ?stop
  case hax =>
   rintro x a' _ X Y row ⟨v13,v14,ha⟩ hg hr
   exact⟨v13,v14,ha⟩
  case assign =>
   rintro l pre x W K hI hK
   gi_wp2
   exact hK _ _ (KeepsFrom.refl _ _) (Below.refl _ _) hI ⟨IA x.1,DT w (.slice A t.length c) x.1,by simp⟩
  case body =>
   rintro l pre x a' W hlW ⟨r,hr⟩ hI ⟨v13,v14,rfl⟩ pC
   obtain⟨c1,a9⟩:=hI
   have hsW:=a9.size
   have d0:W.cell? ⟨gc,0,none⟩=some (.int .i64 ((pre.length:Nat):Int)):=by rw[c1.cell (j:=0) rfl];simp
   have f0:=c1.frozen 0
   have iV:pre.length<1000000:=by omega
   have ZM0:=(H9 pre.length 1 1 rfl oM).1
   have HGC:=UA hwr
   gi_wp2
   refine⟨KF.set (KeepsFrom.refl _ _) _ _,BL.set (Below.refl _ _) _ _ _ hwr,?_⟩
   show CtI t w gc ((pre++[x]).map (·.1)) _
   refine⟨?_,Ext.set a9 hwr _⟩
   rw[show (((pre++[x]).map (·.1)).length:Int)=(pre.length:Int)+1 by simp]
   exact VA.set1 c1
  case done =>
   rintro D ys W hD hys ⟨c1,a9⟩ hK
   rw[hys]at c1
   have d0:W.cell? ⟨gc,0,none⟩=some (.int .i64 ((ids t).length:Nat)):=c1.cell (j:=0) rfl
   gi_wp2
   refine⟨by simp,.inl ⟨_,_,rfl,run_takeDeferred hK,?_⟩⟩
   refine⟨.int .i64 ((ids t).length:Nat),?_,by rw[HVL.out],a9.putObj oM hK _⟩
   simp[results,Tryz.f39,go_sem]
  case stop=>rintro D c' pre W hD SK h;exact h.elim
end Go.Proofs.YtmaokjojbjdpoaaGreatDoor
namespace Go.Proofs.YtmaokjojbjdpoaaGreatDoor
set_option linter.unusedVariables false

structure Vok (t:Tr):Prop where
 lo:1≤t.length
 hi:t.length≤8
 head:∀p,p<t.length→SC t p=0
 form:∀x∈ids t,lC t x=0
 pair:∀x∈ids t,ZD t x=0
 acyc:∀x∈ids t,¬Hb t x x
theorem vok {t:Tr} (h:fD t=true):Vok t:=by
 unfold fD eE at h
 split at h
 ·simp at h
 rename_i hl
 split at h
 ·rename_i p hp
  have:=fx hp
  simp at h this;exact absurd h this
 rename_i h1
 split at h
 ·rename_i p hp
  have:=fx hp
  simp at h this;exact absurd h this
 rename_i h2
 split at h
 ·rename_i p hp
  have:=fx hp
  simp at h this;exact absurd h this
 rename_i h3
 split at h
 ·simp at h
 rename_i h4
 rw[cw]at h1 h2 h3 h4
 refine⟨by omega,by omega,fun p hp=>?_,fun x hx=>?_,fun x hx=>?_,fun x hx=>?_⟩
 ·simpa using h1 p (ba.2 hp)
 ·simpa using h2 x hx
 ·simpa using h3 x hx
 ·simpa using h4 x hx
theorem Vok.paired {t:Tr} (h:Vok t):Paired t:=⟨fun x hx=>zK (h.form x hx),h.pair⟩
theorem aE {t:Tr} {p:Nat} (h:p<t.length):iA t p=t[p].evs:=by unfold iA;simp[List.getD,h]
theorem KE {t:Tr} {p i:Nat}:(p,i+1)∈ids t↔p<t.length∧i<(iA t p).length:=by
 rw[TC]
 constructor
 ·rintro⟨hp,_,h⟩
  have h:i+1≤t[p].evs.length:=h
  exact⟨hp,by rw[aE hp];omega⟩
 ·rintro⟨hp,h⟩;rw[aE hp]at h;exact⟨hp,by simp,(show i+1≤t[p].evs.length by omega)⟩

theorem Hb.trans {t:Tr} {x y z:Nat×Nat} (h:Hb t x y) (k:Hb t y z):Hb t x z:=by
 induction k with
 |one h2=>exact .more h h2
 |more _ h2 ih=>exact .more ih h2
def Le (t:Tr) (x y:Nat×Nat):Prop:=x=y∨Hb t x y
theorem Le.refl {t:Tr} (x:Nat×Nat):Le t x x:=.inl rfl
theorem Le.hb {t:Tr} {x y z:Nat×Nat} (h:Le t x y) (k:Hb t y z):Hb t x z:=by
 rcases h with rfl|h
 ·exact k
 ·exact h.trans k
theorem Le.trans {t:Tr} {x y z:Nat×Nat} (h:Le t x y) (k:Le t y z):Le t x z:=by
 rcases k with rfl|k
 ·exact h
 ·exact .inr (h.hb k)
theorem ZDz {t:Tr} {p i:Nat}:∀{j:Nat},i<j→j≤(iA t p).length→Hb t (p,i) (p,j)
 |0,h,_=>by omega
 |j+1,h,hl=>by
   have d:Dir t (p,j) (p,j+1):=.inl ⟨rfl,hl⟩
   by_cases hj:i=j
   ·subst hj;exact .one d
   ·exact .more (ZDz (show i<j by omega) oM) d
theorem Z7 {t:Tr} {p i j:Nat} (h:i≤j) (hl:j≤(iA t p).length):Le t (p,i) (p,j):=by
 by_cases hj:i=j
 ·exact .inl (by rw[hj])
 ·exact .inr (ZDz oM hl)

noncomputable def leB (t:Tr) (x y:Nat×Nat):Bool:=@decide (Le t x y) (Classical.propDecidable _)
theorem JO {t:Tr} {x y:Nat×Nat}:leB t x y=true↔Le t x y:=by unfold leB;exact @decide_eq_true_iff _ (Classical.propDecidable _)
noncomputable def vc (t:Tr) (x:Nat×Nat) (q:Nat):Nat:=(List.range (iA t q).length).countP fun i=>leB t (q,i+1) x
theorem YS {P:Nat→Bool}:∀{n:Nat},(∀i j,i<n→j≤i→P i=true→P j=true)→∀i,i<n→(P i=true↔i<(List.range n).countP P)
 |0,_,i,hi=>by omega
 |n+1,h,i,hi=>by
   have ih:=YS (P:=P) (n:=n) (fun i j hi hj hp=>h i j oM hj hp)
   have CJ:=List.countP_le_length (p:=P) (l:=List.range n)
   rw[ji]at CJ
   rw[fq,List.countP_append,List.countP_singleton]
   by_cases hn:P n=true
   ·have all:∀j,j<n→P j=true:=fun j hj=>h n j oM oM hn
    have hc:(List.range n).countP P=n:=by
     rcases bj ((List.range n).countP P) n with yA|xH
     ·have:=(ih _ yA).1 (all _ yA);omega
     ·omega
    rw[if_pos hn,hc]
    constructor
    ·intro _;omega
    ·intro _
     rcases bj i n with yA|xH
     ·exact all i yA
     ·have:i=n:=by omega
      subst this;exact hn
   ·rw[if_neg hn]
    rcases bj i n with yA|xH
    ·exact ih i yA
    ·have:i=n:=by omega
     subst this
     constructor
     ·intro hp;exact absurd hp hn
     ·intro hp;omega
theorem ZHl {t:Tr} {x:Nat×Nat} {q i:Nat} (h:i<(iA t q).length):Le t (q,i+1) x↔i<vc t x q:=by
 have:=YS (P:=fun i=>leB t (q,i+1) x) (n:=(iA t q).length) (fun i j hi hj hp=>by
  rw[JO]at hp⊢
  exact (Z7 oM oM).trans hp) i h
 rw[←JO]
 exact this
theorem vc_le {t:Tr} {x:Nat×Nat} {q:Nat}:vc t x q≤(iA t q).length:=by
 have:=List.countP_le_length (p:=fun i=>leB t (q,i+1) x) (l:=List.range (iA t q).length)
 rwa [ji]at this
theorem ZHv {a b n:Nat} (ha:a≤n) (hb:b≤n) (h:∀j,j<n→(j<a↔j<b)):a=b:=by
 rcases lq a b with hl|hl|hl
 ·have:=(h a oM).2 hl;omega
 ·exact hl
 ·have:=(h b oM).1 hl;omega
theorem ZFw {t:Tr} (hv:Vok t) {x w:Nat×Nat} (hx:x∈ids t) (hw:w∈ids t):Le t w x↔w=x∨∃y∈JE t x,Le t w y:=by
 constructor
 ·rintro (h|h)
  ·exact .inl h
  ·obtain⟨y,h1,h2⟩:=h.back
   refine .inr ⟨y,?_,?_⟩
   ·refine (jH hv.paired hx).2 ⟨?_,h1⟩
    rcases h2 with rfl|h2
    ·exact hw
    ·exact h2.mem hw
   ·rcases h2 with rfl|h2
    ·exact .inl rfl
    ·exact .inr h2
 ·rintro (h|⟨y,h1,h2⟩)
  ·exact .inl h
  ·exact .inr (h2.hb (.one ((jH hv.paired hx).1 h1).2))
theorem J0 {t:Tr} (hv:Vok t) {x y:Nat×Nat} (hx:x∈ids t) (hy:y∈JE t x):y∈ids t∧Hb t y x:=by
 obtain⟨h1,h2⟩:=(jH hv.paired hx).1 hy
 exact⟨h1,.one h2⟩
noncomputable def sndr (t:Tr) (x:Nat×Nat):Nat×Nat:=DB t 2 (gA t x).msg
noncomputable def rk (t:Tr) (x:Nat×Nat):Nat:=(ids t).countP fun z=>leB t z x
theorem AU {α:Type} {P Q:α→Bool}:∀{l:List α} {a:α},(∀x∈l,P x=true→Q x=true)→a∈l→P a=false→Q a=true→l.countP P<l.countP Q
 |[],a,_,h,_,_=>by simp at h
 |y::l,a,h,ha,h1,h2=>by
   have CJ:l.countP P≤l.countP Q:=List.countP_mono_left (fun x hx hp=>h x (by simp[hx]) hp)
   rw[List.countP_cons,List.countP_cons]
   rcases cu.1 ha with rfl|ha
   ·rw[h1,h2];simp;omega
   ·have ih:=AU (fun x hx=>h x (by simp[hx])) ha h1 h2
    have hy:=h y kS
    cases hP:P y
    ·simp;omega
    ·rw[hy hP];simp;omega
theorem rk_lt {t:Tr} (hv:Vok t) {x y:Nat×Nat} (hy:y∈ids t) (h:Hb t x y):rk t x<rk t y:=by
 unfold rk
 refine AU (a:=y) (fun z _ hz=>?_) hy ?_ (JO.2 (.refl y))
 ·rw[JO]at hz⊢;exact .inr (hz.hb h)
 ·rw[Bool.eq_false_iff]
  intro hz
  exact hv.acyc y hy ((JO.1 hz).hb h)
end Go.Proofs.YtmaokjojbjdpoaaGreatDoor
