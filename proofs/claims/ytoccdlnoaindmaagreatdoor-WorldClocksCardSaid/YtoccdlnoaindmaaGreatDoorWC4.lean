/- Texts of one proof, laid together: VL, Y, V, RI, RD, OM, KP, PP, OA, RQ, FD, CT. No condition. -/
import Derived.Test.YtoccdlnoaindmaaGreatDoorWC10
import Derived.Test.YtoccdlnoaindmaaGreatDoorWC3
import Derived.KernelRfl
import Derived.Laws.MakeOwn
set_option maxHeartbeats 4000000
set_option maxRecDepth 100000
namespace Go.Proofs.YtoccdlnoaindmaaGreatDoor
set_option linter.unusedVariables false
set_option linter.unusedSimpArgs false

theorem ZF {α:Type} {l:List α} {i:Nat} {d:α} (h:i<l.length):l.getD i d=l[i]:=by simp[List.getD,h]
theorem ZKH {v w:List Int} (h:v.length=w.length) (hg:∀i,i<v.length→v.getD i 0=w.getD i 0):v=w:=by
 refine List.ext_getElem h (fun i h1 h2=>?_)
 have:=hg i h1
 rwa [ZF h1,ZF h2]at this
theorem getD_set_ne {α:Type} {l:List α} {i j:Nat} {x d:α} (h:i≠j):(l.set i x).getD j d=l.getD j d:=by
 simp only[List.getD_eq_getElem?_getD,List.getElem?_set_ne h]
end Go.Proofs.YtoccdlnoaindmaaGreatDoor
namespace Go.Proofs.YtoccdlnoaindmaaGreatDoor
open Go.RowKit
set_option linter.unusedVariables false
attribute [local go_sem] Oper.semAt_some

def YI (t:Tr) (w:World) (u:Value) (bL:Nat) (l:List (Nat×Nat)) (W:World):Prop:=
 (((((ZG W w.heap.size 36 #[u]∧ZG W (w.heap.size+1) 143 #[.pointer (some ⟨bL,0,none⟩)])∧ZG W (w.heap.size+1+1) 81 #[.int .i64 0,.int .i64 0])∧ZG W (w.heap.size+1+1+1) 4 #[.bool false])∧Ext w W)∧∀x∈l,¬Hb t x x)
def YX (t:Tr) (w:World) (l:List (Nat×Nat)) (W:World):Prop:=
 ∃a x,(((l=a++[x]∧(∀y∈a,¬Hb t y y)∧Hb t x x)∧ZG W (w.heap.size+1+1) 81 #[.int .i64 x.1,.int .i64 x.2])∧ZG W (w.heap.size+1+1+1) 4 #[.bool true])∧Ext w W
open Classical in
noncomputable def J1 (t:Tr):Option (Nat×Nat):=(ids t).find? (fun x=>decide (Hb t x x))
def YPost (t:Tr) (w:World) (e:Ending) (w':World):Prop:=Ext w w' ∧
 ((∃x,J1 t=some x∧e=.returned (.tuple #[Zo x,.bool true]))∨(J1 t=none∧e=.returned (.tuple #[Zo (0,0),.bool false])))
theorem ZG1 (t:Tr) (w:World) (u:Value) (bL:Nat) {n:Nat} (hn:w.heap.size≤n):OwnFrom n (fun (pre:List (Idt t)) W=>YI t w u bL (pre.map (·.1)) W):=
 OwnFrom.and (OwnFrom.and (OwnFrom.and (OwnFrom.and (OwnFrom.and (ZJ _ _ _ _) (ZJ _ _ _ _)) (ZJ _ _ _ _)) (ZJ _ _ _ _)) (Yx hn)) (ownFrom_pure _ _)
theorem ZLD (t:Tr) (w:World) {n:Nat} (hn:w.heap.size≤n):OwnFrom n (fun (pre:List (Idt t)) W=>YX t w (pre.map (·.1)) W):=by
 rintro s X Y row ⟨a,x,h⟩ hg hr
 refine⟨a,x,⟨⟨h.1.1.1,?_⟩,?_⟩,Yx hn () X Y row h.2 hg hr⟩
 ·exact ZJ _ n _ (fun (_:Unit)=>_) () X Y row h.1.1.2 hg hr
 ·exact ZJ _ n _ (fun (_:Unit)=>_) () X Y row h.1.2 hg hr
theorem ZMB {t:Tr} (h:∀x∈ids t,¬Hb t x x):J1 t=none:=by
 unfold J1
 rw[List.find?_eq_none]
 intro x hx;simpa using h x hx
open Classical in
theorem ZMA {t:Tr} {a:List (Nat×Nat)} {x:Nat×Nat} (hp:a++[x] <+: ids t) (ha:∀y∈a,¬Hb t y y) (hx:Hb t x x):J1 t=some x:=by
 obtain⟨c,hc⟩:=hp
 unfold J1
 rw[←hc,List.append_assoc,List.find?_append]
 have:a.find? (fun x=>decide (Hb t x x))=none:=by
  rw[List.find?_eq_none]
  intro y hy;simpa using ha y hy
 rw[this]
 simp[hx]
def ZD3 (w:World) (r:Nat):Nat:=match w.heap[r]? with|some (.map es _)=>es.size|_=>0
theorem KH.size {w:World} {r:Nat} {S:List (Nat×Nat)} (h:KH w r S):ZD3 w r=S.length:=by
 obtain⟨es,clock,hb,hS⟩:=h
 unfold ZD3
 rw[hb]
 have:=congrArg List.length hS
 simpa using this
def lenV:Value→Nat|.slice _ n _=>n|_=>0
def SrI (t:Tr) (id:Nat×Nat) (W:World) (r:Nat) (v:Value) (wr:World):Prop:=∃S R,DfsI t id S R∧KH wr r S∧X5 wr W.heap.size v R∧Ext W wr∧2*((ids t).length-S.length)+R.length≤2*(ids t).length+1
def SrJ (t:Tr) (id x:Nat×Nat) (W:World) (r N:Nat) (v2 i v:Value) (wr:World):Prop:=∃S R k,DfsJ t id x S R k∧k≤(Uf t x).length∧i=.int .i64 k∧KH wr r S∧X5 wr W.heap.size v R∧Ext W wr∧2*((ids t).length-S.length)+R.length≤N∧X5 wr 0 v2 (Uf t x)∧(∀k,v.ownBlock=some k→v2.ownBlock≠some k)
theorem snoc_cases {α:Type} (l:List α):l=[]∨∃L b,l=L++[b]:=by
 rcases List.eq_nil_or_concat l with h|⟨L,b,h⟩
 ·exact .inl h
 ·exact .inr ⟨L,b,by rw[h,List.concat_eq_append]⟩
theorem ZJx {l:List (Nat×Nat)}:∀{k:Nat} {z:Nat×Nat},l[k]? = some z→(ZAk l)[k*2]? = some (.int .i64 z.1)∧(ZAk l)[k*2+1]? = some (.int .i64 z.2):=by
 induction l with
 |nil=>intro k z h;simp at h
 |cons a l ih =>
   intro k z h
   have e:ZAk (a::l)=(.int .i64 a.1)::(.int .i64 a.2)::ZAk l:=rfl
   rw[e]
   cases k with
   |zero=>simp at h;subst h;simp
   |succ k =>
     have:=ih (k:=k) (z:=z) (by simpa using h)
     rw[show (k+1)*2=k*2+1+1 by omega]
     simpa using this
theorem X5.at_ {w:World} {B:Nat} {v:Value} {l:List (Nat×Nat)} (h:X5 w B v l) (h0:0<l.length):∃g off cap,v=.slice (some ⟨g,off,none⟩) l.length cap∧l.length≤cap∧cap≤maxLen∧B≤g∧g<w.heap.size ∧
  ∀(k:Nat) (z:Nat×Nat),l[k]? = some z→w.cell? ⟨g,off+k*2,none⟩=some (.int .i64 z.1)∧w.cell? ⟨g,off+k*2+1,none⟩=some (.int .i64 z.2):=by
 obtain⟨g,off,cap,cur,rfl,h1,h2,h3,h4,h5,h6⟩:=Ql.open_ h h0
 refine⟨g,off,cap,rfl,h3,h4,h1,h2.lt,fun k z hk=>?_⟩
 obtain⟨a,b⟩:=ZJx hk
 exact⟨h2.cell (h6 _ _ a),h2.cell (h6 _ _ b)⟩
theorem X5.pop {w:World} {B:Nat} {A:Option Addr} {c n:Nat} {l:List (Nat×Nat)} {y:Nat×Nat} (h:X5 w B (.slice A n c) (l++[y])):X5 w B (.slice A l.length c) l:=by
 obtain⟨A',c',hv,_⟩:=Ql.form h
 injection hv with e1 e2 e3
 subst e1;subst e2;subst e3
 have:=Ql.take h l.length (by simp)
 have e:(ZAk (l++[y])).take (l.length*2)=ZAk l:=by
  rw[show ZAk (l++[y])=ZAk l++ZAk [y] by simp[ZAk],List.take_left' (ZJw l)]
 rw[e]at this
 exact this

theorem ZFj (u:Value) (t:Tr) (bL:Nat) (cs:Array Value) (w:World) (hl:t.length≤1000000) (hle:∀x∈t,x.evs.length≤1000000) (hN:(ids t).length≤1000000) (hs:SlR 3 RPr w u t) (hform:∀x∈ids t,QN t.length x.1 (Zm t x)=true)
  (hL:ZG w bL 187 cs) (hA:ZDC t (ids t) cs) :
  Calls Tryz.prog 146 #[.agg #[u],.pointer (some ⟨bL,0,none⟩)] w fun e w'=>YPost t w e w':=by
 refine callsIn_wide (n:=9).1 ?_
 refine callsIn_of_wp_marks Tryz.func146 rfl trivial ?_ rfl
 simp only[Tryz.ntmps146,List.size_toArray,List.length_cons,List.length_nil,Nat.reduceAdd,Nat.reduceSub,Array.replicate_succ,Array.replicate_zero,List.push_toArray,List.append_toArray,List.nil_append,List.cons_append]
 gi_wp2_with (refine⟨trivial,?_⟩;gi_at_call 101;refine (callsIn_wide.2 (Jb _ _)).mono ?_;rintro e w' ⟨rfl,rfl⟩)
 obtain⟨W0,hW0⟩:∃W0,(((((w.alloc (Obj.cells #[u] 36)).alloc (Obj.cells #[Value.pointer (some ⟨bL,0,none⟩)] 143)).alloc (Obj.cells #[Value.int IntKind.i64 0,Value.int IntKind.i64 0] 81)).alloc (Obj.cells #[Value.bool false] 4)).alloc (Obj.cells #[u] 36))=W0:=⟨_,rfl⟩
 rw[hW0]
 have hsz:W0.heap.size=w.heap.size+1+1+1+1+1:=by rw[←hW0];simp
 have hM0:YI t w u bL [] W0:=by
  rw[←hW0]
  refine⟨⟨⟨⟨⟨?_,?_⟩,?_⟩,?_⟩,?_⟩,fun x hx=>by cases hx⟩
  ·exact ((((ZG.newAt _ _ (by simp)).alloc _).alloc _).alloc _).alloc _
  ·exact (((ZG.newAt _ _ (by simp)).alloc _).alloc _).alloc _
  ·exact ((ZG.newAt _ _ (by simp)).alloc _).alloc _
  ·exact (ZG.newAt _ _ (by simp)).alloc _
  ·exact (((((Ext.refl w).alloc _).alloc _).alloc _).alloc _).alloc _
 have bt:ZG W0 (w.heap.size+1+1+1+1) 36 #[u]:=by rw[←hW0];exact ZG.newAt _ _ (by simp)
 clear hW0
 have hext0:Ext w W0:=hM0.1.2
 refine wpIn_rangeFunc_ownH rfl oM (gf:=148) (lb:=#[.pointer (some ⟨w.heap.size+1+1+1+1,0,none⟩)]) rfl trivial (QV Tryz.func148 (by decide) rfl)
  (Yg 8 oM w u t (w.heap.size+1+1+1+1) W0 hl hle hs hext0 (bt.cell rfl) oM) belowK_t (belowK_b oM) (Below.refl _ _) (fun _=>rfl)
  (fun pre W=>YI t w u bL (pre.map (·.1)) W) (fun c pre W=>c=.ret∧YX t w (pre.map (·.1)) W) (ZG1 t w u bL oM) (fun c=>OwnFrom.and (ownFrom_pure _ _) (ZLD t w oM)) hM0
  (fun x a' W=>∃B6 v14 v15,w.heap.size+1+1+1<B6∧ZG W B6 81 #[.int .i64 x.1.1,.int .i64 x.1.2] ∧
   a'={tmps:=#[.agg #[u],.pointer (some ⟨bL,0,none⟩),.pointer (some ⟨w.heap.size,0,none⟩),.pointer (some ⟨w.heap.size+1,0,none⟩),.pointer (some ⟨w.heap.size+1+1,0,none⟩),.pointer (some ⟨w.heap.size+1+1+1,0,none⟩),.pointer (some ⟨B6,0,none⟩),undef,undef,undef,undef,undef,.agg #[u],.func (.func 148) #[] #[.pointer (some ⟨w.heap.size+1+1+1+1,0,none⟩)],v14,v15,undef,undef,undef,undef,undef,undef,undef,undef,undef,undef,undef,undef,undef,undef,undef,undef,undef,undef,undef,undef,undef,undef,undef,undef,undef,undef,undef,undef,undef,undef,undef,undef,undef,undef,undef,undef,undef,undef,undef,undef,undef,undef],defers:=[]})
  ?hax ?assign ?body ?done ?stop
 case hax =>
  rintro x a' _ X Y row ⟨B6,v14,v15,hB,b6,ha⟩ hg hr
  exact⟨B6,v14,v15,hB,ZJ B6 _ _ (fun (_:Unit)=>_) () X Y row b6 hg hr,ha⟩
 case assign =>
  rintro l pre x W K hI hK
  have hsW:=hI.1.2.size
  have h5:=hI.1.1.2.lt
  unfold Zo
  gi_wp2
  exact hK _ _ ((KeepsOthers.alloc _ _).from _) ((Below.refl _ W).alloc hsW _) ((ZG1 t w u bL (Nat.le_refl _)).alloc _ hI) ⟨W.heap.size,_,_,h5,ZG.new _ _ _,rfl⟩
 case body =>
  rintro l pre x a' W hlW ⟨r,hr⟩ hI ⟨B6,v14,v15,hB,b6,rfl⟩ hlen
  have hI0:=hI
  obtain⟨⟨⟨⟨⟨tb,lb⟩,r1⟩,r2⟩,hx0⟩,hno⟩:=hI
  have hsW:=hx0.size
  have hB6:=b6.lt
  have t3:=r2.lt
  have HNO:=ZU hno
  clear hno
  have i0:=b6.cell (j:=0) rfl
  have i1:=b6.cell (j:=1) rfl
  have hmm:=@run_makeMap Tryz.prog
  gi_wp2
  clear hmm i0 i1
  gi_loopw [8] (fun v wr=>SrI t x.1 W W.heap.size v wr) (fun v wr=>2*((ids t).length-ZD3 wr W.heap.size)+lenV v)
  case atStart =>
   refine⟨[],[x.1],DfsI.start t x.1,(KH.new W).alloc _,?_,((Ext.refl W).alloc _).alloc _,by simp⟩
   exact Ql.madeAt (by simp) #[.int .i64 x.1.1,.int .i64 x.1.2] (by simp) (by simp[maxLen]) rfl
  case round =>
   obtain⟨Sn,R,hD,hm,ho,hx,hbd⟩:=hrel
   have HM:=ZU hm
   have HO:=ZU ho
   have HD:=ZU hD
   have tb1:=tb.ext hx
   have lb1:=lb.ext hx
   have b61:=b6.ext hx
   have lt1:=tb1.lt
   have lt2:=lb1.lt
   have lt3:=b61.lt
   have t0:=tb1.cell (j:=0) rfl
   have l0:=lb1.cell (j:=0) rfl
   have i0:=b61.cell (j:=0) rfl
   have i1:=b61.cell (j:=1) rfl
   rcases snoc_cases R with rfl|⟨R',y,rfl⟩
   ·obtain⟨A,c,rfl,_,_⟩:=ho.form
    clear hm ho hD
    gi_wp2
    refine⟨KF.ext (KeepsFrom.refl _ _) hx,BL.ext (Below.refl _ _) hx hsW,?_⟩
    show YI t w u bL ((pre++[x]).map (·.1)) _
    rw[Yb]
    refine⟨⟨⟨⟨⟨tb1,lb1⟩,r1.ext hx⟩,r2.ext hx⟩,hx0.trans hx⟩,fun z hz=>?_⟩
    rcases List.mem_append.1 hz with h1|h1
    ·exact HNO.out z h1
    ·rw[show z=x.1 by simpa using h1];exact HD.out.no
   ·obtain⟨g,off,cap,rfl,hg1,hg2,hg3,hg4,hg5⟩:=ho.at_ (by simp)
    have hop:=ZU (X5.pop ho)
    obtain⟨c0,c1⟩:=hg5 R'.length y (by simp)
    rw[List.length_append,List.length_singleton]at hg1
    have hJ:=ZU hD.pop
    have hy:=hJ.out.mem x.2
    have hw1:=Zl c0
    clear hm ho hD hg5
    simp only[List.length_append,List.length_cons,List.length_nil,Nat.zero_add]at *
    unfold maxLen at hg2
    gi_wp2_with fail
    refine⟨trivial,?_⟩
    have he1:Ext W (wr.alloc (.cells #[.int .i64 y.1,.int .i64 y.2] 81)):=hx.alloc _
    refine (CallsIn.inRound l (callsIn_wide (n:=6).2 (ZIk u t y.1 y.2 bL cs _ hl hle (hs.ext RPr.keeps (hx0.trans he1)) hy hform (hL.ext (hx0.trans he1)) hA))).mono ?_
    rintro e w2 ⟨v2,rfl,ho2,he2⟩
    have hm2:=(HM.out.alloc _).ext he2
    have ho3:=Ql.ext (Ql.alloc hop.out _) he2
    have tb2:=(tb1.alloc _).ext he2
    have lb2:=(lb1.alloc _).ext he2
    have b62:=(b61.alloc _).ext he2
    have hx2:=he1.trans he2
    have ho4:X5 w2 0 v2 (Uf t (y.1,y.2)):=Ql.mono ho2 (Nat.zero_le _)
    have hne:∀k,(Value.slice (some ⟨g,off,none⟩) R'.length cap).ownBlock=some k→v2.ownBlock≠some k:=fun k hk e=>by
     simp[Value.ownBlock]at hk;subst hk
     have:=(Ql.blk ho2 _ e).1
     simp at this;omega
    have HM2:=ZU (show SrJ t x.1 y W W.heap.size (2*((ids t).length-Sn.length)+R'.length) v2 (.int .i64 0) (.slice (some ⟨g,off,none⟩) R'.length cap) w2 from⟨Sn,R',0,hJ.out,Nat.zero_le _,rfl,hm2,ho3,hx2,Nat.le_refl _,ho4,hne⟩)
    obtain⟨A2,c2,rfl,hv1,hv2⟩:=Ql.form ho2
    unfold maxLen at hv2
    have hv3:(Uf t y).length≤c2:=hv1
    clear hm2 ho3 ho4 hne ho2 c0 c1 t0 l0 i0 i1
    gi_wp2
    gi_loopw [38,8] (fun i v wi=>SrJ t x.1 y W W.heap.size (2*((ids t).length-Sn.length)+R'.length) (.slice A2 (Uf t (y.1,y.2)).length c2) i v wi) (fun i _ _=>(Uf t y).length-(intOf i).toNat)
    case atStart=>exact HM2.out
    case round =>
     obtain⟨S,R,k,hJ,hk,rfl,hm,ho,hxi,hNN,hd2,hne⟩:=hrel
     have HJ:=ZU hJ
     have HM3:=ZU hm
     have HO3:=ZU ho
     have HD2:=ZU hd2
     have HNE:=ZU hne
     have tb3:=tb.ext hxi
     have lb3:=lb.ext hxi
     have b63:=b6.ext hxi
     have r13:=r1.ext hxi
     have r23:=r2.ext hxi
     have lt13:=tb3.lt
     have lt23:=lb3.lt
     have lt33:=b63.lt
     have lt43:=r13.lt
     have lt53:=r23.lt
     have i0:=b63.cell (j:=0) rfl
     have i1:=b63.cell (j:=1) rfl
     by_cases hlt:k<(Uf t y).length
     ·obtain⟨⟨za,zb⟩,hz⟩:∃z,(Uf t y)[k]? = some z:=⟨_,List.getElem?_eq_getElem hlt⟩
      obtain⟨g2,off2,cap2,hv,hc2,_,_,hg2l,hcells⟩:=hd2.at_ oM
      injection hv with hA2 _ hc22
      subst hA2;subst hc22
      obtain⟨e0,e1⟩:=hcells k _ hz
      have HZ:=ZU hz
      clear hcells hz hJ hm ho hd2 hne
      by_cases hid:(za,zb)=x.1
      ·have HZ2:=ZU (show Hb t x.1 x.1 by have:=HJ.out.hb HZ.out;rw[hid]at this;exact this)
       obtain rfl:za=x.1.1:=by rw[←hid]
       obtain rfl:zb=x.1.2:=by rw[←hid]
       clear hid
       have hKF3:KeepsFrom (w.heap.size+1+1+1+1+1) W wr:=KF.ext (KeepsFrom.refl _ _) hxi
       have hBL3:Below w.heap.size W wr:=BL.ext (Below.refl _ _) hxi hsW
       have hEX3:Ext w wr:=hx0.trans hxi
       have f1:=r13.frozen 0
       have f2:=r13.frozen 1
       have f3:=r23.frozen 0
       have p1:=r13.cell (j:=0) rfl
       have p2:=r13.cell (j:=1) rfl
       have p3:=r23.cell (j:=0) rfl
       gi_wp2
       refine⟨?_,rfl,pre.map (·.1),x.1,⟨⟨⟨Yb pre x,HNO.out,HZ2.out⟩,?_⟩,?_⟩,?_⟩
       all_goals exact kW0
      ·by_cases hz1:za=x.1.1
       ·have hz2:zb≠x.1.2:=fun e=>hid (Prod.ext hz1 e)
        subst hz1
        have hq3:((zb:Int)==(x.1.2:Int))=false:=by simp;omega
        have hq4:¬((zb:Int)=(x.1.2:Int)):=by omega
        have HID:=ZU hid
        clear hid hz2
        by_cases hin:(x.1.1,zb)∈S
        ·have hlk:=Ys (HM3.out.alloc (.cells #[.int .i64 x.1.1,.int .i64 zb] 81)) (x.1.1,zb)
         rw[decide_eq_true hin]at hlk
         unfold Zo at hlk
         have HIN:=ZU hin
         clear hin
         gi_wp2
         go_roundw
         case rel=>exact⟨S,R,k+1,HJ.out.skip HZ.out HIN.out,hlt,by go_num,HM3.out.alloc _,Ql.alloc HO3.out _,hxi.alloc _,hNN,Ql.alloc HD2.out _,HNE.out⟩
         case measure=>simp[intOf];omega
        ·have hlk:=Ys (HM3.out.alloc (.cells #[.int .i64 x.1.1,.int .i64 zb] 81)) (x.1.1,zb)
         rw[decide_eq_false hin]at hlk
         obtain⟨w3,hrun,hm4,hgr3⟩:=UU (HM3.out.alloc (.cells #[.int .i64 x.1.1,.int .i64 zb] 81)) (x.1.1,zb) hin
         unfold Zo at hlk hrun
         have HIN:=ZU hin
         have HG3:=ZU hgr3
         have HM4:=ZU hm4
         have hrl:=HM3.out.lt
         have bz:ZG w3 wr.heap.size 81 #[.int .i64 x.1.1,.int .i64 zb]:=(ZG.new wr _ _).kept hgr3 (by simp;omega)
         have z0:=bz.cell (j:=0) rfl
         have z1:=bz.cell (j:=1) rfl
         have ho5:X5 w3 W.heap.size u8 R:=Ql.kept (Ql.alloc HO3.out _) hgr3 (.inr (Ql.not_map (Ql.alloc HO3.out (.cells #[.int .i64 x.1.1,.int .i64 zb] 81)) (HM3.out.alloc _)))
         have hx3:Ext W w3:=Ext.grown (hxi.alloc (.cells #[.int .i64 x.1.1,.int .i64 zb] 81)) hgr3 (fun k hk=>by injection hk with hk;omega)
         have hsz3:=hgr3.size
         rw[World.size_alloc]at hsz3
         have hRl:R.length≤2000001:=by omega
         have HO5:=ZU ho5
         clear hin hgr3 hm4 ho5
         gi_wp2_with (gi_at_builtin;go_must (refine ZAr (v:=u8) (.tmp 52) (.tmp 54) ZNR rfl rfl rfl rfl (Ql.alloc HO5.out _) (SlC.lit (x:=(x.1.1,zb)) _ rfl rfl rfl) (U1 _) oM (by have:=hx3.size;simp;omega) ?_;intro v4 w4 hown4 hgr4 hbl4))
         go_roundw
         case rel =>
          refine⟨_,_,_,?_,rfl,rfl,rfl⟩
          have hd3:X5 w3 0 (.slice (some ⟨g2,off2,none⟩) (Uf t (y.1,y.2)).length c2) (Uf t y):=Ql.kept (Ql.alloc HD2.out _) HG3.out (.inr (Ql.not_map (Ql.alloc HD2.out (.cells #[.int .i64 x.1.1,.int .i64 zb] 81)) (HM3.out.alloc _)))
          refine⟨S++[(x.1.1,zb)],R++[(x.1.1,zb)],k+1,HJ.out.push HZ.out HIN.out HID.out,hlt,by go_num,(HM4.out.alloc _).kept hgr4.1 (Ql.not_map HO5.out HM4.out).symm,X5.snoc hown4 rfl,Ext.more (hx3.alloc _) hbl4,?_,Ql.kept (Ql.alloc hd3 _) hgr4.1 (.inr fun e=>HNE.out _ e.symm rfl),?_⟩
          ·have h1:=HJ.out.push HZ.out HIN.out HID.out
           have h2:=h1.few x.2
           simp at h2⊢
           omega
          ·intro q hq e
           rcases hgr4.2 q hq with h1|h1
           ·exact HNE.out q h1 e
           ·simp[Value.ownBlock]at e
            subst e
            simp at h1;omega
         case measure=>simp[intOf];omega
       ·have hq1:((za:Int)==(x.1.1:Int))=false:=by simp;omega
        have hq2:¬((za:Int)=(x.1.1:Int)):=by omega
        have HID:=ZU hid
        clear hid hz1
        by_cases hin:(za,zb)∈S
        ·have hlk:=Ys (HM3.out.alloc (.cells #[.int .i64 za,.int .i64 zb] 81)) (za,zb)
         rw[decide_eq_true hin]at hlk
         unfold Zo at hlk
         have HIN:=ZU hin
         clear hin
         gi_wp2
         go_roundw
         case rel=>exact⟨S,R,k+1,HJ.out.skip HZ.out HIN.out,hlt,by go_num,HM3.out.alloc _,Ql.alloc HO3.out _,hxi.alloc _,hNN,Ql.alloc HD2.out _,HNE.out⟩
         case measure=>simp[intOf];omega
        ·have hlk:=Ys (HM3.out.alloc (.cells #[.int .i64 za,.int .i64 zb] 81)) (za,zb)
         rw[decide_eq_false hin]at hlk
         obtain⟨w3,hrun,hm4,hgr3⟩:=UU (HM3.out.alloc (.cells #[.int .i64 za,.int .i64 zb] 81)) (za,zb) hin
         unfold Zo at hlk hrun
         have HIN:=ZU hin
         have HG3:=ZU hgr3
         have HM4:=ZU hm4
         have hrl:=HM3.out.lt
         have bz:ZG w3 wr.heap.size 81 #[.int .i64 za,.int .i64 zb]:=(ZG.new wr _ _).kept hgr3 (by simp;omega)
         have z0:=bz.cell (j:=0) rfl
         have z1:=bz.cell (j:=1) rfl
         have ho5:X5 w3 W.heap.size u8 R:=Ql.kept (Ql.alloc HO3.out _) hgr3 (.inr (Ql.not_map (Ql.alloc HO3.out (.cells #[.int .i64 za,.int .i64 zb] 81)) (HM3.out.alloc _)))
         have hx3:Ext W w3:=Ext.grown (hxi.alloc (.cells #[.int .i64 za,.int .i64 zb] 81)) hgr3 (fun k hk=>by injection hk with hk;omega)
         have hsz3:=hgr3.size
         rw[World.size_alloc]at hsz3
         have hRl:R.length≤2000001:=by omega
         have HO5:=ZU ho5
         clear hin hgr3 hm4 ho5
         gi_wp2_with (gi_at_builtin;go_must (refine ZAr (v:=u8) (.tmp 52) (.tmp 54) ZNR rfl rfl rfl rfl (Ql.alloc HO5.out _) (SlC.lit (x:=(za,zb)) _ rfl rfl rfl) (U1 _) oM (by have:=hx3.size;simp;omega) ?_;intro v4 w4 hown4 hgr4 hbl4))
         go_roundw
         case rel =>
          refine⟨_,_,_,?_,rfl,rfl,rfl⟩
          have hd3:X5 w3 0 (.slice (some ⟨g2,off2,none⟩) (Uf t (y.1,y.2)).length c2) (Uf t y):=Ql.kept (Ql.alloc HD2.out _) HG3.out (.inr (Ql.not_map (Ql.alloc HD2.out (.cells #[.int .i64 za,.int .i64 zb] 81)) (HM3.out.alloc _)))
          refine⟨S++[(za,zb)],R++[(za,zb)],k+1,HJ.out.push HZ.out HIN.out HID.out,hlt,by go_num,(HM4.out.alloc _).kept hgr4.1 (Ql.not_map HO5.out HM4.out).symm,X5.snoc hown4 rfl,Ext.more (hx3.alloc _) hbl4,?_,Ql.kept (Ql.alloc hd3 _) hgr4.1 (.inr fun e=>HNE.out _ e.symm rfl),?_⟩
          ·have h1:=HJ.out.push HZ.out HIN.out HID.out
           have h2:=h1.few x.2
           simp at h2⊢
           omega
          ·intro q hq e
           rcases hgr4.2 q hq with h1|h1
           ·exact HNE.out q h1 e
           ·simp[Value.ownBlock]at e
            subst e
            simp at h1;omega
         case measure=>simp[intOf];omega
     ·clear hJ hm ho hd2 hne
      gi_wp2
      go_roundw
      case rel=>exact⟨S,R,HJ.out.fin oM,HM3.out,HO3.out,hxi,by omega⟩
      case measure =>
       rw[HM3.out.size,HM.out.size]
       obtain⟨A3,c3,rfl,_,_⟩:=HO3.out.form
       simp[lenV]
       omega
 case done =>
  rintro D ys W hD hys ⟨⟨⟨⟨⟨tb,lb⟩,r1⟩,r2⟩,hx⟩,hno⟩ hK
  rw[hys]at hno
  have q2:=r1.frozen 0
  have q3:=r1.frozen 1
  have q4:=r2.frozen 0
  have p2:=r1.cell (j:=0) rfl
  have p3:=r1.cell (j:=1) rfl
  have p4:=r2.cell (j:=0) rfl
  have HNO:=ZU (ZMB hno)
  clear hno
  gi_wp2
  obtain⟨Wr,hWr⟩:∃Wr,(((W.setCell ⟨w.heap.size+1+1,0,none⟩ (Value.int .i64 0)).setCell ⟨w.heap.size+1+1,1,none⟩ (Value.int .i64 0)).setCell ⟨w.heap.size+1+1+1,0,none⟩ (Value.bool false))=Wr:=⟨_,rfl⟩
  rw[hWr]
  have s2:ZG Wr (w.heap.size+1+1) 81 #[.int .i64 0,.int .i64 0]:=by rw[←hWr];exact kW0
  have s3:ZG Wr (w.heap.size+1+1+1) 4 #[.bool false]:=by rw[←hWr];exact kW0
  have sx:Ext w Wr:=by rw[←hWr];exact kW0
  have hKW:Wr.heap[D]? = some (.deferred (some [])):=by rw[←hWr];exact (KF.set (KF.set (KF.set (KeepsFrom.refl W0.heap.size W) _ _) _ _) _ _).same D _ hD hK rfl
  clear hWr
  have e2:=(s2.putObj hKW rfl (.deferred none)).cell (j:=0) rfl
  have e3:=(s2.putObj hKW rfl (.deferred none)).cell (j:=1) rfl
  have e4:=(s3.putObj hKW rfl (.deferred none)).cell (j:=0) rfl
  refine⟨by simp,.inl ⟨_,_,rfl,run_takeDeferred hKW,?_⟩⟩
  refine⟨.tuple #[Zo (0,0),.bool false],?_,sx.putObj oM hKW _,.inr ⟨HNO.out,rfl⟩⟩
  simp[results,Tryz.f146,go_sem,e2,e3,e4,Zo]
 case stop =>
  rintro D c pre W hD hpre ⟨rfl,a,x,⟨⟨⟨hp,hno,hhb⟩,r1⟩,r2⟩,hx⟩ hK
  rw[hp]at hpre
  have HST:=ZU (ZMA hpre hno hhb)
  clear hno hhb
  gi_wp2
  have e2:=(r1.putObj hK rfl (.deferred none)).cell (j:=0) rfl
  have e3:=(r1.putObj hK rfl (.deferred none)).cell (j:=1) rfl
  have e4:=(r2.putObj hK rfl (.deferred none)).cell (j:=0) rfl
  refine⟨by simp,.inl ⟨_,_,rfl,run_takeDeferred hK,?_⟩⟩
  refine⟨.tuple #[Zo x,.bool true],?_,hx.putObj oM hK _,.inl ⟨x,HST.out,rfl⟩⟩
  simp[results,Tryz.f146,go_sem,e2,e3,e4,Zo]
open Go.RowKit

structure Small (t:Tr):Prop where
 np:t.length≤1000000
 nv:∀x∈t,x.vars.length≤1000000
 ne:∀x∈t,x.evs.length≤1000000
 na:∀x∈t,∀e∈x.evs,e.asg.length≤1000000
structure Sm (t:Tr):Prop where
 np:t.length≤1000000
 nv:∀x∈t,x.vars.length≤1000000
 ne:∀x∈t,x.evs.length≤9223372036854775807
 na:∀x∈t,∀e∈x.evs,e.asg.length≤1000000
theorem Small.sm {t:Tr} (h:Small t):Sm t:=⟨h.np,h.nv,fun x hx=>Nat.le_trans (h.ne x hx) (by decide),h.na⟩
theorem Vd {t:Tr} {p:Nat} (hp:p<t.length) (h:Xf t p=0):t[p].evs.length≤64:=by
 rw[Ki t p hp]at h
 split at h
 ·cases h
 split at h
 ·cases h
 split at h
 ·rename_i h2;exact absurd h h2
 split at h
 ·cases h
 ·omega
theorem Sm.small {t:Tr} (h:Sm t) (hz:∀q,q<t.length→Xf t q=0):Small t:=
 ⟨h.np,h.nv,fun x hx=>by
  obtain⟨p,hp,rfl⟩:=List.getElem_of_mem hx
  have:=Vd hp (hz p hp)
  omega,h.na⟩
def FPost (t:Tr) (w:World) (e:Ending) (w':World):Prop:=e=.returned (.tuple #[Zo (Y6 t).1,.int .i64 (Y6 t).2])∧Ext w w'
theorem ZIR {t:Tr} (h:inB t.length 1 8=false):Y6 t=((0,0),1):=by
 unfold Y6
 rw[if_pos (by simp[inB]at h;omega)]
theorem ZFe {t:Tr} {p:Nat} (h:inB t.length 1 8=true) (hp:p<t.length) (h0:∀q,q<p→Xf t q=0) (hne:Xf t p≠0):Y6 t=((p,0),Xf t p):=by
 have hf:(List.range t.length).find? (fun p=>Xf t p != 0)=some p:=by
  rw[show t.length=p+(1+(t.length-p-1)) by omega,List.range_add,List.find?_append]
  have:(List.range p).find? (fun p=>Xf t p != 0)=none:=by
   rw[List.find?_eq_none];intro q hq;simp[h0 q (List.mem_range.1 hq)]
  rw[this,Nat.add_comm 1,List.range_succ_eq_map]
  simp[hne]
 unfold Y6
 rw[if_neg (by simp[inB]at h;omega),hf]
theorem U4 {t:Tr} (h0:∀q,q<t.length→Xf t q=0):(List.range t.length).find? (fun p=>Xf t p != 0)=none:=by
 rw[List.find?_eq_none];intro q hq;simp[h0 q (List.mem_range.1 hq)]
theorem ZFf {t:Tr} {x:Nat×Nat} (h:inB t.length 1 8=true) (h0:∀q,q<t.length→Xf t q=0) (hx:(ids t).find? (fun x=>Xq t x != 0)=some x):Y6 t=(x,Xq t x):=by
 unfold Y6
 rw[if_neg (by simp[inB]at h;omega),U4 h0]
 simp only[hx]
theorem ZFd {t:Tr} {x:Nat×Nat} (h:inB t.length 1 8=true) (h0:∀q,q<t.length→Xf t q=0) (hf:(ids t).find? (fun x=>Xq t x != 0)=none) (hx:(ids t).find? (fun x=>Y7 t x != 0)=some x):Y6 t=(x,Y7 t x):=by
 unfold Y6
 rw[if_neg (by simp[inB]at h;omega),U4 h0]
 simp only[hf,hx]
theorem ZKG {t:Tr} {x:Nat×Nat} (h:inB t.length 1 8=true) (h0:∀q,q<t.length→Xf t q=0) (hf:(ids t).find? (fun x=>Xq t x != 0)=none) (hp:(ids t).find? (fun x=>Y7 t x != 0)=none) (hx:J1 t=some x):Y6 t=(x,10):=by
 unfold J1 at hx
 unfold Y6
 rw[if_neg (by simp[inB]at h;omega),U4 h0]
 simp only[hf,hp,hx]
theorem ZKF {t:Tr} (h:inB t.length 1 8=true) (h0:∀q,q<t.length→Xf t q=0) (hf:(ids t).find? (fun x=>Xq t x != 0)=none) (hp:(ids t).find? (fun x=>Y7 t x != 0)=none) (hx:J1 t=none):Y6 t=((0,0),0):=by
 unfold J1 at hx
 unfold Y6
 rw[if_neg (by simp[inB]at h;omega),U4 h0]
 simp only[hf,hp,hx]
theorem KQ {t:Tr} {x:Nat×Nat} (h:Xq t x=0):QN t.length x.1 (Zm t x)=true:=by
 unfold Xq at h
 cases hb:QN t.length x.1 (Zm t x) with
 |true=>rfl
 |false=>rw[hb]at h;simp at h
def GI (t:Tr) (w:World) (u:Value) (l:List (Nat×Nat)) (W:World):Prop:=
 (((ZG W w.heap.size 36 #[u]∧ZG W (w.heap.size+1) 81 #[.int .i64 0,.int .i64 0])∧ZG W (w.heap.size+1+1) 39 #[.int .i64 0])∧Ext w W)∧∀x∈l,Xq t x=0
def GX (t:Tr) (w:World) (l:List (Nat×Nat)) (W:World):Prop:=
 ∃a x,(((l=a++[x]∧(∀y∈a,Xq t y=0)∧Xq t x≠0)∧ZG W (w.heap.size+1) 81 #[.int .i64 x.1,.int .i64 x.2])∧ZG W (w.heap.size+1+1) 39 #[.int .i64 (Xq t x)])∧Ext w W
theorem ZDa (t:Tr) (w:World) (u:Value) {n:Nat} (hn:w.heap.size≤n):OwnFrom n (fun (pre:List (Idt t)) W=>GI t w u (pre.map (·.1)) W):=
 OwnFrom.and (OwnFrom.and (OwnFrom.and (OwnFrom.and (ZJ _ _ _ _) (ZJ _ _ _ _)) (ZJ _ _ _ _)) (Yx hn)) (ownFrom_pure _ _)
theorem ZMD (t:Tr) (w:World) {n:Nat} (hn:w.heap.size≤n):OwnFrom n (fun (pre:List (Idt t)) W=>GX t w (pre.map (·.1)) W):=by
 rintro s X Y row ⟨a,x,h⟩ hg hr
 refine⟨a,x,⟨⟨h.1.1.1,?_⟩,?_⟩,Yx hn () X Y row h.2 hg hr⟩
 ·exact ZJ _ n _ (fun (_:Unit)=>_) () X Y row h.1.1.2 hg hr
 ·exact ZJ _ n _ (fun (_:Unit)=>_) () X Y row h.1.2 hg hr
theorem ZE9 {f:Nat→List (Nat×Nat)} {b:Nat}:∀n:Nat,(∀p,p<n→(f p).length≤b)→((List.range n).flatMap f).length≤n*b
 |0,_=>by simp
 |n+1,h=>by
   rw[List.range_succ,List.flatMap_append,List.length_append]
   have h1:=ZE9 n fun p hp=>h p oM
   have h2:=h n oM
   have h3:([n].flatMap f).length=(f n).length:=by simp
   rw[h3,Nat.add_mul]
   omega
theorem ZLz {t:Tr} (h1:t.length≤1000000) (h2:∀x∈t,x.evs.length≤1000000) (h:inB t.length 1 8=true) (h0:∀q,q<t.length→Xf t q=0):(ids t).length≤1000000:=by
 have:=ZE9 (f:=ZAX t) (b:=64) t.length fun p hp=>by
  unfold ZAX Zc
  rw[List.length_map,List.length_range,QS dfPr t hp]
  exact Vd hp (h0 p hp)
 simp[inB]at h
 unfold ids
 have h3:t.length*64≤8*64:=Nat.mul_le_mul_right _ oM
 omega
theorem ZIJ {t:Tr} (h:∀x∈ids t,Xq t x=0):(ids t).find? (fun x=>Xq t x != 0)=none:=by
 rw[List.find?_eq_none];intro x hx;simp[h x hx]
theorem ZII {t:Tr} {a:List (Nat×Nat)} {x:Nat×Nat} (hp:a++[x] <+: ids t) (ha:∀y∈a,Xq t y=0) (hx:Xq t x≠0):(ids t).find? (fun x=>Xq t x != 0)=some x:=by
 obtain⟨c,hc⟩:=hp
 rw[←hc,List.append_assoc,List.find?_append]
 have:a.find? (fun x=>Xq t x != 0)=none:=by
  rw[List.find?_eq_none];intro y hy;simp[ha y hy]
 rw[this]
 simp[hx]
theorem ZJC (u:Value) (t:Tr) (w:World) (hS:Sm t) (hs:SlR 3 RPr w u t) :
  Calls Tryz.prog 98 #[.agg #[u]] w fun e w'=>FPost t w e w':=by
 refine callsIn_wide (n:=9).1 ?_
 refine callsIn_of_wp_marks Tryz.func98 rfl trivial ?_ rfl
 simp only[Tryz.ntmps98,List.size_toArray,List.length_cons,List.length_nil,Nat.reduceAdd,Nat.reduceSub,Array.replicate_succ,Array.replicate_zero,List.push_toArray,List.append_toArray,List.nil_append,List.cons_append]
 obtain⟨A,c,rfl,_,hcm,_⟩:=hs.at_
 have HI:=ZU (fun w=>callsIn_wide (n:=8).2 (U0 t.length 1 8 w))
 cases hin:inB t.length 1 8
 ·rw[hin]at HI
  have HF:=ZU (ZIR hin)
  clear hin
  gi_wp2_with (refine⟨trivial,?_⟩;gi_at_call 99;refine (HI.out _).mono ?_;rintro e w' ⟨rfl,rfl⟩)
  refine⟨.tuple #[Zo (0,0),.int .i64 1],by simp[results,Tryz.f98,go_sem,Zo],by rw[HF.out];rfl,(((Ext.refl w).alloc _).alloc _).alloc _⟩
 ·have HIN:=ZU hin
  rw[hin]at HI
  clear hin
  gi_wp2_with (refine⟨trivial,?_⟩;gi_at_call 99;refine (HI.out _).mono ?_;rintro e w' ⟨rfl,rfl⟩)
  have tb0:=((ZG.new w 36 #[.slice A t.length c]).alloc (.cells #[.int .i64 0,.int .i64 0] 81)).alloc (.cells #[.int .i64 0] 39)
  obtain⟨W1,hW1⟩:∃W1,((w.alloc (Obj.cells #[Value.slice A t.length c] 36)).alloc (Obj.cells #[Value.int .i64 0,Value.int .i64 0] 81)).alloc (Obj.cells #[Value.int .i64 0] 39)=W1:=⟨_,rfl⟩
  rw[hW1]at tb0⊢
  have hx1:Ext w W1:=by rw[←hW1];exact (((Ext.refl w).alloc _).alloc _).alloc _
  have rb1:ZG W1 (w.heap.size+1) 81 #[.int .i64 0,.int .i64 0]:=by rw[←hW1];exact (ZG.newAt _ _ (by simp)).alloc _
  have rb2:ZG W1 (w.heap.size+1+1) 39 #[.int .i64 0]:=by rw[←hW1];exact ZG.newAt _ _ (by simp)
  have hsz1:Hx (W1.heap.size=w.heap.size+1+1+1):=ZU (by rw[←hW1];simp)
  clear hW1
  have hnp:=hS.np
  gi_loopw [23] (fun i wr=>∃k:Nat,k≤t.length∧i=.int .i64 k∧(∀q,q<k→Xf t q=0)∧Ext W1 wr) (fun i _=>t.length-(intOf i).toNat)
  case atStart=>exact⟨0,Nat.zero_le _,rfl,fun q hq=>absurd hq (Nat.not_lt_zero _),Ext.refl _⟩
  case round =>
   obtain⟨k,hk,rfl,h0,hx⟩:=hrel
   have H0:=ZU h0
   clear h0
   have tb:=tb0.ext hx
   have r1:=rb1.ext hx
   have r2:=rb2.ext hx
   have t0:=tb.cell (j:=0) rfl
   by_cases hlt:k<t.length
   ·have HP:=ZU (fun w' (he:Ext w w')=>callsIn_wide (n:=8).2 (K6 (.slice A t.length c) t k w' hlt hnp (hS.nv _ (List.getElem_mem hlt)) (hS.ne _ (List.getElem_mem hlt)) (hs.ext RPr.keeps he)))
    gi_wp2_with fail
    refine⟨trivial,?_⟩
    refine (HP.out _ (hx1.trans hx)).mono ?_
    rintro e w2 ⟨rfl,he2⟩
    by_cases hz:Xf t k=0
    ·have HZ:=ZU hz
     rw[hz]
     clear hz
     gi_wp2
     go_roundw
     case rel=>exact⟨k+1,hlt,by go_num,fun q hq=>(Nat.lt_succ_iff_lt_or_eq.1 hq).elim (H0.out q) (fun e=>e▸HZ.out),hx.trans he2⟩
     case measure=>simp[intOf];omega
    ·have HF:=ZU (ZFe HIN.out hlt H0.out hz)
     have hne:((Xf t k:Int) != 0)=true:=by simp;omega
     have r12:=r1.ext he2
     have r22:=r2.ext he2
     have f1:=r12.frozen 0
     have f2:=r12.frozen 1
     have f3:=r22.frozen 0
     have p1:=r12.cell (j:=0) rfl
     have p2:=r12.cell (j:=1) rfl
     have p3:=r22.cell (j:=0) rfl
     gi_wp2
     obtain⟨Wr,hWr⟩:∃Wr,((w2.setCell ⟨w.heap.size+1,0,none⟩ (Value.int .i64 k)).setCell ⟨w.heap.size+1,1,none⟩ (Value.int .i64 0)).setCell ⟨w.heap.size+1+1,0,none⟩ (Value.int .i64 (Xf t k))=Wr:=⟨_,rfl⟩
     rw[hWr]
     have hEX2:Ext w w2:=hx1.trans (hx.trans he2)
     have s1:ZG Wr (w.heap.size+1) 81 #[.int .i64 k,.int .i64 0]:=by rw[←hWr];exact kW0
     have s2:ZG Wr (w.heap.size+1+1) 39 #[.int .i64 (Xf t k)]:=by rw[←hWr];exact kW0
     have sx:Ext w Wr:=by rw[←hWr];exact kW0
     clear hWr
     exact⟨.tuple #[Zo (k,0),.int .i64 (Xf t k)],by simp[results,Tryz.f98,go_sem,Zo,s1.cell (j:=0) rfl,s1.cell (j:=1) rfl,s2.cell (j:=0) rfl],by rw[HF.out],sx⟩
   ·obtain rfl:k=t.length:=by omega
    have hS:=hS.small H0.out
    have hEXr:Ext w wr:=hx1.trans hx
    gi_wp2_with (refine⟨trivial,?_⟩;gi_at_call 101;refine (callsIn_wide.2 (Jb _ _)).mono ?_;rintro e w' ⟨rfl,rfl⟩)
    have bt:=ZG.new wr 36 #[.slice A t.length c]
    have hM0:GI t w (.slice A t.length c) [] (wr.alloc (.cells #[.slice A t.length c] 36)):=⟨⟨⟨⟨tb.alloc _,r1.alloc _⟩,r2.alloc _⟩,hEXr.alloc _⟩,fun x hx=>by cases hx⟩
    obtain⟨W0,hW0⟩:∃W0,wr.alloc (.cells #[.slice A t.length c] 36)=W0:=⟨_,rfl⟩
    have hsz0:W0.heap.size=wr.heap.size+1:=by rw[←hW0];simp
    have hwr:w.heap.size≤wr.heap.size:=hEXr.size
    rw[hW0]at bt hM0⊢
    clear hW0
    have hext0:Ext w W0:=hM0.1.2
    have HSZ0:=ZU hsz0
    have hw0:w.heap.size≤W0.heap.size:=by omega
    clear hsz0
    refine wpIn_rangeFunc_ownH rfl oM (gf:=148) (lb:=#[.pointer (some ⟨wr.heap.size,0,none⟩)]) rfl trivial (QV Tryz.func148 (by decide) rfl)
     (Yg 8 oM w (.slice A t.length c) t wr.heap.size W0 hnp hS.ne hs hext0 (bt.cell rfl) hwr) belowK_t (belowK_b hw0) (Below.refl _ _) (fun _=>rfl)
     (fun pre W=>GI t w (.slice A t.length c) (pre.map (·.1)) W) (fun c pre W=>c=.ret∧GX t w (pre.map (·.1)) W) (ZDa t w _ hw0) (fun c=>OwnFrom.and (ownFrom_pure _ _) (ZMD t w hw0)) hM0
     (fun x a' W=>∃B6 B7 A4 n4 c4 v37 v38,(w.heap.size+1+1<B6∧w.heap.size+1+1<B7∧SlR 2 RAsg w (.slice A4 n4 c4) (Zm t x.1).asg)∧ZG W B6 81 #[.int .i64 x.1.1,.int .i64 x.1.2]∧ZG W B7 79 #[.int .i64 (Zm t x.1).kind,.int .i64 (Zm t x.1).peer,.int .i64 (Zm t x.1).msg,.int .i64 (Zm t x.1).time,.slice A4 n4 c4] ∧
      a'={tmps:=#[.agg #[.slice A t.length c],.pointer (some ⟨w.heap.size,0,none⟩),.pointer (some ⟨w.heap.size+1,0,none⟩),.pointer (some ⟨w.heap.size+1+1,0,none⟩),u4,u5,.pointer (some ⟨B6,0,none⟩),.pointer (some ⟨B7,0,none⟩),undef,undef,undef,undef,undef,undef,.pointer (some ⟨w.heap.size,0,none⟩),.slice A t.length c,.int .i64 t.length,.bool true,.bool false,undef,.pointer (some ⟨w.heap.size,0,none⟩),.slice A t.length c,.int .i64 t.length,.int .i64 t.length,.bool false,u25,u26,u27,u28,u29,u30,u31,u32,u33,u34,.agg #[.slice A t.length c],.func (.func 148) #[] #[.pointer (some ⟨wr.heap.size,0,none⟩)],v37,v38,undef,undef,undef,undef,undef,undef,undef,undef,undef,undef,undef,undef,undef,undef,undef,undef,undef,undef,undef,undef,undef,undef,undef,undef,undef,undef,undef],defers:=[]})
     ?hax ?assign ?body ?done ?stop
    case hax =>
     rintro x a' _ X Y row ⟨B6,B7,A4,n4,c4,v37,v38,hB,b6,b7,ha⟩ hg hr
     exact⟨B6,B7,A4,n4,c4,v37,v38,hB,ZJ B6 _ _ (fun (_:Unit)=>_) () X Y row b6 hg hr,ZJ B7 _ _ (fun (_:Unit)=>_) () X Y row b7 hg hr,ha⟩
    case assign =>
     rintro l pre x W K hI hK
     obtain⟨a,hv,hsa⟩:=ZBm hs x.2
     obtain⟨A4,c4,rfl,_,_,_⟩:=hsa.at_
     simp only[hv]
     have hsW:=hI.1.2.size
     have h5:=hI.1.1.2.lt
     unfold Zo
     gi_wp2
     exact hK _ _ (((KeepsOthers.alloc _ _).trans (KeepsOthers.alloc _ _)).from _) (((Below.refl _ W).alloc hsW _).alloc (by simp;omega) _) ((ZDa t w _ (Nat.le_refl _)).alloc _ ((ZDa t w _ (Nat.le_refl _)).alloc _ hI))
      ⟨W.heap.size,W.heap.size+1,A4,_,c4,_,_,⟨h5,by omega,hsa⟩,(ZG.new _ _ _).alloc _,ZG.newAt _ _ (by simp),rfl⟩
    case body =>
     rintro l pre x a' W hlW ⟨r,hr⟩ hI ⟨B6,B7,A4,n4,c4,v37,v38,⟨hB6,hB7,hsa⟩,b6,b7,rfl⟩ hlen
     obtain⟨⟨⟨⟨tbW,r1W⟩,r2W⟩,hxW⟩,hg⟩:=hI
     have hsW:=hxW.size
     have HG:=ZU hg
     have HSA:=ZU hsa
     clear hg hsa
     have k0:=b7.cell (j:=0) rfl
     have k1:=b7.cell (j:=1) rfl
     have k2:=b7.cell (j:=2) rfl
     have k3:=b7.cell (j:=3) rfl
     have k4:=b7.cell (j:=4) rfl
     have i0:=b6.cell (j:=0) rfl
     have i1:=b6.cell (j:=1) rfl
     have t0:=tbW.cell (j:=0) rfl
     obtain⟨hp,hi1,hi2⟩:=XW.1 x.2
     have hee:t[x.1.1].evs[x.1.2-1]=Zm t x.1:=by
      unfold Zm Zc;rw[QS dfPr t hp,QS ZA8 _ oM]
     have HE:=ZU (fun w' (he:Ext w w')=>CallsIn.inRound l (callsIn_wide (n:=6).2 (ZAn (.slice A t.length c) (.slice A4 n4 c4) t x.1.1 x.1.2 (Zm t x.1) w' hp hi1 hi2 hee hnp (hS.nv _ (List.getElem_mem hp)) (hS.ne _ (List.getElem_mem hp)) (by rw[←hee];exact hS.na _ (List.getElem_mem hp) _ (List.getElem_mem _)) (hs.ext RPr.keeps he) (HSA.out.ext RAsg.keeps he))))
     clear hee
     gi_wp2_with fail
     refine⟨trivial,?_⟩
     refine (HE.out _ hxW).mono ?_
     rintro e w2 ⟨rfl,he2⟩
     by_cases hz:Xq t x.1=0
     ·have HZ:=ZU hz
      rw[show Xq t (x.1.1,x.1.2)=0 from hz]
      clear hz
      gi_wp2
      refine⟨KF.ext (KeepsFrom.refl _ _) he2,BL.ext (Below.refl _ _) he2 hsW,?_⟩
      show GI t w (.slice A t.length c) ((pre++[x]).map (·.1)) _
      rw[Yb]
      refine⟨⟨⟨⟨tbW.ext he2,r1W.ext he2⟩,r2W.ext he2⟩,hxW.trans he2⟩,fun z hz=>?_⟩
      rcases List.mem_append.1 hz with h1|h1
      ·exact HG.out z h1
      ·rw[show z=x.1 by simpa using h1];exact HZ.out
     ·have hne:((Xq t (x.1.1,x.1.2):Int) != 0)=true:=by
       have:¬Xq t (x.1.1,x.1.2)=0:=hz
       simp;omega
      have HZ:=ZU hz
      clear hz
      have r12:=r1W.ext he2
      have r22:=r2W.ext he2
      have b62:=b6.ext he2
      have f1:=r12.frozen 0
      have f2:=r12.frozen 1
      have f3:=r22.frozen 0
      have p1:=r12.cell (j:=0) rfl
      have p2:=r12.cell (j:=1) rfl
      have p3:=r22.cell (j:=0) rfl
      have i02:=b62.cell (j:=0) rfl
      have i12:=b62.cell (j:=1) rfl
      have hKF3:KeepsFrom W0.heap.size W w2:=KF.ext (KeepsFrom.refl _ _) he2
      have hEX3:Ext w w2:=hxW.trans he2
      gi_wp2
      refine⟨?_,rfl,pre.map (·.1),x.1,⟨⟨⟨Yb pre x,HG.out,HZ.out⟩,?_⟩,?_⟩,?_⟩
      all_goals exact kW0
    case done =>
     rintro D ys W hD hys ⟨⟨⟨⟨tbW,r1W⟩,r2W⟩,hxW⟩,hg⟩ hK
     rw[hys]at hg
     have HG:=ZU hg
     clear hg
     have hform:∀x∈ids t,QN t.length x.1 (Zm t x)=true:=fun x hx=>KQ (HG.out x hx)
     have hfn:=ZU (ZIJ HG.out)
     have t0:=tbW.cell (j:=0) rfl
     have HMF:=ZU (fun w' (he:Ext w w')=>callsIn_wide (n:=8).2 (K7 (.slice A t.length c) t w' hnp hS.ne (hs.ext RPr.keeps he) hform))
     have hform':=ZU hform
     clear hform
     gi_wp2_with fail
     refine⟨trivial,?_⟩
     refine (HMF.out _ hxW).mono ?_
     rintro e w2 ⟨he2,hm⟩
     have hKF2:KeepsFrom W0.heap.size W w2:=KF.ext (KeepsFrom.refl _ _) he2
     have hEX2:Ext w w2:=hxW.trans he2
     have r12:=r1W.ext he2
     have r22:=r2W.ext he2
     have tb2:=tbW.ext he2
     have t02:=tb2.cell (j:=0) rfl
     have lt1:=tb2.lt
     have lt2:=r12.lt
     have lt3:=r22.lt
     clear t0
     rcases hm with ⟨x,hx,rfl⟩|⟨hpn,b,cs,hb,hbox,hlet,rfl⟩
     ·have HP:=ZU (ZFd HIN.out H0.out hfn.out hx)
      have hne0:((Y7 t x:Int) != 0)=true:=by
       have:=List.find?_some hx
       simp at this⊢;omega
      clear hx
      unfold Zo
      have f1:=r12.frozen 0
      have f2:=r12.frozen 1
      have f3:=r22.frozen 0
      have p1:=r12.cell (j:=0) rfl
      have p2:=r12.cell (j:=1) rfl
      have p3:=r22.cell (j:=0) rfl
      gi_wp2
      obtain⟨Wr,hWr⟩:∃Wr,(((w2.setCell ⟨w.heap.size+1,0,none⟩ (Value.int .i64 x.1)).setCell ⟨w.heap.size+1,1,none⟩ (Value.int .i64 x.2)).setCell ⟨w.heap.size+1+1,0,none⟩ (Value.int .i64 (Y7 t x))).alloc (Obj.cells #[Value.int .i64 x.1,Value.int .i64 x.2] 81)=Wr:=⟨_,rfl⟩
      rw[hWr]
      have s1:ZG Wr (w.heap.size+1) 81 #[.int .i64 x.1,.int .i64 x.2]:=by rw[←hWr];exact kW0
      have s2:ZG Wr (w.heap.size+1+1) 39 #[.int .i64 (Y7 t x)]:=by rw[←hWr];exact kW0
      have sx:Ext w Wr:=by rw[←hWr];exact kW0
      have hkf:KeepsFrom W0.heap.size W Wr:=by rw[←hWr];exact kW0
      have hKW:Wr.heap[D]? = some (.deferred (some [])):=hkf.same D _ hD hK rfl
      clear hWr
      have e2:=(s1.putObj hKW rfl (.deferred none)).cell (j:=0) rfl
      have e3:=(s1.putObj hKW rfl (.deferred none)).cell (j:=1) rfl
      have e4:=(s2.putObj hKW rfl (.deferred none)).cell (j:=0) rfl
      refine⟨by simp,.inl ⟨_,_,rfl,run_takeDeferred hKW,?_⟩⟩
      refine⟨.tuple #[Zo x,.int .i64 (Y7 t x)],?_,by first|(rw[HP.out];done)|(rw[HP.out];rfl),sx.putObj oM hKW _⟩
      simp[results,Tryz.f98,go_sem,e2,e3,e4,Zo]
     ·have HPN:=ZU hpn
      clear hpn
      have HC:=ZU (fun w' (he:Ext w w') (hb':ZG w' b 187 cs)=>callsIn_wide (n:=8).2 (ZFj (.slice A t.length c) t b cs w' hnp hS.ne (ZLz hnp (fun x hx=>hS.ne x hx) HIN.out H0.out) (hs.ext RPr.keeps he) hform'.out hb' hlet))
      unfold Zo
      gi_wp2_with fail
      refine⟨trivial,?_⟩
      refine (HC.out _ (hEX2.alloc _) (hbox.alloc _)).mono ?_
      rintro e w3 ⟨he3,hm3⟩
      have he23:Ext w2 w3:=Ext.trans ((Ext.refl w2).alloc _) he3
      have hKF3:KeepsFrom W0.heap.size W w3:=KF.ext hKF2 he23
      have hEX3:Ext w w3:=hEX2.trans he23
      have r13:=r12.ext he23
      have r23:=r22.ext he23
      have lt13:=r13.lt
      have lt23:=r23.lt
      have f1:=r13.frozen 0
      have f2:=r13.frozen 1
      have f3:=r23.frozen 0
      have p1:=r13.cell (j:=0) rfl
      have p2:=r13.cell (j:=1) rfl
      have p3:=r23.cell (j:=0) rfl
      rcases hm3 with ⟨x,hx,rfl⟩|⟨hx,rfl⟩
      ·have HP:=ZU (ZKG HIN.out H0.out hfn.out HPN.out hx)
       clear hx
       unfold Zo
       gi_wp2
       obtain⟨Wr,hWr⟩:∃Wr,(((w3.setCell ⟨w.heap.size+1,0,none⟩ (Value.int .i64 x.1)).setCell ⟨w.heap.size+1,1,none⟩ (Value.int .i64 x.2)).setCell ⟨w.heap.size+1+1,0,none⟩ (Value.int .i64 10)).alloc (Obj.cells #[Value.int .i64 x.1,Value.int .i64 x.2] 81)=Wr:=⟨_,rfl⟩
       rw[hWr]
       have s1:ZG Wr (w.heap.size+1) 81 #[.int .i64 x.1,.int .i64 x.2]:=by rw[←hWr];exact kW0
       have s2:ZG Wr (w.heap.size+1+1) 39 #[.int .i64 10]:=by rw[←hWr];exact kW0
       have sx:Ext w Wr:=by rw[←hWr];exact kW0
       have hkf:KeepsFrom W0.heap.size W Wr:=by rw[←hWr];exact kW0
       have hKW:Wr.heap[D]? = some (.deferred (some [])):=hkf.same D _ hD hK rfl
       clear hWr
       have e2:=(s1.putObj hKW rfl (.deferred none)).cell (j:=0) rfl
       have e3:=(s1.putObj hKW rfl (.deferred none)).cell (j:=1) rfl
       have e4:=(s2.putObj hKW rfl (.deferred none)).cell (j:=0) rfl
       refine⟨by simp,.inl ⟨_,_,rfl,run_takeDeferred hKW,?_⟩⟩
       refine⟨.tuple #[Zo x,.int .i64 10],?_,by first|(rw[HP.out];done)|(rw[HP.out];rfl),sx.putObj oM hKW _⟩
       simp[results,Tryz.f98,go_sem,e2,e3,e4,Zo]
      ·have HP:=ZU (ZKF HIN.out H0.out hfn.out HPN.out hx)
       clear hx
       unfold Zo
       gi_wp2
       obtain⟨Wr,hWr⟩:∃Wr,(((w3.setCell ⟨w.heap.size+1,0,none⟩ (Value.int .i64 0)).setCell ⟨w.heap.size+1,1,none⟩ (Value.int .i64 0)).setCell ⟨w.heap.size+1+1,0,none⟩ (Value.int .i64 0)).alloc (Obj.cells #[Value.int .i64 0,Value.int .i64 0] 81)=Wr:=⟨_,rfl⟩
       rw[hWr]
       have s1:ZG Wr (w.heap.size+1) 81 #[.int .i64 0,.int .i64 0]:=by rw[←hWr];exact kW0
       have s2:ZG Wr (w.heap.size+1+1) 39 #[.int .i64 0]:=by rw[←hWr];exact kW0
       have sx:Ext w Wr:=by rw[←hWr];exact kW0
       have hkf:KeepsFrom W0.heap.size W Wr:=by rw[←hWr];exact kW0
       have hKW:Wr.heap[D]? = some (.deferred (some [])):=hkf.same D _ hD hK rfl
       clear hWr
       have e2:=(s1.putObj hKW rfl (.deferred none)).cell (j:=0) rfl
       have e3:=(s1.putObj hKW rfl (.deferred none)).cell (j:=1) rfl
       have e4:=(s2.putObj hKW rfl (.deferred none)).cell (j:=0) rfl
       refine⟨by simp,.inl ⟨_,_,rfl,run_takeDeferred hKW,?_⟩⟩
       refine⟨.tuple #[Zo (0,0),.int .i64 0],?_,by first|(rw[HP.out];done)|(rw[HP.out];rfl),sx.putObj oM hKW _⟩
       simp[results,Tryz.f98,go_sem,e2,e3,e4,Zo]
    case stop =>
     rintro D c' pre W hD hpre ⟨rfl,a,x,⟨⟨⟨hp,hg,hne⟩,r1W⟩,r2W⟩,hxW⟩ hK
     rw[hp]at hpre
     have HST:=ZU (ZFf HIN.out H0.out (ZII hpre hg hne))
     clear hg
     gi_wp2
     have e2:=(r1W.putObj hK rfl (.deferred none)).cell (j:=0) rfl
     have e3:=(r1W.putObj hK rfl (.deferred none)).cell (j:=1) rfl
     have e4:=(r2W.putObj hK rfl (.deferred none)).cell (j:=0) rfl
     refine⟨by simp,.inl ⟨_,_,rfl,run_takeDeferred hK,?_⟩⟩
     refine⟨.tuple #[Zo x,.int .i64 (Xq t x)],?_,by rw[HST.out],hxW.putObj oM hK _⟩
     simp[results,Tryz.f98,go_sem,e2,e3,e4,Zo]

theorem ZAh (u:Value) (t:Tr) (w:World) (hS:Sm t) (hs:SlR 3 RPr w u t) :
  Calls Tryz.prog 44 #[.agg #[u]] w fun e w'=>e=.returned (.bool (Xv t))∧Ext w w':=by
 have HF:=ZU (fun w' (he:Ext w w')=>ZJC u t w' hS (hs.ext RPr.keeps he))
 obtain⟨A,c,rfl,_,hcm,_⟩:=hs.at_
 go_enter Tryz.func44,Tryz.ntmps44
 go_wp2_with fail
 refine (HF.out _ ((Ext.refl w).alloc _)).mono ?_
 rintro e w2 ⟨rfl,he2⟩
 unfold Zo
 go_wp2
 go_ret
 refine⟨ZJ4 ?_,Ext.alloc (Ext.trans ((Ext.refl w).alloc _) he2) _⟩
 unfold Xv
 rw[Bool.eq_iff_iff];simp
end Go.Proofs.YtoccdlnoaindmaaGreatDoor
namespace Go.Proofs.YtoccdlnoaindmaaGreatDoor
open Go.RowKit
set_option linter.unusedVariables false

def J2 (t:Tr) (k m:Int):Nat×Nat:=ZH t (ids t) k m

end Go.Proofs.YtoccdlnoaindmaaGreatDoor
namespace Go.Proofs.YtoccdlnoaindmaaGreatDoor
open Go.RowKit
set_option linter.unusedVariables false

def ZBu (t:Tr) (x:Nat×Nat):List (Nat×Nat):=(if 1<x.2 then [(x.1,x.2-1)] else [])++if (Zm t x).kind==3 then [J2 t 2 (Zm t x).msg] else []

end Go.Proofs.YtoccdlnoaindmaaGreatDoor
namespace Go.Proofs.YtoccdlnoaindmaaGreatDoor
open Go.RowKit
set_option linter.unusedVariables false

def ZMj (D:List Nat):Array Value:=(D.map fun d:Nat=>Value.int .i64 d).toArray
theorem ZJ3 (D:List Nat) (k d:Nat):(ZMj D).setIfInBounds k (.int .i64 d)=ZMj (D.set k d):=by
 unfold ZMj
 rw[List.setIfInBounds_toArray,List.map_set]
theorem ZG.setRow {W:World} {B:Nat} {t:TypeId} {D:List Nat} {k:Nat} (h:ZG W B t (ZMj D)) (d:Nat):ZG (W.setCell ⟨B,k,none⟩ (.int .i64 d)) B t (ZMj (D.set k d)):=by
 rw[←ZJ3];exact h.set _ _
end Go.Proofs.YtoccdlnoaindmaaGreatDoor
namespace Go.Proofs.YtoccdlnoaindmaaGreatDoor
set_option linter.unusedVariables false

theorem Hb.back {t:Tr} {x z:Nat×Nat} (h:Hb t x z):∃y,Dir t y z∧(y=x∨Hb t x y):=by
 cases h with
 |one h=>exact⟨_,h,.inl rfl⟩
 |more h1 h2=>exact⟨_,h2,.inr h1⟩
def ZGQ (D:List Nat) (x:Nat×Nat):Prop:=x.2≤D.getD x.1 0
structure KI (t:Tr) (D:List Nat):Prop where
 len:D.length=t.length
 le:∀p (hp:p<t.length),D.getD p 0≤t[p].evs.length
 closed:∀x∈ids t,ZGQ D x→∀y∈ids t,Dir t y x→ZGQ D y
 acyc:∀x∈ids t,ZGQ D x→¬Hb t x x
theorem KI.start (t:Tr):KI t (List.replicate t.length 0):=by
 have h0:∀p,(List.replicate t.length 0).getD p 0=0:=fun p=>by
  rw[List.getD_eq_getElem?_getD,List.getElem?_replicate];split<;>rfl
 have hn:∀x∈ids t,¬ZGQ (List.replicate t.length 0) x:=fun x hx hg=>by
  have:=JF hx
  unfold ZGQ at hg;rw[h0]at hg;omega
 exact⟨by simp,fun p hp=>by rw[h0];exact Nat.zero_le _,fun x hx hg=>absurd hg (hn x hx),fun x hx hg=>absurd hg (hn x hx)⟩
theorem KI.gone_back {t:Tr} {D:List Nat} (h:KI t D) {x z:Nat×Nat} (hx:x∈ids t) (hz:z∈ids t) (hg:ZGQ D z) (hb:Hb t x z):ZGQ D x:=by
 induction hb with
 |one hd=>exact h.closed _ hz hg _ hx hd
 |more h1 hd ih =>
   have hy:=h1.mem hx
   exact ih hy (h.closed _ hz hg _ hy hd)
theorem ZEf {D:List Nat} {p q d:Nat} (hp:p<D.length):(D.set p d).getD q 0=if q=p then d else D.getD q 0:=by
 rw[List.getD_eq_getElem?_getD,List.getElem?_set]
 by_cases h:p=q
 ·subst h;rw[if_pos rfl,if_pos rfl,if_pos hp];rfl
 ·rw[if_neg h,if_neg (fun e=>h e.symm),List.getD_eq_getElem?_getD]
theorem KI.step {t:Tr} {D:List Nat} (h:KI t D) {p:Nat} (hp:p<t.length) (hi:D.getD p 0<t[p].evs.length) (hpre:∀y∈ids t,Dir t y (p,D.getD p 0+1)→ZGQ D y):KI t (D.set p (D.getD p 0+1)):=by
 have hlen:p<D.length:=by rw[h.len];exact hp
 have hgs:∀x,x∈ids t→(ZGQ (D.set p (D.getD p 0+1)) x↔ZGQ D x∨x=(p,D.getD p 0+1)):=fun x hx=>by
  unfold ZGQ
  rw[ZEf hlen]
  obtain⟨a,b⟩:=x
  simp only[Prod.mk.injEq]
  by_cases ha:a=p
  ·subst ha;rw[if_pos rfl];omega
  ·rw[if_neg ha];simp[ha]
 have hxin:(p,D.getD p 0+1)∈ids t:=XW.2 ⟨hp,by simp,hi⟩
 have hnx:¬ZGQ D (p,D.getD p 0+1):=by unfold ZGQ;simp
 refine⟨by simpa using h.len,fun q hq=>?_,fun x hx hg y hy hd=>?_,fun x hx hg hb=>?_⟩
 ·rw[ZEf hlen]
  split
  ·rename_i e;subst e;exact hi
  ·exact h.le q hq
 ·rcases (hgs x hx).1 hg with h1|rfl
  ·exact (hgs y hy).2 (.inl (h.closed x hx h1 y hy hd))
  ·exact (hgs y hy).2 (.inl (hpre y hy hd))
 ·rcases (hgs x hx).1 hg with h1|rfl
  ·exact h.acyc x hx h1 hb
  ·obtain⟨y,hd,he⟩:=hb.back
   rcases he with rfl|h2
   ·exact hnx (hpre _ hxin hd)
   ·have hy:=h2.mem hxin
    exact hnx (h.gone_back hxin hy (hpre y hy hd) h2)
theorem KI.all {t:Tr} {D:List Nat} (h:KI t D) (hd:∀p (hp:p<t.length),t[p].evs.length≤D.getD p 0):∀x∈ids t,¬Hb t x x:=by
 intro x hx
 obtain⟨hp,h1,h2⟩:=XW.1 hx
 exact h.acyc x hx (Nat.le_trans h2 (hd x.1 hp))
end Go.Proofs.YtoccdlnoaindmaaGreatDoor
namespace Go.Proofs.YtoccdlnoaindmaaGreatDoor
open Go.RowKit
set_option linter.unusedVariables false

theorem ZFH {t:Tr} {q m p:Nat} (hq:q<t.length) (h:Yn t q m p=true):∃y,Xc t 2 m=some y:=by
 have e:Xc t 2 m=(ids t).find? (J7 t 2 m):=rfl
 rw[e]
 unfold Yn Zc at h
 rw[QS dfPr t hq,List.any_eq_true]at h
 obtain⟨ev,he,hk⟩:=h
 obtain⟨j,hj,hev⟩:=List.mem_iff_getElem.1 he
 simp only[Bool.and_eq_true,beq_iff_eq]at hk
 have hmem:(q,j+1)∈ids t:=XW.2 ⟨hq,by simp,hj⟩
 cases hf:(ids t).find? (J7 t 2 m) with
 |some y=>exact⟨y,rfl⟩
 |none =>
   rw[List.find?_eq_none]at hf
   refine absurd ?_ (hf _ hmem)
   unfold J7
   rw[ZA5 hq hj,hev,hk.1.1,hk.1.2]
   simp
structure Paired (t:Tr):Prop where
 form:∀x∈ids t,QN t.length x.1 (Zm t x)=true
 pair:∀x∈ids t,Y7 t x=0
theorem Paired.recv {t:Tr} (h:Paired t) {x:Nat×Nat} (hx:x∈ids t) (hk:(Zm t x).kind=3):Xc t 3 (Zm t x).msg=some x∧∃y,Xc t 2 (Zm t x).msg=some y:=by
 have hp:=h.pair x hx
 obtain⟨m,q,hm,_,hq,hq2,_⟩:=JO (h.form x hx) (by rw[hk];rfl)
 unfold Y7 at hp
 rw[hk]at hp
 simp only[show ((3:Int)==2)=false from rfl,show ((3:Int)==3)=true from rfl,if_true,Bool.false_eq_true,if_false]at hp
 by_cases h1:(Xc t 3 (Zm t x).msg==some x)=true
 ·rw[if_pos h1]at hp
  refine⟨by simpa using h1,?_⟩
  by_cases h2:Yn t (Zm t x).peer.toNat (Zm t x).msg x.1=true
  ·rw[hq,hm,Int.toNat_natCast]at h2
   rw[hm]
   exact ZFH hq2 h2
  ·rw[if_neg h2]at hp;cases hp
 ·rw[if_neg h1]at hp;cases hp
theorem Paired.send {t:Tr} (h:Paired t) {x:Nat×Nat} (hx:x∈ids t) (hk:(Zm t x).kind=2):Xc t 2 (Zm t x).msg=some x:=by
 have hp:=h.pair x hx
 unfold Y7 at hp
 rw[hk]at hp
 simp only[show ((2:Int)==2)=true from rfl,if_true]at hp
 by_cases h1:(Xc t 2 (Zm t x).msg==some x)=true
 ·simpa using h1
 ·rw[if_neg h1]at hp;cases hp
theorem YE {t:Tr} {k m:Int} {y:Nat×Nat} (h:Xc t k m=some y):(Zm t y).kind=k∧(Zm t y).msg=m:=by
 have e:Xc t k m=(ids t).find? (J7 t k m):=rfl
 rw[e]at h
 have:=List.find?_some h
 simpa [J7] using this
theorem JG {t:Tr} (h:Paired t) {x y:Nat×Nat} (hx:x∈ids t):y∈ZBu t x↔(y∈ids t∧Dir t y x):=by
 obtain⟨hp,h1,h2⟩:=XW.1 hx
 unfold ZBu
 rw[List.mem_append]
 constructor
 ·rintro (hy|hy)
  ·split at hy
   ·rename_i hlt
    have:y=(x.1,x.2-1):=by simpa using hy
    subst this
    refine⟨XW.2 ⟨hp,by simp;omega,by simp;omega⟩,.inl ⟨?_,?_⟩⟩
    ·ext<;>simp;omega
    ·unfold Zc;simp only;rw[QS dfPr t hp];omega
   ·cases hy
  ·split at hy
   ·rename_i hk
    have hk3:(Zm t x).kind=3:=by simpa using hk
    obtain⟨h3,z,hz⟩:=h.recv hx hk3
    have hv:J2 t 2 (Zm t x).msg=z:=(Qg hz).1
    have:y=z:=by rw[←hv];simpa using hy
    subst this
    obtain⟨k2,m2⟩:=YE hz
    refine⟨(Qg hz).2.2,.inr ⟨k2,?_⟩⟩
    rw[m2];exact h3
   ·cases hy
 ·rintro⟨hy,(⟨he,hl⟩|⟨hk,hf⟩)⟩
  ·obtain⟨_,hy1,_⟩:=XW.1 hy
   left
   rw[he]
   simp only
   rw[if_pos oM]
   simp
  ·right
   obtain⟨k3,m3⟩:=YE hf
   rw[k3]
   simp only[show ((3:Int)==3)=true from rfl,if_true]
   have:=h.send hy hk
   rw[m3,show J2 t 2 (Zm t y).msg=y from (Qg this).1]
   simp
theorem Hb.cons {t:Tr} {x y z:Nat×Nat} (h:Dir t x y) (k:Hb t y z):Hb t x z:=by
 induction k with
 |one h2=>exact .more (.one h) h2
 |more _ h2 ih=>exact .more ih h2
structure PaI (t:Tr) (x:Nat×Nat) (S R:List (Nat×Nat)):Prop where
 nod:S.Nodup
 s:∀y∈S,y∈ids t∧Hb t y x
 r:∀y∈R,y∈ids t∧Hb t y x
 closed:∀z,z=x∨z∈S→∀y∈ids t,Dir t y z→y∈S∨y∈R
structure PaJ (t:Tr) (x z0:Nat×Nat) (S R:List (Nat×Nat)) (k:Nat):Prop where
 nod:S.Nodup
 s:∀y∈S,y∈ids t∧Hb t y x
 r:∀y∈R,y∈ids t∧Hb t y x
 cur:z0∈S
 done:∀y∈(ZBu t z0).take k,y∈R
 closed:∀z,z=x∨z∈S→z≠z0→∀y∈ids t,Dir t y z→y∈S∨y∈R
theorem PaI.start {t:Tr} (h:Paired t) {x:Nat×Nat} (hx:x∈ids t):PaI t x [] (ZBu t x):=
 ⟨List.nodup_nil,by simp,fun y hy=>let ⟨a,b⟩:=(JG h hx).1 hy;⟨a,.one b⟩,fun z hz y hy hd=>by
  rcases hz with rfl|h1
  ·exact .inr ((JG h hx).2 ⟨hy,hd⟩)
  ·cases h1⟩
theorem PaI.skip {t:Tr} {x y:Nat×Nat} {S R:List (Nat×Nat)} (h:PaI t x S (y::R)) (hy:y∈S):PaI t x S R:=
 ⟨h.nod,h.s,fun z hz=>h.r z (by simp[hz]),fun z hz w hw hd=>by
  rcases h.closed z hz w hw hd with h1|h1
  ·exact .inl h1
  ·rcases List.mem_cons.1 h1 with rfl|h2
   ·exact .inl hy
   ·exact .inr h2⟩
theorem PaJ.push {t:Tr} (hp:Paired t) {x z0 y:Nat×Nat} {S R:List (Nat×Nat)} {k:Nat} (h:PaJ t x z0 S R k) (hk:(ZBu t z0)[k]? = some y):PaJ t x z0 S (R++[y]) (k+1):=by
 obtain⟨hz,hzx⟩:=h.s z0 h.cur
 obtain⟨hy,hd⟩:=(JG hp hz).1 (List.mem_of_getElem? hk)
 refine⟨h.nod,h.s,fun w hw=>?_,h.cur,fun w hw=>?_,fun z hz' hne w hw hd'=>?_⟩
 ·rcases List.mem_append.1 hw with h1|h1
  ·exact h.r w h1
  ·have:w=y:=by simpa using h1
   subst this;exact⟨hy,.cons hd hzx⟩
 ·rw[Uk hk]at hw
  rcases List.mem_append.1 hw with h1|h1
  ·simp[h.done w h1]
  ·exact List.mem_append.2 (.inr h1)
 ·rcases h.closed z hz' hne w hw hd' with h1|h1
  ·exact .inl h1
  ·exact .inr (by simp[h1])
theorem PaJ.fin {t:Tr} (hp:Paired t) {x z0:Nat×Nat} {S R:List (Nat×Nat)} {k:Nat} (h:PaJ t x z0 S R k) (hk:(ZBu t z0).length≤k):PaI t x S R:=
 ⟨h.nod,h.s,h.r,fun z hz w hw hd=>by
  by_cases he:z=z0
  ·subst he
   refine .inr (h.done w ?_)
   rw[List.take_of_length_le hk]
   exact (JG hp (h.s z h.cur).1).2 ⟨hw,hd⟩
  ·exact h.closed z hz he w hw hd⟩
theorem PaI.all {t:Tr} {x:Nat×Nat} {S:List (Nat×Nat)} (h:PaI t x S []):∀y∈ids t,y∈S↔Hb t y x:=by
 intro y hy
 refine⟨fun hs=>(h.s y hs).2,fun hb=>?_⟩
 have key:∀z,Hb t y z→(z=x∨z∈S)→y∈S:=by
  intro z hz
  induction hz with
  |one hd=>exact fun hc=>(h.closed _ hc _ hy hd).resolve_right (by simp)
  |more h1 hd ih=>exact fun hc=>ih (.inr ((h.closed _ hc _ (h1.mem hy) hd).resolve_right (by simp)))
 exact key x hb (.inl rfl)
theorem PaI.few {t:Tr} {x:Nat×Nat} {S R:List (Nat×Nat)} (h:PaI t x S R):S.length≤(ids t).length:=Jn h.nod fun y hy=>(h.s y hy).1
theorem PaJ.few {t:Tr} {x z0:Nat×Nat} {S R:List (Nat×Nat)} {k:Nat} (h:PaJ t x z0 S R k):S.length≤(ids t).length:=Jn h.nod fun y hy=>(h.s y hy).1
def rowM (S:List (Nat×Nat)) (p n:Nat):Array Value:=((List.range n).map fun i=>Value.bool (decide ((p,i)∈S))).toArray
theorem ZJ2 {S:List (Nat×Nat)} {p n i:Nat} (h:i<n):(rowM S p n)[i]? = some (.bool (decide ((p,i)∈S))):=by simp[rowM,h]
def rowV (q:Nat×Nat):Value:=.slice (some ⟨q.1,0,none⟩) q.2 q.2
structure GridM (tr tb:TypeId) (W:World) (B:Nat) (v:Value) (gs S:List (Nat×Nat)):Prop where
 out:Ql 1 tr W B v gs.length (gs.map rowV)
 row:∀p (hp:p<gs.length),ZG W gs[p].1 tb (rowM S p gs[p].2)∧B≤gs[p].1
 nod:∀p q (hp:p<gs.length) (hq:q<gs.length),gs[p].1=gs[q].1→p=q
section
variable {tr tb:TypeId} {W W':World} {B:Nat} {v:Value} {gs S:List (Nat×Nat)}
theorem GridM.ext (h:GridM tr tb W B v gs S) (he:Ext W W'):GridM tr tb W' B v gs S:=⟨h.out.ext he,fun p hp=>⟨(h.row p hp).1.ext he,(h.row p hp).2⟩,h.nod⟩
theorem GridM.drewN (h:GridM tr tb W B v gs S) (n:Nat):GridM tr tb (W.drewN n) B v gs S:=h.ext ((Ext.refl W).drewN n)
theorem GridM.alloc (h:GridM tr tb W B v gs S) (o:Obj):GridM tr tb (W.alloc o) B v gs S:=h.ext ((Ext.refl W).alloc o)
theorem GridM.kept (h:GridM tr tb W B v gs S) {r:Option Nat} (hg:W.grownBy W' r) (h1:v.ownBlock≠r∨v.ownBlock=none) (h2:∀p (hp:p<gs.length),some gs[p].1≠r):GridM tr tb W' B v gs S:=
 ⟨h.out.kept hg (h1.symm),fun p hp=>⟨(h.row p hp).1.kept hg (h2 p hp),(h.row p hp).2⟩,h.nod⟩
end
def marks (t:Tr) (gs:List (Nat×Nat)) (w:World):Nat:=(ids t).countP fun x=>match w.cell? ⟨(gs.getD x.1 (0,0)).1,x.2,none⟩ with|some (.bool true)=>true|_=>false
theorem ZJs {t:Tr} {tr tb:TypeId} {W:World} {B:Nat} {v:Value} {gs S:List (Nat×Nat)} (h:GridM tr tb W B v gs S) (hl:∀x∈ids t,∃(hp:x.1<gs.length),x.2<gs[x.1].2) (hn:S.Nodup) (hs:∀y∈S,y∈ids t):marks t gs W=S.length:=by
 have e:marks t gs W=(ids t).countP fun x=>decide (x∈S):=by
  unfold marks
  refine List.countP_congr fun x hx=>?_
  obtain⟨hp,hi⟩:=hl x hx
  rw[QS (0,0) gs hp,(h.row x.1 hp).1.cell (ZJ2 hi)]
  cases decide ((x.1,x.2)∈S)<;>simp
 rw[e,List.countP_eq_length_filter]
 apply Nat.le_antisymm
 ·exact Jn ((ZCV t).filter _) fun x hx=>by simpa using (List.mem_filter.1 hx).2
 ·exact Jn hn fun x hx=>List.mem_filter.2 ⟨hs x hx,by simpa using hx⟩
end Go.Proofs.YtoccdlnoaindmaaGreatDoor
namespace Go.Proofs.YtoccdlnoaindmaaGreatDoor
open Go.RowKit
set_option linter.unusedVariables false

section
variable {size:Nat} {e:TypeId} {w w':World} {B:Nat} {v v':Value} {n:Nat} {cs:List Value}
theorem Ql.apart {size' n':Nat} {e':TypeId} {B':Nat} {v':Value} {cs':List Value} (h:Ql size e w B v n cs) (h':Ql size' e' w B' v' n' cs') (hne:e≠e'):v.ownBlock=none∨v.ownBlock≠v'.ownBlock:=by
 rcases h'.2 with ⟨rfl,_⟩|⟨g,off,cap,cur,rfl,_,hbox,_⟩
 ·cases hv:v.ownBlock
  ·exact .inl rfl
  ·right;simp[Value.ownBlock]
 ·exact .inr (h.not_box hbox hne.symm)
end
end Go.Proofs.YtoccdlnoaindmaaGreatDoor
namespace Go.Proofs.YtoccdlnoaindmaaGreatDoor
open Go.RowKit
set_option linter.unusedVariables false

abbrev ZNg (W:World) (B:Nat) (v:Value) (gs S:List (Nat×Nat)):Prop:=GridM 199 4 W B v gs S
def GLen (t:Tr) (gs:List (Nat×Nat)) (k:Nat):Prop:=gs.length=k∧∀p (hp:p<gs.length) (ht:p<t.length),gs[p].2=t[p].evs.length+1
theorem ZNg.grow {W W':World} {B n g0:Nat} {v v':Value} {gs:List (Nat×Nat)} (h:ZNg W B v gs []) (hr:ZG W g0 4 (rowM [] gs.length n)) (hB:B≤g0) (hnew:∀p (hp:p<gs.length),gs[p].1≠g0)
  (hv:Ql 1 199 W' B v' (gs.length+1) (gs.map rowV++[rowV (g0,n)])) (hg:Grw W v W' v'):ZNg W' B v' (gs++[(g0,n)]) []:=by
 have hne:∀(b:Nat) (cs:Array Value),ZG W b 4 cs→some b≠v.ownBlock:=fun b cs hb e=>h.out.not_box hb (by decide) e.symm
 refine⟨?_,?_,?_⟩
 ·rw[List.length_append,List.map_append];exact hv
 ·intro p hp
  rw[List.length_append,List.length_singleton]at hp
  by_cases hlt:p<gs.length
  ·rw[List.getElem_append_left hlt]
   exact⟨(h.row p hlt).1.kept hg.1 (hne _ _ (h.row p hlt).1),(h.row p hlt).2⟩
  ·obtain rfl:p=gs.length:=by omega
   rw[List.getElem_append_right (Nat.le_refl _)]
   simp only[Nat.sub_self,List.getElem_singleton]
   exact⟨hr.kept hg.1 (hne _ _ hr),hB⟩
 ·intro p q hp hq he
  rw[List.length_append,List.length_singleton]at hp hq
  by_cases h1:p<gs.length
  ·by_cases h2:q<gs.length
   ·rw[List.getElem_append_left h1,List.getElem_append_left h2]at he
    exact h.nod p q h1 h2 he
   ·obtain rfl:q=gs.length:=by omega
    rw[List.getElem_append_left h1,List.getElem_append_right (Nat.le_refl _)]at he
    simp only[Nat.sub_self,List.getElem_singleton]at he
    exact absurd he (hnew p h1)
  ·obtain rfl:p=gs.length:=by omega
   by_cases h2:q<gs.length
   ·rw[List.getElem_append_left h2,List.getElem_append_right (Nat.le_refl _)]at he
    simp only[Nat.sub_self,List.getElem_singleton]at he
    exact absurd he.symm (hnew q h2)
   ·omega
theorem ZNg.marks {t:Tr} {W:World} {B:Nat} {v:Value} {gs S:List (Nat×Nat)} (h:ZNg W B v gs S) (hl:GLen t gs t.length) (hn:S.Nodup) (hs:∀y∈S,y∈ids t):marks t gs W=S.length:=
 ZJs h (fun y hy=>by
  obtain⟨hp,_,h2⟩:=XW.1 hy
  have h3:y.1<gs.length:=by rw[hl.1];exact hp
  exact⟨h3,by rw[hl.2 y.1 h3 hp];omega⟩) hn hs
end Go.Proofs.YtoccdlnoaindmaaGreatDoor
namespace Go.Proofs.YtoccdlnoaindmaaGreatDoor
open Go.RowKit
set_option linter.unusedVariables false
attribute [local go_sem] Oper.semAt_some

noncomputable def Qs (t:Tr) (kd m:Int):Nat×Nat:=if Xv t then J2 t kd m else (0,0)
noncomputable def KW (t:Tr):Nat:=if Xv t then (ids t).length else 0
def ZJB (t:Tr) (kd m:Int) (w:World) (e:Ending) (w':World):Prop:=e=.returned (.tuple #[Zo (Qs t kd m),.bool (decide (0<(Qs t kd m).2))])∧Ext w w'
def FdI (t:Tr) (w:World) (kd m:Int) (l:List (Nat×Nat)) (W:World):Prop:=
 (((((ZG W (w.heap.size+1) 3 #[.int .i64 kd]∧ZG W (w.heap.size+1+1) 3 #[.int .i64 m])∧ZG W (w.heap.size+1+1+1) 81 #[.int .i64 0,.int .i64 0])∧ZG W (w.heap.size+1+1+1+1) 4 #[.bool false])∧Ext w W)∧l.find? (J7 t kd m)=none)
def FdX (t:Tr) (w:World) (kd m:Int) (l:List (Nat×Nat)) (W:World):Prop:=
 ∃a x,(((l=a++[x]∧a.find? (J7 t kd m)=none∧J7 t kd m x=true)∧ZG W (w.heap.size+1+1+1) 81 #[.int .i64 x.1,.int .i64 x.2])∧ZG W (w.heap.size+1+1+1+1) 4 #[.bool true])∧Ext w W
theorem ZBk (t:Tr) (w:World) (kd m:Int) {n:Nat} (hn:w.heap.size≤n):OwnFrom n (fun (pre:List (Idt t)) W=>FdI t w kd m (pre.map (·.1)) W):=
 OwnFrom.and (OwnFrom.and (OwnFrom.and (OwnFrom.and (OwnFrom.and (ZJ _ _ _ _) (ZJ _ _ _ _)) (ZJ _ _ _ _)) (ZJ _ _ _ _)) (Yx hn)) (ownFrom_pure _ _)
theorem ZKE (t:Tr) (w:World) (kd m:Int) {n:Nat} (hn:w.heap.size≤n):OwnFrom n (fun (pre:List (Idt t)) W=>FdX t w kd m (pre.map (·.1)) W):=by
 rintro s X Y row ⟨a,x,h⟩ hg hr
 refine⟨a,x,⟨⟨h.1.1.1,?_⟩,?_⟩,Yx hn () X Y row h.2 hg hr⟩
 ·exact ZJ _ n _ (fun (_:Unit)=>_) () X Y row h.1.1.2 hg hr
 ·exact ZJ _ n _ (fun (_:Unit)=>_) () X Y row h.1.2 hg hr
theorem ZFa {t:Tr} {kd m:Int} {a:List (Nat×Nat)} {x:Nat×Nat} (hv:Xv t=true) (hp:a++[x] <+: ids t) (h0:a.find? (J7 t kd m)=none) (hx:J7 t kd m x=true):Qs t kd m=x∧0<x.2:=by
 obtain⟨c,hc⟩:=hp
 have hf:(ids t).find? (J7 t kd m)=some x:=by
  rw[←hc,List.append_assoc,List.find?_append,h0];simp[hx]
 refine⟨?_,JF (t:=t) (by rw[←hc];simp)⟩
 unfold Qs J2 ZH
 rw[if_pos hv,hf];rfl
theorem ZFb {t:Tr} {kd m:Int} (h:(ids t).find? (J7 t kd m)=none):Qs t kd m=(0,0):=by
 unfold Qs J2 ZH
 rw[h];simp

theorem kW1 {p:Prop} (h:p:=by (with_reducible repeat (first|assumption|exact KeepsFrom.refl _ _|refine KF.set ?_ _ _|refine KF.alloc ?_ _|refine KF.drew ?_|refine KF.drewN ?_ _|refine KF.ext ?_ aS|exact Below.refl _ _|refine BL.set ?_ _ _ _ oM|refine BL.alloc ?_ _ oM|refine BL.drew ?_|refine BL.drewN ?_ _|refine BL.ext ?_ aS oM|exact Ext.refl _|refine Ext.set ?_ oM _|refine Ext.alloc ?_ _|refine Ext.drew ?_|refine Ext.drewN ?_ _|refine Ext.trans ?_ aS|refine ZG.alloc ?_ _|refine ZG.drew ?_|refine ZG.drewN ?_ _|refine ZG.other ?_ oM _|refine ZG.set ?_ _ _|apply ZG.set1|apply ZG.set2_1|apply ZG.set2_0|apply ZG.set5_4|apply ZG.set5_3|apply ZG.set5_2|apply ZG.set5_1|apply ZG.set5_0|apply ZG.set3_2|apply ZG.set3_1|apply ZG.set3_0|apply ZG.set4_3|apply ZG.set4_2|apply ZG.set4_1|apply ZG.set4_0|refine ZG.ext ?_ aS));done):p:=h
theorem ZEi (u:Value) (t:Tr) (kd m:Int) (w:World) (hS:Small t) (hs:SlR 3 RPr w u t) :
  Calls Tryz.prog 95 #[.agg #[u],.int .i64 kd,.int .i64 m] w fun e w'=>ZJB t kd m w e w':=by
 have HV:=ZU (fun w' (he:Ext w w')=>callsIn_wide (n:=8).2 (ZAh u t w' hS.sm (hs.ext RPr.keeps he)))
 refine callsIn_wide (n:=9).1 ?_
 refine callsIn_of_wp_marks Tryz.func95 rfl trivial ?_ rfl
 simp only[Tryz.ntmps95,List.size_toArray,List.length_cons,List.length_nil,Nat.reduceAdd,Nat.reduceSub,Array.replicate_succ,Array.replicate_zero,List.push_toArray,List.append_toArray,List.nil_append,List.cons_append]
 obtain⟨A,c,rfl,_,hcm,_⟩:=hs.at_
 gi_wp2_with fail
 refine⟨trivial,?_⟩
 have hx1:Ext w ((((((w).alloc (.cells #[.slice A t.length c] 36)).alloc (.cells #[.int .i64 kd] 3)).alloc (.cells #[.int .i64 m] 3)).alloc (.cells #[.int .i64 0,.int .i64 0] 81)).alloc (.cells #[.bool false] 4)):=(((((Ext.refl w).alloc _).alloc _).alloc _).alloc _).alloc _
 have b1:ZG ((((((w).alloc (.cells #[.slice A t.length c] 36)).alloc (.cells #[.int .i64 kd] 3)).alloc (.cells #[.int .i64 m] 3)).alloc (.cells #[.int .i64 0,.int .i64 0] 81)).alloc (.cells #[.bool false] 4)) (w.heap.size+1) 3 #[.int .i64 kd]:=(((ZG.newAt _ _ (by simp)).alloc _).alloc _).alloc _
 have b2:ZG ((((((w).alloc (.cells #[.slice A t.length c] 36)).alloc (.cells #[.int .i64 kd] 3)).alloc (.cells #[.int .i64 m] 3)).alloc (.cells #[.int .i64 0,.int .i64 0] 81)).alloc (.cells #[.bool false] 4)) (w.heap.size+1+1) 3 #[.int .i64 m]:=((ZG.newAt _ _ (by simp)).alloc _).alloc _
 have b3:ZG ((((((w).alloc (.cells #[.slice A t.length c] 36)).alloc (.cells #[.int .i64 kd] 3)).alloc (.cells #[.int .i64 m] 3)).alloc (.cells #[.int .i64 0,.int .i64 0] 81)).alloc (.cells #[.bool false] 4)) (w.heap.size+1+1+1) 81 #[.int .i64 0,.int .i64 0]:=(ZG.newAt _ _ (by simp)).alloc _
 have b4:ZG ((((((w).alloc (.cells #[.slice A t.length c] 36)).alloc (.cells #[.int .i64 kd] 3)).alloc (.cells #[.int .i64 m] 3)).alloc (.cells #[.int .i64 0,.int .i64 0] 81)).alloc (.cells #[.bool false] 4)) (w.heap.size+1+1+1+1) 4 #[.bool false]:=ZG.newAt _ _ (by simp)
 have bT:ZG ((((((w).alloc (.cells #[.slice A t.length c] 36)).alloc (.cells #[.int .i64 kd] 3)).alloc (.cells #[.int .i64 m] 3)).alloc (.cells #[.int .i64 0,.int .i64 0] 81)).alloc (.cells #[.bool false] 4)) (w.heap.size) 36 #[.slice A t.length c]:=((((ZG.new _ _ _).alloc _).alloc _).alloc _).alloc _
 generalize (((((w).alloc (.cells #[.slice A t.length c] 36)).alloc (.cells #[.int .i64 kd] 3)).alloc (.cells #[.int .i64 m] 3)).alloc (.cells #[.int .i64 0,.int .i64 0] 81)).alloc (.cells #[.bool false] 4)=W1 at *
 refine (HV.out _ hx1).mono ?_
 rintro e w2 ⟨rfl,he2⟩
 replace hx1:=hx1.trans he2
 replace b1:=b1.ext he2
 replace b2:=b2.ext he2
 replace b3:=b3.ext he2
 replace b4:=b4.ext he2
 replace bT:=bT.ext he2
 clear he2
 have f0:=b3.frozen 0
 have f1:=b3.frozen 1
 have f2:=b4.frozen 0
 have r0:w2.cell? ⟨w.heap.size+1+1+1,0,none⟩=some (.int .i64 0):=b3.cell (j:=0) rfl
 have r1:w2.cell? ⟨w.heap.size+1+1+1,1,none⟩=some (.int .i64 0):=b3.cell (j:=1) rfl
 have r2:w2.cell? ⟨w.heap.size+1+1+1+1,0,none⟩=some (.bool false):=b4.cell (j:=0) rfl
 have t0:w2.cell? ⟨w.heap.size,0,none⟩=some (.slice A t.length c):=bT.cell (j:=0) rfl
 cases hv:Xv t
 ·have HF:=ZU (show Qs t kd m=(0,0) by unfold Qs;rw[hv];rfl)
  clear hv
  gi_wp2_with fail
  obtain⟨Wr,hWr⟩:∃Wr,((w2.setCell ⟨w.heap.size+1+1+1,0,none⟩ (Value.int .i64 0)).setCell ⟨w.heap.size+1+1+1,1,none⟩ (Value.int .i64 0)).setCell ⟨w.heap.size+1+1+1+1,0,none⟩ (Value.bool false)=Wr:=⟨_,rfl⟩
  rw[hWr]
  have s1:ZG Wr (w.heap.size+1+1+1) 81 #[.int .i64 0,.int .i64 0]:=by rw[←hWr];exact kW1
  have s2:ZG Wr (w.heap.size+1+1+1+1) 4 #[.bool false]:=by rw[←hWr];exact kW1
  have sx:Ext w Wr:=by rw[←hWr];exact kW1
  clear hWr
  refine⟨.tuple #[Zo (0,0),.bool false],by simp[results,Tryz.f95,go_sem,Zo,s1.cell (j:=0) rfl,s1.cell (j:=1) rfl,s2.cell (j:=0) rfl],by rw[HF.out];rfl,sx⟩
 ·have HVL:=ZU hv
  clear hv
  have hnp:=hS.np
  gi_wp2_with (refine⟨trivial,?_⟩;gi_at_call 101;refine (callsIn_wide.2 (Jb _ _)).mono ?_;rintro e w' ⟨rfl,rfl⟩)
  have bt:=ZG.new w2 36 #[.slice A t.length c]
  have hM0:FdI t w kd m [] (w2.alloc (.cells #[.slice A t.length c] 36)):=⟨⟨⟨⟨⟨b1.alloc _,b2.alloc _⟩,b3.alloc _⟩,b4.alloc _⟩,hx1.alloc _⟩,rfl⟩
  have hwr:w.heap.size≤w2.heap.size:=hx1.size
  have hsz0:(w2.alloc (.cells #[.slice A t.length c] 36)).heap.size=w2.heap.size+1:=by simp
  generalize (w2.alloc (.cells #[.slice A t.length c] 36))=W0 at *
  have hext0:Ext w W0:=hM0.1.2
  have hw0:w.heap.size≤W0.heap.size:=by omega
  clear hsz0 f0 f1 f2 r0 r1 r2 t0
  refine wpIn_rangeFunc_ownH rfl oM (gf:=148) (lb:=#[.pointer (some ⟨w2.heap.size,0,none⟩)]) rfl trivial (QV Tryz.func148 (by decide) rfl)
   (Yg 8 oM w (.slice A t.length c) t w2.heap.size W0 hnp hS.ne hs hext0 (bt.cell rfl) hwr) belowK_t (belowK_b hw0) (Below.refl _ _) (fun _=>rfl)
   (fun pre W=>FdI t w kd m (pre.map (·.1)) W) (fun c pre W=>c=.ret∧FdX t w kd m (pre.map (·.1)) W) (ZBk t w kd m hw0) (fun c=>OwnFrom.and (ownFrom_pure _ _) (ZKE t w kd m hw0)) hM0
   (fun x a' W=>∃B6 B7 A4 n4 c4 v13 v14,(w.heap.size+1+1+1+1<B6∧w.heap.size+1+1+1+1<B7)∧ZG W B6 81 #[.int .i64 x.1.1,.int .i64 x.1.2]∧ZG W B7 79 #[.int .i64 (Zm t x.1).kind,.int .i64 (Zm t x.1).peer,.int .i64 (Zm t x.1).msg,.int .i64 (Zm t x.1).time,.slice A4 n4 c4] ∧
    a'={tmps:=#[.agg #[.slice A t.length c],.int .i64 kd,.int .i64 m,.pointer (some ⟨w.heap.size,0,none⟩),.pointer (some ⟨w.heap.size+1,0,none⟩),.pointer (some ⟨w.heap.size+1+1,0,none⟩),.pointer (some ⟨w.heap.size+1+1+1,0,none⟩),.pointer (some ⟨w.heap.size+1+1+1+1,0,none⟩),.pointer (some ⟨B6,0,none⟩),.pointer (some ⟨B7,0,none⟩),.agg #[.slice A t.length c],.bool true,.bool false,undef,.agg #[.slice A t.length c],.func (.func 148) #[] #[.pointer (some ⟨w2.heap.size,0,none⟩)],v13,v14,undef,undef,undef,undef,undef,undef,undef,undef,undef,undef,undef,undef],defers:=[]})
   ?hax ?assign ?body ?done ?stop
  case hax =>
   rintro x a' _ X Y row ⟨B6,B7,A4,n4,c4,v13,v14,hB,b6,b7,ha⟩ hg hr
   exact⟨B6,B7,A4,n4,c4,v13,v14,hB,ZJ B6 _ _ (fun (_:Unit)=>_) () X Y row b6 hg hr,ZJ B7 _ _ (fun (_:Unit)=>_) () X Y row b7 hg hr,ha⟩
  case assign =>
   rintro l pre x W K hI hK
   obtain⟨a,hv,hsa⟩:=ZBm hs x.2
   obtain⟨A4,c4,rfl,_,_,_⟩:=hsa.at_
   clear hsa
   simp only[hv]
   have hsW:=hI.1.2.size
   have h5:=hI.1.1.2.lt
   unfold Zo
   gi_wp2
   exact hK _ _ (((KeepsOthers.alloc _ _).trans (KeepsOthers.alloc _ _)).from _) (((Below.refl _ W).alloc hsW _).alloc (by simp;omega) _) ((ZBk t w kd m (Nat.le_refl _)).alloc _ ((ZBk t w kd m (Nat.le_refl _)).alloc _ hI))
    ⟨W.heap.size,W.heap.size+1,A4,_,c4,_,_,⟨h5,by omega⟩,(ZG.new _ _ _).alloc _,ZG.newAt _ _ (by simp),rfl⟩
  case body =>
   rintro l pre x a' W hlW ⟨r,hr⟩ hI ⟨B6,B7,A4,n4,c4,v13,v14,⟨hB6,hB7⟩,b6,b7,rfl⟩ hlen
   obtain⟨⟨⟨⟨⟨c1,c2⟩,c3⟩,c4'⟩,hxW⟩,hno⟩:=hI
   have hsW:=hxW.size
   have HNO:=ZU hno
   have HKEY:=ZU (show J7 t kd m x.1=(((Zm t x.1).kind==kd)&&((Zm t x.1).msg==m)) from rfl)
   clear hno
   have k0:=b7.cell (j:=0) rfl
   have k1:=b7.cell (j:=1) rfl
   have k2:=b7.cell (j:=2) rfl
   have k3:=b7.cell (j:=3) rfl
   have k4:=b7.cell (j:=4) rfl
   have i0:=b6.cell (j:=0) rfl
   have i1:=b6.cell (j:=1) rfl
   have d1:=c1.cell (j:=0) rfl
   have d2:=c2.cell (j:=0) rfl
   have f0:=c3.frozen 0
   have f1:=c3.frozen 1
   have f2:=c4'.frozen 0
   have r0:=c3.cell (j:=0) rfl
   have r1:=c3.cell (j:=1) rfl
   have r2:=c4'.cell (j:=0) rfl
   have hkk:∀b1 b2,((Zm t x.1).kind==kd)=b1→((Zm t x.1).msg==m)=b2→J7 t kd m x.1=(b1&&b2):=fun b1 b2 h1 h2=>by rw[HKEY.out,h1,h2]
   have HKK:=ZU hkk
   clear hkk
   have hIok:∀y:Nat×Nat,y=x.1→J7 t kd m x.1=false→(pre.map (·.1)++[y]).find? (J7 t kd m)=none:=fun y hy h=>by
    rw[List.find?_append,HNO.out,hy];simp[h]
   have HIOK:=ZU hIok
   clear hIok
   cases q1:(Zm t x.1).kind==kd
   ·have HN:=ZU (HIOK.out x.1 rfl (HKK.out _ _ q1 rfl))
    gi_wp2
    refine⟨KeepsFrom.refl _ _,Below.refl _ _,?_⟩
    show FdI t w kd m ((pre++[x]).map (·.1)) _
    rw[Yb]
    exact⟨⟨⟨⟨⟨c1,c2⟩,c3⟩,c4'⟩,hxW⟩,HN.out⟩
   ·cases q2:(Zm t x.1).msg==m
    ·have HN:=ZU (HIOK.out x.1 rfl (by rw[HKK.out _ _ q1 q2];rfl))
     gi_wp2
     refine⟨KeepsFrom.refl _ _,Below.refl _ _,?_⟩
     show FdI t w kd m ((pre++[x]).map (·.1)) _
     rw[Yb]
     exact⟨⟨⟨⟨⟨c1,c2⟩,c3⟩,c4'⟩,hxW⟩,HN.out⟩
    ·have HN:=ZU (HKK.out _ _ q1 q2)
     gi_wp2
     refine⟨?_,rfl,pre.map (·.1),x.1,⟨⟨⟨Yb pre x,HNO.out,HN.out⟩,?_⟩,?_⟩,?_⟩
     all_goals exact kW1
  case done =>
   rintro D ys W hD hys ⟨⟨⟨⟨⟨c1,c2⟩,c3⟩,c4⟩,hxW⟩,hno⟩ hK
   rw[hys]at hno
   have HF:=ZU (ZFb hno)
   clear hno
   have f0:=c3.frozen 0
   have f1:=c3.frozen 1
   have f2:=c4.frozen 0
   have r0:=c3.cell (j:=0) rfl
   have r1:=c3.cell (j:=1) rfl
   have r2:=c4.cell (j:=0) rfl
   gi_wp2
   obtain⟨Wr,hWr⟩:∃Wr,((W.setCell ⟨w.heap.size+1+1+1,0,none⟩ (Value.int .i64 0)).setCell ⟨w.heap.size+1+1+1,1,none⟩ (Value.int .i64 0)).setCell ⟨w.heap.size+1+1+1+1,0,none⟩ (Value.bool false)=Wr:=⟨_,rfl⟩
   rw[hWr]
   have s1:ZG Wr (w.heap.size+1+1+1) 81 #[.int .i64 0,.int .i64 0]:=by rw[←hWr];exact kW1
   have s2:ZG Wr (w.heap.size+1+1+1+1) 4 #[.bool false]:=by rw[←hWr];exact kW1
   have sx:Ext w Wr:=by rw[←hWr];exact kW1
   have hkf:KeepsFrom W0.heap.size W Wr:=by rw[←hWr];exact kW1
   have hKW:Wr.heap[D]? = some (.deferred (some [])):=hkf.same D _ hD hK rfl
   clear hWr
   have e2:=(s1.putObj hKW rfl (.deferred none)).cell (j:=0) rfl
   have e3:=(s1.putObj hKW rfl (.deferred none)).cell (j:=1) rfl
   have e4:=(s2.putObj hKW rfl (.deferred none)).cell (j:=0) rfl
   refine⟨by simp,.inl ⟨_,_,rfl,run_takeDeferred hKW,?_⟩⟩
   refine⟨.tuple #[Zo (0,0),.bool false],?_,by rw[HF.out];rfl,sx.putObj oM hKW _⟩
   simp[results,Tryz.f95,go_sem,e2,e3,e4,Zo]
  case stop =>
   rintro D c' pre W hD hpre ⟨rfl,a,x,⟨⟨⟨hp,h0,hx⟩,r1W⟩,r2W⟩,hxW⟩ hK
   rw[hp]at hpre
   have HST:=ZU (ZFa HVL.out hpre h0 hx)
   clear h0 hx
   gi_wp2
   have e2:=(r1W.putObj hK rfl (.deferred none)).cell (j:=0) rfl
   have e3:=(r1W.putObj hK rfl (.deferred none)).cell (j:=1) rfl
   have e4:=(r2W.putObj hK rfl (.deferred none)).cell (j:=0) rfl
   refine⟨by simp,.inl ⟨_,_,rfl,run_takeDeferred hK,?_⟩⟩
   refine⟨.tuple #[Zo x,.bool true],?_,by rw[HST.out.1,decide_eq_true HST.out.2],hxW.putObj oM hK _⟩
   simp[results,Tryz.f95,go_sem,e2,e3,e4,Zo]
theorem ZGO (u:Value) (t:Tr) (m:Int) (w:World) (hS:Small t) (hs:SlR 3 RPr w u t) :
  Calls Tryz.prog 41 #[.agg #[u],.int .i64 m] w fun e w'=>ZJB t 2 m w e w':=by
 have HF:=ZU (fun w' (he:Ext w w')=>ZEi u t 2 m w' hS (hs.ext RPr.keeps he))
 obtain⟨A,c,rfl,_,hcm,_⟩:=hs.at_
 go_enter Tryz.func41,Tryz.ntmps41
 go_wp2_with fail
 have hx1:=((Ext.refl w).alloc (.cells #[.slice A t.length c] 36)).alloc (.cells #[.int .i64 0,.int .i64 0] 81)
 have b3:ZG ((w.alloc (.cells #[.slice A t.length c] 36)).alloc (.cells #[.int .i64 0,.int .i64 0] 81)) (w.heap.size+1) 81 #[.int .i64 0,.int .i64 0]:=ZG.newAt _ _ (by simp)
 generalize (w.alloc (.cells #[.slice A t.length c] 36)).alloc (.cells #[.int .i64 0,.int .i64 0] 81)=W1 at *
 refine (HF.out _ hx1).mono ?_
 rintro e w2 ⟨rfl,he2⟩
 have hx2:=hx1.trans he2
 have b4:=b3.ext he2
 have f0:=b4.frozen 0
 have f1:=b4.frozen 1
 have r0:=b4.cell (j:=0) rfl
 have r1:=b4.cell (j:=1) rfl
 unfold Zo
 go_wp2
 obtain⟨Wr,hWr⟩:∃Wr,(w2.setCell ⟨w.heap.size+1,0,none⟩ (Value.int .i64 (Qs t 2 m).1)).setCell ⟨w.heap.size+1,1,none⟩ (Value.int .i64 (Qs t 2 m).2)=Wr:=⟨_,rfl⟩
 rw[hWr]
 have s1:ZG Wr (w.heap.size+1) 81 #[.int .i64 (Qs t 2 m).1,.int .i64 (Qs t 2 m).2]:=by rw[←hWr];exact kW1
 have sx:Ext w Wr:=by rw[←hWr];exact kW1
 clear hWr
 refine bodyPost_ret (v:=.tuple #[Zo (Qs t 2 m),.bool (decide (0<(Qs t 2 m).2))]) ?_ rfl ⟨rfl,sx⟩
 simp[results,Tryz.f41,go_sem,Zo,s1.cell (j:=0) rfl,s1.cell (j:=1) rfl]
theorem ZCv (u:Value) (t:Tr) (m:Int) (w:World) (hS:Small t) (hs:SlR 3 RPr w u t) :
  Calls Tryz.prog 171 #[.agg #[u],.int .i64 m] w fun e w'=>ZJB t 3 m w e w':=by
 have HF:=ZU (fun w' (he:Ext w w')=>ZEi u t 3 m w' hS (hs.ext RPr.keeps he))
 obtain⟨A,c,rfl,_,hcm,_⟩:=hs.at_
 go_enter Tryz.func171,Tryz.ntmps171
 go_wp2_with fail
 have hx1:=((Ext.refl w).alloc (.cells #[.slice A t.length c] 36)).alloc (.cells #[.int .i64 0,.int .i64 0] 81)
 have b3:ZG ((w.alloc (.cells #[.slice A t.length c] 36)).alloc (.cells #[.int .i64 0,.int .i64 0] 81)) (w.heap.size+1) 81 #[.int .i64 0,.int .i64 0]:=ZG.newAt _ _ (by simp)
 generalize (w.alloc (.cells #[.slice A t.length c] 36)).alloc (.cells #[.int .i64 0,.int .i64 0] 81)=W1 at *
 refine (HF.out _ hx1).mono ?_
 rintro e w2 ⟨rfl,he2⟩
 have hx2:=hx1.trans he2
 have b4:=b3.ext he2
 have f0:=b4.frozen 0
 have f1:=b4.frozen 1
 have r0:=b4.cell (j:=0) rfl
 have r1:=b4.cell (j:=1) rfl
 unfold Zo
 go_wp2
 obtain⟨Wr,hWr⟩:∃Wr,(w2.setCell ⟨w.heap.size+1,0,none⟩ (Value.int .i64 (Qs t 3 m).1)).setCell ⟨w.heap.size+1,1,none⟩ (Value.int .i64 (Qs t 3 m).2)=Wr:=⟨_,rfl⟩
 rw[hWr]
 have s1:ZG Wr (w.heap.size+1) 81 #[.int .i64 (Qs t 3 m).1,.int .i64 (Qs t 3 m).2]:=by rw[←hWr];exact kW1
 have sx:Ext w Wr:=by rw[←hWr];exact kW1
 clear hWr
 refine bodyPost_ret (v:=.tuple #[Zo (Qs t 3 m),.bool (decide (0<(Qs t 3 m).2))]) ?_ rfl ⟨rfl,sx⟩
 simp[results,Tryz.f171,go_sem,Zo,s1.cell (j:=0) rfl,s1.cell (j:=1) rfl]

def CtI (t:Tr) (w:World) (gc:Nat) (l:List (Nat×Nat)) (W:World):Prop:=(ZG W gc 3 #[.int .i64 l.length]∧Ext w W)
theorem ZKP (t:Tr) (w:World) (gc:Nat) {n:Nat} (hn:w.heap.size≤n):OwnFrom n (fun (pre:List (Idt t)) W=>CtI t w gc (pre.map (·.1)) W):=
 OwnFrom.and (ZJ _ _ _ _) (Yx hn)
theorem ZJD (u:Value) (t:Tr) (w:World) (hS:Small t) (hN:(ids t).length≤1000000) (hs:SlR 3 RPr w u t) :
  Calls Tryz.prog 47 #[.agg #[u]] w fun e w'=>e=.returned (.int .i64 (KW t))∧Ext w w':=by
 have HV:=ZU (fun w' (he:Ext w w')=>callsIn_wide (n:=8).2 (ZAh u t w' hS.sm (hs.ext RPr.keeps he)))
 refine callsIn_wide (n:=9).1 ?_
 refine callsIn_of_wp_marks Tryz.func47 rfl trivial ?_ rfl
 simp only[Tryz.ntmps47,List.size_toArray,List.length_cons,List.length_nil,Nat.reduceAdd,Nat.reduceSub,Array.replicate_succ,Array.replicate_zero,List.push_toArray,List.append_toArray,List.nil_append,List.cons_append]
 obtain⟨A,c,rfl,_,hcm,_⟩:=hs.at_
 gi_wp2_with fail
 refine⟨trivial,?_⟩
 have hx1:Ext w (w.alloc (.cells #[.slice A t.length c] 36)):=(Ext.refl w).alloc _
 have bT:ZG (w.alloc (.cells #[.slice A t.length c] 36)) (w.heap.size) 36 #[.slice A t.length c]:=ZG.new _ _ _
 generalize w.alloc (.cells #[.slice A t.length c] 36)=W1 at *
 refine (HV.out _ hx1).mono ?_
 rintro e w2 ⟨rfl,he2⟩
 replace hx1:=hx1.trans he2
 replace bT:=bT.ext he2
 clear he2
 have t0:w2.cell? ⟨w.heap.size,0,none⟩=some (.slice A t.length c):=bT.cell (j:=0) rfl
 have lt0:=bT.lt
 cases hv:Xv t
 ·have HF:=ZU (show KW t=0 by unfold KW;rw[hv];rfl)
  clear hv
  gi_wp2_with fail
  exact⟨.int .i64 0,by simp[results,Tryz.f47,go_sem],by rw[HF.out];rfl,hx1⟩
 ·have HVL:=ZU (show KW t=(ids t).length by unfold KW;rw[hv];rfl)
  clear hv
  have hnp:=hS.np
  gi_wp2_with (refine⟨trivial,?_⟩;gi_at_call 101;refine (callsIn_wide.2 (Jb _ _)).mono ?_;rintro e w' ⟨rfl,rfl⟩)
  have bt:ZG ((w2.alloc (.cells #[.int .i64 0] 3)).alloc (.cells #[.slice A t.length c] 36)) (w2.heap.size+1) 36 #[.slice A t.length c]:=ZG.newAt _ _ (by simp)
  have hM0:CtI t w w2.heap.size [] ((w2.alloc (.cells #[.int .i64 0] 3)).alloc (.cells #[.slice A t.length c] 36)):=⟨(ZG.new _ _ _).alloc _,(hx1.alloc _).alloc _⟩
  have hwr:w.heap.size≤w2.heap.size:=hx1.size
  have hsz0:((w2.alloc (.cells #[.int .i64 0] 3)).alloc (.cells #[.slice A t.length c] 36)).heap.size=w2.heap.size+1+1:=by simp
  generalize ((w2.alloc (.cells #[.int .i64 0] 3)).alloc (.cells #[.slice A t.length c] 36))=W0 at *
  have hext0:Ext w W0:=hM0.2
  have hw0:w.heap.size≤W0.heap.size:=by omega
  clear hsz0 t0 lt0 hx1 bT
  generalize w2.heap.size=gc at *
  refine wpIn_rangeFunc_ownH rfl oM (gf:=148) (lb:=#[.pointer (some ⟨gc+1,0,none⟩)]) rfl trivial (QV Tryz.func148 (by decide) rfl)
   (Yg 8 oM w (.slice A t.length c) t (gc+1) W0 hnp hS.ne hs hext0 (bt.cell rfl) oM) belowK_t (belowK_b hw0) (Below.refl _ _) (fun _=>rfl)
   (fun pre W=>CtI t w gc (pre.map (·.1)) W) (fun c pre W=>False) (ZKP t w gc hw0) (fun c=>ownFrom_pure _ _) hM0
   (fun x a' W=>∃v13 v14,
    a'={tmps:=#[.agg #[.slice A t.length c],.pointer (some ⟨w.heap.size,0,none⟩),.int .i64 0,.pointer (some ⟨gc,0,none⟩),.agg #[.slice A t.length c],.bool true,.bool false,.agg #[.slice A t.length c],.func (.func 148) #[] #[.pointer (some ⟨gc+1,0,none⟩)],v13,v14,undef,undef,undef],defers:=[]})
   ?hax ?assign ?body ?done ?stop
  case hax =>
   rintro x a' _ X Y row ⟨v13,v14,ha⟩ hg hr
   exact⟨v13,v14,ha⟩
  case assign =>
   rintro l pre x W K hI hK
   gi_wp2
   exact hK _ _ (KeepsFrom.refl _ _) (Below.refl _ _) hI ⟨Zo x.1,ZDg w (.slice A t.length c) x.1,by simp⟩
  case body =>
   rintro l pre x a' W hlW ⟨r,hr⟩ hI ⟨v13,v14,rfl⟩ hlen
   obtain⟨c1,hxW⟩:=hI
   have hsW:=hxW.size
   have d0:W.cell? ⟨gc,0,none⟩=some (.int .i64 ((pre.length:Nat):Int)):=by rw[c1.cell (j:=0) rfl];simp
   have f0:=c1.frozen 0
   have hl2:pre.length<1000000:=by omega
   have hwrap:=(ZG2 pre.length 1 1 rfl oM).1
   have HGC:=ZU hwr
   gi_wp2
   refine⟨KF.set (KeepsFrom.refl _ _) _ _,BL.set (Below.refl _ _) _ _ _ hwr,?_⟩
   show CtI t w gc ((pre++[x]).map (·.1)) _
   refine⟨?_,Ext.set hxW hwr _⟩
   rw[show (((pre++[x]).map (·.1)).length:Int)=(pre.length:Int)+1 by simp]
   exact ZG.set1 c1
  case done =>
   rintro D ys W hD hys ⟨c1,hxW⟩ hK
   rw[hys]at c1
   have d0:W.cell? ⟨gc,0,none⟩=some (.int .i64 ((ids t).length:Nat)):=c1.cell (j:=0) rfl
   gi_wp2
   refine⟨by simp,.inl ⟨_,_,rfl,run_takeDeferred hK,?_⟩⟩
   refine⟨.int .i64 ((ids t).length:Nat),?_,by rw[HVL.out],hxW.putObj oM hK _⟩
   simp[results,Tryz.f47,go_sem]
  case stop=>rintro D c' pre W hD hpre h;exact h.elim
end Go.Proofs.YtoccdlnoaindmaaGreatDoor
namespace Go.Proofs.YtoccdlnoaindmaaGreatDoor
set_option linter.unusedVariables false

structure Vok (t:Tr):Prop where
 lo:1≤t.length
 hi:t.length≤8
 head:∀p,p<t.length→Xf t p=0
 form:∀x∈ids t,Xq t x=0
 pair:∀x∈ids t,Y7 t x=0
 acyc:∀x∈ids t,¬Hb t x x
theorem vok {t:Tr} (h:Xv t=true):Vok t:=by
 unfold Xv Y6 at h
 split at h
 ·simp at h
 rename_i hl
 split at h
 ·rename_i p hp
  have:=List.find?_some hp
  simp at h this;exact absurd h this
 rename_i h1
 split at h
 ·rename_i p hp
  have:=List.find?_some hp
  simp at h this;exact absurd h this
 rename_i h2
 split at h
 ·rename_i p hp
  have:=List.find?_some hp
  simp at h this;exact absurd h this
 rename_i h3
 split at h
 ·simp at h
 rename_i h4
 rw[List.find?_eq_none]at h1 h2 h3 h4
 refine⟨by omega,by omega,fun p hp=>?_,fun x hx=>?_,fun x hx=>?_,fun x hx=>?_⟩
 ·simpa using h1 p (List.mem_range.2 hp)
 ·simpa using h2 x hx
 ·simpa using h3 x hx
 ·simpa using h4 x hx
theorem Vok.paired {t:Tr} (h:Vok t):Paired t:=⟨fun x hx=>KQ (h.form x hx),h.pair⟩
theorem Yc {t:Tr} {p:Nat} (h:p<t.length):Zc t p=t[p].evs:=by unfold Zc;simp[List.getD,h]
theorem Xp {t:Tr} {p i:Nat}:(p,i+1)∈ids t↔p<t.length∧i<(Zc t p).length:=by
 rw[XW]
 constructor
 ·rintro⟨hp,_,h⟩
  have h:i+1≤t[p].evs.length:=h
  exact⟨hp,by rw[Yc hp];omega⟩
 ·rintro⟨hp,h⟩;rw[Yc hp]at h;exact⟨hp,by simp,(show i+1≤t[p].evs.length by omega)⟩

theorem Hb.trans {t:Tr} {x y z:Nat×Nat} (h:Hb t x y) (k:Hb t y z):Hb t x z:=by
 induction k with
 |one h2=>exact .more h h2
 |more _ h2 ih=>exact .more ih h2
def Le (t:Tr) (x y:Nat×Nat):Prop:=x=y∨Hb t x y
theorem Le.refl {t:Tr} (x:Nat×Nat):Le t x x:=.inl rfl
theorem Le.hb {t:Tr} {x y z:Nat×Nat} (h:Le t x y) (k:Hb t y z):Hb t x z:=by
 rcases h with rfl|h
 ·exact k
 ·exact h.trans k
theorem Le.trans {t:Tr} {x y z:Nat×Nat} (h:Le t x y) (k:Le t y z):Le t x z:=by
 rcases k with rfl|k
 ·exact h
 ·exact .inr (h.hb k)
theorem ZKv {t:Tr} {p i:Nat}:∀{j:Nat},i<j→j≤(Zc t p).length→Hb t (p,i) (p,j)
 |0,h,_=>by omega
 |j+1,h,hl=>by
   have d:Dir t (p,j) (p,j+1):=.inl ⟨rfl,hl⟩
   by_cases hj:i=j
   ·subst hj;exact .one d
   ·exact .more (ZKv (show i<j by omega) oM) d
theorem ZNH {t:Tr} {p i j:Nat} (h:i≤j) (hl:j≤(Zc t p).length):Le t (p,i) (p,j):=by
 by_cases hj:i=j
 ·exact .inl (by rw[hj])
 ·exact .inr (ZKv oM hl)

noncomputable def leB (t:Tr) (x y:Nat×Nat):Bool:=@decide (Le t x y) (Classical.propDecidable _)
theorem ZAT {t:Tr} {x y:Nat×Nat}:leB t x y=true↔Le t x y:=by unfold leB;exact @decide_eq_true_iff _ (Classical.propDecidable _)
noncomputable def vc (t:Tr) (x:Nat×Nat) (q:Nat):Nat:=(List.range (Zc t q).length).countP fun i=>leB t (q,i+1) x
theorem ZBS {P:Nat→Bool}:∀{n:Nat},(∀i j,i<n→j≤i→P i=true→P j=true)→∀i,i<n→(P i=true↔i<(List.range n).countP P)
 |0,_,i,hi=>by omega
 |n+1,h,i,hi=>by
   have ih:=ZBS (P:=P) (n:=n) (fun i j hi hj hp=>h i j oM hj hp)
   have hle:=List.countP_le_length (p:=P) (l:=List.range n)
   rw[List.length_range]at hle
   rw[List.range_succ,List.countP_append,List.countP_singleton]
   by_cases hn:P n=true
   ·have all:∀j,j<n→P j=true:=fun j hj=>h n j oM oM hn
    have hc:(List.range n).countP P=n:=by
     rcases Nat.lt_or_ge ((List.range n).countP P) n with hlt|hge
     ·have:=(ih _ hlt).1 (all _ hlt);omega
     ·omega
    rw[if_pos hn,hc]
    constructor
    ·intro _;omega
    ·intro _
     rcases Nat.lt_or_ge i n with hlt|hge
     ·exact all i hlt
     ·have:i=n:=by omega
      subst this;exact hn
   ·rw[if_neg hn]
    rcases Nat.lt_or_ge i n with hlt|hge
    ·exact ih i hlt
    ·have:i=n:=by omega
     subst this
     constructor
     ·intro hp;exact absurd hp hn
     ·intro hp;omega
theorem ZM6 {t:Tr} {x:Nat×Nat} {q i:Nat} (h:i<(Zc t q).length):Le t (q,i+1) x↔i<vc t x q:=by
 have:=ZBS (P:=fun i=>leB t (q,i+1) x) (n:=(Zc t q).length) (fun i j hi hj hp=>by
  rw[ZAT]at hp⊢
  exact (ZNH oM oM).trans hp) i h
 rw[←ZAT]
 exact this
theorem vc_le {t:Tr} {x:Nat×Nat} {q:Nat}:vc t x q≤(Zc t q).length:=by
 have:=List.countP_le_length (p:=fun i=>leB t (q,i+1) x) (l:=List.range (Zc t q).length)
 rwa [List.length_range]at this
theorem ZMb {a b n:Nat} (ha:a≤n) (hb:b≤n) (h:∀j,j<n→(j<a↔j<b)):a=b:=by
 rcases Nat.lt_trichotomy a b with hl|hl|hl
 ·have:=(h a oM).2 hl;omega
 ·exact hl
 ·have:=(h b oM).1 hl;omega
theorem ZLt {t:Tr} (hv:Vok t) {x w:Nat×Nat} (hx:x∈ids t) (hw:w∈ids t):Le t w x↔w=x∨∃y∈ZBu t x,Le t w y:=by
 constructor
 ·rintro (h|h)
  ·exact .inl h
  ·obtain⟨y,h1,h2⟩:=h.back
   refine .inr ⟨y,?_,?_⟩
   ·refine (JG hv.paired hx).2 ⟨?_,h1⟩
    rcases h2 with rfl|h2
    ·exact hw
    ·exact h2.mem hw
   ·rcases h2 with rfl|h2
    ·exact .inl rfl
    ·exact .inr h2
 ·rintro (h|⟨y,h1,h2⟩)
  ·exact .inl h
  ·exact .inr (h2.hb (.one ((JG hv.paired hx).1 h1).2))
theorem ZKX {t:Tr} (hv:Vok t) {x y:Nat×Nat} (hx:x∈ids t) (hy:y∈ZBu t x):y∈ids t∧Hb t y x:=by
 obtain⟨h1,h2⟩:=(JG hv.paired hx).1 hy
 exact⟨h1,.one h2⟩
noncomputable def sndr (t:Tr) (x:Nat×Nat):Nat×Nat:=J2 t 2 (Zm t x).msg
noncomputable def rk (t:Tr) (x:Nat×Nat):Nat:=(ids t).countP fun z=>leB t z x
theorem ZC9 {α:Type} {P Q:α→Bool}:∀{l:List α} {a:α},(∀x∈l,P x=true→Q x=true)→a∈l→P a=false→Q a=true→l.countP P<l.countP Q
 |[],a,_,h,_,_=>by simp at h
 |y::l,a,h,ha,h1,h2=>by
   have hle:l.countP P≤l.countP Q:=List.countP_mono_left (fun x hx hp=>h x (by simp[hx]) hp)
   rw[List.countP_cons,List.countP_cons]
   rcases List.mem_cons.1 ha with rfl|ha
   ·rw[h1,h2];simp;omega
   ·have ih:=ZC9 (fun x hx=>h x (by simp[hx])) ha h1 h2
    have hy:=h y (by simp)
    cases hP:P y
    ·simp;omega
    ·rw[hy hP];simp;omega
theorem rk_lt {t:Tr} (hv:Vok t) {x y:Nat×Nat} (hy:y∈ids t) (h:Hb t x y):rk t x<rk t y:=by
 unfold rk
 refine ZC9 (a:=y) (fun z _ hz=>?_) hy ?_ (ZAT.2 (.refl y))
 ·rw[ZAT]at hz⊢;exact .inr (hz.hb h)
 ·rw[Bool.eq_false_iff]
  intro hz
  exact hv.acyc y hy ((ZAT.1 hz).hb h)
end Go.Proofs.YtoccdlnoaindmaaGreatDoor
