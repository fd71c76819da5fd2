/- Texts of one proof, laid together: ZZ, W0, W1, W2, W3, W4, W5, W6, W7, W8, W9, WA, WX. No condition. -/
import Derived.Calls
import Derived.Orders
import Derived.Below
import Derived.Laws.AppendOwn
import Derived.Laws.OwnMore
import Derived.Laws.StructEq
import Derived.Laws.Slices
import Derived.Laws.Sem
import Derived.Lib.TrailingZeros
import Derived.Laws.Concat
import Derived.Laws.MakeOwn
import Derived.Laws.BytesString
set_option linter.unusedSimpArgs false
namespace Go.Proofs.YtmaokjojbjdpoaaGreatDoor
abbrev aa:=@List.length_map
abbrev ae:=@decide_eq_true
abbrev ag:=@decide_eq_false
abbrev ah:=@List.getElem?_eq_getElem
abbrev ai:=@Nat.le_refl
abbrev aj:=@Nat.zero_le
abbrev ak:=@List.getElem?_eq_some_iff
abbrev am:=@List.getElem_mem
abbrev an:=@List.getElem?_map
abbrev ap:=@List.getD_eq_getElem?_getD
abbrev aq:=@List.length_append
abbrev ar:=@List.getElem?_append_right
abbrev au:=@Bool.and_eq_true
abbrev aw:=@List.getElem?_append_left
abbrev ay:=@List.getElem?_set_self
abbrev ba:=@List.mem_range
abbrev bc:=@decide_eq_true_eq
abbrev bf:=@List.getElem?_set_ne
abbrev bg:=@List.all_eq_true
abbrev bh:=@List.append_assoc
abbrev bj:=@Nat.lt_or_ge
abbrev bl:=@List.map_cons
abbrev bn:=@List.mem_append
abbrev bo:=@Array.getElem?_eq_some_iff
abbrev bp:=@Nat.add_mul
abbrev bq:=@List.map_append
abbrev bs:=@Array.size_append
abbrev bu:=@List.getElem?_eq_none
abbrev bw:=@List.mem_of_getElem?
abbrev bx:=@List.replicate_succ
abbrev ca:=@List.replicate_zero
abbrev cd:=@List.map_nil
abbrev cf:=@List.length_take
abbrev cg:=@Array.getElem?_append_left
abbrev ci:=@Nat.add_sub_cancel_left
abbrev cj:=@Int.toNat_natCast
abbrev ck:=@Nat.mul_le_mul_right
abbrev cm:=@Nat.zero_add
abbrev cn:=@List.getElem_of_mem
abbrev co:=@List.eq_nil_of_length_eq_zero
abbrev cq:=@List.mem_map
abbrev cr:=@List.take_of_length_le
abbrev ct:=@Nat.add_assoc
abbrev cu:=@List.mem_cons
abbrev cw:=@List.find?_eq_none
abbrev cz:=@List.getElem?_take
abbrev da:=@List.cons_append
abbrev db:=@List.append_nil
abbrev de:=@List.getElem?_drop
abbrev dh:=@Nat.le_trans
abbrev dj:=@List.length_set
abbrev dn:=@Bool.false_eq_true
abbrev dp:=@List.length_singleton
abbrev dq:=@List.size_toArray
abbrev dr:=@List.ext_getElem?
abbrev dt:=@List.mem_of_mem_take
abbrev dw:=@List.nil_append
abbrev dx:=@Bool.eq_iff_iff
abbrev dy:=@beq_eq_false_iff_ne
abbrev ea:=@List.length_drop
abbrev ec:=@Array.getElem?_append_right
abbrev ee:=@List.length_cons
abbrev eh:=@Nat.sub_self
abbrev ek:=@List.mem_iff_getElem?
abbrev eo:=@Nat.add_zero
abbrev ep:=@Array.extract_size
abbrev eq:=@Array.size_extract
abbrev eu:=@Array.getElem?_extract
abbrev ew:=@List.all_eq_false
abbrev ey:=@List.mem_of_mem_drop
abbrev ez:=@List.find?_append
abbrev fa:=@Nat.add_sub_cancel
abbrev fc:=@Nat.lt_of_lt_of_le
abbrev fd:=@Nat.sub_zero
abbrev fe:=@List.any_eq_true
abbrev fg:=@List.mem_of_find?_eq_some
abbrev fh:=@List.length_nil
abbrev fj:=@Array.length_toList
abbrev fk:=@Option.getD_some
abbrev fo:=@List.map_set
abbrev fq:=@List.range_succ
abbrev ft:=@Array.getElem?_eq_getElem
abbrev fu:=@List.any_eq_false
abbrev fw:=@List.take_add_one
abbrev fx:=@List.find?_some
abbrev fy:=@List.map_take
abbrev fz:=@Array.toList_extract
abbrev ga:=@List.getElem?_cons_succ
abbrev gb:=@Array.toList_inj
abbrev ge:=@Bool.or_eq_true
abbrev gg:=@Bool.false_or
abbrev gh:=@List.set_cons_zero
abbrev gi:=@List.getElem?_replicate
abbrev gj:=@List.filter_append
abbrev gp:=@List.map_drop
abbrev gq:=@Nat.not_lt_zero
abbrev gr:=@Nat.zero_mul
abbrev gu:=@of_decide_eq_false
abbrev gv:=@List.set_cons_succ
abbrev gx:=@Nat.add_comm
abbrev gy:=@List.getElem?_toArray
abbrev gz:=@List.drop_zero
abbrev hU:=@Bool.true_and
abbrev ia:=@List.nodup_append
abbrev ib:=@Array.replicate_succ
abbrev ic:=@Array.replicate_zero
abbrev ie:=@List.push_toArray
abbrev ig:=@List.append_toArray
abbrev ii:=@Nat.sub_mul
abbrev ij:=@Int.le_refl
abbrev ik:=@List.take_length
abbrev il:=@of_decide_eq_true
abbrev im:=@Array.getElem?_setIfInBounds_ne
abbrev io:=@Array.eq_empty_of_size_eq_zero
abbrev ip:=@Array.toArray_toList
abbrev iq:=@Nat.mul_one
abbrev ir:=@Nat.le_succ
abbrev it:=@Bool.not_true
abbrev iu:=@List.set_set
abbrev iw:=@List.Sublist.refl
abbrev ix:=@List.take_append_drop
abbrev iy:=@List.map_congr_left
abbrev iz:=@Nat.lt_succ_iff_lt_or_eq
abbrev ja:=@Option.some.inj
abbrev jb:=@List.getElem?_set
abbrev jc:=@List.take_succ_eq_append_getElem
abbrev jd:=@beq_self_eq_true
abbrev je:=@List.filter_cons
abbrev jf:=@List.not_mem_nil
abbrev jg:=@List.getElem?_range
abbrev jh:=@List.mem_flatMap
abbrev ji:=@List.length_range
abbrev jk:=@List.getElem_append_left
abbrev jl:=@Nat.succ_mul
abbrev jm:=@Array.getElem?_setIfInBounds
abbrev jn:=@List.set_append_right
abbrev jo:=@Option.map_some
abbrev jp:=@Nat.eq_zero_or_pos
abbrev jq:=@Option.some.injEq
abbrev jr:=@List.pairwise_append
abbrev jt:=@List.Sublist.append
abbrev ju:=@List.nodup_cons
abbrev jv:=@List.append_of_mem
abbrev jx:=@Bool.true_or
abbrev jy:=@Nat.lt_succ_of_lt
abbrev jz:=@Nat.lt_succ_self
abbrev ka:=@List.flatMap_append
abbrev kb:=@List.range_add
abbrev kc:=@Bool.not_not
abbrev ke:=@Bool.or_eq_false_iff
abbrev kf:=@Bool.not_eq_true'
abbrev kg:=@List.map_id'
abbrev kh:=@List.set_append_left
abbrev ki:=@List.map_toArray
abbrev kj:=@Array.getElem?_push
abbrev km:=@List.foldl_cons
abbrev ko:=@List.extract_eq_take_drop
abbrev kp:=@Option.map_eq_some_iff
abbrev kq:=@Array.getElem?_eq_none
abbrev kr:=@List.length_replicate
abbrev ku:=@List.getElem?_cons_zero
abbrev kw:=@List.forIn_cons
abbrev kx:=@List.mem_cons_of_mem
abbrev ky:=@List.sublist_cons_self
abbrev kz:=@List.mem_filter
abbrev la:=@Array.size_setIfInBounds
abbrev lf:=@List.mem_take_iff_getElem
abbrev lh:=@List.ext_getElem
abbrev li:=@List.drop_eq_nil_of_le
abbrev lj:=@List.range_succ_eq_map
abbrev lk:=@List.getElem_map
abbrev lm:=@List.getElem_append_right
abbrev ln:=@List.getElem_singleton
abbrev lp:=@List.any_append
abbrev lq:=@Nat.lt_trichotomy
abbrev lu:=@List.mem_singleton
abbrev lw:=@decide_eq_false_iff_not
abbrev lx:=@List.forall_mem_cons
abbrev ly:=@List.mem_replicate
abbrev lz:=@Array.getElem?_setIfInBounds_self_of_lt
theorem oM {p:Prop} (h:p:=by omega):p:=h
theorem aS {p:Prop} (h:p:=by assumption):p:=h
theorem kS {p:Prop} (h:p:=by simp):p:=h
theorem kE {p:Prop} (h:p:=by decide):p:=h
theorem kH {p:Prop} (h:p:=by (repeat' (first|exact trivial|refine And.intro ?_ ?_))<;>(first|rfl|(congr 2;omega))):p:=h
theorem kA {p:Prop} (h:p:=by (try (first|simp (disch:=decide) only[hA,rA,VE,dH,YR,hg5,hg6,go_sem]|simp (disch:=decide) only[hA,rA,VE,dH,YR,hg5,go_sem]|simp (disch:=decide) only[hA,rA,VE,dH,YR,go_sem]|simp (disch:=decide) only[hA,rA,VE,dH,go_sem]|simp (disch:=decide) only[hA,rA,VE,go_sem]|simp (disch:=decide) only[hA,rA,go_sem]|simp (disch:=decide) only[hA,go_sem]))<;>exact kH):p:=h
theorem kR {p:Prop} (h:p:=by first|simp (disch:=first|decide|omega) only[resVs,resV,hA,rA,VE,dH,YR,hg5,hg6,go_sem]|simp (disch:=first|decide|omega) only[resVs,resV,hA,rA,VE,dH,YR,hg5,go_sem]|simp (disch:=first|decide|omega) only[resVs,resV,hA,rA,VE,dH,YR,go_sem]|simp (disch:=first|decide|omega) only[resVs,resV,hA,rA,VE,dH,go_sem]|simp (disch:=first|decide|omega) only[resVs,resV,hA,rA,VE,go_sem]|simp (disch:=first|decide|omega) only[resVs,resV,hA,rA,go_sem]|simp (disch:=first|decide|omega) only[resVs,resV,hA,go_sem]):p:=h
theorem kM {p:Prop} (h:p:=by repeat (first|exact KLt.mono aS oM|refine KLt.up ?_ kL)):p:=h
theorem kQ {p:Prop} (h:p:=by repeat (first|with_reducible assumption|refine (kAny_up rfl).trans ?_|refine (kAny_sub aS (kIn_sub rfl)).trans ?_)):p:=h
set_option linter.unusedVariables false

inductive IV where
 |int (k:IntKind) (n:Int)
 |bool (b:Bool)
 |str (s:ByteArray)
 |zsl
 |isl (sz:Nat) (rows:List (List IV))
 |iptr (row:List IV) (j:Nat)
 |nilp
 |nilm
 |nilf
 |yl (l:Nat)

inductive AV where
 |any
 |v (x:IV)
 |agg (cs:List AV)
 |tup (cs:List AV)
 |sl (id ver off len:Nat)
 |ptr (id ver k j:Nat)
 |fn (f:Nat) (caps:List AV)
 |mp (id ver:Nat)

inductive Row where
 |live (ver sz:Nat) (els:List (List AV))
 |dead (ver:Nat)

def Row.ver:Row→Nat
 |.live v _ _=>v
 |.dead v=>v

inductive Loc where
 |nil
 |pl (blk off sz cap:Nat)
 |mp (blk:Nat)

def Loc.on:Loc→Nat→Prop
 |.nil,_=>False
 |.pl b _ _ _,k=>b=k
 |.mp b,k=>b=k

abbrev LMap:=Nat→Nat→Option Loc

def AV.cell:AV→Bool
 |.v _=>true
 |.sl .. => true
 |.ptr .. => true
 |.fn .. => true
 |.mp .. => true
 |_=>false

inductive RepI (w:World) (F:Nat→Prop):IV→Value→Prop where
 |int (k:IntKind) (n:Int):RepI w F (.int k n) (.int k n)
 |bool (b:Bool):RepI w F (.bool b) (.bool b)
 |str (s:ByteArray):RepI w F (.str s) (.string s)
 |zsl (a:Option Addr):RepI w F .zsl (.slice a 0 0)
 |isl0 (sz:Nat) (a:Option Addr) (c:Nat) (hm:c≤maxLen):RepI w F (.isl sz []) (.slice a 0 c)
 |isl (rows:List (List IV)) (b off sz c:Nat) (val:Nat→Nat→Value) (hF:F b) (hc:rows.length≤c) (hm:c≤maxLen)
   (zN:∀(k:Nat) (row:List IV),rows[k]? = some row→row.length=sz)
   (QG:∀(k:Nat) (row:List IV) (j:Nat) (a:IV),rows[k]? = some row→row[j]? = some a→w.cell? ⟨b,off+k*sz+j,none⟩=some (val k j))
   (sV:∀(k:Nat) (row:List IV) (j:Nat) (a:IV),rows[k]? = some row→row[j]? = some a→RepI w F a (val k j)):RepI w F (.isl sz rows) (.slice (some ⟨b,off,none⟩) rows.length c)
 |iptr (row:List IV) (j b off:Nat) (val:Nat→Value) (hF:F b)
   (QG:∀(j:Nat) (a:IV),row[j]? = some a→w.cell? ⟨b,off+j,none⟩=some (val j))
   (sV:∀(j:Nat) (a:IV),row[j]? = some a→RepI w F a (val j)):RepI w F (.iptr row j) (.pointer (some ⟨b,off+j,none⟩))
 |nilp:RepI w F .nilp (.pointer none)
 |nilm:RepI w F .nilm (.map none)
 |nilf:RepI w F .nilf .nilFunc
 |yl (l:Nat):RepI w F (.yl l) (.func (.yield l) #[] #[])

inductive RepA (w:World) (F:Nat→Prop) (L:LMap):AV→Value→Prop where
 |any (v:Value):RepA w F L .any v
 |v (x:IV) (v:Value) (h:RepI w F x v):RepA w F L (.v x) v
 |agg (cs:List AV) (vs:Array Value) (hl:cs.length=vs.size) (h:∀(i:Nat) (a:AV) (v:Value),cs[i]? = some a→vs[i]? = some v→RepA w F L a v):RepA w F L (.agg cs) (.agg vs)
 |tup (cs:List AV) (vs:Array Value) (hl:cs.length=vs.size) (h:∀(i:Nat) (a:AV) (v:Value),cs[i]? = some a→vs[i]? = some v→RepA w F L a v):RepA w F L (.tup cs) (.tuple vs)
 |sl (id ver off len b o sz cap:Nat) (hL:L id ver=some (.pl b o sz cap)) (h:off+len≤cap) (hm:cap≤maxLen):RepA w F L (.sl id ver off len) (.slice (some ⟨b,o+off*sz,none⟩) len (cap-off))
 |slz (id ver off b o sz cap x:Nat) (hL:L id ver=some (.pl b o sz cap)) (h:off=cap):RepA w F L (.sl id ver off 0) (.slice (some ⟨b,x,none⟩) 0 0)
 |sln (id ver:Nat) (ad:Option Addr) (hL:L id ver=some .nil):RepA w F L (.sl id ver 0 0) (.slice ad 0 0)
 |ptr (id ver k j b o sz cap:Nat) (hL:L id ver=some (.pl b o sz cap)):RepA w F L (.ptr id ver k j) (.pointer (some ⟨b,o+k*sz+j,none⟩))
 |fn (f:Nat) (cs:List AV) (vs:Array Value) (hl:cs.length=vs.size) (h:∀(i:Nat) (a:AV) (v:Value),cs[i]? = some a→vs[i]? = some v→RepA w F L a v):RepA w F L (.fn f cs) (.func (.func f) #[] vs)
 |mp (id ver b:Nat) (hL:L id ver=some (.mp b)):RepA w F L (.mp id ver) (.map (some b))

theorem RepI.mono {w w':World} {F F':Nat→Prop} {x:IV} {v:Value} (h:RepI w F x v) (hF:∀b,F b→F' b)
  (hw:∀b,F b→w'.heap[b]? = w.heap[b]?):RepI w' F' x v:=by
 induction h with
 |int k n=>exact .int k n
 |bool b=>exact .bool b
 |str s=>exact .str s
 |zsl a=>exact .zsl a
 |isl0 sz a c hm=>exact .isl0 sz a c hm
 |isl rows b off sz c val h1 h2 h3 h4 h5 h6 ih =>
   exact .isl rows b off sz c val (hF b h1) h2 h3 h4 (fun k row j a hk hj=>by rw[←h5 k row j a hk hj];exact World.cell?_of_block (hw b h1)) ih
 |iptr row j b off val h1 h2 h3 ih =>
   exact .iptr row j b off val (hF b h1) (fun j a hj=>by rw[←h2 j a hj];exact World.cell?_of_block (hw b h1)) ih
 |nilp=>exact .nilp
 |nilm=>exact .nilm
 |nilf=>exact .nilf
 |yl l=>exact .yl l

theorem RepA.mono {w w':World} {F F':Nat→Prop} {L L':LMap} {x:AV} {v:Value} (h:RepA w F L x v) (hF:∀b,F b→F' b)
  (hw:∀b,F b→w'.heap[b]? = w.heap[b]?) (hL:∀id ver l,L id ver=some l→L' id ver=some l):RepA w' F' L' x v:=by
 induction h with
 |any v=>exact .any v
 |v x v h=>exact .v x v (h.mono hF hw)
 |agg cs vs hl _ ih=>exact .agg cs vs hl ih
 |tup cs vs hl _ ih=>exact .tup cs vs hl ih
 |sl id ver off len b o sz cap h1 h2 h3=>exact .sl id ver off len b o sz cap (hL _ _ _ h1) h2 h3
 |slz id ver off b o sz cap x h1 h2=>exact .slz id ver off b o sz cap x (hL _ _ _ h1) h2
 |sln id ver ad h1=>exact .sln id ver ad (hL _ _ _ h1)
 |ptr id ver k j b o sz cap h1=>exact .ptr id ver k j b o sz cap (hL _ _ _ h1)
 |fn f cs vs hl _ ih=>exact .fn f cs vs hl ih
 |mp id ver b h1=>exact .mp id ver b (hL _ _ _ h1)

def lQ (w:World) (F:Nat→Prop) (L:LMap) (sz:Nat) (els:List (List AV)):Loc→Prop
 |.nil=>els=[]
 |.pl b o z cap=>z=sz∧els.length≤cap∧cap≤maxLen∧∃cur T,w.heap[b]? = some (.cells cur T (0,0))∧o+cap*sz≤cur.size ∧
   (∀(k:Nat) (row:List AV),els[k]? = some row→row.length=sz) ∧
   ∀(k:Nat) (row:List AV) (j:Nat) (a:AV),els[k]? = some row→row[j]? = some a→a.cell=true∧∃v,cur[o+k*sz+j]? = some v∧RepA w F L a v
 |.mp b=>∃es clk,w.heap[b]? = some (.map es clk)∧es.size=els.length∧∀(k:Nat) (row:List AV) (e:MapEntry),els[k]? = some row→es[k]? = some e→∃x y,row=[x,y]∧RepA w F L x e.key∧RepA w F L y e.val

theorem lQ.lt {w:World} {F:Nat→Prop} {L:LMap} {sz:Nat} {els:List (List AV)} {q:Loc} {b:Nat} (h:lQ w F L sz els q) (hb:q.on b):b<w.heap.size:=by
 cases q with
 |nil=>exact hb.elim
 |pl b' o z c =>
   cases hb
   obtain⟨_,_,_,cur,T,h4,_⟩:=h
   exact (bo.1 h4).1
 |mp b' =>
   cases hb
   obtain⟨es,clk,h4,_⟩:=h
   exact (bo.1 h4).1
theorem lQ.mono {w w':World} {F F':Nat→Prop} {L L':LMap} {sz:Nat} {els:List (List AV)} {q:Loc} (h:lQ w F L sz els q) (hw:∀b,q.on b→w'.heap[b]? = w.heap[b]?)
  (m:∀(x:AV) (v:Value),RepA w F L x v→RepA w' F' L' x v):lQ w' F' L' sz els q:=by
 cases q with
 |nil=>exact h
 |pl b o z c =>
   obtain⟨h1,h2,h3,cur,T,h4,h5,h6,h7⟩:=h
   refine⟨h1,h2,h3,cur,T,by rw[hw b rfl];exact h4,h5,h6,fun k row i a hk hi=>?_⟩
   obtain⟨h8,u,h9,h10⟩:=h7 k row i a hk hi
   exact⟨h8,u,h9,m _ _ h10⟩
 |mp b =>
   obtain⟨es,clk,h4,h5,h6⟩:=h
   refine⟨es,clk,by rw[hw b rfl];exact h4,h5,fun k row e hk he=>?_⟩
   obtain⟨x,y,h7,h8,h9⟩:=h6 k row e hk he
   exact⟨x,y,h7,m _ _ h8,m _ _ h9⟩

def bC (L:LMap) (h:List Row) (b:Nat):Prop:=∃id ver s els q,h[id]? = some (.live ver s els)∧L id ver=some q∧q.on b

def gtab:Option (Nat×List Nat):=none
def ZCF (w:World) (F:Nat→Prop):Prop:=∀g tab,gtab=some (g,tab)→F g∧∀j,j<tab.length→w.cell? ⟨g,j,none⟩=some (.int .u8 (tab.getD j 0))
theorem ZCF.mono {w w':World} {F F':Nat→Prop} (h:ZCF w F) (hF:∀b,F b→F' b) (hw:∀b,F b→w'.heap[b]? = w.heap[b]?):ZCF w' F':=by
 intro g tab e
 obtain⟨h1,h2⟩:=h g tab e
 exact⟨hF g h1,fun j hj=>by rw[←h2 j hj];exact World.cell?_of_block (hw g h1)⟩

structure Sim (F:Nat→Prop) (L:LMap) (h:List Row) (w:World):Prop where
 row:∀id ver sz els,h[id]? = some (.live ver sz els)→∃l,L id ver=some l∧lQ w F L sz els l
 born:∀id ver l,L id ver=some l→∃r,h[id]? = some r∧ver≤r.ver
 apart:∀id id' ver ver' s s' els els' b q q',h[id]? = some (.live ver s els)→h[id']? = some (.live ver' s' els') →
  L id ver=some q→L id' ver'=some q'→q.on b→q'.on b→id=id'
 imm:∀b,F b→b<w.heap.size∧¬bC L h b
 glob:ZCF w F

structure Step (nb:Nat) (F:Nat→Prop) (L:LMap) (h:List Row) (w:World) (F':Nat→Prop) (L':LMap) (h':List Row) (w':World):Prop where
 imm:∀b,F b→F' b
 loc:∀id ver l,id<nb→L id ver=some l→L' id ver=some l
 os:w'.os=w.os
 tape:w'.tape=w.tape
 output:w'.output=w.output
 size:w.heap.size≤w'.heap.size
 block:∀b,b<w.heap.size→¬bC L h b→w'.heap[b]? = w.heap[b]?
 own:∀b,b<w.heap.size→bC L' h' b→bC L h b
 base:∀(id:Nat),id<nb→∀(v:Nat),h[id]? = some (Row.dead v)→h'[id]? = some (Row.dead v)
 fnew:∀b,b<w.heap.size→F' b→F b∨bC L h b

theorem Step.refl (nb:Nat) (F:Nat→Prop) (L:LMap) (h:List Row) (w:World):Step nb F L h w F L h w:=
 ⟨fun _ h=>h,fun _ _ _ _ h=>h,rfl,rfl,rfl,ai _,fun _ _ _=>rfl,fun _ _ h=>h,fun _ _ _ h=>h,fun _ _ h=>.inl h⟩

theorem Step.trans {nb:Nat} {F F1 F2:Nat→Prop} {L L1 L2:LMap} {h h1 h2:List Row} {w w1 w2:World}
  (a:Step nb F L h w F1 L1 h1 w1) (b:Step nb F1 L1 h1 w1 F2 L2 h2 w2):Step nb F L h w F2 L2 h2 w2:=
 ⟨fun k hk=>b.imm k (a.imm k hk),fun id ver l hn hl=>b.loc id ver l hn (a.loc id ver l hn hl),b.os.trans a.os,b.tape.trans a.tape,b.output.trans a.output,
  dh a.size b.size,
  fun k hk ho=>(b.block k (fc hk a.size) (fun h=>ho (a.own k hk h))).trans (a.block k hk ho),
  fun k hk ho=>a.own k hk (b.own k (fc hk a.size) ho),fun id hn v hv=>b.base id hn v (a.base id hn v hv),fun k hk hf=>(b.fnew k (fc hk a.size) hf).elim (fun h=>a.fnew k hk h) (fun h=>.inr (a.own k hk h))⟩

theorem Step.weaken {nb nb':Nat} {F F1:Nat→Prop} {L L1:LMap} {h h1:List Row} {w w1:World}
  (a:Step nb F L h w F1 L1 h1 w1) (hn:nb'≤nb):Step nb' F L h w F1 L1 h1 w1:=
 ⟨a.imm,fun id ver l hi=>a.loc id ver l (fc hi hn),a.os,a.tape,a.output,a.size,a.block,a.own,fun id hi=>a.base id (fc hi hn),a.fnew⟩

def RB (w:World) (F:Nat→Prop) (L:LMap) (e:List AV) (a:Act):Prop:=
 a.defers=[]∧a.tmps.size=e.length∧∀(i:Nat) (x:AV) (v:Value),e[i]? = some x→a.tmps[i]? = some v→RepA w F L x v

theorem Sim.lt {F:Nat→Prop} {L:LMap} {h:List Row} {w:World} (s:Sim F L h w) {id ver:Nat} {l:Loc} (hl:L id ver=some l):id<h.length:=by
 obtain⟨r,hr,_⟩:=s.born id ver l hl
 exact (ak.1 hr).1

theorem RB.mono {w w':World} {F F':Nat→Prop} {L L':LMap} {e:List AV} {a:Act} (h:RB w F L e a) (hF:∀b,F b→F' b)
  (hw:∀b,F b→w'.heap[b]? = w.heap[b]?) (hL:∀id ver l,L id ver=some l→L' id ver=some l):RB w' F' L' e a:=
 ⟨h.1,h.2.1,fun i x v hx hv=>(h.2.2 i x v hx hv).mono hF hw hL⟩

theorem Step.immEq {nb:Nat} {F F1:Nat→Prop} {L L1:LMap} {h h1:List Row} {w w1:World} (a:Step nb F L h w F1 L1 h1 w1) (s:Sim F L h w) :
  ∀b,F b→w1.heap[b]? = w.heap[b]?:=fun b hb=>a.block b (s.imm b hb).1 (s.imm b hb).2

theorem Step.locAll {F F1:Nat→Prop} {L L1:LMap} {h h1:List Row} {w w1:World} (a:Step h.length F L h w F1 L1 h1 w1) (s:Sim F L h w) :
  ∀id ver l,L id ver=some l→L1 id ver=some l:=fun id ver l hl=>a.loc id ver l (s.lt hl) hl

theorem RB.step {w w':World} {F F':Nat→Prop} {L L':LMap} {h h':List Row} {e:List AV} {a:Act} (he:RB w F L e a) (s:Sim F L h w)
  (st:Step h.length F L h w F' L' h' w'):RB w' F' L' e a:=he.mono st.imm (st.immEq s) (st.locAll s)

theorem RepA.step {w w':World} {F F':Nat→Prop} {L L':LMap} {h h':List Row} {x:AV} {v:Value} (hx:RepA w F L x v) (s:Sim F L h w)
  (st:Step h.length F L h w F' L' h' w'):RepA w' F' L' x v:=hx.mono st.imm (st.immEq s) (st.locAll s)

def nth:List AV→Nat→AV
 |[],_=>.tup []
 |a::_,0=>a
 |_::l,n+1=>nth l n
def upd:List AV→Nat→AV→List AV
 |[],_,_=>[]
 |_::l,0,x=>x::l
 |a::l,n+1,x=>a::upd l n x

theorem yN (l:List AV) (n:Nat):nth l n=(l[n]?).getD (.tup []):=by
 induction l generalizing n with
 |nil=>simp[nth]
 |cons a l ih=>cases n with
   |zero=>simp[nth]
   |succ n=>simp[nth,ih]
theorem eJ (l:List AV) (n:Nat) (x:AV):upd l n x=l.set n x:=by
 induction l generalizing n with
 |nil=>simp[upd]
 |cons a l ih=>cases n with
   |zero=>simp[upd]
   |succ n=>simp[upd,ih]

theorem RepA.undef (w:World) (F:Nat→Prop) (L:LMap):RepA w F L (.tup []) undef:=.tup [] #[] rfl kS

theorem RB.nth {w:World} {F:Nat→Prop} {L:LMap} {e:List AV} {a:Act} (h:RB w F L e a) (n:Nat):RepA w F L (nth e n) (a.tmps.getD n Go.undef):=by
 rw[yN]
 rcases bj n e.length with hn|hn
 ·have hn':n<a.tmps.size:=by rw[h.2.1];exact hn
  rw[ah hn]
  have:=h.2.2 n e[n] a.tmps[n] (ah hn) (ft hn')
  simpa [Array.getD,hn'] using this
 ·have hn':¬n<a.tmps.size:=by rw[h.2.1];omega
  rw[bu hn]
  simp only[Array.getD,hn',dif_neg,not_false_eq_true,Option.getD_none]
  exact RepA.undef w F L

theorem RB.upd {w:World} {F:Nat→Prop} {L:LMap} {e:List AV} {a:Act} (h:RB w F L e a) (n:Nat) {x:AV} {v:Value} (hx:RepA w F L x v) :
  RB w F L (upd e n x) (a.put (some n) v):=by
 rw[eJ]
 refine⟨h.1,by simp[Act.put,h.2.1],fun i y u hy hu=>?_⟩
 simp only[Act.put]at hu
 by_cases hi:n=i
 ·subst hi
  rw[jb]at hy
  rw[jm]at hu
  simp only[if_true]at hy hu
  split at hy
  ·split at hu
   ·cases hy;cases hu;exact hx
   ·cases hu
  ·cases hy
 ·rw[bf hi]at hy
  rw[im hi]at hu
  exact h.2.2 i y u hy hu

def put (e:List AV) (d:Option Nat) (x:AV):List AV:=
 match d with
 |some n=>upd e n x
 |none=>e

theorem RB.put {w:World} {F:Nat→Prop} {L:LMap} {e:List AV} {a:Act} (h:RB w F L e a) (d:Option Nat) {x:AV} {v:Value} (hx:RepA w F L x v) :
  RB w F L (put e d x) (a.put d v):=by
 cases d with
 |none=>exact h
 |some n=>exact h.upd n hx

def hget (b l:List Row) (id:Nat):Option Row:=if id<b.length then b[id]? else l[id-b.length]?

theorem PC (b l:List Row) (id:Nat):hget b l id=(b++l)[id]?:=by
 unfold hget
 split
 ·rename_i h;rw[aw h]
 ·rename_i h;rw[ar oM]

def vE (b:List Row) (id:Nat) (r:Row):List Row:=if id<b.length then b.set id r else b
def lE (b l:List Row) (id:Nat) (r:Row):List Row:=if id<b.length then l else l.set (id-b.length) r

theorem QE (b l:List Row) (id:Nat) (r:Row):vE b id r++lE b l id r=(b++l).set id r:=by
 unfold vE lE
 split
 ·rename_i h;rw[kh _ _ h]
 ·rename_i h;rw[jn _ _ oM]

theorem QF (b:List Row) (id:Nat) (r:Row):(vE b id r).length=b.length:=by unfold vE;split<;>simp


inductive Opd where
 |t (n:Nat)
 |c (x:AV)

inductive FK where
 |i
 |b
 |s

inductive KK where
 |one (k:FK)
 |many (ks:List FK)

inductive AOp where
 |mv (x:Opd)
 |nilck (x:Opd)
 |pick (c a b:Opd)
 |bin (o:BinOp) (x y:Opd)
 |binB (o:BinOp) (x y:Opd)
 |binS (o:BinOp) (x y:Opd)
 |eqs (neg:Bool) (ks:List FK) (x y:Opd)
 |not (x:Opd)
 |neg (x:Opd)
 |conv (k:IntKind) (x:Opd)
 |alloc (zs:List AV)
 |box (x:Opd)
 |build (zs:List AV) (ps:List (Nat×Nat×Opd))
 |bslice (sz:Nat) (zs:List AV) (len:Nat) (ps:List (Nat×Opd))
 |islb (sz:Nat) (zs:List AV) (len:Nat) (ps:List (Nat×Opd))
 |load (n:Option Nat) (x:Opd)
 |store (n:Nat) (x y:Opd)
 |faddr (d:Nat) (x:Opd)
 |iaddr (sz:Nat) (x i:Opd)
 |iaddrA (len sz:Nat) (x i:Opd)
 |field (off:Nat) (n:Option Nat) (x:Opd)
 |indexS (x i:Opd)
 |indexA (len sz:Nat) (n:Option Nat) (x i:Opd)
 |slice (sz:Nat) (x:Opd) (lo hi:Option Opd)
 |slice0 (x:Opd)
 |sliceS (x:Opd) (lo hi:Option Opd)
 |len (x:Opd)
 |lenS (x:Opd)
 |append (sz bytes:Nat) (s x:Opd)
 |mkslice (sz:Nat) (zs:List AV) (bytes:Nat) (l c:Opd)
 |mkfn (f:Nat) (caps:List Opd)
 |extract (i:Nat) (x:Opd)
 |call (f:Opd) (args:List Opd)
 |mm (isMax:Bool) (x y:Opd)
 |copy (sz:Nat) (x y:Opd)
 |isnil (neg:Bool) (x:Opd)
 |mkmap
 |lookup (kk:KK) (zero:AV) (comma:Bool) (m x:Opd)
 |mupdate (kk:KK) (m x y:Opd)
 |lenM (x:Opd)
 |tostr (x:Opd)
 |capz (x:Opd)
 |appz (sz bytes:Nat) (zs:List AV) (s n:Opd)

structure AOper where
 dst:Option Nat
 op:AOp
 guard:Option (Nat×Bool)

structure DOper where
 i:Nat
 o:AOper
 re:List AOper

inductive ACode where
 |skip
 |region (ops:List AOper)
 |draw (ds:List DOper)
 |both (a b:ACode)
 |seq (a b:ACode)
 |cond (c:Opd) (x y:ACode)
 |block (id:Nat) (c:ACode)
 |loop (c:ACode)
 |exit (id:Nat)
 |ret

inductive AExit where
 |normal
 |exit (id:Nat)
 |ret

inductive ARes where
 |tmp (t:Nat)
 |cell (t:Nat) (n:Option Nat)

structure AFunc where
 nargs:Nat
 ntmps:Nat
 res:List ARes
 body:ACode

abbrev VMx (a b : Nat) (g : Option (Nat×Bool):=none):AOper:=⟨some a, .mv (.t b), g⟩
abbrev VFx (a b c : Nat) (g : Option (Nat×Bool):=none):AOper:=⟨some a, .faddr b (.t c), g⟩
abbrev VLx (a b : Nat) (g : Option (Nat×Bool):=none):AOper:=⟨some a, .load none (.t b), g⟩
abbrev VNx (a b c : Nat) (g : Option (Nat×Bool):=none):AOper:=⟨some a, .bin .neq (.t b) (.t c), g⟩
abbrev VIx (a b c d : Nat) (g : Option (Nat×Bool):=none):AOper:=⟨some a, .iaddr b (.t c) (.t d), g⟩
abbrev VEx (a b : Nat) (g : Option (Nat×Bool):=none):AOper:=⟨some a, .len (.t b), g⟩
def AOp.quiet:AOp→Bool
 |.alloc _=>false
 |.box _=>false
 |.bslice .. => false
 |.store .. => false
 |.append .. => false
 |.appz .. => false
 |.mkslice .. => false
 |.call .. => false
 |.copy .. => false
 |.isnil .. => false
 |.mkmap=>false
 |.mupdate .. => false
 |_=>true

def AOp.isAlloc:AOp→Bool
 |.alloc _=>true
 |_=>false

def Opd.slot:Opd→List Nat
 |.t n=>[n]
 |.c _=>[]
def xJ:List Opd→List Nat
 |[]=>[]
 |x::xs=>x.slot++xJ xs
def K1:Option Opd→List Nat
 |some x=>x.slot
 |none=>[]
def AOp.looks:AOp→List Nat
 |.mv x=>x.slot
 |.nilck x=>x.slot
 |.pick c x y=>c.slot++x.slot++y.slot
 |.bin _ x y=>x.slot++y.slot
 |.binB _ x y=>x.slot++y.slot
 |.binS _ x y=>x.slot++y.slot
 |.eqs _ _ x y=>x.slot++y.slot
 |.not x=>x.slot
 |.neg x=>x.slot
 |.conv _ x=>x.slot
 |.alloc _=>[]
 |.box x=>x.slot
 |.build _ ps=>xJ (ps.map (·.2.2))
 |.bslice _ _ _ ps=>xJ (ps.map (·.2))
 |.islb _ _ _ ps=>xJ (ps.map (·.2))
 |.load _ x=>x.slot
 |.store _ x y=>x.slot++y.slot
 |.faddr _ x=>x.slot
 |.iaddr _ x y=>x.slot++y.slot
 |.iaddrA _ _ x y=>x.slot++y.slot
 |.field _ _ x=>x.slot
 |.indexS x y=>x.slot++y.slot
 |.indexA _ _ _ x y=>x.slot++y.slot
 |.slice _ x lo hi=>x.slot++K1 lo++K1 hi
 |.slice0 x=>x.slot
 |.sliceS x lo hi=>x.slot++K1 lo++K1 hi
 |.len x=>x.slot
 |.lenS x=>x.slot
 |.append _ _ x y=>x.slot++y.slot
 |.mkslice _ _ _ x y=>x.slot++y.slot
 |.mkfn _ cs=>xJ cs
 |.extract _ x=>x.slot
 |.call f az=>f.slot++xJ az
 |.mm _ x y=>x.slot++y.slot
 |.copy _ x y=>x.slot++y.slot
 |.isnil _ x=>x.slot
 |.mkmap=>[]
 |.lookup _ _ _ m x=>m.slot++x.slot
 |.mupdate _ m x y=>m.slot++x.slot++y.slot
 |.lenM x=>x.slot
 |.tostr x=>x.slot
 |.capz x=>x.slot
 |.appz _ _ _ x y=>x.slot++y.slot
def AOper.looks (o:AOper):List Nat:=o.op.looks++(match o.guard with
 |some (g,_)=>[g]
 |none=>[])

def ev (e:List AV):Opd→AV
 |.t n=>nth e n
 |.c x=>x
def evs (e:List AV):List Opd→List AV
 |[]=>[]
 |x::xs=>ev e x::evs e xs

inductive OpR where
 |val (x:AV) (b l:List Row)
 |two (c:Bool) (x y:AV)
 |call (f:Nat) (args:List AV)
 |bad

def zF (o:BinOp) (k:IntKind) (a b:Int):Option IV:=
 match o with
 |.add=>some (.int k (k.wrap (a+b)))
 |.sub=>some (.int k (k.wrap (a-b)))
 |.mul=>some (.int k (k.wrap (a*b)))
 |.quo=>if b=0 then none else some (.int k (k.wrap (a.tdiv b)))
 |.rem=>if b=0 then none else some (.int k (a.tmod b))
 |.and=>some (.int k (k.wrap ((BitVec.ofInt k.bits a &&& BitVec.ofInt k.bits b).toNat)))
 |.or=>some (.int k (k.wrap ((BitVec.ofInt k.bits a ||| BitVec.ofInt k.bits b).toNat)))
 |.xor=>some (.int k (k.wrap ((BitVec.ofInt k.bits a ^^^ BitVec.ofInt k.bits b).toNat)))
 |.andNot=>some (.int k (k.wrap ((BitVec.ofInt k.bits a &&& ~~~(BitVec.ofInt k.bits b)).toNat)))
 |.eql=>some (.bool (a==b))
 |.neq=>some (.bool (a != b))
 |.lss=>some (.bool (decide (a<b)))
 |.leq=>some (.bool (decide (a≤b)))
 |.gtr=>some (.bool (decide (a>b)))
 |.geq=>some (.bool (decide (a≥b)))
 |.shl=>none
 |.shr=>none

def ZJ (o:BinOp) (k:IntKind) (a b:Int):Option IV:=
 if b<0 then none else
 match o with
 |.shl=>some (.int k (k.wrap (a*2 ^ (min b.toNat k.bits))))
 |.shr=>some (.int k (a.fdiv (2 ^ (min b.toNat k.bits))))
 |_=>none

def XJ:BinOp→Bool
 |.shl=>true
 |.shr=>true
 |_=>false

def VF (o:BinOp) (a b:ByteArray):Option IV:=
 match o with
 |.add=>if a.size+b.size≤9223372036854775807 then some (.str (a++b)) else none
 |.eql=>some (.bool (a==b))
 |.neq=>some (.bool (!(a==b)))
 |.lss=>some (.bool (Op.bytesLess a.toList b.toList))
 |.geq=>some (.bool (!(Op.bytesLess a.toList b.toList)))
 |_=>none

def UE (o:BinOp) (a b:Bool):Option IV:=
 match o with
 |.eql=>some (.bool (a==b))
 |.neq=>some (.bool (!(a==b)))
 |_=>none

def lJ (o:BinOp):AV→AV→Option IV
 |.v (.int k a),.v (.int k' b)=>if XJ o=true then ZJ o k a b else if k=k' then zF o k a b else none
 |_,_=>none
def IF (o:BinOp):AV→AV→Option IV
 |.v (.bool a),.v (.bool b)=>UE o a b
 |_,_=>none
def GF (o:BinOp):AV→AV→Option IV
 |.v (.str a),.v (.str b)=>VF o a b
 |_,_=>none

def tG:Option Bool→Option Bool→Option Bool
 |some r,some s=>some (r&&s)
 |_,_=>none

def eqF:FK→AV→AV→Option Bool
 |.i,.v (.int k a),.v (.int k' b)=>if k=k' then some (a==b) else none
 |.b,.v (.bool a),.v (.bool b)=>some (a==b)
 |.s,.v (.str a),.v (.str b)=>some (a==b)
 |_,_,_=>none

def eqC:List FK→List AV→List AV→Option Bool
 |[],[],[]=>some true
 |k::ks,x::xs,y::ys=>tG (eqF k x y) (eqC ks xs ys)
 |_,_,_=>none

def LC:KK→AV→AV→Option Bool
 |.one k,x,y=>eqF k x y
 |.many ks,.agg xs,.agg ys=>eqC ks xs ys
 |_,_,_=>none
def AO (kk:KK) (x:AV):List (List AV)→Option (Option AV)
 |[]=>some none
 |[y,v]::r=>match LC kk x y with
   |some true=>some (some v)
   |some false=>AO kk x r
   |none=>none
 |_::_=>none
def n7 (kk:KK) (x v:AV):List (List AV)→Option (List (List AV))
 |[]=>some [[x,v]]
 |[y,u]::r=>match LC kk x y with
   |some true=>some ([x,v]::r)
   |some false=>(n7 kk x v r).map ([y,u]::·)
   |none=>none
 |_::_=>none

def cellsOf:AV→Option (List AV)
 |.v x=>some [.v x]
 |.agg cs=>some cs
 |.sl a b c d=>some [.sl a b c d]
 |.ptr a b c d=>some [.ptr a b c d]
 |.fn f cs=>some [.fn f cs]
 |.mp a b=>some [.mp a b]
 |_=>none

def xB (row:List AV) (j:Nat):List AV→List AV
 |[]=>row
 |c::cs=>xB (row.set j c) (j+1) cs

def YC (e:List AV) (row:List AV):List (Nat×Nat×Opd)→Option (List AV)
 |[]=>some row
 |(off,size,x)::ps =>
   match cellsOf (ev e x) with
   |some cs=>if cs.length=size∧off+size≤row.length then YC e (xB row off cs) ps else none
   |none=>none

def CB (e:List AV) (sz:Nat) (els:List (List AV)):List (Nat×Opd)→Option (List (List AV))
 |[]=>some els
 |(i,x)::ps =>
   match cellsOf (ev e x) with
   |some cs=>if cs.length=sz∧i<els.length∧cs.all AV.cell=true then CB e sz (els.set i cs) ps else none
   |none=>none

def mI:List AV→Option (List IV)
 |[]=>some []
 |.v x::r=>match mI r with
   |some ys=>some (x::ys)
   |none=>none
 |_::_=>none
def UF:List (List AV)→Option (List (List IV))
 |[]=>some []
 |r::rs=>match mI r,UF rs with
   |some x,some xs=>some (x::xs)
   |_,_=>none

def rd (row:List AV) (j:Nat):Option Nat→Option AV
 |none=>row[j]?
 |some n=>if j+n≤row.length then some (.agg ((row.drop j).take n)) else none
def rdI (row:List IV) (j:Nat):Option Nat→Option AV
 |none=>(row[j]?).map .v
 |some n=>if j+n≤row.length then some (.agg (((row.drop j).take n).map .v)) else none

def PI (x:Option AV) (b l:List Row):OpR:=
 match x with
 |some x=>.val x b l
 |none=>.bad

def fE (b l:List Row) (sz:Nat):AV→Option (List (List AV))
 |.v .zsl=>some []
 |.v (.isl s rows)=>if s=sz then some (rows.map (·.map .v)) else none
 |.sl id ver off len =>
   match hget b l id with
   |some (.live v s els)=>if v=ver∧s=sz∧off+len≤els.length then some ((els.drop off).take len) else none
   |_=>none
 |.v (.str s)=>if sz=1 then some (s.data.toList.map fun c=>[.v (.int .u8 c.toNat)]) else none
 |_=>none

def mk (b l:List Row) (sz:Nat) (els:List (List AV)) (x:Nat→AV):OpR:=.val (x (b.length+l.length)) b (l++[.live 0 sz els])

def tD (n:Nat) (lo hi:Option AV):Option (Nat×Nat):=
 match lo,hi with
 |none,none=>some (0,n)
 |some (.v (.int _ a)),none=>if 0≤a∧a≤(n:Int) then some (a.toNat,n) else none
 |none,some (.v (.int _ c))=>if 0≤c∧c≤(n:Int) then some (0,c.toNat) else none
 |some (.v (.int _ a)),some (.v (.int _ c))=>if 0≤a∧a≤c∧c≤(n:Int) then some (a.toNat,c.toNat) else none
 |_,_=>none

def room:Nat:=140737488355328

def aD (b l:List Row) (sz:Nat) (x:AV) (lo hi:Option AV):OpR:=
 match x with
 |.v .zsl=>match tD 0 lo hi with
   |some _=>.val (.v .zsl) b l
   |none=>.bad
 |.v (.isl s rows) =>
   if s=sz then match tD rows.length lo hi with
    |some (p,q)=>.val (.v (.isl s ((rows.take q).drop p))) b l
    |none=>.bad
   else .bad
 |.sl id ver off len =>
   match hget b l id with
   |some (.live v s els)=>if v=ver∧s=sz then match tD len lo hi with
     |some (p,q)=>.val (.sl id ver (off+p) (q-p)) b l
     |none=>.bad
    else .bad
   |_=>.bad
 |_=>.bad

def IC (b l:List Row) (sz bytes:Nat) (s x:AV):OpR:=
 match fE b l sz x with
 |none=>.bad
 |some xs =>
   match s with
   |.v .zsl=>if xs=[] then .val (.v .zsl) b l else if xs.length*bytes≤room∧xs.length≤room then mk b l sz xs (fun i=>.sl i 0 0 xs.length) else .bad
   |.sl id ver off len =>
     match hget b l id with
     |some (.live v s' els) =>
       if v=ver∧s'=sz∧off+len≤els.length∧(len+xs.length)*bytes≤room∧len+xs.length≤room then
        .val (.sl id (ver+1) 0 (len+xs.length)) (vE b id (.live (ver+1) sz ((els.drop off).take len++xs))) (lE b l id (.live (ver+1) sz ((els.drop off).take len++xs)))
       else .bad
     |_=>.bad
   |_=>.bad

def rF (b l:List Row) (sz bytes:Nat) (zs:List AV) (s n:AV):OpR:=
 match s,n with
 |.v .zsl,.v (.int .i64 n)=>if n=0 then .val (.v .zsl) b l else if 0<n∧n.toNat*bytes≤room∧n.toNat≤room then mk b l sz (List.replicate n.toNat zs) (fun i=>.sl i 0 0 n.toNat) else .bad
 |_,_=>.bad

def SE (b l:List Row) (n:Option Nat):AV→OpR
 |.v (.iptr row j)=>PI (rdI row j n) b l
 |.ptr id ver k j =>
   match hget b l id with
   |some (.live v _ els)=>if v=ver then match els[k]? with
     |some row=>PI (rd row j n) b l
     |none=>.bad
    else .bad
   |_=>.bad
 |_=>.bad

def LD (b l:List Row) (n:Nat) (x y:AV):OpR:=
 match x,cellsOf y with
 |.ptr id ver k j,some cs =>
   match hget b l id with
   |some (.live v s els)=>if v=ver∧cs.length=n∧cs.all AV.cell=true then match els[k]? with
     |some row=>if j+n≤row.length then .val (.tup []) (vE b id (.live ver s (els.set k (xB row j cs)))) (lE b l id (.live ver s (els.set k (xB row j cs)))) else .bad
     |none=>.bad
    else .bad
   |_=>.bad
 |_,_=>.bad

def GD (b l:List Row) (sz:Nat) (x i:AV):OpR:=
 match x,i with
 |.v (.isl s rows),.v (.int _ n)=>if s=sz∧0≤n then match rows[n.toNat]? with
   |some row=>.val (.v (.iptr row 0)) b l
   |none=>.bad
  else .bad
 |.sl id ver off len,.v (.int _ n)=>match hget b l id with
   |some (.live v s els)=>if v=ver∧s=sz∧0≤n∧n<(len:Int) then .val (.ptr id ver (off+n.toNat) 0) b l else .bad
   |_=>.bad
 |_,_=>.bad

def eC (b l:List Row) (len sz:Nat) (x i:AV):OpR:=
 match x,i with
 |.v (.iptr row j),.v (.int _ n)=>if 0≤n∧n<(len:Int) then .val (.v (.iptr row (j+n.toNat*sz))) b l else .bad
 |.ptr id ver k j,.v (.int _ n)=>if 0≤n∧n<(len:Int) then .val (.ptr id ver k (j+n.toNat*sz)) b l else .bad
 |_,_=>.bad

def ID (b l:List Row) (d:Nat):AV→OpR
 |.v (.iptr row j)=>.val (.v (.iptr row (j+d))) b l
 |.ptr id ver k j=>.val (.ptr id ver k (j+d)) b l
 |_=>.bad

def SF:AV→Option AV
 |.v (.str s)=>some (.v (.int .i64 s.size))
 |_=>none
def fJ:AV→Option AV
 |.v .zsl=>some (.v (.int .i64 0))
 |.v (.isl _ rows)=>some (.v (.int .i64 rows.length))
 |.sl _ _ _ n=>some (.v (.int .i64 n))
 |_=>none

def dF (b l:List Row) (sz:Nat) (x y:AV):OpR:=
 match fE b l sz y with
 |none=>.bad
 |some xs =>
   match x with
   |.sl id ver off len =>
     match hget b l id with
     |some (.live v s els) =>
       if v=ver∧s=sz∧off+len≤els.length then
        .val (.v (.int .i64 ((min xs.length len:Nat):Int))) (vE b id (.live ver s (els.take off++xs.take len++els.drop (off+min xs.length len)))) (lE b l id (.live ver s (els.take off++xs.take len++els.drop (off+min xs.length len))))
       else .bad
     |_=>.bad
   |_=>.bad

def comma (c:Bool) (v:AV) (ok:Bool):AV:=if c then .tup [v,.v (.bool ok)] else v
def fC (b l:List Row) (kk:KK) (zero:AV) (c:Bool) (m x:AV):OpR:=
 if LC kk x x=some true then match m with
  |.v .nilm=>.val (comma c zero false) b l
  |.mp id ver=>match hget b l id with
    |some (.live v _ els)=>if v=ver then match AO kk x els with
      |some (some y)=>.val (comma c y true) b l
      |some none=>.val (comma c zero false) b l
      |none=>.bad
     else .bad
    |_=>.bad
  |_=>.bad
 else .bad
def IB (b l:List Row) (kk:KK) (m x y:AV):OpR:=
 if LC kk x x=some true then match m with
  |.mp id ver=>match hget b l id with
    |some (.live v s els)=>if v=ver then match n7 kk x y els with
      |some els'=>.val (.tup []) (vE b id (.live ver s els')) (lE b l id (.live ver s els'))
      |none=>.bad
     else .bad
    |_=>.bad
  |_=>.bad
 else .bad
def qQ:List (List AV)→Option (List Int)
 |[]=>some []
 |[.v (.int .u8 n)]::rs=>(qQ rs).map (n::·)
 |_=>none
def LW (ns:List Int):ByteArray:=⟨(ns.map fun n=>UInt8.ofNat n.toNat).toArray⟩
def bD (b l:List Row) (x:AV):OpR:=
 match x with
 |.v (.str _)=>.bad
 |x=>match fE b l 1 x with
   |some xs=>match qQ xs with
     |some ns=>.val (.v (.str (LW ns))) b l
     |none=>.bad
   |none=>.bad
def qF (b l:List Row):AV→OpR
 |.v .nilm=>.val (.v (.int .i64 0)) b l
 |.mp id ver=>match hget b l id with
   |some (.live v _ els)=>if v=ver then .val (.v (.int .i64 els.length)) b l else .bad
   |_=>.bad
 |_=>.bad

def amm (isMax:Bool):AV→AV→Option AV
 |.v (.int k x),.v (.int _ y)=>some (.v (.int k (if isMax then (if y>x then y else x) else (if y<x then y else x))))
 |_,_=>none

def evo (e:List AV):Option Opd→Option AV
 |some x=>some (ev e x)
 |none=>none

def AE:AV→List AV→OpR
 |.fn f caps,args=>.call f (args++caps)
 |_,_=>.bad

def DF:AV→AV→AV→Option AV
 |.v (.bool t),.v (.bool a),.v (.bool c)=>some (.v (.bool (if t then a else c)))
 |.v (.bool t),a,c=>some (if t then a else c)
 |_,_,_=>none

def aop (e:List AV) (b l:List Row):AOp→OpR
 |.mv x=>.val (ev e x) b l
 |.nilck x=>match ev e x with
   |.v (.iptr row j)=>.val (.v (.iptr row j)) b l
   |.ptr id ver k j=>.val (.ptr id ver k j) b l
   |.fn f cs=>.val (.fn f cs) b l
   |_=>.bad
 |.pick c x y=>PI (DF (ev e c) (ev e x) (ev e y)) b l
 |.bin o x y=>PI ((lJ o (ev e x) (ev e y)).map .v) b l
 |.binB o x y=>PI ((IF o (ev e x) (ev e y)).map .v) b l
 |.binS o x y=>PI ((GF o (ev e x) (ev e y)).map .v) b l
 |.eqs neg ks x y=>match ev e x,ev e y with
   |.agg xs,.agg ys=>match eqC ks xs ys with
     |some t=>.val (.v (.bool (if neg then !t else t))) b l
     |none=>.bad
   |_,_=>.bad
 |.not x=>match ev e x with
   |.v (.bool t)=>.val (.v (.bool (!t))) b l
   |_=>.bad
 |.neg x=>match ev e x with
   |.v (.int k n)=>.val (.v (.int k (k.wrap (0-n)))) b l
   |_=>.bad
 |.conv k x=>match ev e x with
   |.v (.int _ n)=>.val (.v (.int k (k.wrap n))) b l
   |_=>.bad
 |.alloc zs=>mk b l zs.length [zs] (fun i=>.ptr i 0 0 0)
 |.box x=>match cellsOf (ev e x) with
   |some cs=>if cs.all AV.cell=true then mk b l cs.length [cs] (fun i=>.ptr i 0 0 0) else .bad
   |none=>.bad
 |.build zs ps=>match YC e zs ps with
   |some cs=>.val (.agg cs) b l
   |none=>.bad
 |.bslice sz zs len ps=>match CB e sz (List.replicate len zs) ps with
   |some els=>mk b l sz els (fun i=>.sl i 0 0 len)
   |none=>.bad
 |.islb sz zs len ps=>match CB e sz (List.replicate len zs) ps with
   |some els=>match UF els with
     |some rows=>.val (.v (.isl sz rows)) b l
     |none=>.bad
   |none=>.bad
 |.load n x=>SE b l n (ev e x)
 |.store n x y=>LD b l n (ev e x) (ev e y)
 |.faddr d x=>ID b l d (ev e x)
 |.iaddr sz x i=>GD b l sz (ev e x) (ev e i)
 |.iaddrA len sz x i=>eC b l len sz (ev e x) (ev e i)
 |.field off n x=>match ev e x with
   |.agg cs=>PI (rd cs off n) b l
   |_=>.bad
 |.indexS x i=>match ev e x,ev e i with
   |.v (.str s),.v (.int _ n)=>if h:0≤n∧n.toNat<s.size then .val (.v (.int .u8 (s[n.toNat]'h.2).toNat)) b l else .bad
   |_,_=>.bad
 |.indexA len sz n x i=>match ev e x,ev e i with
   |.agg cs,.v (.int _ k)=>if 0≤k∧k<(len:Int) then PI (rd cs (k.toNat*sz) n) b l else .bad
   |_,_=>.bad
 |.slice sz x lo hi=>aD b l sz (ev e x) (evo e lo) (evo e hi)
 |.slice0 x=>match ev e x with
   |.v .zsl=>.val (.v .zsl) b l
   |.v (.isl _ _)=>.val (.v .zsl) b l
   |.sl .. => .val (.v .zsl) b l
   |_=>.bad
 |.sliceS x lo hi=>match ev e x with
   |.v (.str s)=>match tD s.size (evo e lo) (evo e hi) with
     |some (p,q)=>.val (.v (.str (s.extract p q))) b l
     |none=>.bad
   |_=>.bad
 |.len x=>PI (fJ (ev e x)) b l
 |.capz x=>match ev e x with
   |.v .zsl=>.val (.v (.int .i64 0)) b l
   |_=>.bad
 |.lenS x=>PI (SF (ev e x)) b l
 |.append sz bytes s x=>IC b l sz bytes (ev e s) (ev e x)
 |.appz sz bytes zs s n=>rF b l sz bytes zs (ev e s) (ev e n)
 |.mkslice sz zs bytes n c=>match ev e n,ev e c with
   |.v (.int _ n),.v (.int _ c)=>if 0≤n∧n≤c∧c.toNat*bytes≤room∧c.toNat≤room then mk b l sz (List.replicate n.toNat zs) (fun i=>.sl i 0 0 n.toNat) else .bad
   |_,_=>.bad
 |.mkfn f caps=>.val (.fn f (evs e caps)) b l
 |.extract i x=>match ev e x with
   |.tup cs=>PI (cs[i]?) b l
   |_=>.bad
 |.call f args=>AE (ev e f) (evs e args)
 |.mm t x y=>PI (amm t (ev e x) (ev e y)) b l
 |.copy sz x y=>dF b l sz (ev e x) (ev e y)
 |.isnil neg x=>match ev e x with
   |.v .zsl=>.two true (.v (.bool (!neg))) (.v (.bool neg))
   |.v (.isl _ rows)=>.two rows.isEmpty (.v (.bool (!neg))) (.v (.bool neg))
   |.sl _ _ _ n=>.two (n==0) (.v (.bool (!neg))) (.v (.bool neg))
   |_=>.bad
 |.mkmap=>mk b l 0 [] (fun i=>.mp i 0)
 |.lookup kk zero c m x=>fC b l kk zero c (ev e m) (ev e x)
 |.mupdate kk m x y=>IB b l kk (ev e m) (ev e x) (ev e y)
 |.lenM x=>qF b l (ev e x)
 |.tostr x=>bD b l (ev e x)

def gd (e:List AV):Option (Nat×Bool)→Option Bool
 |none=>some true
 |some (s,want)=>match nth e s with
   |.v (.bool t)=>some (t==want)
   |.tup []=>some false
   |_=>none

def yE (t:Option Bool) (A B:Prop):Prop:=
 match t with
 |some t=>if t=true then A else B
 |none=>False

abbrev CallP:=Nat→List AV→List Row→List Row→(AV→List Row→List Row→Prop)→Prop

def ZK (C:CallP) (b l:List Row) (K:AV→List Row→List Row→Prop):OpR→Prop
 |.val x b' l'=>K x b' l'
 |.two c x y=>(c=true→K x b l)∧K y b l
 |.call f args=>C f args b l K
 |.bad=>False

def XF (C:CallP):List AOper→List AV→List Row→List Row→(List AV→List Row→List Row→Prop)→Prop
 |[],e,b,l,K=>K e b l
 |o::os,e,b,l,K =>
   yE (gd e o.guard)
    (ZK C b l (fun x b' l'=>XF C os (put e o.dst x) b' l' K) (aop e b l o.op))
    (XF C os (put e o.dst (.tup [])) b l K)

def CD (e:List AV) (b l:List Row) (r:AOper):Prop:=
 yE (gd e r.guard) (∃v,aop e b l r.op=.val v b l∧(match r.dst with
  |some d=>nth e d=v∨e.length≤d
  |none=>True)) True
def lG (e:List AV) (b l:List Row):List AOper→Prop
 |[]=>True
 |r::rs=>CD e b l r∧lG e b l rs

def eG (C:CallP):List DOper→List AV→List Row→List Row→(List AV→List Row→List Row→Prop)→Prop
 |[],e,b,l,K=>K e b l
 |d::ds,e,b,l,K =>
   yE (gd e d.o.guard)
    (ZK C b l (fun x b' l'=>lG e b' l' d.re∧eG C ds (put e d.o.dst x) b' l' K) (aop e b l d.o.op))
    (eG C ds (put e d.o.dst (.tup [])) b l K)

abbrev WeakP:=List AV→List Row→List Row→List AV→List Row→List Row→Prop

def yV (R:List AV→List Row→List Row→Prop) (Q:AExit→List AV→List Row→List Row→Prop):AExit→List AV→List Row→List Row→Prop
 |.normal,e,b,l=>R e b l
 |.exit i,e,b,l=>Q (.exit i) e b l
 |.ret,e,b,l=>Q .ret e b l
def M0 (id:Nat) (Q:AExit→List AV→List Row→List Row→Prop):AExit→List AV→List Row→List Row→Prop
 |.normal,e,b,l=>Q .normal e b l
 |.exit i,e,b,l=>if i=id then Q .normal e b l else Q (.exit i) e b l
 |.ret,e,b,l=>Q .ret e b l

def run (C:CallP) (W:WeakP):ACode→List AV→List Row→List Row→(AExit→List AV→List Row→List Row→Prop)→Prop
 |.skip,e,b,l,Q=>Q .normal e b l
 |.region ops,e,b,l,Q=>XF C ops e b l (Q .normal)
 |.draw ds,e,b,l,Q=>eG C ds e b l (Q .normal)
 |.both x y,e,b,l,Q=>run C W x e b l Q∧run C W y e b l Q
 |.seq x y,e,b,l,Q=>run C W x e b l (yV (fun e b l=>run C W y e b l Q) Q)
 |.cond c x y,e,b,l,Q =>
   match ev e c with
   |.v (.bool t)=>if t=true then run C W x e b l Q else run C W y e b l Q
   |_=>False
 |.block id c,e,b,l,Q=>run C W c e b l (M0 id Q)
 |.loop c,e,b,l,Q =>
   ∃I:List AV→List Row→List Row→Nat→Prop,(∃e' b' l' m,W e b l e' b' l'∧I e' b' l' m) ∧
    ∀e b l m,I e b l m→run C W c e b l (yV (fun e b l=>∃e' b' l' m',W e b l e' b' l'∧I e' b' l' m'∧m'<m) Q)
 |.exit i,e,b,l,Q=>Q (.exit i) e b l
 |.ret,e,b,l,Q=>Q .ret e b l

def resV (e:List AV) (b l:List Row):ARes→Option AV
 |.tmp t=>some (nth e t)
 |.cell t n=>match SE b l n (nth e t) with
   |.val x _ _=>some x
   |_=>none
def resVs (e:List AV) (b l:List Row):List ARes→Option (List AV)
 |[]=>some []
 |r::rs=>match resV e b l r,resVs e b l rs with
   |some x,some xs=>some (x::xs)
   |_,_=>none
def one:List AV→AV
 |[x]=>x
 |xs=>.tup xs

def cvI:Value→Option IV
 |.int k n=>some (.int k n)
 |.bool b=>some (.bool b)
 |.string s=>some (.str s)
 |.pointer none=>some .nilp
 |.slice none 0 0=>some .zsl
 |.map none=>some .nilm
 |.nilFunc=>some .nilf
 |_=>none
def cvL:List Value→Option (List AV)
 |[]=>some []
 |v::vs=>match cvI v,cvL vs with
   |some x,some xs=>some (.v x::xs)
   |_,_=>none
def cvA:Value→Option AV
 |.agg cs=>(cvL cs.toList).map .agg
 |.tuple vs=>if vs.size=0 then some (.tup []) else none
 |.func (.func f) first caps=>if first.size=0∧caps.size=0 then some (.fn f []) else none
 |v=>(cvI v).map .v

def eA:Operand→Option Opd
 |.tmp t=>some (.t t)
 |.const v=>(cvA v).map .c
 |.func f=>some (.c (.fn f []))
 |.global _=>none
def tQ:List Operand→Option (List Opd)
 |[]=>some []
 |x::xs=>match eA x,tQ xs with
   |some y,some ys=>some (y::ys)
   |_,_=>none
def TL:Option Operand→Option (Option Opd)
 |none=>some none
 |some x=>(eA x).map some

section
variable (P:Program)
def ZB9 (t:TypeId):Option Bool:=
 match P.underlying t with
 |some (.struct _)=>some true
 |some (.array _ _)=>some true
 |some _=>some false
 |none=>none
def rD (t:TypeId):Option Nat:=(P.info? t).map (·.size)
def jO (t:TypeId):Option Nat:=(P.info? t).map (·.bytes)
def QK (t:TypeId):Option (Option Nat):=
 match ZB9 P t,rD P t with
 |some true,some n=>some (some n)
 |some false,some _=>some none
 |_,_=>none
def uF (t:TypeId):Option (List AV):=
 match P.info? t with
 |some i=>match i.zero with
   |some z=>cvL z.cells.toList
   |none=>none
 |none=>none
def LI (t:TypeId):Option FK:=
 match P.underlying t with
 |some (.int _)=>some .i
 |some .bool=>some .b
 |some .string=>some .s
 |_=>none
def qL:Nat→List Field→Option (List FK)
 |_,[]=>some []
 |n,f::fs=>if f.offset=n∧f.name≠ "_" then
   match LI P f.type,qL (n+1) fs with
   |some k,some ks=>some (k::ks)
   |_,_=>none
  else none
def wQ (fs:Array Field):List (Nat×Operand)→Option (List (Nat×Nat×Opd))
 |[]=>some []
 |(i,x)::ps=>match fs[i]?,eA x,wQ fs ps with
   |some f,some y,some ys=>match rD P f.type with
     |some n=>some ((f.offset,n,y)::ys)
     |none=>none
   |_,_,_=>none
def bM (n:Nat):List (Nat×Operand)→Option (List (Nat×Nat×Opd))
 |[]=>some []
 |(i,x)::ps=>match eA x,bM n ps with
   |some y,some ys=>some ((i*n,n,y)::ys)
   |_,_=>none
def nJ:List (Nat×Operand)→Option (List (Nat×Opd))
 |[]=>some []
 |(i,x)::ps=>match eA x,nJ ps with
   |some y,some ys=>some ((i,y)::ys)
   |_,_=>none
def Q7:Operand→Bool
 |.const (.slice none 0 0)=>true
 |_=>false
def jQ:Option Operand→Bool
 |some (.const (.int _ 0))=>true
 |_=>false

def kkT (t:TypeId):Option KK:=
 match P.underlying t with
 |some (.struct fs)=>if P.stoodInHeld t=false then (qL P 0 fs.toList).map .many else none
 |some (.array n el)=>match LI P el,rD P el with
   |some k,some 1=>some (.many (List.replicate n k))
   |_,_=>none
 |some _=>(LI P t).map .one
 |none=>none
def ZBQ (t:TypeId):Option AV:=
 match P.info? t with
 |some i=>match i.zero with
   |some z=>cvA z
   |none=>none
 |none=>none
def J7:Option Operand→Bool
 |none=>true
 |some (.const (.int _ _))=>true
 |_=>false
def Y7:Option TypeDesc→Bool
 |some (.map _ _)=>true
 |_=>false

def ZEV:Option TypeDesc→Bool
 |some (.int .i64)=>true
 |_=>false
def wN:Option TypeDesc→Bool
 |some (.slice _)=>true
 |some .string=>true
 |_=>false

def cOp (o:Op):Option AOp:=
 match o with
 |.move x=>(eA x).map .mv
 |.assign x=>(eA x).map .mv
 |.nilCheck x=>(eA x).map .nilck
 |.pick c a b=>do let c ←eA c;let a ←eA a;let b ←eA b;pure (.pick c a b)
 |.binOp o t x y _ =>
   match P.underlying t with
   |some (.struct fs)=>match qL P 0 fs.toList with
     |some ks=>if P.stoodInHeld t=false∧P.eqGuardType P.depth t=false∧(o=.eql∨o=.neq) then
       do let x ←eA x;let y ←eA y;pure (.eqs (o==.neq) ks x y) else none
     |none=>none
   |some (.array n el)=>match LI P el,rD P el with
     |some k,some 1=>if P.eqGuardType P.depth t=false∧(o=.eql∨o=.neq) then
       do let x ←eA x;let y ←eA y;pure (.eqs (o==.neq) (List.replicate n k) x y) else none
     |_,_=>none
   |some (.int _)=>do let x ←eA x;let y ←eA y;pure (.bin o x y)
   |some .bool=>do let x ←eA x;let y ←eA y;pure (.binB o x y)
   |some .string=>do let x ←eA x;let y ←eA y;pure (.binS o x y)
   |some (.slice _)=>if (o=.eql∨o=.neq)∧Q7 y=true then (eA x).map (.isnil (o==.neq)) else none
   |_=>none
 |.unOp .not _ x=>(eA x).map .not
 |.unOp .neg _ x=>(eA x).map .neg
 |.convert s d x=>match P.underlying s,P.underlying d with
   |some (.int _),some (.int k)=>(eA x).map (.conv k)
   |some (.slice el),some .string=>match P.underlying el with
     |some (.int .u8)=>(eA x).map .tostr
     |_=>none
   |_,_=>none
 |.alloc t=>(uF P t).map .alloc
 |.box _ x=>(eA x).map .box
 |.build t ps=>match P.underlying t,uF P t with
   |some (.struct fs),some zs=>if fs.toList.all (fun f=>(rD P f.type).isSome)=true then (wQ P fs ps.toList).map (.build zs) else none
   |some (.array _ el),some zs=>match rD P el with
     |some n=>(bM n ps.toList).map (.build zs)
     |none=>none
   |_,_=>none
 |.buildSlice t len ps=>match P.underlying t with
   |some (.slice el)=>match rD P el,uF P el with
     |some n,some zs=>if 0<n∧len*n≤16777216∧zs.length=n then (nJ ps.toList).map (.bslice n zs len) else none
     |_,_=>none
   |_=>none
 |.load t x=>match QK P t with
   |some n=>(eA x).map (.load n)
   |none=>none
 |.store t a v=>match rD P t with
   |some n=>do let a ←eA a;let v ←eA v;pure (.store n a v)
   |none=>none
 |.fieldAddr t x i=>match P.underlying t with
   |some (.struct fs)=>match fs[i]? with
     |some f=>match rD P f.type with
       |some n=>if 0<n then (eA x).map (.faddr f.offset) else none
       |none=>none
     |none=>none
   |_=>none
 |.field t x i=>match P.underlying t with
   |some (.struct fs)=>match fs[i]? with
     |some f=>match QK P f.type with
       |some n=>(eA x).map (.field f.offset n)
       |none=>none
     |none=>none
   |_=>none
 |.indexAddr t x i=>match P.underlying t with
   |some (.slice el)=>match rD P el with
     |some n=>do let x ←eA x;let i ←eA i;pure (.iaddr n x i)
     |none=>none
   |some (.array len el)=>match rD P el with
     |some n=>do let x ←eA x;let i ←eA i;pure (.iaddrA len n x i)
     |none=>none
   |_=>none
 |.index t x i=>match P.underlying t with
   |some .string=>do let x ←eA x;let i ←eA i;pure (.indexS x i)
   |some (.array len el)=>match rD P el,QK P el with
     |some n,some s=>do let x ←eA x;let i ←eA i;pure (.indexA len n s x i)
     |_,_=>none
   |_=>none
 |.slice t x lo hi mx=>match P.underlying t with
   |some (.slice el)=>match mx with
     |none=>match rD P el with
       |some n=>do let x ←eA x;let lo ←TL lo;let hi ←TL hi;pure (.slice n x lo hi)
       |none=>none
     |some _=>if jQ mx&&jQ hi&&lo.isNone&&(rD P el).isSome then (eA x).map .slice0 else none
   |some .string=>match mx with
     |none=>do let x ←eA x;let lo ←TL lo;let hi ←TL hi;pure (.sliceS x lo hi)
     |some _=>none
   |_=>none
 |.makeSlice t n c=>match P.underlying t with
   |some (.slice el)=>match rD P el,uF P el,jO P el with
     |some s,some zs,some bytes=>if zs.length=s∧0<s then do let n ←eA n;let c ←eA c;pure (.mkslice s zs bytes n c) else none
     |_,_,_=>none
   |_=>none
 |.makeMap t r=>if Y7 (P.underlying t)=true∧J7 r=true then some .mkmap else none
 |.lookup t x i c=>match P.underlying t with
   |some (.map k el)=>match kkT P k,ZBQ P el with
     |some kk,some z=>do let x ←eA x;let i ←eA i;pure (.lookup kk z c x i)
     |_,_=>none
   |_=>none
 |.mapUpdate t m x y=>match P.underlying t with
   |some (.map k _)=>match kkT P k with
     |some kk=>do let m ←eA m;let x ←eA x;let y ←eA y;pure (.mupdate kk m x y)
     |none=>none
   |_=>none
 |.makeFunc (.func f) first caps=>if first.size=0 then (tQ caps.toList).map (.mkfn f) else none
 |.extract x i=>(eA x).map (.extract i)
 |.call c=>match c.callee with
   |.value f=>do let f ←eA f;let args ←tQ c.args.toList;pure (.call f args)
   |.builtin .len=>match c.args.toList,c.argTypes.toList with
     |[x],[t]=>match P.underlying t with
       |some .string=>(eA x).map .lenS
       |some (.slice _)=>(eA x).map .len
       |some (.array n _)=>some (.mv (.c (.v (.int .i64 n))))
       |some (.map _ _)=>(eA x).map .lenM
       |_=>none
     |_,_=>none
   |.builtin .append=>match c.args.toList,c.argTypes.toList with
     |[s,x],[t,u]=>match P.underlying t with
       |some (.slice el)=>match rD P el,jO P el,uF P el with
         |some n,some bytes,some zs=>if 0<n∧0<bytes∧zs.length=n∧wN (P.underlying u)=true then do let s ←eA s;let x ←eA x;pure (.append n bytes s x)
           else if 0<n∧0<bytes∧zs.length=n∧ZEV (P.underlying u)=true then do let s ←eA s;let x ←eA x;pure (.appz n bytes zs s x) else none
         |_,_,_=>none
       |_=>none
     |_,_=>none
   |.builtin .copy=>match c.args.toList,c.argTypes.toList with
     |[x,y],[t,_]=>match P.underlying t with
       |some (.slice el)=>match rD P el with
         |some n=>if 0<n then do let x ←eA x;let y ←eA y;pure (.copy n x y) else none
         |none=>none
       |_=>none
     |_,_=>none
   |.builtin .max=>match c.args.toList with
     |[x,y]=>do let x ←eA x;let y ←eA y;pure (.mm true x y)
     |_=>none
   |.builtin .min=>match c.args.toList with
     |[x,y]=>do let x ←eA x;let y ←eA y;pure (.mm false x y)
     |_=>none
   |.builtin .cap=>match c.args.toList,c.argTypes.toList with
     |[x],[t]=>match P.underlying t with
       |some (.slice _)=>(eA x).map .capz
       |_=>none
     |_,_=>none
   |_=>none
 |_=>none

def ZEW:AOp→AOp
 |.bslice sz zs len ps=>.islb sz zs len ps
 |o=>o
def pX (imm:Bool) (o:Op):Option AOp:=if imm=true then (cOp P o).map ZEW else cOp P o
def gQ (ops:Array Oper):Option (Nat×Bool)→Option (Option (Nat×Bool))
 |none=>some none
 |some (j,want)=>match (ops[j]?).bind (·.dst) with
   |some d=>some (some (d,want))
   |none=>none
def jS (imm:Bool) (ops:Array Oper):List Oper→Option (List AOper)
 |[]=>some []
 |o::os=>match pX P imm o.op,gQ ops o.guard,jS imm ops os with
   |some x,some g,some xs=>some (⟨o.dst,x,g⟩::xs)
   |_,_,_=>none
def anc (ops:Array Oper) (x:Nat):Nat→Nat→Bool
 |0,_=>false
 |n+1,i=>match ops[i]? with
   |some o=>o.after.toList.any fun ed=>Region.binds .any ed&&(ed.on==x||anc ops x n ed.on)
   |none=>false
def D6 (ops:Array Oper) (done:List Nat) (i:Nat):Bool:=match ops[i]? with
 |some o=>o.after.toList.all fun ed=>!Region.binds .any ed||done.contains ed.on
 |none=>false
def zQ (ops:Array Oper) (qs als:List Bool):Nat→List Nat→List Nat→List Nat
 |0,_,_=>[]
 |n+1,left,done =>
   match left.find? (fun i=>D6 ops done i&&qs.getD i false) with
   |some i=>i::zQ ops qs als n (left.erase i) (i::done)
   |none=>match left.find? (fun i=>D6 ops done i&&!als.getD i false) with
     |some i=>i::zQ ops qs als n (left.erase i) (i::done)
     |none=>match left.find? (fun i=>D6 ops done i) with
       |some i=>i::zQ ops qs als n (left.erase i) (i::done)
       |none=>[]
def ZCA (ops:Array Oper) (aos:List AOper) (i:Nat):List Nat→List AOper
 |[]=>[]
 |j::js=>match aos[j]? with
   |some r=>if r.op.quiet&&!anc ops j ops.size i then r::ZCA ops aos i js else ZCA ops aos i js
   |none=>ZCA ops aos i js
def mkD (ops:Array Oper) (aos:List AOper):List Nat→List Nat→List DOper
 |_,[]=>[]
 |done,i::is=>match aos[i]? with
   |some o=>⟨i,o,if o.op.quiet then [] else ZCA ops aos i done⟩::mkD ops aos (done++[i]) is
   |none=>[]
def CS (ops:Array Oper) (fin:List Nat) (a c:DOper):Bool:=
 (!fin.contains a.i||anc ops a.i ops.size c.i)&&(match c.o.dst with
  |some d=>(!(a.o.op.quiet||c.o.op.isAlloc)||(fin.contains c.i&&!c.o.op.isAlloc&&anc ops a.i ops.size c.i)||!a.o.looks.contains d)&&a.o.dst != some d&&(!c.o.op.isAlloc||a.re.all (fun r=>!r.looks.contains d&&r.dst != some d))
  |none=>true) &&
 (anc ops a.i ops.size c.i||((a.o.op.quiet||c.o.op.isAlloc)&&(match a.o.dst with
  |some d=>!c.o.looks.contains d
  |none=>true)))
def QR (o:AOper):Bool:=!o.op.isAlloc||(o.guard.isNone&&o.dst.isSome)
def KQ (a:DOper):Bool:=match a.o.dst with
 |some d=>!(a.o.op.quiet||a.o.op.isAlloc)||(!a.o.looks.contains d&&a.re.all (fun r=>!r.looks.contains d&&r.dst != some d))
 |none=>true
def MQ (ops:Array Oper) (fin:List Nat):List DOper→Bool
 |[]=>true
 |a::ds=>KQ a&&ds.all (CS ops fin a)&&MQ ops fin ds
def tW (ops:Array Oper):List DOper→List Nat
 |[]=>[]
 |d::ds=>if ds.all (fun c=>anc ops d.i ops.size c.i) then d.i::tW ops ds else tW ops ds
def dM (is:List Nat) (i:Nat):Nat:=is.findIdx (· == i)
def NW (ops:Array Oper) (is:List Nat):Bool:=(List.range ops.size).all fun i=>match ops[i]? with
 |some o=>o.after.toList.all fun ed=>!Region.binds .any ed||decide (dM is ed.on<dM is i)
 |none=>true
def nQ (imm:Bool) (ops:Array Oper):Option (List DOper):=
 match jS P imm ops ops.toList with
 |some aos =>
   let ds:=mkD ops aos [] (zQ ops (aos.map (·.op.quiet)) (aos.map (·.op.isAlloc)) ops.size (List.range ops.size) [])
   if P.follows .mixedOrders=true∧NW ops (ds.map (·.i))=true∧aos.all QR=true∧MQ ops (tW ops ds) ds=true∧(ds.map (·.i)).length=ops.size∧(ds.map (·.i)).Nodup∧(List.range ops.size).all (fun i=>(ds.map (·.i)).contains i)=true then some ds else none
 |none=>none
def XC (ops:Array Oper) (k i:Nat):Array Oper:=match ops[k]? with
 |some o=>ops.setIfInBounds k {o with after:=o.after.push ⟨i,.data⟩}
 |none=>ops
def ZFU (ops:Array Oper) (aos:List AOper):Option (Nat×Nat):=
 let ms:=(List.range ops.size).filter fun i=>match aos[i]? with
  |some o=>!o.op.quiet&&!o.op.isAlloc
  |none=>false
 ms.findSome? fun i=>(ms.find? fun k=>decide (i<k)&&!anc ops i ops.size k&&!anc ops k ops.size i).map fun k=>(i,k)
def CH (imm:Bool):Nat→Array Oper→Option ACode
 |0,ops=>(nQ P imm ops).map .draw
 |n+1,ops=>match nQ P imm ops with
   |some ds=>some (.draw ds)
   |none=>match jS P imm ops ops.toList with
     |some aos=>match ZFU ops aos with
       |some (i,k)=>if i≠k∧i<ops.size∧k<ops.size then match CH imm n (XC ops k i),CH imm n (XC ops i k) with
         |some x,some y=>some (.both x y)
         |_,_=>none else none
       |none=>none
     |none=>none
def KX:ACode:=.region [⟨none,.extract 0 (.c .any),none⟩]
def ZF8:Option ACode→ACode
 |some c=>c
 |none=>KX
def ZEk (ops:Array Oper) (draw:Bool):Option ACode:=if draw then (match CH P false 6 ops with
 |some c=>some c
 |none=>CH P true 6 ops) else (jS P false ops ops.toList).map .region
def RH:Code→Option ACode
 |.skip=>some .skip
 |.region _ ops draw=>some (ZF8 (ZEk P ops draw))
 |.seq a b=>match RH a,RH b with
   |some x,some y=>some (.seq x y)
   |_,_=>none
 |.cond c a b=>match eA c,RH a,RH b with
   |some c,some x,some y=>some (.cond c x y)
   |_,_,_=>none
 |.block id c=>(RH c).map (.block id)
 |.loop c=>(RH c).map .loop
 |.exit id=>some (.exit id)
 |.ret=>some .ret
 |_=>some KX
def ZB7:List ResultVar→Option (List ARes)
 |[]=>some []
 |.tmp t::rs=>(ZB7 rs).map (ARes.tmp t::·)
 |.cell a t::rs=>match QK P t,ZB7 rs with
   |some n,some xs=>some (.cell a n::xs)
   |_,_=>none
def jA (f:FuncId):Option AFunc:=
 match P.funcs[f]? with
 |some fn=>if fn.name == "runtime.NumGoroutine" then none else
   match fn.body with
   |some c=>match RH P c,ZB7 P fn.results.toList with
     |some c,some rs=>some ⟨fn.params.size+fn.nfree,fn.ntmps,rs,c⟩
     |_,_=>none
   |none=>none
 |none=>none
end

theorem RepI.one {w:World} {F:Nat→Prop} {x:IV} {v:Value} (h:RepI w F x v):v.oneCell'=true:=by cases h<;>rfl

theorem RepA.one {w:World} {F:Nat→Prop} {L:LMap} {x:AV} {v:Value} (h:RepA w F L x v) (hx:x.cell=true):v.oneCell'=true:=by
 cases h<;>first|rfl|(simp[AV.cell]at hx;done)|skip
 case v h=>exact h.one

theorem YV {v:Value} (h:v.oneCell'=true):v.cells=#[v]:=by cases v<;>first|rfl|cases h

theorem Sim.putLoc {F:Nat→Prop} {L:LMap} {h h':List Row} {w w':World} (s:Sim F L h w) (id ver sz blk:Nat) (q:Loc) (els:List (List AV)) (hq:∀k,q.on k→k=blk)
  (hos:w'.os=w.os) (htp:w'.tape=w.tape) (KH:w'.output=w.output) (ZBV:w.heap.size≤w'.heap.size)
  (hb:∀k,k<w.heap.size→k≠blk→w'.heap[k]? = w.heap[k]?)
  (nG:w.heap.size≤blk∨∃v z els0 q0,h[id]? = some (.live v z els0)∧L id v=some q0∧q0.on blk)
  (hh:h'[id]? = some (.live ver sz els)) (UJ:∀j,j≠id→h'[j]? = h[j]?)
  (ZGn:∀r,h[id]? = some r→r.ver≤ver∧∃v z els0,r=.live v z els0)
  (tN:L id ver=none∨L id ver=some q)
  (sD:∀L':LMap,(∀(x:AV) (v:Value),RepA w F L x v→RepA w' F L' x v)→lQ w' F L' sz els q) :
  ∃L':LMap,Sim F L' h' w'∧Step h.length F L h w F L' h' w'∧L' id ver=some q∧∀i v l,L i v=some l→L' i v=some l:=by
 have hL':∃L':LMap,L' id ver=some q∧(∀i v l,L i v=some l→L' i v=some l)∧∀i v,(i≠id∨v≠ver)→L' i v=L i v:=by
  refine⟨fun i v=>if i=id∧v=ver then some q else L i v,by simp,?_,?_⟩
  ·intro i v l hl
   by_cases hi:i=id∧v=ver
   ·obtain⟨rfl,rfl⟩:=hi
    rcases tN with h0|h0
    ·rw[h0]at hl;cases hl
    ·rw[h0]at hl;simpa using hl
   ·simp[hi,hl]
  ·intro i v hi
   have:¬(i=id∧v=ver):=fun ⟨a,b⟩=>hi.elim (fun h=>h a) (fun h=>h b)
   simp[this]
 obtain⟨L',LS,XX,mT⟩:=hL'
 have notF:¬F blk:=fun hF=>by
  obtain⟨yA,sO⟩:=s.imm blk hF
  rcases nG with h0|⟨v,z,els0,q0,h1,h2,h3⟩
  ·omega
  ·exact sO ⟨id,v,z,els0,q0,h1,h2,h3⟩
 have hF:∀k,F k→w'.heap[k]? = w.heap[k]?:=fun k hk=>hb k (s.imm k hk).1 (fun e=>notF (e▸hk))
 have mono:∀(x:AV) (v:Value),RepA w F L x v→RepA w' F L' x v:=fun _ _ hx=>hx.mono (fun _ h=>h) hF XX
 have liveO:∀j v z els0 b q1,j≠id→h[j]? = some (.live v z els0)→L j v=some q1→q1.on b→b≠blk:=by
  intro j v z els0 b q1 hj h1 h2 h5 e
  subst e
  rcases nG with h0|⟨v',z',els',q',h3,h4,h6⟩
  ·obtain⟨l,g1,g2⟩:=s.row j v z els0 h1
   rw[h2]at g1;cases g1
   have:=g2.lt h5
   omega
  ·exact hj (s.apart j id v v' z z' els0 els' b q1 q' h1 h3 h2 h4 h5 h6)
 refine⟨L',⟨?_,?_,?_,?_,s.glob.mono (fun _ h=>h) hF⟩,⟨fun _ h=>h,fun i v l _ hl=>XX i v l hl,hos,htp,KH,ZBV,?_,?_,?_,fun _ _ h=>.inl h⟩,LS,XX⟩
 ·intro j v z e1 hj
  by_cases JG:j=id
  ·subst JG
   rw[hh]at hj
   cases hj
   exact⟨_,LS,sD L' mono⟩
  ·rw[UJ j JG]at hj
   obtain⟨l,ZQ,iV⟩:=s.row j v z e1 hj
   exact⟨l,XX _ _ _ ZQ,iV.mono (fun b hbo=>hb b (iV.lt hbo) (liveO j v z e1 b l JG hj ZQ hbo)) mono⟩
 ·intro i v l ZQ
  by_cases hi:i=id
  ·subst hi
   refine⟨_,hh,?_⟩
   by_cases hv:v=ver
   ·subst hv;exact ai _
   ·rw[mT i v (.inr hv)]at ZQ
    obtain⟨r,h1,h2⟩:=s.born _ _ _ ZQ
    exact dh h2 (ZGn r h1).1
  ·rw[mT i v (.inl hi)]at ZQ
   obtain⟨r,h1,h2⟩:=s.born _ _ _ ZQ
   exact⟨r,by rw[UJ i hi];exact h1,h2⟩
 ·intro i i' v v' z z' e1 e2 b q1 q2 h1 h2 h3 h4 h5 h6
  by_cases hi:i=id
  ·by_cases hi':i'=id
   ·rw[hi,hi']
   ·subst hi
    rw[hh]at h1;cases h1
    rw[UJ i' hi']at h2
    rw[LS]at h3;cases h3
    rw[mT i' v' (.inl hi')]at h4
    exact absurd (hq b h5) (liveO i' v' z' e2 b q2 hi' h2 h4 h6)
  ·by_cases hi':i'=id
   ·subst hi'
    rw[hh]at h2;cases h2
    rw[UJ i hi]at h1
    rw[LS]at h4;cases h4
    rw[mT i v (.inl hi)]at h3
    exact absurd (hq b h6) (liveO i v z e1 b q1 hi h1 h3 h5)
   ·rw[UJ i hi]at h1
    rw[UJ i' hi']at h2
    rw[mT i v (.inl hi)]at h3
    rw[mT i' v' (.inl hi')]at h4
    exact s.apart i i' v v' z z' e1 e2 b q1 q2 h1 h2 h3 h4 h5 h6
 ·intro k hk
  refine⟨fc (s.imm k hk).1 ZBV,?_⟩
  rintro⟨i,v,z,e1,q1,h1,h2,h3⟩
  by_cases hi:i=id
  ·subst hi
   rw[hh]at h1;cases h1
   rw[LS]at h2;cases h2
   exact notF (hq k h3▸hk)
  ·rw[UJ i hi]at h1
   rw[mT i v (.inl hi)]at h2
   exact (s.imm k hk).2 ⟨i,v,z,e1,q1,h1,h2,h3⟩
 ·intro k hk sO
  refine hb k hk fun e=>?_
  subst e
  rcases nG with h0|⟨v',z',els',q',h3,h4,h5⟩
  ·omega
  ·exact sO ⟨id,v',z',els',q',h3,h4,h5⟩
 ·rintro k hk ⟨i,v,z,e1,q1,h1,h2,h3⟩
  by_cases hi:i=id
  ·subst hi
   rw[hh]at h1;cases h1
   rw[LS]at h2;cases h2
   obtain rfl:=hq k h3
   rcases nG with h0|⟨v',z',els',q',h3,h4,h5⟩
   ·omega
   ·exact⟨i,v',z',els',q',h3,h4,h5⟩
  ·rw[UJ i hi]at h1
   rw[mT i v (.inl hi)]at h2
   exact⟨i,v,z,e1,q1,h1,h2,h3⟩
 ·intro i hi v hv
  by_cases hii:i=id
  ·subst hii
   obtain⟨_,v',z',e',he⟩:=ZGn _ hv
   cases he
  ·rw[UJ i hii];exact hv

theorem Sim.putRow {F:Nat→Prop} {L:LMap} {h h':List Row} {w w':World} (s:Sim F L h w) (id ver sz blk o cap:Nat) (els:List (List AV))
  (hos:w'.os=w.os) (htp:w'.tape=w.tape) (KH:w'.output=w.output) (ZBV:w.heap.size≤w'.heap.size)
  (hb:∀k,k<w.heap.size→k≠blk→w'.heap[k]? = w.heap[k]?)
  (nG:w.heap.size≤blk∨∃v z els0 o0 z0 cap0,h[id]? = some (.live v z els0)∧L id v=some (.pl blk o0 z0 cap0))
  (hh:h'[id]? = some (.live ver sz els)) (UJ:∀j,j≠id→h'[j]? = h[j]?)
  (ZGn:∀r,h[id]? = some r→r.ver≤ver∧∃v z els0,r=.live v z els0)
  (tN:L id ver=none∨L id ver=some (.pl blk o sz cap))
  (hl:els.length≤cap) (iM:cap≤maxLen) (cur:Array Value) (T:TypeId) (O0:w'.heap[blk]? = some (.cells cur T (0,0))) (JI:o+cap*sz≤cur.size)
  (zN:∀(k:Nat) (row:List AV),els[k]? = some row→row.length=sz)
  (QG:∀(k:Nat) (row:List AV) (j:Nat) (a:AV),els[k]? = some row→row[j]? = some a→a.cell=true∧∃v,cur[o+k*sz+j]? = some v∧RepA w F L a v) :
  ∃L':LMap,Sim F L' h' w'∧Step h.length F L h w F L' h' w'∧L' id ver=some (.pl blk o sz cap)∧∀i v l,L i v=some l→L' i v=some l:=by
 refine s.putLoc id ver sz blk (.pl blk o sz cap) els (fun k hk=>hk.symm) hos htp KH ZBV hb (nG.imp (fun h=>h) fun ⟨v,z,e,o0,z0,c0,h1,h2⟩=>⟨v,z,e,_,h1,h2,rfl⟩) hh UJ ZGn tN ?_
 intro L' mono
 exact⟨rfl,hl,iM,cur,T,O0,JI,zN,fun k row i a hk hi=>by
  obtain⟨h1,v,h2,h3⟩:=QG k row i a hk hi
  exact⟨h1,v,h2,mono _ _ h3⟩⟩

theorem Sim.same {F:Nat→Prop} {L:LMap} {h:List Row} {w w':World} (s:Sim F L h w) (hh:w'.heap=w.heap):Sim F L h w':=by
 have m:∀{x:AV} {v:Value},RepA w F L x v→RepA w' F L x v:=fun hx=>hx.mono (fun _ h=>h) (fun _ _=>by rw[hh]) (fun _ _ _ h=>h)
 refine⟨fun id ver sz els hr=>?_,s.born,s.apart,fun b hb=>⟨by rw[hh];exact (s.imm b hb).1,(s.imm b hb).2⟩,s.glob.mono (fun _ h=>h) (fun _ _=>by rw[hh])⟩
 obtain⟨l,h1,h2⟩:=s.row id ver sz els hr
 exact⟨l,h1,h2.mono (fun _ _=>by rw[hh]) (fun _ _=>m)⟩

theorem Step.same {nb:Nat} {F:Nat→Prop} {L:LMap} {h:List Row} {w w':World} (hh:w'.heap=w.heap) (hos:w'.os=w.os) (htp:w'.tape=w.tape) (KH:w'.output=w.output) :
  Step nb F L h w F L h w':=⟨fun _ h=>h,fun _ _ _ _ h=>h,hos,htp,KH,by rw[hh];exact ai _,fun _ _ _=>by rw[hh],fun _ _ h=>h,fun _ _ _ h=>h,fun _ _ h=>.inl h⟩

theorem Sim.cell {F:Nat→Prop} {L:LMap} {h:List Row} {w:World} (s:Sim F L h w) {id ver sz b o z cap k j:Nat} {els:List (List AV)} {row:List AV} {a:AV}
  (hr:h[id]? = some (.live ver sz els)) (hL:L id ver=some (.pl b o z cap)) (hk:els[k]? = some row) (hj:row[j]? = some a) :
  z=sz∧a.cell=true∧∃v,w.cell? ⟨b,o+k*z+j,none⟩=some v∧RepA w F L a v:=by
 obtain⟨l,h1,h2⟩:=s.row id ver sz els hr
 rw[hL]at h1;cases h1
 obtain⟨a1,a2,a3,cur,T,a4,a5,a6,a7⟩:=h2
 subst a1
 obtain⟨b1,v,b2,b3⟩:=a7 k row j a hk hj
 exact⟨rfl,b1,v,by simp[World.cell?,a4,b2],b3⟩


def Ends (P:Program) (o:Oper) (a:Act) (w:World) (v:Value) (w':World):Prop:=
 (execOp a.eval o).run P w=.ok (.value v) w'∨((execOp a.eval o).run P w=.ok .skip w'∧v=undef)

def ZB (P:Program) (o:Oper) (a:Act) (w:World) (F:Nat→Prop) (L:LMap) (b l:List Row) (x:AV) (b' l':List Row):Prop:=
 ∃v w' L',Ends P o a w v w'∧RepA w' F L' x v∧Sim F L' (b'++l') w'∧Step (b++l).length F L (b++l) w F L' (b'++l') w'∧b'.length=b.length

def ZP (P:Program) (o:Oper) (a:Act) (w:World) (F:Nat→Prop) (L:LMap) (b l:List Row) (x:AV) (b' l':List Row):Prop:=
 ∃v w' F' L',Ends P o a w v w'∧RepA w' F' L' x v∧Sim F' L' (b'++l') w'∧Step (b++l).length F L (b++l) w F' L' (b'++l') w'∧b'.length=b.length
theorem ZB.toF {P:Program} {o:Oper} {a:Act} {w:World} {F:Nat→Prop} {L:LMap} {b l:List Row} {x:AV} {b' l':List Row} (h:ZB P o a w F L b l x b' l'):ZP P o a w F L b l x b' l':=by
 obtain⟨v,w',L',h1,h2,h3,h4,h5⟩:=h
 exact⟨v,w',F,L',h1,h2,h3,h4,h5⟩

theorem ZB.pure {P:Program} {o:Oper} {a:Act} {w:World} {F:Nat→Prop} {L:LMap} {b l:List Row} {x:AV} {v:Value} (s:Sim F L (b++l) w)
  (h:(execOp a.eval o).run P w=.ok (.value v) w) (hx:RepA w F L x v):ZB P o a w F L b l x b l:=
 ⟨v,w,L,.inl h,hx,s,Step.refl _ _ _ _ _,rfl⟩

section
variable {P:Program} {w:World} {F:Nat→Prop} {L:LMap}

theorem n9 {v:Value} {x:IV} (h:cvI v=some x):RepI w F x v:=by
 unfold cvI at h
 split at h<;>first|(cases h;constructor)|cases h

def bA (w:World) (F:Nat→Prop) (L:LMap) (cs:List AV) (vs:List Value):Prop:=
 cs.length=vs.length∧∀(i:Nat) (a:AV) (v:Value),cs[i]? = some a→vs[i]? = some v→RepA w F L a v

theorem bA.nil:bA w F L [] []:=⟨rfl,by simp⟩
theorem bA.cons {a:AV} {v:Value} {cs:List AV} {vs:List Value} (h:RepA w F L a v) (t:bA w F L cs vs):bA w F L (a::cs) (v::vs):=by
 refine⟨by simp[t.1],fun i x u hx hu=>?_⟩
 cases i with
 |zero=>simp at hx hu;subst hx;subst hu;exact h
 |succ i=>simp at hx hu;exact t.2 i x u hx hu

theorem LE:∀{vs:List Value} {xs:List AV},cvL vs=some xs→bA w F L xs vs∧xs.all AV.cell=true
 |[],xs,h=>by simp[cvL]at h;subst h;exact⟨bA.nil,rfl⟩
 |v::vs,xs,h=>by
   unfold cvL at h
   split at h
   ·rename_i x ys h1 h2
    cases h
    obtain⟨h3,h4⟩:=LE h2
    exact⟨bA.cons (.v _ _ (n9 h1)) h3,by simp[AV.cell,h4]⟩
   ·cases h

theorem bA.agg {cs:List AV} {vs:Array Value} (h:bA w F L cs vs.toList):RepA w F L (.agg cs) (.agg vs):=
 .agg cs vs (by simpa using h.1) (fun i a v hi hv=>h.2 i a v hi (by simpa using hv))
theorem bA.tup {cs:List AV} {vs:Array Value} (h:bA w F L cs vs.toList):RepA w F L (.tup cs) (.tuple vs):=
 .tup cs vs (by simpa using h.1) (fun i a v hi hv=>h.2 i a v hi (by simpa using hv))
theorem bA.fn {f:Nat} {cs:List AV} {vs:Array Value} (h:bA w F L cs vs.toList):RepA w F L (.fn f cs) (.func (.func f) #[] vs):=
 .fn f cs vs (by simpa using h.1) (fun i a v hi hv=>h.2 i a v hi (by simpa using hv))

theorem RepA.aggL {cs:List AV} {v:Value} (h:RepA w F L (.agg cs) v):∃vs:Array Value,v=.agg vs∧bA w F L cs vs.toList:=by
 cases h with
 |agg _ vs hl h=>exact⟨vs,rfl,by simpa using hl,fun i a v hi hv=>h i a v hi (by simpa using hv)⟩
theorem RepA.tupL {cs:List AV} {v:Value} (h:RepA w F L (.tup cs) v):∃vs:Array Value,v=.tuple vs∧bA w F L cs vs.toList:=by
 cases h with
 |tup _ vs hl h=>exact⟨vs,rfl,by simpa using hl,fun i a v hi hv=>h i a v hi (by simpa using hv)⟩
theorem RepA.fnL {f:Nat} {cs:List AV} {v:Value} (h:RepA w F L (.fn f cs) v):∃vs:Array Value,v=.func (.func f) #[] vs∧bA w F L cs vs.toList:=by
 cases h with
 |fn _ _ vs hl h=>exact⟨vs,rfl,by simpa using hl,fun i a v hi hv=>h i a v hi (by simpa using hv)⟩
theorem RepA.vI {x:IV} {v:Value} (h:RepA w F L (.v x) v):RepI w F x v:=by cases h;assumption

theorem p9 {v:Value} {x:AV} (h:cvA v=some x):RepA w F L x v:=by
 unfold cvA at h
 split at h
 ·rename_i cs
  cases hc:cvL cs.toList with
  |none=>simp[hc]at h
  |some xs=>simp[hc]at h;subst h;exact (LE hc).1.agg
 ·split at h
  ·rename_i vs hv
   cases h
   have:vs=#[]:=io hv
   subst this
   exact bA.tup bA.nil
  ·cases h
 ·rename_i f first caps
  split at h
  ·rename_i hv
   cases h
   have h1:first=#[]:=io hv.1
   have h2:caps=#[]:=io hv.2
   subst h1;subst h2
   exact bA.fn bA.nil
  ·cases h
 ·cases hc:cvI v with
  |none=>simp[hc]at h
  |some y=>simp[hc]at h;subst h;exact .v _ _ (n9 hc)

theorem pA {e:List AV} {a:Act} (he:RB w F L e a) {x:Operand} {y:Opd} (h:eA x=some y):RepA w F L (ev e y) (a.eval x):=by
 unfold eA at h
 split at h
 ·cases h;exact he.nth _
 ·rename_i v
  cases hc:cvA v with
  |none=>simp[hc]at h
  |some z=>simp[hc]at h;subst h;exact p9 hc
 ·cases h;exact bA.fn bA.nil
 ·cases h

theorem DW {e:List AV} {a:Act} (he:RB w F L e a):∀{xs:List Operand} {ys:List Opd},tQ xs=some ys→bA w F L (evs e ys) (xs.map a.eval)
 |[],ys,h=>by simp[tQ]at h;subst h;exact bA.nil
 |x::xs,ys,h=>by
   unfold tQ at h
   split at h
   ·rename_i y zs h1 h2
    cases h
    exact bA.cons (pA he h1) (DW he h2)
   ·cases h

theorem ZF {t:TypeId} {c:Bool} (h:ZB9 P t=some c):(isAgg t).run P w=.ok c w:=by
 unfold ZB9 at h
 unfold isAgg
 split at h
 ·rename_i hu;cases h;simp[run_underlying hu]
 ·rename_i hu;cases h;simp[run_underlying hu]
 ·rename_i d h1 h2 hu
  cases h
  simp only[Sem.run_bind,run_underlying hu,Result.andThen_ok]
  rfl
 ·cases h

theorem aA {t:TypeId} {n:Nat} (h:rD P t=some n):(sizeOf t).run P w=.ok n w:=by
 unfold rD at h
 cases hi:P.info? t with
 |none=>simp[hi]at h
 |some i=>simp[hi]at h;simp[sizeOf,typeInfo,hi,h]

theorem gR {t:TypeId} {n:Nat} (h:QK P t=some (some n)):ZB9 P t=some true∧rD P t=some n:=by
 unfold QK at h
 split at h<;>first|(cases h;exact⟨by assumption,by assumption⟩)|cases h
theorem xR {t:TypeId} (h:QK P t=some none):ZB9 P t=some false:=by
 unfold QK at h
 split at h<;>first|(cases h;assumption)|cases h

theorem ZC4 {cs:List AV} {vs:List Value} (h:bA w F L cs vs) (j n:Nat):bA w F L ((cs.drop j).take n) ((vs.drop j).take n):=by
 refine⟨by simp[h.1],fun i a v ha hv=>?_⟩
 rw[cz]at ha hv
 split at ha
 ·rename_i hi
  simp only[hi,if_true]at hv
  rw[de]at ha hv
  exact h.2 _ a v ha hv
 ·cases ha

theorem bA.get {cs:List AV} {vs:List Value} (h:bA w F L cs vs) {j:Nat} {a:AV} (ha:cs[j]? = some a):∃v,vs[j]? = some v∧RepA w F L a v:=by
 have hj:j<vs.length:=by rw[←h.1];exact (ak.1 ha).1
 exact⟨vs[j],ah hj,h.2 j a _ ha (ah hj)⟩

theorem bA.append {cs ds:List AV} {vs us:List Value} (h:bA w F L cs vs) (k:bA w F L ds us):bA w F L (cs++ds) (vs++us):=by
 refine⟨by simp[h.1,k.1],fun i a v ha hv=>?_⟩
 by_cases hi:i<cs.length
 ·rw[aw hi]at ha
  rw[aw (by rw[←h.1];exact hi)]at hv
  exact h.2 i a v ha hv
 ·rw[ar oM]at ha
  rw[ar (by have:=h.1;omega),←h.1]at hv
  exact k.2 _ a v ha hv

theorem L8 {cs:List AV} {vs:Array Value} (h:bA w F L cs vs.toList) {t:TypeId} {n:Option Nat} (ht:QK P t=some n) {off:Nat} {x:AV} (hx:rd cs off n=some x) :
  ∃v,(part t vs off).run P w=.ok v w∧RepA w F L x v:=by
 cases n with
 |none =>
   simp only[rd]at hx
   obtain⟨v,hv,hr⟩:=h.get hx
   refine⟨v,?_,hr⟩
   have:vs[off]? = some v:=by simpa using hv
   simp[part,ZF (xR ht),this]
 |some n =>
   simp only[rd]at hx
   split at hx
   ·rename_i CJ
    cases hx
    obtain⟨h1,h2⟩:=gR ht
    refine⟨.agg (vs.extract off (off+n)),?_,?_⟩
    ·simp[part,ZF h1,aA h2]
    ·refine bA.agg ?_
     have:=ZC4 h off n
     simpa [List.take_drop,gx] using this
   ·cases hx

theorem aR {t:TypeId} {n:Option Nat} (ht:QK P t=some n) {b o:Nat} {vals:List AV} (hc:∀(i:Nat) (x:AV),vals[i]? = some x→∃v,w.cell? ⟨b,o+i,none⟩=some v∧RepA w F L x v) {x:AV}
  (hx:(match n with|none=>vals[0]?|some n=>if n≤vals.length then some (.agg (vals.take n)) else none)=some x) :
  ∃v,(loadVar t ⟨b,o,none⟩).run P w=.ok v w∧RepA w F L x v:=by
 cases n with
 |none =>
   obtain⟨v,hv,hr⟩:=hc 0 x hx
   exact⟨v,by simp[loadVar,ZF (xR ht),show w.cell? ⟨b,o,none⟩=some v from hv],hr⟩
 |some n =>
   simp only at hx
   split at hx
   ·rename_i CJ
    cases hx
    obtain⟨h1,h2⟩:=gR ht
    have pC:∀m,m≤vals.length→∃vs:List Value,vs.length=m∧(∀j v,vs[j]? = some v→w.cell? ⟨b,o+j,none⟩=some v)∧bA w F L (vals.take m) vs:=by
     intro m
     induction m with
     |zero=>intro _;exact⟨[],rfl,by simp,by simpa using bA.nil⟩
     |succ m ih =>
       intro hm
       obtain⟨vs,e1,e2,e3⟩:=ih oM
       obtain⟨v,hv,hr⟩:=hc m vals[m] (ah oM)
       refine⟨vs++[v],by simp[e1],?_,?_⟩
       ·intro j u hu
        by_cases hj:j<vs.length
        ·rw[aw hj]at hu;exact e2 j u hu
        ·have hj2:j=vs.length:=by
          have:=(ak.1 hu).1
          simp at this;omega
         subst hj2
         simp at hu
         subst hu
         rw[e1];exact hv
       ·rw[jc oM]
        exact e3.append (bA.cons hr bA.nil)
    obtain⟨vs,e1,e2,e3⟩:=pC n CJ
    have hl:=run_loadCells_list (P:=P) w ⟨b,o,none⟩ vs (fun j v hv=>by rw[Addr.add_lit];exact e2 j v hv)
    rw[e1]at hl
    refine⟨.agg vs.toArray,?_,bA.agg (by simpa using e3)⟩
    simp[loadVar,ZF h1,aA h2,hl]
   ·cases hx
end

section
variable {P:Program} {w:World} {F:Nat→Prop} {L:LMap} {o:Oper} {a:Act} {e:List AV} {b l b' l':List Row} {x:AV}

theorem CL {t:Bool} {v:Value} (h:RepA w F L (.v (.bool t)) v):v=.bool t:=by cases h.vI;rfl
theorem MH {k:IntKind} {n:Int} {v:Value} (h:RepA w F L (.v (.int k n)) v):v=.int k n:=by cases h.vI;rfl
theorem LP {s:ByteArray} {v:Value} (h:RepA w F L (.v (.str s)) v):v=.string s:=by cases h.vI;rfl
theorem vV (t:Bool):RepA w F L (.v (.bool t)) (.bool t):=.v _ _ (.bool t)
theorem toN (k:IntKind) (n:Int):RepA w F L (.v (.int k n)) (.int k n):=.v _ _ (.int k n)
theorem toS (s:ByteArray):RepA w F L (.v (.str s)) (.string s):=.v _ _ (.str s)

theorem ZE {y:Option AV} (h:PI y b l=.val x b' l'):y=some x∧b'=b∧l'=l:=by
 cases y with
 |none=>cases h
 |some y=>cases h;exact⟨rfl,rfl,rfl⟩

theorem ZGx (s:Sim F L (b++l) w) (he:RB w F L e a) {y:Operand} {z:Opd} (ho:o.op=.move y∨o.op=.assign y) (hy:eA y=some z) :
  ZB P o a w F L b l (ev e z) b l:=by
 refine ZB.pure s (v:=a.eval y) ?_ (pA he hy)
 rcases ho with ho|ho<;>simp[execOp,ho]

theorem ZCb (s:Sim F L (b++l) w) (he:RB w F L e a) {y:Operand} {z:Opd} (ho:o.op=.nilCheck y) (hy:eA y=some z)
  (h:aop e b l (.nilck z)=.val x b' l'):ZB P o a w F L b l x b' l':=by
 have hr:=pA he hy
 simp only[aop]at h
 generalize ev e z=q at *
 split at h
 ·cases h
  obtain⟨u,hu⟩:∃u,a.eval y=.pointer (some u):=by
   generalize a.eval y=q at hr
   cases hr.vI;exact⟨_,rfl⟩
  exact ZB.pure s (v:=a.eval y) (by simp[execOp,ho,hu]) hr
 ·cases h
  obtain⟨u,hu⟩:∃u,a.eval y=.pointer (some u):=by
   generalize a.eval y=q at hr
   cases hr;exact⟨_,rfl⟩
  exact ZB.pure s (v:=a.eval y) (by simp[execOp,ho,hu]) hr
 ·cases h
  obtain⟨vs,hu,_⟩:=hr.fnL
  exact ZB.pure s (v:=a.eval y) (by simp[execOp,ho,hu]) hr
 ·cases h

theorem ZFa (s:Sim F L (b++l) w) (he:RB w F L e a) {c y z:Operand} {c' y' z':Opd} (ho:o.op=.pick c y z) (hc:eA c=some c') (hy:eA y=some y') (hz:eA z=some z')
  (h:aop e b l (.pick c' y' z')=.val x b' l'):ZB P o a w F L b l x b' l':=by
 have h1:=pA he hc
 have h2:=pA he hy
 have h3:=pA he hz
 simp only[aop]at h
 replace h:=ZE h
 obtain⟨h,rfl,rfl⟩:=h
 generalize ev e c'=p at *
 generalize ev e y'=q at *
 generalize ev e z'=r at *
 unfold DF at h
 split at h
 ·rename_i t t1 t2
  cases h
  have e1:=CL h1
  have e2:=CL h2
  have e3:=CL h3
  refine ZB.pure s (v:=.bool (if t then t1 else t2)) ?_ (vV _)
  cases t<;>simp[execOp,ho,e1,e2,e3,asBool]
 ·rename_i t sO
  cases h
  have e1:=CL h1
  cases t
  ·exact ZB.pure s (v:=a.eval z) (by simp[execOp,ho,e1,asBool]) h3
  ·exact ZB.pure s (v:=a.eval y) (by simp[execOp,ho,e1,asBool]) h2
 ·cases h

theorem tK {op:BinOp} {t:TypeId} {y z:Operand} {k k':IntKind} {m n:Int}:(eqGuard op t y z (.int k m) (.int k' n)).run P w=.ok () w:=by
 cases op<;>simp[eqGuard]
theorem pJ {op:BinOp} {t:TypeId} {y z:Operand} {m n:Bool}:(eqGuard op t y z (.bool m) (.bool n)).run P w=.ok () w:=by
 cases op<;>simp[eqGuard]
theorem XQ {op:BinOp} {t:TypeId} {y z:Operand} {m n:ByteArray}:(eqGuard op t y z (.string m) (.string n)).run P w=.ok () w:=by
 cases op<;>simp[eqGuard]

theorem ZIK (s:Sim F L (b++l) w) (he:RB w F L e a) {op:BinOp} {t u:TypeId} {y z:Operand} {y' z':Opd} (ho:o.op=.binOp op t y z u) (hy:eA y=some y') (hz:eA z=some z')
  (h:aop e b l (.bin op y' z')=.val x b' l'):ZB P o a w F L b l x b' l':=by
 have h2:=pA he hy
 have h3:=pA he hz
 simp only[aop]at h
 replace h:=ZE h
 obtain⟨h,rfl,rfl⟩:=h
 generalize ev e y'=q at *
 generalize ev e z'=r at *
 unfold lJ at h
 split at h
 case h_2=>cases h
 rename_i k m k' n
 have e2:=MH h2
 have e3:=MH h3
 cases hsh:XJ op
 ·simp only[hsh,dn,if_false]at h
  by_cases hk:k=k'
  ·subst hk
   simp only[if_true]at h
   have key:∀iv,zF op k m n=some iv→∃v,(binOp op t (.int k m) (.int k n)).run P w=.ok v w∧RepI w F iv v:=by
    intro iv yW
    cases op<;>simp only[zF,XJ]at yW hsh<;>first|(cases hsh;done)|skip
    all_goals first
     |(cases yW;refine⟨_,by simp[binOp,Op.intArith,Op.intBits,Op.intCmp];rfl,?_⟩;constructor)
     |(cases yW;refine⟨_,by simp only[binOp,ne_eq,not_true_eq_false,if_false,Op.intBits];rfl,?_⟩;constructor)
     | (split at yW
        ·cases yW
        ·rename_i hn
         cases yW
         refine⟨_,by simp[binOp,Op.intDiv,hn];rfl,?_⟩
         constructor)
   cases hi:zF op k m n with
   |none=>simp[hi]at h
   |some iv =>
     simp[hi]at h
     subst h
     obtain⟨v,hv,hr⟩:=key iv hi
     refine ZB.pure s (v:=v) ?_ (.v _ _ hr)
     simp[execOp,ho,e2,e3,tK,hv]
  ·simp[hk]at h
 ·simp only[hsh,if_true]at h
  cases hi:ZJ op k m n with
  |none=>simp[hi]at h
  |some iv =>
    simp[hi]at h
    subst h
    unfold ZJ at hi
    split at hi
    ·cases hi
    ·rename_i hn
     cases op<;>simp only[XJ]at hsh<;>first|(cases hsh;done)|skip
     all_goals
      cases hi
      refine ZB.pure s (v:=.int k _) ?_ (toN _ _)
      simp[execOp,ho,e2,e3,tK,binOp,Op.shift,hn]

theorem rL {t:TypeId} (ht:P.underlying t=some .bool) (m n:Bool):(Op.equal t (.bool m) (.bool n)).run P w=.ok (m==n) w:=run_equalIn_bool w 9999 t m n ht

theorem ZFn (s:Sim F L (b++l) w) (he:RB w F L e a) {op:BinOp} {t u:TypeId} (ht:P.underlying t=some .bool) {y z:Operand} {y' z':Opd} (ho:o.op=.binOp op t y z u) (hy:eA y=some y') (hz:eA z=some z')
  (h:aop e b l (.binB op y' z')=.val x b' l'):ZB P o a w F L b l x b' l':=by
 have h2:=pA he hy
 have h3:=pA he hz
 simp only[aop]at h
 replace h:=ZE h
 obtain⟨h,rfl,rfl⟩:=h
 generalize ev e y'=q at *
 generalize ev e z'=r at *
 unfold IF at h
 split at h
 case h_2=>cases h
 rename_i m n
 have e2:=CL h2
 have e3:=CL h3
 cases op<;>simp[UE]at h<;>subst h
 ·exact ZB.pure s (v:=.bool (m==n)) (by simp[execOp,ho,e2,e3,pJ,binOp,rL ht]) (vV _)
 ·exact ZB.pure s (v:=.bool (!(m==n))) (by simp[execOp,ho,e2,e3,pJ,binOp,rL ht]) (vV _)

theorem ZFm (s:Sim F L (b++l) w) (he:RB w F L e a) {op:BinOp} {t u:TypeId} {y z:Operand} {y' z':Opd} (ho:o.op=.binOp op t y z u) (hy:eA y=some y') (hz:eA z=some z')
  (h:aop e b l (.binS op y' z')=.val x b' l'):ZB P o a w F L b l x b' l':=by
 have h2:=pA he hy
 have h3:=pA he hz
 simp only[aop]at h
 replace h:=ZE h
 obtain⟨h,rfl,rfl⟩:=h
 generalize ev e y'=q at *
 generalize ev e z'=r at *
 unfold GF at h
 split at h
 case h_2=>cases h
 rename_i m n
 have e2:=LP h2
 have e3:=LP h3
 have key:∀iv,VF op m n=some iv→∃v,(binOp op t (.string m) (.string n)).run P w=.ok v w∧RepI w F iv v:=by
  intro iv yW
  cases op<;>simp only[VF]at yW<;>first|(cases yW;done)|skip
  ·split at yW
   ·rename_i CJ
    cases yW
    exact⟨_,run_string_add_sum w m n CJ,.str _⟩
   ·cases yW
  all_goals (cases yW;refine⟨_,?_,.bool _⟩;simp[binOp,Op.stringOp,beq_toListBytes])
 cases hi:VF op m n with
 |none=>simp[hi]at h
 |some iv =>
   simp[hi]at h
   subst h
   obtain⟨v,hv,hr⟩:=key iv hi
   exact ZB.pure s (v:=v) (by simp[execOp,ho,e2,e3,XQ,hv]) (.v _ _ hr)

theorem ZIF (s:Sim F L (b++l) w) (he:RB w F L e a) {t:TypeId} {y:Operand} {z:Opd} (ho:o.op=.unOp .not t y) (hy:eA y=some z)
  (h:aop e b l (.not z)=.val x b' l'):ZB P o a w F L b l x b' l':=by
 have hr:=pA he hy
 simp only[aop]at h
 generalize ev e z=q at *
 split at h<;>cases h
 have e1:=CL hr
 exact ZB.pure s (v:=.bool _) (by simp[execOp,ho,e1,Op.unary]) (vV _)

theorem ZIG (s:Sim F L (b++l) w) (he:RB w F L e a) {t:TypeId} {y:Operand} {z:Opd} (ho:o.op=.unOp .neg t y) (hy:eA y=some z)
  (h:aop e b l (.neg z)=.val x b' l'):ZB P o a w F L b l x b' l':=by
 have hr:=pA he hy
 simp only[aop]at h
 generalize ev e z=q at *
 split at h<;>cases h
 have e1:=MH hr
 exact ZB.pure s (v:=.int _ _) (by simp[execOp,ho,e1,Op.unary,Op.intArith]) (toN _ _)

theorem ZFj (s:Sim F L (b++l) w) (he:RB w F L e a) {t u:TypeId} {k k':IntKind} (ht:P.underlying t=some (.int k')) (hu:P.underlying u=some (.int k)) {y:Operand} {z:Opd} (ho:o.op=.convert t u y) (hy:eA y=some z)
  (h:aop e b l (.conv k z)=.val x b' l'):ZB P o a w F L b l x b' l':=by
 have hr:=pA he hy
 simp only[aop]at h
 generalize ev e z=q at *
 split at h<;>cases h
 have e1:=MH hr
 exact ZB.pure s (v:=.int _ _) (by simp[execOp,ho,e1,convert,run_underlying ht,run_underlying hu,Conv.intToInt]) (toN _ _)

theorem ZCf (s:Sim F L (b++l) w) (he:RB w F L e a) {t:TypeId} {i:Nat} {fs:Array Field} {f:Field} (ht:P.underlying t=some (.struct fs)) (hf:fs[i]? = some f) {n:Option Nat} (hn:QK P f.type=some n)
  {y:Operand} {z:Opd} (ho:o.op=.field t y i) (hy:eA y=some z)
  (h:aop e b l (.field f.offset n z)=.val x b' l'):ZB P o a w F L b l x b' l':=by
 have hr:=pA he hy
 simp only[aop]at h
 generalize ev e z=q at *
 split at h
 case h_2=>cases h
 replace h:=ZE h
 obtain⟨h,rfl,rfl⟩:=h
 obtain⟨vs,hv,hl⟩:=hr.aggL
 obtain⟨v,h1,h2⟩:=L8 (P:=P) hl hn h
 exact ZB.pure s (v:=v) (by simp[execOp,ho,hv,Instr.field,run_underlying ht,hf,asAgg,h1]) h2

theorem D3 (s:Sim F L (b++l) w) (he:RB w F L e a) {i:Nat} {y:Operand} {z:Opd} (ho:o.op=.extract y i) (hy:eA y=some z)
  (h:aop e b l (.extract i z)=.val x b' l'):ZB P o a w F L b l x b' l':=by
 have hr:=pA he hy
 simp only[aop]at h
 generalize ev e z=q at *
 split at h
 case h_2=>cases h
 replace h:=ZE h
 obtain⟨h,rfl,rfl⟩:=h
 obtain⟨vs,hv,hl⟩:=hr.tupL
 obtain⟨v,h1,h2⟩:=hl.get h
 have h1':vs[i]? = some v:=by simpa using h1
 exact ZB.pure s (v:=v) (by simp[execOp,ho,hv,Instr.extract,h1']) h2

theorem ZFb (s:Sim F L (b++l) w) (he:RB w F L e a) {f:FuncId} {first caps:Array Operand} {cs:List Opd} (h0:first.size=0) (ho:o.op=.makeFunc (.func f) first caps) (hc:tQ caps.toList=some cs)
  : ZB P o a w F L b l (.fn f (evs e cs)) b l:=by
 have hr:=DW he hc
 have:first=#[]:=io h0
 subst this
 exact ZB.pure s (v:=.func (.func f) #[] (caps.map a.eval)) (by simp[execOp,ho,Instr.makeFunc]) (bA.fn (by simpa using hr))

theorem ZAP (s:Sim F L (b++l) w) (he:RB w F L e a) {t:TypeId} (ht:P.underlying t=some .string) {y i:Operand} {y' i':Opd} (ho:o.op=.index t y i) (hy:eA y=some y') (hi:eA i=some i')
  (h:aop e b l (.indexS y' i')=.val x b' l'):ZB P o a w F L b l x b' l':=by
 have h1:=pA he hy
 have h2:=pA he hi
 simp only[aop]at h
 generalize ev e y'=q at *
 generalize ev e i'=r at *
 split at h
 case h_2=>cases h
 rename_i str k n
 split at h
 case isFalse=>cases h
 rename_i hb
 cases h
 have e1:=LP h1
 have e2:=MH h2
 exact ZB.pure s (v:=.int .u8 (str[n.toNat]'hb.2).toNat) (by simp[execOp,ho,e1,e2,Instr.index,asIntOf,run_underlying ht,hb.1,hb.2]) (toN _ _)

theorem ZAQ (s:Sim F L (b++l) w) (he:RB w F L e a) {t el:TypeId} {len sz:Nat} {n:Option Nat} (ht:P.underlying t=some (.array len el)) (hz:rD P el=some sz) (hn:QK P el=some n)
  {y i:Operand} {y' i':Opd} (ho:o.op=.index t y i) (hy:eA y=some y') (hi:eA i=some i')
  (h:aop e b l (.indexA len sz n y' i')=.val x b' l'):ZB P o a w F L b l x b' l':=by
 have h1:=pA he hy
 have h2:=pA he hi
 simp only[aop]at h
 generalize ev e y'=q at *
 generalize ev e i'=r at *
 split at h
 case h_2=>cases h
 rename_i cs k m
 split at h
 case isFalse=>cases h
 rename_i hb
 replace h:=ZE h
 obtain⟨h,rfl,rfl⟩:=h
 obtain⟨vs,hv,hl⟩:=h1.aggL
 have e2:=MH h2
 obtain⟨v,h3,h4⟩:=L8 (P:=P) hl hn h
 exact ZB.pure s (v:=v) (by simp[execOp,ho,hv,e2,Instr.index,asIntOf,run_underlying ht,hb.1,hb.2,aA hz,h3]) h4

theorem ZGy (s:Sim F L (b++l) w) (he:RB w F L e a) {t:Bool} {c:Call} (hc:c.callee=.builtin (if t then .max else .min)) {y z:Operand} {y' z':Opd} (ha:c.args.toList=[y,z]) (ho:o.op=.call c) (hy:eA y=some y') (hz:eA z=some z')
  (h:aop e b l (.mm t y' z')=.val x b' l'):ZB P o a w F L b l x b' l':=by
 have h1:=pA he hy
 have h2:=pA he hz
 simp only[aop]at h
 replace h:=ZE h
 obtain⟨h,rfl,rfl⟩:=h
 generalize ev e y'=q at *
 generalize ev e z'=r at *
 unfold amm at h
 split at h
 case h_2=>cases h
 rename_i k m k' n
 cases h
 have e1:=MH h1
 have e2:=MH h2
 have ha':c.args=#[y,z]:=by rw[←ip (xs:=c.args),ha]
 cases t
 ·exact ZB.pure s (v:=.int k _) (by simp[execOp,ho,resolve,hc,ha',invoke,builtin,e1,e2,Builtin.min_,Builtin.min2]) (toN _ _)
 ·exact ZB.pure s (v:=.int k _) (by simp[execOp,ho,resolve,hc,ha',invoke,builtin,e1,e2,Builtin.max_,Builtin.max2]) (toN _ _)
end

theorem iI {α:Type} (xs ys:List α) (p i:Nat) (h:p+ys.length≤xs.length) :
  (xs.take p++ys++xs.drop (p+ys.length))[i]? = if p≤i∧i<p+ys.length then ys[i-p]? else xs[i]?:=by
 have h1:(xs.take p).length=p:=by simp;omega
 by_cases hi:i<p
 ·rw[bh,aw oM,cz,if_pos hi,if_neg oM]
 ·by_cases hj:i<p+ys.length
  ·rw[bh,ar oM,h1,aw oM,if_pos oM]
  ·rw[ar (by simp;omega),if_neg oM,de]
   congr 1
   simp;omega

theorem UP (cs:List AV):∀(row:List AV) (j:Nat),(xB row j cs).length=row.length:=by
 induction cs with
 |nil=>intro row j;rfl
 |cons c cs ih=>intro row j;simp[xB,ih]
theorem zP (cs:List AV):∀(row:List AV) (j i:Nat),j+cs.length≤row.length→(xB row j cs)[i]? = if j≤i∧i<j+cs.length then cs[i-j]? else row[i]?:=by
 induction cs with
 |nil=>intro row j i _;simp only[xB,fh];rw[if_neg oM]
 |cons c cs ih =>
   intro row j i h
   simp only[ee]at h
   simp only[xB]
   rw[ih _ _ _ (by simp;omega)]
   by_cases h1:i=j
   ·subst h1
    rw[if_neg oM,if_pos kS,ay oM]
    simp
   ·by_cases h2:j+1≤i∧i<j+1+cs.length
    ·rw[if_pos h2,if_pos (by simp;omega),show i-j=(i-(j+1))+1 by omega]
     simp
    ·rw[if_neg h2,if_neg (by simp;omega),bf oM]

theorem i9 {sz k k' j j' n:Nat} (hk:k≠k') (hj:j'<sz) (hn:j+n≤sz):¬(k*sz+j≤k'*sz+j'∧k'*sz+j'<k*sz+j+n):=by
 rintro⟨h1,h2⟩
 rcases Nat.lt_or_gt_of_ne hk with h|h
 ·have:=ck sz (show k+1≤k' by omega)
  rw[bp]at this
  omega
 ·have:=ck sz (show k'+1≤k by omega)
  rw[bp]at this
  omega
theorem EG {sz k j n cap:Nat} (hk:k<cap) (hn:j+n≤sz):k*sz+j+n≤cap*sz:=by
 have:=ck sz (show k+1≤cap by omega)
 rw[bp]at this
 omega

section
variable {P:Program} {w:World} {F:Nat→Prop} {L:LMap} {o:Oper} {a:Act} {e:List AV} {b l b' l':List Row} {x:AV}

theorem RL {x:AV} {v:Value} {cs:List AV} (h:RepA w F L x v) (hc:cellsOf x=some cs) (ha:cs.all AV.cell=true) :
  bA w F L cs v.cells.toList∧∀u∈v.cells.toList,u.oneCell'=true:=by
 cases x with
 |any=>cases hc
 |tup cs=>cases hc
 |agg ds =>
   cases hc
   obtain⟨vs,rfl,hl⟩:=h.aggL
   refine⟨hl,fun u hu=>?_⟩
   obtain⟨i,hi⟩:=ek.1 hu
   simp only[Value.cells]at hi
   have hi2:i<cs.length:=by rw[hl.1];exact (ak.1 hi).1
   exact (hl.2 i cs[i] u (ah hi2) hi).one (by simpa using bg.1 ha cs[i] (am hi2))
 |_ =>
   cases hc
   have h1:=h.one rfl
   rw[YV h1]
   exact⟨by simpa using bA.cons h bA.nil,by simpa using h1⟩

theorem ZCg (s:Sim F L (b++l) w) (he:RB w F L e a) {t:TypeId} {i n:Nat} {fs:Array Field} {f:Field} (ht:P.underlying t=some (.struct fs)) (hf:fs[i]? = some f) (hn:rD P f.type=some n) (h0:0<n)
  {y:Operand} {z:Opd} (ho:o.op=.fieldAddr t y i) (hy:eA y=some z)
  (h:aop e b l (.faddr f.offset z)=.val x b' l'):ZB P o a w F L b l x b' l':=by
 have hr:=pA he hy
 simp only[aop]at h
 generalize ev e z=q at *
 have key:∀blk p,a.eval y=.pointer (some ⟨blk,p,none⟩)→(execOp a.eval o).run P w=.ok (.value (.pointer (some ⟨blk,p+f.offset,none⟩))) w:=by
  intro blk p hp
  simp[execOp,ho,hp,Instr.fieldAt,run_underlying ht,hf,Instr.sureAddr,fieldPlace,aA hn,show n≠0 by omega,Addr.add_lit]
 unfold ID at h
 split at h
 ·rename_i row j
  cases h
  generalize hp:a.eval y=u at *
  cases hr.vI with
  |iptr _ _ b1 off val h1 h2 h3 =>
    exact ZB.pure s (key _ _ rfl) (.v _ _ (by rw[ct];exact .iptr row _ b1 off val h1 h2 h3))
 ·rename_i id ver k j
  cases h
  generalize hp:a.eval y=u at *
  cases hr with
  |ptr _ _ _ _ b1 o1 sz cap hL =>
    exact ZB.pure s (key _ _ rfl) (by rw[ct];exact .ptr id ver k _ b1 o1 sz cap hL)
 ·cases h

theorem ZCe (s:Sim F L (b++l) w) (he:RB w F L e a) {t el:TypeId} {sz:Nat} (ht:P.underlying t=some (.slice el)) (hz:rD P el=some sz)
  {y i:Operand} {y' i':Opd} (ho:o.op=.indexAddr t y i) (hy:eA y=some y') (hi:eA i=some i')
  (h:aop e b l (.iaddr sz y' i')=.val x b' l'):ZB P o a w F L b l x b' l':=by
 have h1:=pA he hy
 have h2:=pA he hi
 simp only[aop]at h
 generalize ev e y'=q at *
 generalize ev e i'=r at *
 have key:∀(blk p len cap:Nat) (k:IntKind) (n:Int),a.eval y=.slice (some ⟨blk,p,none⟩) len cap→a.eval i=.int k n→0≤n→n<(len:Int)→(execOp a.eval o).run P w=.ok (.value (.pointer (some ⟨blk,p+n.toNat*sz,none⟩))) w:=by
  intro blk p len cap k n e1 e2 h0 hn
  simp[execOp,ho,e1,e2,Instr.indexAt,asIntOf,run_underlying ht,aA hz,h0,hn,Addr.add_lit]
 unfold GD at h
 split at h
 ·rename_i s0 rows k n
  split at h
  case isFalse=>cases h
  rename_i hb
  obtain⟨rfl,h0⟩:=hb
  split at h
  case h_2=>cases h
  rename_i row sD
  cases h
  have e2:=MH h2
  have yA:n.toNat<rows.length:=(ak.1 sD).1
  generalize hp:a.eval y=u at *
  cases h1.vI with
  |isl0=>simp at sD
  |isl _ b1 off _ c val g1 g2 g3 g4 g5 g6 =>
    refine ZB.pure s (key _ _ _ _ _ _ rfl e2 h0 oM) (.v _ _ ?_)
    have:=RepI.iptr (w:=w) (F:=F) row 0 b1 (off+n.toNat*s0) (val n.toNat) g1 (fun j a hj=>g5 _ row j a sD hj) (fun j a hj=>g6 _ row j a sD hj)
    simpa using this
 ·rename_i id ver off len k n
  split at h
  case h_2=>cases h
  rename_i v s0 els hg
  split at h
  case isFalse=>cases h
  rename_i hb
  obtain⟨rfl,rfl,h0,hn⟩:=hb
  cases h
  rw[PC]at hg
  have e2:=MH h2
  generalize hp:a.eval y=u at *
  cases h1 with
  |sl _ _ _ _ b1 o1 sz1 cap1 g1 g2 g3 =>
    obtain⟨lc,k1,k2⟩:=s.row _ _ _ _ hg
    rw[g1]at k1;cases k1
    obtain⟨rfl,_⟩:=k2
    refine ZB.pure s (key _ _ _ _ _ _ rfl e2 h0 hn) ?_
    have:=RepA.ptr (w:=w) (F:=F) id v (off+n.toNat) 0 b1 o1 sz1 cap1 g1
    rw[bp]at this
    simpa [ct] using this
  |slz=>simp at hn;omega
  |sln=>simp at hn;omega
 ·cases h

theorem ZAR (s:Sim F L (b++l) w) (he:RB w F L e a) {t el:TypeId} {len sz:Nat} (ht:P.underlying t=some (.array len el)) (hz:rD P el=some sz)
  {y i:Operand} {y' i':Opd} (ho:o.op=.indexAddr t y i) (hy:eA y=some y') (hi:eA i=some i')
  (h:aop e b l (.iaddrA len sz y' i')=.val x b' l'):ZB P o a w F L b l x b' l':=by
 have h1:=pA he hy
 have h2:=pA he hi
 simp only[aop]at h
 generalize ev e y'=q at *
 generalize ev e i'=r at *
 have key:∀(blk p:Nat) (k:IntKind) (n:Int),a.eval y=.pointer (some ⟨blk,p,none⟩)→a.eval i=.int k n→0≤n→n<(len:Int)→(execOp a.eval o).run P w=.ok (.value (.pointer (some ⟨blk,p+n.toNat*sz,none⟩))) w:=by
  intro blk p k n e1 e2 h0 hn
  simp[execOp,ho,e1,e2,Instr.indexAt,asIntOf,run_underlying ht,aA hz,h0,hn,Addr.add_lit,Instr.sureAddr]
 unfold eC at h
 split at h
 ·rename_i row j k n
  split at h
  case isFalse=>cases h
  rename_i hb
  cases h
  have e2:=MH h2
  generalize hp:a.eval y=u at *
  cases h1.vI with
  |iptr _ _ b1 off val g1 g2 g3 =>
    exact ZB.pure s (key _ _ _ _ rfl e2 hb.1 hb.2) (.v _ _ (by rw[ct];exact .iptr row _ b1 off val g1 g2 g3))
 ·rename_i id ver k j kk n
  split at h
  case isFalse=>cases h
  rename_i hb
  cases h
  have e2:=MH h2
  generalize hp:a.eval y=u at *
  cases h1 with
  |ptr _ _ _ _ b1 o1 sz1 cap hL =>
    exact ZB.pure s (key _ _ _ _ rfl e2 hb.1 hb.2) (by rw[ct];exact .ptr id ver k _ b1 o1 sz1 cap hL)
 ·cases h

theorem V0 (s:Sim F L (b++l) w) {t:TypeId} {n:Option Nat} (hn:QK P t=some n) {q:AV} {v:Value} (hr:RepA w F L q v)
  (h:SE b l n q=.val x b' l'):∃blk p u,v=.pointer (some ⟨blk,p,none⟩)∧(loadVar t ⟨blk,p,none⟩).run P w=.ok u w∧RepA w F L x u∧b'=b∧l'=l:=by
 unfold SE at h
 split at h
 ·rename_i row j
  replace h:=ZE h
  obtain⟨h,rfl,rfl⟩:=h
  cases hr.vI with
  |iptr _ _ b1 off val g1 g2 g3 =>
    have:=aR (P:=P) (w:=w) (F:=F) (L:=L) hn (b:=b1) (o:=off+j) (vals:=(row.drop j).map .v) (x:=x) (by
     intro i y hy
     rw[an]at hy
     cases hq:(row.drop j)[i]? with
     |none=>simp[hq]at hy
     |some z =>
       simp[hq]at hy
       subst hy
       rw[de]at hq
       exact⟨_,by rw[ct];exact g2 _ _ hq,.v _ _ (g3 _ _ hq)⟩) (by
     cases n with
     |none=>simp only[rdI]at h;simpa using h
     |some n =>
       simp only[rdI]at h
       split at h
       ·rename_i CJ
        cases h
        simp only
        rw[if_pos (by simp;omega),fy]
       ·cases h)
    obtain⟨u,h1,h2⟩:=this
    exact⟨b1,off+j,u,rfl,h1,h2,rfl,rfl⟩
 ·rename_i id ver k j
  split at h
  case h_2=>cases h
  rename_i v0 s0 els hg
  split at h
  case isFalse=>cases h
  rename_i hv
  subst hv
  split at h
  case h_2=>cases h
  rename_i row sD
  replace h:=ZE h
  obtain⟨h,rfl,rfl⟩:=h
  rw[PC]at hg
  cases hr with
  |ptr _ _ _ _ b1 o1 sz1 cap hL =>
    have:=aR (P:=P) (w:=w) (F:=F) (L:=L) hn (b:=b1) (o:=o1+k*sz1+j) (vals:=row.drop j) (x:=x) (by
     intro i y hy
     rw[de]at hy
     obtain⟨_,_,u,h1,h2⟩:=s.cell hg hL sD hy
     exact⟨u,by rw[ct];exact h1,h2⟩) (by
     cases n with
     |none=>simp only[rd]at h;simpa using h
     |some n =>
       simp only[rd]at h
       split at h
       ·rename_i CJ
        cases h
        simp only
        rw[if_pos (by simp;omega)]
       ·cases h)
    obtain⟨u,h1,h2⟩:=this
    exact⟨b1,o1+k*sz1+j,u,rfl,h1,h2,rfl,rfl⟩
 ·cases h

theorem ZFc (s:Sim F L (b++l) w) (he:RB w F L e a) {t:TypeId} {n:Option Nat} (hn:QK P t=some n) {y:Operand} {z:Opd} (ho:o.op=.load t y) (hy:eA y=some z)
  (h:aop e b l (.load n z)=.val x b' l'):ZB P o a w F L b l x b' l':=by
 have hr:=pA he hy
 simp only[aop]at h
 obtain⟨blk,p,u,h1,h2,h3,rfl,rfl⟩:=V0 (P:=P) s hn hr h
 exact ZB.pure s (v:=u) (by simp[execOp,ho,h1,Instr.loadAt,Instr.sureAddr,h2]) h3

theorem ZC9 (s:Sim F L (b++l) w) (he:RB w F L e a) {t:TypeId} {n:Nat} (hn:rD P t=some n) {y z:Operand} {y' z':Opd} (ho:o.op=.store t y z) (hy:eA y=some y') (hz:eA z=some z')
  (h:aop e b l (.store n y' z')=.val x b' l'):ZB P o a w F L b l x b' l':=by
 have h1:=pA he hy
 have h2:=pA he hz
 simp only[aop]at h
 generalize ev e y'=q at *
 generalize ev e z'=r at *
 unfold LD at h
 split at h
 case h_2=>cases h
 rename_i id ver k j cs fX
 split at h
 case h_2=>cases h
 rename_i v0 s0 els hg
 split at h
 case isFalse=>cases h
 rename_i hb
 obtain⟨rfl,pC,JF⟩:=hb
 split at h
 case h_2=>cases h
 rename_i row sD
 split at h
 case isFalse=>cases h
 rename_i JI
 cases h
 rw[PC]at hg
 obtain⟨c1,c2⟩:=RL h2 fX JF
 generalize hvs:a.eval z=v at *
 generalize hp:a.eval y=u at *
 cases h1 with
 |ptr _ _ _ _ b1 o1 sz1 cap hL =>
   obtain⟨lc,k1,k2⟩:=s.row _ _ _ _ hg
   rw[hL]at k1;cases k1
   obtain⟨rfl,k3,k4,cur,T,k5,k6,k7,k8⟩:=k2
   have hk:k<els.length:=(ak.1 sD).1
   have MY:=k7 k row sD
   have kW:v.cells.toList.length=n:=by rw[←c1.1,pC]
   have hvz:v.cells.size=n:=by simpa using kW
   have CJ:k*sz1+j+n≤cap*sz1:=EG oM oM
   have pG:=run_storeCells_at P b1 (o1+k*sz1+j) T v.cells.toList 0 cur w k5 oM c2
   have AC:(execOp a.eval o).run P w=.ok .skip (w.setRow b1 (cur.toList.take (o1+k*sz1+j)++v.cells.toList++cur.toList.drop (o1+k*sz1+j+v.cells.toList.length)).toArray):=by
    simp only[eo]at pG
    have zN:v.cells.size=n:=by simpa using kW
    simp[execOp,ho,hp,hvs,Instr.storeAt,Instr.sureAddr,storeVar,aA hn,zN,pG]
   have KO:(cur.toList.take (o1+k*sz1+j)++v.cells.toList++cur.toList.drop (o1+k*sz1+j+v.cells.toList.length)).toArray.size=cur.size:=by
    simp only[dq,aq,cf,ea,fj]
    omega
   have hget:∀i,(cur.toList.take (o1+k*sz1+j)++v.cells.toList++cur.toList.drop (o1+k*sz1+j+v.cells.toList.length)).toArray[i]? = if o1+k*sz1+j≤i∧i<o1+k*sz1+j+n then v.cells.toList[i-(o1+k*sz1+j)]? else cur[i]?:=by
    intro i
    have:=iI cur.toList v.cells.toList (o1+k*sz1+j) i (by simp only[fj];omega)
    rw[kW]at this
    simp only[gy]
    rw[kW,this]
    simp
   obtain⟨L',r1,r2,r3,r4⟩:=s.putRow (h':=(b++l).set id (.live v0 sz1 (els.set k (xB row j cs)))) (w':=w.setRow b1 (cur.toList.take (o1+k*sz1+j)++v.cells.toList++cur.toList.drop (o1+k*sz1+j+v.cells.toList.length)).toArray)
    id v0 sz1 b1 o1 cap (els.set k (xB row j cs)) rfl rfl rfl kS (fun i _ hi=>setRow_other w b1 i _ hi) (.inr ⟨_,_,_,_,_,_,hg,hL⟩)
    (ay (ak.1 hg).1) (fun i hi=>bf (Ne.symm hi)) (fun r hr=>by rw[hg]at hr;cases hr;exact⟨ai _,_,_,_,rfl⟩) (.inr hL)
    (by simpa using k3) k4 _ T (setRow_heap w b1 cur _ T _ k5) (by rw[KO];exact k6)
    (fun k' row' hk'=>by
     by_cases tO:k=k'
     ·subst tO
      rw[ay hk]at hk';cases hk'
      rw[UP];exact MY
     ·rw[bf tO]at hk';exact k7 _ _ hk')
    (fun k' row' j' a' hk' hj'=>by
     by_cases tO:k=k'
     ·subst tO
      rw[ay hk]at hk';cases hk'
      rw[zP cs row j j' oM]at hj'
      rw[hget]
      by_cases GE:j≤j'∧j'<j+cs.length
      ·rw[if_pos GE]at hj'
       rw[if_pos oM]
       obtain⟨u,hu,hru⟩:=c1.get hj'
       refine⟨?_,u,by rw[show o1+k*sz1+j'-(o1+k*sz1+j)=j'-j by omega];exact hu,hru⟩
       exact bg.1 JF _ (bw hj')
      ·rw[if_neg GE]at hj'
       rw[if_neg oM]
       exact k8 k row j' a' sD hj'
     ·rw[bf tO]at hk'
      have hj2:j'<sz1:=by rw[←k7 _ _ hk'];exact (ak.1 hj').1
      rw[hget,if_neg (by have:=i9 (n:=n) (j:=j) tO hj2 oM;omega)]
      exact k8 k' row' j' a' hk' hj')
   refine⟨undef,_,L',.inr ⟨AC,rfl⟩,RepA.undef _ _ _,by rw[QE];exact r1,by rw[QE];exact r2,QF _ _ _⟩
end

section
variable {P:Program} {w:World} {F:Nat→Prop} {L:LMap} {o:Oper} {a:Act} {e:List AV} {b l b' l':List Row} {x:AV}

theorem FX {t ty el:TypeId} (ht:P.underlying t=some (.slice el)) (ad:Option Addr) (n c:Nat):(Builtin.len_ #[t] ty #[.slice ad n c]).run P w=.ok (goInt n) w:=by
 simp[Builtin.len_,run_underlying ht]

theorem TD {c:Call} {bi:Builtin} {xs:List Operand} {ts:List TypeId} (ho:o.op=.call c) (hc:c.callee=.builtin bi) (ha:c.args.toList=xs) (wW:c.argTypes.toList=ts) :
  execOp a.eval o=(do let d ←(Pure.pure {target:=.builtin bi ts.toArray o.type (xs.toArray.map fun|.const _=>true|_=>false),args:=(xs.map a.eval).toArray}:Sem Deferred);invoke d.target d.args):=by
 have h1:c.args=xs.toArray:=by rw[←ha]
 have h2:c.argTypes=ts.toArray:=by rw[←wW]
 simp only[execOp,ho,resolve,hc,h1,h2,ki]
 rfl

theorem ZIH (s:Sim F L (b++l) w) (he:RB w F L e a) {c:Call} {t el:TypeId} (ht:P.underlying t=some (.slice el)) {y:Operand} {z:Opd} (hc:c.callee=.builtin .len) (ha:c.args.toList=[y]) (wW:c.argTypes.toList=[t]) (ho:o.op=.call c) (hy:eA y=some z)
  (h:aop e b l (.len z)=.val x b' l'):ZB P o a w F L b l x b' l':=by
 have hr:=pA he hy
 simp only[aop]at h
 replace h:=ZE h
 obtain⟨h,rfl,rfl⟩:=h
 generalize ev e z=q at *
 have key:∀ad n cp,a.eval y=.slice ad n cp→ZB P o a w F L b' l' (.v (.int .i64 n)) b' l':=by
  intro ad n cp hv
  refine ZB.pure s (v:=goInt n) ?_ (toN _ _)
  rw[TD ho hc ha wW]
  simp[invoke,builtin,hv,FX ht]
 unfold fJ at h
 split at h
 ·cases h
  generalize hv:a.eval y=v at hr
  cases hr.vI
  exact key _ _ _ hv
 ·cases h
  generalize hv:a.eval y=v at hr
  cases hr.vI
  ·exact key _ _ _ hv
  ·exact key _ _ _ hv
 ·cases h
  generalize hv:a.eval y=v at hr
  cases hr
  ·exact key _ _ _ hv
  ·exact key _ _ _ hv
  ·exact key _ _ _ hv
 ·cases h

theorem EX {t ty el:TypeId} (ht:P.underlying t=some (.slice el)) (ad:Option Addr) (n c:Nat):(Builtin.cap_ #[t] ty #[.slice ad n c]).run P w=.ok (goInt c) w:=by
 simp[Builtin.cap_,run_underlying ht]

theorem ZFk (s:Sim F L (b++l) w) (he:RB w F L e a) {c:Call} {t el:TypeId} (ht:P.underlying t=some (.slice el)) {y:Operand} {z:Opd} (hc:c.callee=.builtin .cap) (ha:c.args.toList=[y]) (wW:c.argTypes.toList=[t]) (ho:o.op=.call c) (hy:eA y=some z)
  (h:aop e b l (.capz z)=.val x b' l'):ZB P o a w F L b l x b' l':=by
 have hr:=pA he hy
 simp only[aop]at h
 generalize ev e z=q at *
 split at h
 case h_2=>cases h
 cases h
 generalize hv:a.eval y=v at hr
 cases hr.vI
 refine ZB.pure s (v:=goInt 0) ?_ (toN _ _)
 rw[TD ho hc ha wW]
 simp[invoke,builtin,hv,EX ht]

theorem ZFd (s:Sim F L (b++l) w) (he:RB w F L e a) {c:Call} {t:TypeId} (ht:P.underlying t=some .string) {y:Operand} {z:Opd} (hc:c.callee=.builtin .len) (ha:c.args.toList=[y]) (wW:c.argTypes.toList=[t]) (ho:o.op=.call c) (hy:eA y=some z)
  (h:aop e b l (.lenS z)=.val x b' l'):ZB P o a w F L b l x b' l':=by
 have hr:=pA he hy
 simp only[aop]at h
 replace h:=ZE h
 obtain⟨h,rfl,rfl⟩:=h
 generalize ev e z=q at *
 unfold SF at h
 split at h
 ·cases h
  have hv:=LP hr
  refine ZB.pure s (v:=goInt _) ?_ (toN _ _)
  rw[TD ho hc ha wW]
  simp[invoke,builtin,hv,Builtin.len_,run_underlying ht]
 ·cases h

theorem ZFf (s:Sim F L (b++l) w) {c:Call} {t el:TypeId} {n:Nat} (ht:P.underlying t=some (.array n el)) {y:Operand} (hc:c.callee=.builtin .len) (ha:c.args.toList=[y]) (wW:c.argTypes.toList=[t]) (ho:o.op=.call c) :
  ZB P o a w F L b l (.v (.int .i64 n)) b l:=by
 refine ZB.pure s (v:=goInt n) ?_ (toN _ _)
 rw[TD ho hc ha wW]
 simp[invoke,builtin,Builtin.len_,run_underlying ht]

theorem eF {n m p q:Nat} {lo hi:Option AV} {vlo vhi:Option Value} (h:tD n lo hi=some (p,q)) (hm:n≤m) (isS:Bool)
  (h1:∀y,lo=some y→∃v,vlo=some v∧RepA w F L y v) (h1n:lo=none→vlo=none)
  (h2:∀y,hi=some y→∃v,vhi=some v∧RepA w F L y v) (h2n:hi=none→vhi=none) :
  (Instr.sliceBounds isS n m vlo vhi none).run P w=.ok (p,q,m) w∧p≤q∧q≤n:=by
 unfold tD at h
 split at h
 ·cases h
  rw[h1n rfl,h2n rfl]
  exact⟨by simp[Instr.sliceBounds],aj _,ai _⟩
 ·rename_i k i
  split at h
  ·rename_i hb
   cases h
   obtain⟨v,e1,e2⟩:=h1 _ rfl
   rw[e1,h2n rfl,MH e2]
   exact⟨by simp[Instr.sliceBounds,Instr.sliceBound,asIntOf,hb.1,hb.2],by omega,ai _⟩
  ·cases h
 ·rename_i k i
  split at h
  ·rename_i hb
   cases h
   obtain⟨v,e1,e2⟩:=h2 _ rfl
   rw[e1,h1n rfl,MH e2]
   have:i≤(m:Int):=by omega
   exact⟨by simp[Instr.sliceBounds,Instr.sliceBound,asIntOf,hb.1,this],by omega,by omega⟩
  ·cases h
 ·rename_i k i k' i'
  split at h
  ·rename_i hb
   cases h
   obtain⟨v,e1,e2⟩:=h1 _ rfl
   obtain⟨u,e3,e4⟩:=h2 _ rfl
   rw[e1,e3,MH e2,MH e4]
   have h0:0≤i':=by omega
   have h3:i'≤(m:Int):=by omega
   have h4:i≤((i'.toNat:Nat):Int):=by omega
   have h5:¬(max i' 0<i):=by omega
   exact⟨by simp[Instr.sliceBounds,Instr.sliceBound,asIntOf,hb.1,h0,h3,h5],by omega,by omega⟩
  ·cases h
 ·cases h

theorem AQ (he:RB w F L e a) {y:Option Operand} {z:Option Opd} (h:TL y=some z) :
  (∀u,evo e z=some u→∃v,y.map a.eval=some v∧RepA w F L u v)∧(evo e z=none→y.map a.eval=none):=by
 cases y with
 |none=>simp[TL]at h;subst h;exact⟨fun u hu=>by simp[evo]at hu,fun _=>rfl⟩
 |some y =>
   cases hc:eA y with
   |none=>simp[TL,hc]at h
   |some q =>
     simp[TL,hc]at h
     subst h
     exact⟨fun u hu=>by simp[evo]at hu;subst hu;exact⟨_,rfl,pA he hc⟩,fun h=>by simp[evo]at h⟩

theorem lH {t el:TypeId} {sz:Nat} (ht:P.underlying t=some (.slice el)) (hz:rD P el=some sz) {ad:Option Addr} {n m p q:Nat} {vlo vhi:Option Value} (hb:(Instr.sliceBounds true n m vlo vhi none).run P w=.ok (p,q,m) w) :
  (Instr.sliceAt t (.slice ad n m) vlo vhi none).run P w=.ok (.slice (if m=p then ad else ad.map (·.add (p*sz))) (q-p) (m-p)) w:=by
 simp only[Instr.sliceAt,Sem.run_bind,run_underlying ht,Result.andThen_ok,Instr.slice,hb,aA hz,Sem.run_pure]

theorem ZCa (s:Sim F L (b++l) w) (he:RB w F L e a) {t el:TypeId} {sz:Nat} (ht:P.underlying t=some (.slice el)) (hz:rD P el=some sz)
  {y:Operand} {y':Opd} {lo hi:Option Operand} {lo' hi':Option Opd} (ho:o.op=.slice t y lo hi none) (hy:eA y=some y') (hlo:TL lo=some lo') (hhi:TL hi=some hi')
  (h:aop e b l (.slice sz y' lo' hi')=.val x b' l'):ZB P o a w F L b l x b' l':=by
 have hr:=pA he hy
 obtain⟨g1,g2⟩:=AQ he hlo
 obtain⟨g3,g4⟩:=AQ he hhi
 simp only[aop]at h
 generalize ev e y'=q at *
 unfold aD at h
 split at h
 ·split at h
  case h_2=>cases h
  rename_i pq hb
  obtain⟨p,q⟩:=pq
  cases h
  generalize hv:a.eval y=v at hr
  cases hr.vI with
  |zsl ad =>
    obtain⟨k1,k2,k3⟩:=eF (P:=P) hb (ai _) true g1 g2 g3 g4
    have hq:q=0:=by omega
    subst hq
    have hp:p=0:=by omega
    subst hp
    refine ZB.pure s (v:=.slice ad 0 0) ?_ (.v _ _ (.zsl _))
    simp[execOp,ho,hv,lH ht hz k1]
 ·rename_i s0 rows
  split at h
  case isFalse=>cases h
  rename_i hs
  subst hs
  split at h
  case h_2=>cases h
  rename_i p q hb
  cases h
  have DK:∀ad m,rows.length≤m→a.eval y=.slice ad rows.length m→RepA w F L (.v (.isl s0 ((rows.take q).drop p))) (.slice (if m=p then ad else ad.map (·.add (p*s0))) (q-p) (m-p))→ZB P o a w F L b l (.v (.isl s0 ((rows.take q).drop p))) b l:=by
   intro ad m hm hv hx
   obtain⟨k1,_,_⟩:=eF (P:=P) hb hm true g1 g2 g3 g4
   refine ZB.pure s (v:=_) ?_ hx
   simp[execOp,ho,hv,lH ht hz k1]
  generalize hv:a.eval y=v at hr
  cases hr.vI with
  |isl0 _ ad m hm =>
    refine DK _ _ (aj _) hv (.v _ _ ?_)
    obtain⟨_,k2,k3⟩:=eF (P:=P) hb (ai _) true g1 g2 g3 g4
    simp at k3
    subst k3
    simp
    exact .isl0 s0 _ _ oM
  |isl _ b1 off _ m val h1 h2 h3 h4 h5 h6 =>
    refine DK _ _ h2 hv (.v _ _ ?_)
    obtain⟨_,k2,k3⟩:=eF (P:=P) hb h2 true g1 g2 g3 g4
    by_cases hpq:p=q
    ·subst hpq
     have:(rows.take p).drop p=[]:=by simp
     rw[this,eh]
     exact .isl0 s0 _ _ oM
    ·rw[if_neg oM]
     have pC:((rows.take q).drop p).length=q-p:=by simp;omega
     have:=RepI.isl (w:=w) (F:=F) ((rows.take q).drop p) b1 (off+p*s0) s0 (m-p) (fun k j=>val (p+k) j) h1 oM oM
      (fun k row hk=>by
       rw[de,cz]at hk
       split at hk
       ·exact h4 _ _ hk
       ·cases hk)
      (fun k row j a hk hj=>by
       rw[de,cz]at hk
       split at hk
       ·have:=h5 _ row j a hk hj
        rw[bp]at this
        simpa [ct] using this
       ·cases hk)
      (fun k row j a hk hj=>by
       rw[de,cz]at hk
       split at hk
       ·exact h6 _ row j a hk hj
       ·cases hk)
     rw[pC]at this
     simpa [Addr.add_lit] using this
 ·rename_i id ver off len
  split at h
  case h_2=>cases h
  rename_i v0 s0 els hg
  split at h
  case isFalse=>cases h
  rename_i hs
  obtain⟨rfl,rfl⟩:=hs
  split at h
  case h_2=>cases h
  rename_i p q hb
  cases h
  rw[PC]at hg
  have DK:∀ad m,len≤m→a.eval y=.slice ad len m→RepA w F L (.sl id v0 (off+p) (q-p)) (.slice (if m=p then ad else ad.map (·.add (p*s0))) (q-p) (m-p))→ZB P o a w F L b l (.sl id v0 (off+p) (q-p)) b l:=by
   intro ad m hm hv hx
   obtain⟨k1,_,_⟩:=eF (P:=P) hb hm true g1 g2 g3 g4
   refine ZB.pure s (v:=_) ?_ hx
   simp[execOp,ho,hv,lH ht hz k1]
  generalize hv:a.eval y=v at hr
  cases hr with
  |sl _ _ _ _ b1 o1 z1 c1 hL h1 h2 =>
    obtain⟨lc,k1,k2⟩:=s.row _ _ _ _ hg
    rw[hL]at k1;cases k1
    obtain⟨rfl,_⟩:=k2
    refine DK _ _ oM hv ?_
    obtain⟨_,k2,k3⟩:=eF (P:=P) hb (show len≤c1-off by omega) true g1 g2 g3 g4
    by_cases hp:c1-off=p
    ·rw[if_pos hp,hp,eh]
     have:q-p=0:=by omega
     rw[this]
     exact .slz id v0 (off+p) b1 o1 z1 c1 _ hL oM
    ·rw[if_neg hp]
     have:=RepA.sl (w:=w) (F:=F) id v0 (off+p) (q-p) b1 o1 z1 c1 hL oM h2
     rw[bp]at this
     simpa [Addr.add_lit,ct,Nat.sub_sub] using this
  |slz _ _ _ b1 o1 z1 cap1 x1 hL sQ =>
    refine DK _ _ (ai _) hv ?_
    obtain⟨_,k2,k3⟩:=eF (P:=P) hb (ai _) true g1 g2 g3 g4
    have hq:q=0:=by omega
    subst hq
    have hp:p=0:=by omega
    subst hp
    simp
    exact .slz id v0 _ b1 o1 z1 _ _ hL sQ
  |sln _ _ ad hL =>
    refine DK _ _ (ai _) hv ?_
    obtain⟨_,k2,k3⟩:=eF (P:=P) hb (ai _) true g1 g2 g3 g4
    have hq:q=0:=by omega
    subst hq
    have hp:p=0:=by omega
    subst hp
    simp
    exact .sln id v0 _ hL
 ·cases h

theorem MU {y:Option Operand} (h:jQ y=true):∃k,y=some (.const (.int k 0)):=by
 unfold jQ at h
 split at h
 ·exact⟨_,rfl⟩
 ·cases h

theorem ZAN (s:Sim F L (b++l) w) (he:RB w F L e a) {t el:TypeId} {sz:Nat} (ht:P.underlying t=some (.slice el)) (hz:rD P el=some sz)
  {y:Operand} {y':Opd} {hi mx:Option Operand} (ho:o.op=.slice t y none hi mx) (hhi:jQ hi=true) (hmx:jQ mx=true) (hy:eA y=some y')
  (h:aop e b l (.slice0 y')=.val x b' l'):ZB P o a w F L b l x b' l':=by
 have hr:=pA he hy
 obtain⟨k,rfl⟩:=MU hhi
 obtain⟨k',rfl⟩:=MU hmx
 simp only[aop]at h
 generalize ev e y'=q at *
 have DK:∀ad n m,a.eval y=.slice ad n m→ZB P o a w F L b l (.v .zsl) b l:=by
  intro ad n m hv
  have:(execOp a.eval o).run P w=.ok (.value (.slice ad 0 0)) w:=by
   have c1:a.eval (.const (.int k 0))=.int k 0:=rfl
   have c2:a.eval (.const (.int k' 0))=.int k' 0:=rfl
   have hb:(Instr.sliceBounds true n m none (some (.int k 0)) (some (.int k' 0))).run P w=.ok (0,0,0) w:=by simp[Instr.sliceBounds,Instr.sliceBound,asIntOf]
   simp[execOp,ho,hv,c1,c2,Instr.sliceAt,run_underlying ht,Instr.slice,hb,aA hz]
  exact ZB.pure s this (.v _ _ (.zsl ad))
 split at h<;>cases h
 ·generalize hv:a.eval y=v at hr
  cases hr.vI
  exact DK _ _ _ hv
 ·generalize hv:a.eval y=v at hr
  cases hr.vI
  ·exact DK _ _ _ hv
  ·exact DK _ _ _ hv
 ·generalize hv:a.eval y=v at hr
  cases hr
  ·exact DK _ _ _ hv
  ·exact DK _ _ _ hv
  ·exact DK _ _ _ hv

theorem ZAM (s:Sim F L (b++l) w) (he:RB w F L e a) {t:TypeId} (ht:P.underlying t=some .string)
  {y:Operand} {y':Opd} {lo hi:Option Operand} {lo' hi':Option Opd} (ho:o.op=.slice t y lo hi none) (hy:eA y=some y') (hlo:TL lo=some lo') (hhi:TL hi=some hi')
  (h:aop e b l (.sliceS y' lo' hi')=.val x b' l'):ZB P o a w F L b l x b' l':=by
 have hr:=pA he hy
 obtain⟨g1,g2⟩:=AQ he hlo
 obtain⟨g3,g4⟩:=AQ he hhi
 simp only[aop]at h
 generalize ev e y'=q at *
 split at h
 case h_2=>cases h
 rename_i str
 split at h
 case h_2=>cases h
 rename_i p q hb
 cases h
 have hv:=LP hr
 obtain⟨k1,_,_⟩:=eF (P:=P) hb (ai _) false g1 g2 g3 g4
 refine ZB.pure s (v:=.string (str.extract p q)) ?_ (toS _)
 simp[execOp,ho,hv,Instr.sliceAt,run_underlying ht,Instr.slice,k1]
end

section
variable {P:Program} {w:World} {F:Nat→Prop} {L:LMap} {o:Oper} {a:Act} {e:List AV} {b l b' l':List Row} {x:AV}

theorem CW (s:Sim F L (b++l) w) {w':World} {sz cap:Nat} {els:List (List AV)} {g:Nat→AV} {cur:Array Value} {T:TypeId} {v:Value}
  (AC:Ends P o a w v w') (ZEY:w'.heap=w.heap.push (.cells cur T (0,0))) (hos:w'.os=w.os) (htp:w'.tape=w.tape) (KH:w'.output=w.output)
  (hl:els.length≤cap) (iM:cap≤maxLen) (JI:cap*sz≤cur.size)
  (zN:∀(k:Nat) (row:List AV),els[k]? = some row→row.length=sz)
  (QG:∀(k:Nat) (row:List AV) (j:Nat) (c:AV),els[k]? = some row→row[j]? = some c→c.cell=true∧∃u,cur[k*sz+j]? = some u∧RepA w F L c u)
  (hg:∀(L':LMap),L' (b.length+l.length) 0=some (.pl w.heap.size 0 sz cap)→RepA w' F L' (g (b.length+l.length)) v)
  (h:mk b l sz els g=.val x b' l'):ZB P o a w F L b l x b' l':=by
 unfold mk at h
 cases h
 have pC:(b++l).length=b.length+l.length:=by simp
 obtain⟨L',r1,r2,r3,r4⟩:=s.putRow (h':=b++(l++[.live 0 sz els])) (w':=w') (b.length+l.length) 0 sz w.heap.size 0 cap els hos htp KH (by rw[ZEY];simp)
  (fun k hk _=>by rw[ZEY,kj,if_neg oM]) (.inl (ai _))
  (by rw[←bh,ar oM];simp)
  (fun j hj=>by
   rw[←bh]
   by_cases rG:j<(b++l).length
   ·rw[aw rG]
   ·rw[bu (by simp;omega),bu oM])
  (fun r hr=>by rw[bu oM]at hr;cases hr)
  (.inl (by
   cases hq:L (b.length+l.length) 0 with
   |none=>rfl
   |some q=>exact absurd (s.lt hq) oM))
  hl iM cur T (by rw[ZEY];simp) (by simpa using JI) zN (fun k row j c hk hj=>by simpa using QG k row j c hk hj)
 exact⟨v,w',L',AC,hg L' r3,r1,r2,rfl⟩

theorem ZCi (s:Sim F L (b++l) w) {t:TypeId} {zs:List AV} (ho:o.op=.alloc t) (hz:uF P t=some zs)
  (h:aop e b l (.alloc zs)=.val x b' l'):ZB P o a w F L b l x b' l':=by
 simp only[aop]at h
 unfold uF at hz
 split at hz
 case h_2=>cases hz
 rename_i i hi
 split at hz
 case h_2=>cases hz
 rename_i z xW
 obtain⟨c1,c2⟩:=LE (w:=w) (F:=F) (L:=L) hz
 have R7:zs.length=z.cells.size:=by simpa using c1.1
 refine CW s (w':=w.alloc (.cells z.cells t)) (cur:=z.cells) (T:=t) (cap:=1) (v:=.pointer (some ⟨w.heap.size,0,none⟩)) (.inl ?_) rfl rfl rfl rfl kS kE oM ?_ ?_ ?_ h
 ·simp[execOp,ho,Instr.alloc,zeroValue,typeInfo,hi,xW,newVar,newRow]
 ·intro k row hk
  cases k with
  |zero=>simp at hk;subst hk;rfl
  |succ k=>simp at hk
 ·intro k row j c hk hj
  cases k with
  |zero =>
    simp at hk;subst hk
    obtain⟨u,hu,hr⟩:=c1.get hj
    exact⟨bg.1 c2 _ (bw hj),u,by simpa using hu,hr⟩
  |succ k=>simp at hk
 ·intro L' hL'
  have:=RepA.ptr (w:=w.alloc (.cells z.cells t)) (F:=F) (b.length+l.length) 0 0 0 _ _ _ _ hL'
  simpa using this

theorem ZIJ (s:Sim F L (b++l) w) (he:RB w F L e a) {t:TypeId} {y:Operand} {z:Opd} (ho:o.op=.box t y) (hy:eA y=some z)
  (h:aop e b l (.box z)=.val x b' l'):ZB P o a w F L b l x b' l':=by
 have hr:=pA he hy
 simp only[aop]at h
 generalize ev e z=q at *
 split at h
 case h_2=>cases h
 rename_i cs fX
 split at h
 case isFalse=>cases h
 rename_i JF
 obtain⟨c1,c2⟩:=RL hr fX JF
 have R7:cs.length=(a.eval y).cells.size:=by simpa using c1.1
 refine CW s (w':=w.alloc (.cells (a.eval y).cells t)) (cur:=(a.eval y).cells) (T:=t) (cap:=1) (v:=.pointer (some ⟨w.heap.size,0,none⟩)) (.inl ?_) rfl rfl rfl rfl kS kE oM ?_ ?_ ?_ h
 ·simp[execOp,ho,Instr.box,newVar,newRow]
 ·intro k row hk
  cases k with
  |zero=>simp at hk;subst hk;rfl
  |succ k=>simp at hk
 ·intro k row j c hk hj
  cases k with
  |zero =>
    simp at hk;subst hk
    obtain⟨u,hu,hr⟩:=c1.get hj
    exact⟨bg.1 JF _ (bw hj),u,by simpa using hu,hr⟩
  |succ k=>simp at hk
 ·intro L' hL'
  have:=RepA.ptr (w:=w.alloc (.cells (a.eval y).cells t)) (F:=F) (b.length+l.length) 0 0 0 _ _ _ _ hL'
  simpa using this

theorem SM (vs:List Value):∀(cs:Array Value) (off n:Nat) (i:Nat),off+n+vs.length≤cs.size →
  ((vs.zipIdx n).foldl (fun cs (p:Value×Nat)=>cs.setIfInBounds (off+p.2) p.1) cs).size=cs.size ∧
  ((vs.zipIdx n).foldl (fun cs (p:Value×Nat)=>cs.setIfInBounds (off+p.2) p.1) cs)[i]? = if off+n≤i∧i<off+n+vs.length then vs[i-(off+n)]? else cs[i]?:=by
 induction vs with
 |nil=>intro cs off n i _;simp;intro h1 h2;omega
 |cons v vs ih =>
   intro cs off n i h
   simp only[ee]at h
   simp only[List.zipIdx_cons,km]
   obtain⟨h1,h2⟩:=ih (cs.setIfInBounds (off+n) v) off (n+1) i (by simp;omega)
   refine⟨by rw[h1];simp,?_⟩
   rw[h2]
   by_cases hi:i=off+n
   ·subst hi
    rw[if_neg oM,if_pos kS,lz oM]
    simp
   ·by_cases hj:off+(n+1)≤i∧i<off+(n+1)+vs.length
    ·rw[if_pos hj,if_pos (by simp;omega),show i-(off+n)=(i-(off+(n+1)))+1 by omega]
     simp
    ·rw[if_neg hj,if_neg (by simp;omega),im oM]

theorem bH (vs cs:Array Value) (off:Nat):vs.zipIdx.foldl (fun cs (p:Value×Nat)=>cs.setIfInBounds (off+p.2) p.1) cs=(vs.toList.zipIdx 0).foldl (fun cs (p:Value×Nat)=>cs.setIfInBounds (off+p.2) p.1) cs:=by
 rw[←Array.foldl_toList];simp

theorem ZCs {row ds:List AV} {cs vs:Array Value} (h:bA w F L row cs.toList) (k:bA w F L ds vs.toList) {off:Nat} (CJ:off+ds.length≤row.length) :
  bA w F L (xB row off ds) (vs.zipIdx.foldl (fun cs (p:Value×Nat)=>cs.setIfInBounds (off+p.2) p.1) cs).toList:=by
 have hl:cs.size=row.length:=by simpa using h.1.symm
 have hk:vs.toList.length=ds.length:=k.1.symm
 rw[bH]
 have key:=fun i=>SM vs.toList cs off 0 i oM
 refine⟨?_,fun i c u hc hu=>?_⟩
 ·rw[UP,fj]
  exact (hl.symm.trans (key 0).1.symm)
 ·rw[zP ds row off i CJ]at hc
  rw[Array.getElem?_toList,(key i).2]at hu
  simp only[eo,hk]at hu
  split at hc
  ·rename_i GE
   rw[if_pos GE]at hu
   exact k.2 _ c u hc hu
  ·rename_i GE
   rw[if_neg GE]at hu
   exact h.2 i c u hc (by simpa using hu)

theorem IW (he:RB w F L e a) {place:Nat→Option (Nat×Nat)}:∀{ps:List (Nat×Operand)} {qs:List (Nat×Nat×Opd)} {row:List AV} {cs:Array Value} {out:List AV},
  (∀(i:Nat) (p:Nat×Operand),ps[i]? = some p→∃(off n:Nat) (z:Opd),qs[i]? = some (off,n,z)∧place p.1=some (off,n)∧eA p.2=some z)→qs.length=ps.length →
  bA w F L row cs.toList→YC e row qs=some out→∃vs,Instr.fill place cs (ps.map fun p=>(p.1,a.eval p.2))=some vs∧bA w F L out vs.toList
 |[],qs,row,cs,out,_,hl,hr,hf=>by
   have:qs=[]:=co (by simpa using hl)
   subst this
   simp[YC]at hf
   subst hf
   exact⟨cs,rfl,hr⟩
 |p::ps,[],row,cs,out,_,hl,hr,hf=>by simp at hl
 |p::ps,q::qs,row,cs,out,hp,hl,hr,hf=>by
   obtain⟨off,n,z,e1,e2,e3⟩:=hp 0 p rfl
   simp at e1
   subst e1
   unfold YC at hf
   split at hf
   case h_2=>cases hf
   rename_i ds xQ
   split at hf
   case isFalse=>cases hf
   rename_i hb
   have hz:=pA he e3
   have QG:bA w F L ds (a.eval p.2).cells.toList:=by
    generalize ev e z=q at *
    cases q with
    |any=>cases xQ
    |tup cs=>cases xQ
    |agg ds =>
      cases xQ
      obtain⟨vs,hv,hl⟩:=hz.aggL
      rw[hv];exact hl
    |_=>cases xQ;rw[YV (hz.one rfl)];simpa using bA.cons hz bA.nil
   have zN:(a.eval p.2).cells.size=n:=by have:=QG.1;simp at this;omega
   have ZL0:=ZCs hr QG (off:=off) oM
   obtain⟨vs,h1,h2⟩:=IW he (place:=place) (ps:=ps) (qs:=qs) (fun i p' hi=>hp (i+1) p' (by simpa using hi)) (by simpa using hl) ZL0 hf
   refine⟨vs,?_,h2⟩
   simp only[bl,Instr.fill,e2,zN]
   have MY:row.length=cs.size:=by simpa using hr.1
   rw[if_neg (by simp;omega)]
   exact h1

theorem SP {fs:Array Field}:∀{ps:List (Nat×Operand)} {qs:List (Nat×Nat×Opd)},wQ P fs ps=some qs→qs.length=ps.length ∧
  ∀(i:Nat) (p:Nat×Operand),ps[i]? = some p→∃(off n:Nat) (z:Opd) (f:Field),qs[i]? = some (off,n,z)∧fs[p.1]? = some f∧f.offset=off∧rD P f.type=some n∧eA p.2=some z
 |[],qs,h=>by simp[wQ]at h;subst h;simp
 |(i,y)::ps,qs,h=>by
   unfold wQ at h
   split at h
   case h_2=>cases h
   rename_i f z ys h1 h2 h3
   split at h
   case h_2=>cases h
   rename_i n h4
   cases h
   obtain⟨h5,h6⟩:=SP h3
   refine⟨by simp[h5],fun j p hj=>?_⟩
   cases j with
   |zero=>simp at hj;subst hj;exact⟨_,_,_,f,rfl,h1,rfl,h4,h2⟩
   |succ j=>simp at hj;simpa using h6 j p hj

theorem bN {n:Nat}:∀{ps:List (Nat×Operand)} {qs:List (Nat×Nat×Opd)},bM n ps=some qs→qs.length=ps.length ∧
  ∀(i:Nat) (p:Nat×Operand),ps[i]? = some p→∃(z:Opd),qs[i]? = some (p.1*n,n,z)∧eA p.2=some z
 |[],qs,h=>by simp[bM]at h;subst h;simp
 |(i,y)::ps,qs,h=>by
   unfold bM at h
   split at h
   case h_2=>cases h
   rename_i z ys h1 h2
   cases h
   obtain⟨h5,h6⟩:=bN h2
   refine⟨by simp[h5],fun j p hj=>?_⟩
   cases j with
   |zero=>simp at hj;subst hj;exact⟨_,rfl,h1⟩
   |succ j=>simp at hj;simpa using h6 j p hj

theorem DM {α β:Type} (f:α→Sem β) (g:α→β):∀(xs:List α),(∀x∈xs,(f x).run P w=.ok (g x) w)→(xs.mapM f).run P w=.ok (xs.map g) w
 |[],_=>by simp
 |x::xs,h=>by
   have ih:=DM f g xs (fun y hy=>h y (by simp[hy]))
   rw[List.mapM_cons]
   simp[h x kS,ih]
end

section
variable {P:Program} {w:World} {F:Nat→Prop} {L:LMap} {o:Oper} {a:Act} {e:List AV} {b l b' l':List Row} {x:AV}

theorem YE {t:TypeId} {zs:List AV} (hz:uF P t=some zs):∃i z,P.info? t=some i∧i.zero=some z∧cvL z.cells.toList=some zs:=by
 unfold uF at hz
 split at hz
 case h_2=>cases hz
 rename_i i hi
 split at hz
 case h_2=>cases hz
 rename_i z xW
 exact⟨i,z,hi,xW,hz⟩

theorem JH {t:TypeId} {i:TypeInfo} {z:Value} (hi:P.info? t=some i) (hz:i.zero=some z):(zeroValue t).run P w=.ok z w:=by
 simp[zeroValue,typeInfo,hi,hz]

theorem O2 (fs:Array Field) (h:fs.toList.all (fun f=>(rD P f.type).isSome)=true) :
  (fs.mapM fun f=>(do pure (f.offset,←sizeOf f.type):Sem (Nat×Nat))).run P w=.ok (fs.map fun f=>(f.offset,(rD P f.type).getD 0)) w:=by
 rw[Array.mapM_eq_mapM_toList]
 have:=DM (P:=P) (w:=w) (fun f:Field=>(do pure (f.offset,←sizeOf f.type):Sem (Nat×Nat))) (fun f=>(f.offset,(rD P f.type).getD 0)) fs.toList (fun f hf=>by
  have h1:=bg.1 h f hf
  cases hn:rD P f.type with
  |none=>simp[hn]at h1
  |some n=>simp[aA hn])
 simp only[map_eq_pure_bind,Sem.run_bind,this,Result.andThen_ok,Sem.run_pure]
 congr 1
 apply Array.ext'
 simp

theorem ZCh (s:Sim F L (b++l) w) (he:RB w F L e a) {t:TypeId} {fs:Array Field} {zs:List AV} {parts:Array (Nat×Operand)} {qs:List (Nat×Nat×Opd)} (ht:P.underlying t=some (.struct fs)) (hz:uF P t=some zs)
  (JF:fs.toList.all (fun f=>(rD P f.type).isSome)=true) (hq:wQ P fs parts.toList=some qs) (ho:o.op=.build t parts)
  (h:aop e b l (.build zs qs)=.val x b' l'):ZB P o a w F L b l x b' l':=by
 obtain⟨i,z,hi,xW,vU⟩:=YE hz
 obtain⟨c1,c2⟩:=LE (w:=w) (F:=F) (L:=L) vU
 obtain⟨q1,q2⟩:=SP hq
 simp only[aop]at h
 split at h
 case h_2=>cases h
 rename_i cs fX
 cases h
 obtain⟨vs,h1,h2⟩:=IW he (place:=fun j=>(fs.map fun f=>(f.offset,(rD P f.type).getD 0))[j]?) (ps:=parts.toList) (qs:=qs) (fun j p hj=>by
  obtain⟨off,n,y,f,e1,e2,e3,e4,e5⟩:=q2 j p hj
  exact⟨off,n,y,e1,by simp[e2,e3,e4],e5⟩) q1 c1 fX
 refine ZB.pure s (v:=.agg vs) ?_ h2.agg
 have hm:(parts.map fun (j,y)=>(j,a.eval y)).toList=parts.toList.map fun p=>(p.1,a.eval p.2):=by simp
 simp only[execOp,ho,Instr.build,Sem.run_bind,JH hi xW,Result.andThen_ok,run_underlying ht,O2 fs JF,hm,h1,Sem.run_pure]

theorem ZAS (s:Sim F L (b++l) w) (he:RB w F L e a) {t el:TypeId} {m n:Nat} {zs:List AV} {parts:Array (Nat×Operand)} {qs:List (Nat×Nat×Opd)} (ht:P.underlying t=some (.array m el)) (hn:rD P el=some n) (hz:uF P t=some zs)
  (hq:bM n parts.toList=some qs) (ho:o.op=.build t parts)
  (h:aop e b l (.build zs qs)=.val x b' l'):ZB P o a w F L b l x b' l':=by
 obtain⟨i,z,hi,xW,vU⟩:=YE hz
 obtain⟨c1,c2⟩:=LE (w:=w) (F:=F) (L:=L) vU
 obtain⟨q1,q2⟩:=bN hq
 simp only[aop]at h
 split at h
 case h_2=>cases h
 rename_i cs fX
 cases h
 obtain⟨vs,h1,h2⟩:=IW he (place:=fun j=>some (j*n,n)) (ps:=parts.toList) (qs:=qs) (fun j p hj=>by
  obtain⟨y,e1,e2⟩:=q2 j p hj
  exact⟨_,_,y,e1,rfl,e2⟩) q1 c1 fX
 refine ZB.pure s (v:=.agg vs) ?_ h2.agg
 have hm:(parts.map fun (j,y)=>(j,a.eval y)).toList=parts.toList.map fun p=>(p.1,a.eval p.2):=by simp
 simp only[execOp,ho,Instr.build,Sem.run_bind,JH hi xW,Result.andThen_ok,run_underlying ht,aA hn,hm,h1,Sem.run_pure]

theorem vK:∀{ps:List (Nat×Operand)} {qs:List (Nat×Opd)},nJ ps=some qs→qs.length=ps.length ∧
  ∀(i:Nat) (p:Nat×Operand),ps[i]? = some p→∃(z:Opd),qs[i]? = some (p.1,z)∧eA p.2=some z
 |[],qs,h=>by simp[nJ]at h;subst h;simp
 |(i,y)::ps,qs,h=>by
   unfold nJ at h
   split at h
   case h_2=>cases h
   rename_i z ys h1 h2
   cases h
   obtain⟨h5,h6⟩:=vK h2
   refine⟨by simp[h5],fun j p hj=>?_⟩
   cases j with
   |zero=>simp at hj;subst hj;exact⟨_,rfl,h1⟩
   |succ j=>simp at hj;simpa using h6 j p hj

def GM (w:World) (F:Nat→Prop) (L:LMap) (sz:Nat) (els:List (List AV)) (cur:Array Value):Prop:=
 (∀(k:Nat) (row:List AV),els[k]? = some row→row.length=sz) ∧
 ∀(k:Nat) (row:List AV) (j:Nat) (c:AV),els[k]? = some row→row[j]? = some c→c.cell=true∧∃u,cur[k*sz+j]? = some u∧RepA w F L c u

theorem eS (he:RB w F L e a) {sz:Nat}:∀{ps:List (Nat×Operand)} {qs:List (Nat×Opd)} {els out:List (List AV)} {cur:Array Value},
  (∀(i:Nat) (p:Nat×Operand),ps[i]? = some p→∃(z:Opd),qs[i]? = some (p.1,z)∧eA p.2=some z)→qs.length=ps.length →
  cur.size=els.length*sz→GM w F L sz els cur→CB e sz els qs=some out →
  ∃vs,Instr.fill (fun i=>some (i*sz,sz)) cur (ps.map fun p=>(p.1,a.eval p.2))=some vs∧vs.size=cur.size∧out.length=els.length∧GM w F L sz out vs
 |[],qs,els,out,cur,_,hl,hs,hr,hf=>by
   have:qs=[]:=co (by simpa using hl)
   subst this
   simp[CB]at hf
   subst hf
   exact⟨cur,rfl,rfl,rfl,hr⟩
 |p::ps,[],els,out,cur,_,hl,hs,hr,hf=>by simp at hl
 |p::ps,q::qs,els,out,cur,hp,hl,hs,hr,hf=>by
   obtain⟨z,e1,e3⟩:=hp 0 p rfl
   simp at e1
   subst e1
   unfold CB at hf
   split at hf
   case h_2=>cases hf
   rename_i ds xQ
   split at hf
   case isFalse=>cases hf
   rename_i hb
   obtain⟨JJ,dQ,hb3⟩:=hb
   obtain⟨d1,d2⟩:=RL (pA he e3) xQ hb3
   have zN:(a.eval p.2).cells.size=sz:=by have:=d1.1;simp at this;omega
   have ZL1:(a.eval p.2).cells.toList.length=sz:=by simpa using zN
   have JI:p.1*sz+sz≤cur.size:=by
    rw[hs];have:=EG (sz:=sz) (j:=0) (n:=sz) dQ oM;omega
   have key:=fun i=>SM (a.eval p.2).cells.toList cur (p.1*sz) 0 i oM
   have nG:GM w F L sz (els.set p.1 ds) ((a.eval p.2).cells.zipIdx.foldl (fun cs (q:Value×Nat)=>cs.setIfInBounds (p.1*sz+q.2) q.1) cur):=by
    rw[bH]
    refine⟨fun k row hk=>?_,fun k row j c hk hj=>?_⟩
    ·by_cases tO:p.1=k
     ·subst tO
      rw[ay dQ]at hk;cases hk;exact JJ
     ·rw[bf tO]at hk;exact hr.1 k row hk
    ·rw[(key _).2]
     simp only[eo,ZL1]
     by_cases tO:p.1=k
     ·subst tO
      rw[ay dQ]at hk;cases hk
      have rG:j<sz:=by have:=(ak.1 hj).1;omega
      rw[if_pos oM,ci]
      obtain⟨u,hu,hru⟩:=d1.get hj
      exact⟨bg.1 hb3 _ (bw hj),u,hu,hru⟩
     ·rw[bf tO]at hk
      have rG:j<sz:=by rw[←hr.1 k row hk];exact (ak.1 hj).1
      rw[if_neg (by have:=i9 (sz:=sz) (j:=0) (n:=sz) tO rG oM;omega)]
      exact hr.2 k row j c hk hj
   have ZKM:((a.eval p.2).cells.zipIdx.foldl (fun cs (q:Value×Nat)=>cs.setIfInBounds (p.1*sz+q.2) q.1) cur).size=cur.size:=by rw[bH];exact (key 0).1
   obtain⟨vs,h1,h2,h3,h4⟩:=eS he (ps:=ps) (qs:=qs) (fun i p' hi=>hp (i+1) p' (by simpa using hi)) (by simpa using hl) (by rw[ZKM];simpa using hs) nG hf
   refine⟨vs,?_,by rw[h2,ZKM],by simpa using h3,h4⟩
   simp only[bl,Instr.fill,zN]
   rw[if_neg (by simp;omega)]
   exact h1

theorem DN {sz n:Nat} {z:Value} {zs:List AV} (c1:bA w F L zs z.cells.toList) (c2:zs.all AV.cell=true) (hl:zs.length=sz) (m:Nat) (hm:n*sz≤m) :
  GM w F L sz (List.replicate n zs) (madeCells z.cells m):=by
 have hzs:z.cells.size=sz:=by have:=c1.1;simp at this;omega
 refine⟨fun k row hk=>?_,fun k row j c hk hj=>?_⟩
 ·rw[gi]at hk
  split at hk
  ·cases hk;exact hl
  ·cases hk
 ·rw[gi]at hk
  split at hk
  ·rename_i hkn
   cases hk
   have rG:j<sz:=by have:=(ak.1 hj).1;omega
   obtain⟨u,hu,hru⟩:=c1.get hj
   refine⟨bg.1 c2 _ (bw hj),u,?_,hru⟩
   have yA:k*sz+j<m:=by have:=EG (sz:=sz) (j:=j) (n:=1) hkn oM;omega
   have ZL2:(k*sz+j) % sz=j:=by rw[Nat.mul_comm,Nat.mul_add_mod,Nat.mod_eq_of_lt rG]
   have hu':z.cells[j]? = some u:=by simpa using hu
   have hj2:j<z.cells.size:=by omega
   simp only[madeCells,Array.getElem?_map,Array.getElem?_range,yA,if_true,jo,hzs,ZL2]
   rw[getElem!_pos z.cells j hj2]
   rw[ft hj2]at hu'
   exact hu'
  ·cases hk

theorem ZAT (s:Sim F L (b++l) w) (he:RB w F L e a) {t el:TypeId} {n len:Nat} {zs:List AV} {parts:Array (Nat×Operand)} {qs:List (Nat×Opd)} (ht:P.underlying t=some (.slice el)) (hn:rD P el=some n) (hz:uF P el=some zs)
  (h0:0<n) (CJ:len*n≤16777216) (R7:zs.length=n) (hq:nJ parts.toList=some qs) (ho:o.op=.buildSlice t len parts)
  (h:aop e b l (.bslice n zs len qs)=.val x b' l'):ZB P o a w F L b l x b' l':=by
 obtain⟨i,z,hi,xW,vU⟩:=YE hz
 obtain⟨c1,c2⟩:=LE (w:=w) (F:=F) (L:=L) vU
 obtain⟨q1,q2⟩:=vK hq
 simp only[aop]at h
 split at h
 case h_2=>cases h
 rename_i els tV
 obtain⟨vs,h1,h2,h3,h4⟩:=eS he (ps:=parts.toList) (qs:=qs) q2 q1 (cur:=madeCells z.cells (len*n)) (by simp[size_madeCells]) (DN c1 c2 R7 _ (ai _)) tV
 have pC:els.length=len:=by simpa using h3
 have hm:(parts.map fun (j,y)=>(j,a.eval y)).toList=parts.toList.map fun p=>(p.1,a.eval p.2):=by simp
 have hlm:len≤16777216:=by
  rcases jp len with h|h
  ·omega
  ·have:=Nat.le_mul_of_pos_right len h0;omega
 refine CW s (w':=w.alloc (.cells vs el)) (cur:=vs) (T:=el) (cap:=len) (v:=.slice (some ⟨w.heap.size,0,none⟩) len len) (.inl ?_) rfl rfl rfl rfl oM (by unfold maxLen;omega) (by rw[h2,size_madeCells];exact ai _) h4.1 h4.2 ?_ h
 ·have yA:¬(len*n>2 ^ 24):=by omega
  by_cases h00:len*n=0
  ·have hmc:madeCells z.cells (len*n)=#[]:=by rw[h00];simp[madeCells,Array.range_zero']
   rw[hmc]at h1
   have hmd:(Array.range (len*n)).map (((#[]:Array Value)[· % (#[]:Array Value).size]!))=#[]:=by rw[h00];simp[Array.range_zero']
   have hlt':¬(len*n>16777216):=by omega
   simp only[execOp,ho,Instr.buildSlice,Sem.run_bind,run_underlying ht,Result.andThen_ok,aA hn,Sem.run_ite,h00,if_true,Sem.run_pure,hm]
   rw[h00]at hmd
   simp only[hmd,h1,newRow,Sem.run_bind]
   simp
  ·simp only[execOp,ho,Instr.buildSlice,Sem.run_bind,run_underlying ht,Result.andThen_ok,aA hn,Sem.run_ite,yA,if_false,h00,Sem.run_pure,hm,JH hi xW]
   have h1':=h1
   unfold madeCells at h1'
   simp only[h1',newRow,Sem.run_bind]
   simp
 ·intro L' hL'
  have:=RepA.sl (w:=w.alloc (.cells vs el)) (F:=F) (b.length+l.length) 0 0 len _ _ _ _ hL' oM (by unfold maxLen;omega)
  simpa using this

theorem I3 (s:Sim F L (b++l) w) (he:RB w F L e a) {t el:TypeId} {sz bytes:Nat} {zs:List AV} (ht:P.underlying t=some (.slice el)) (hn:rD P el=some sz) (WN:jO P el=some bytes) (hz:uF P el=some zs) (R7:zs.length=sz)
  {y z:Operand} {y' z':Opd} (ho:o.op=.makeSlice t y z) (hy:eA y=some y') (hzz':eA z=some z')
  (h:aop e b l (.mkslice sz zs bytes y' z')=.val x b' l'):ZB P o a w F L b l x b' l':=by
 obtain⟨i,zv,hi,xW,vU⟩:=YE hz
 obtain⟨c1,c2⟩:=LE (w:=w) (F:=F) (L:=L) vU
 have h1:=pA he hy
 have h2:=pA he hzz'
 simp only[aop]at h
 generalize ev e y'=q at *
 generalize ev e z'=r at *
 split at h
 case h_2=>cases h
 rename_i k n k' c
 split at h
 case isFalse=>cases h
 rename_i hb
 obtain⟨JJ,dQ,hb3,hb4⟩:=hb
 have e1:=MH h1
 have e2:=MH h2
 have zN:i.size=sz:=by simp[rD,hi]at hn;exact hn
 have hbz:i.bytes=bytes:=by simp[jO,hi]at WN;exact WN
 have iM:c.toNat≤maxLen:=by unfold maxLen;unfold room at hb4;omega
 have hbb:(i.bytes:Int)*c≤281474976710656:=by
  unfold room at hb3
  have h0:c=(c.toNat:Int):=by omega
  rw[h0,hbz]
  have:((bytes*c.toNat:Nat):Int)≤281474976710656:=by rw[Nat.mul_comm];omega
  rwa [Int.natCast_mul]at this
 have AC:=run_make (P:=P) w t el i zv ht hi xW k k' n c JJ dQ hbb (by unfold room at hb4;omega)
 have JI:n.toNat*sz≤c.toNat*sz:=ck _ oM
 rw[zN]at AC
 have OW:=DN (n:=n.toNat) c1 c2 R7 (c.toNat*sz) JI
 refine CW s (w':=w.alloc (.cells (madeCells zv.cells (c.toNat*sz)) el)) (cur:=madeCells zv.cells (c.toNat*sz)) (T:=el) (cap:=c.toNat) (v:=.slice (some ⟨w.heap.size,0,none⟩) n.toNat c.toNat) (.inl ?_) rfl rfl rfl rfl (by simp;omega) iM (by rw[size_madeCells];exact ai _) OW.1 OW.2 ?_ h
 ·simp[execOp,ho,e1,e2,AC]
 ·intro L' hL'
  have:=RepA.sl (w:=w.alloc (.cells (madeCells zv.cells (c.toNat*sz)) el)) (F:=F) (b.length+l.length) 0 0 n.toNat _ _ _ _ hL' oM iM
  simpa using this

theorem U7 {d:Nat} {t:TypeId} {k:FK} (hk:LI P t=some k) {x y:AV} {v u:Value} (hx:RepA w F L x v) (hy:RepA w F L y u) {r:Bool} (h:eqF k x y=some r) :
  (Op.equalIn (d+1) t v u).run P w=.ok r w:=by
 unfold LI at hk
 unfold eqF at h
 split at h
 ·split at h
  ·rename_i tO
   cases h
   subst tO
   rw[MH hx,MH hy]
   split at hk<;>cases hk
   rename_i hd
   exact run_equalIn_int w d t _ _ _ _ hd
  ·cases h
 ·cases h
  rw[CL hx,CL hy]
  split at hk<;>cases hk
  rename_i hd
  exact run_equalIn_bool w d t _ _ hd
 ·cases h
  rw[LP hx,LP hy]
  split at hk<;>cases hk
  rename_i hd
  rw[beq_toListBytes]
  exact run_equalIn_string w d t _ _ hd
 ·cases h

theorem wM {t:TypeId} {k:FK} (hk:LI P t=some k):ZB9 P t=some false:=by
 unfold LI at hk
 unfold ZB9
 split at hk<;>first|(cases hk;done)|skip
 all_goals (rename_i hd;rw[hd])

theorem K7 {d:Nat}:∀{n:Nat} {fs:List Field} {ks:List FK} {xs ys:List AV} {vs us:Array Value} {r:Bool},qL P n fs=some ks →
  bA w F L xs (vs.toList.drop n)→bA w F L ys (us.toList.drop n)→eqC ks xs ys=some r→(Op.eqFields (d+1) vs us fs).run P w=.ok r w
 |n,[],ks,xs,ys,vs,us,r,hp,hx,hy,he=>by
   simp[qL]at hp
   subst hp
   cases xs<;>cases ys<;>simp[eqC]at he
   subst he
   simp[Op.eqFields]
 |n,f::fs,ks,xs,ys,vs,us,r,hp,hx,hy,he=>by
   unfold qL at hp
   split at hp
   case isFalse=>cases hp
   rename_i hb
   obtain⟨sQ,KU⟩:=hb
   split at hp
   case h_2=>cases hp
   rename_i k ks' hk hks
   cases hp
   cases xs with
   |nil=>simp[eqC]at he
   |cons x xs0 =>
   cases ys with
   |nil=>simp[eqC]at he
   |cons y ys0 =>
   simp only[eqC]at he
   cases hq:eqF k x y with
   |none=>simp[hq,tG]at he
   |some r1 =>
     cases FS:eqC ks' xs0 ys0 with
     |none=>simp[hq,FS,tG]at he
     |some r2 =>
       simp[hq,FS,tG]at he
       obtain⟨v,hv,hrv⟩:=hx.get (j:=0) (a:=x) rfl
       obtain⟨u,hu,hru⟩:=hy.get (j:=0) (a:=y) rfl
       have hv':vs[n]? = some v:=by simpa using hv
       have hu':us[n]? = some u:=by simpa using hu
       have Z1:=wM hk
       have hpv:(part f.type vs f.offset).run P w=.ok v w:=by simp[part,ZF Z1,sQ,hv']
       have hpu:(part f.type us f.offset).run P w=.ok u w:=by simp[part,ZF Z1,sQ,hu']
       have tail:∀{cs:List AV} {c:AV} {zs:Array Value},bA w F L (c::cs) (zs.toList.drop n)→bA w F L cs (zs.toList.drop (n+1)):=by
        intro cs c zs hz
        refine⟨by have:=hz.1;simp at this⊢;omega,fun i c' z' hc hz'=>?_⟩
        exact hz.2 (i+1) c' z' (by simpa using hc) (by
         rw[de]at hz'⊢
         rw[show n+(i+1)=n+1+i by omega];exact hz')
       have ZIj:=U7 (P:=P) (d:=d) hk hrv hru hq
       have ih:=K7 (d:=d) hks (tail hx) (tail hy) FS
       simp only[Op.eqFields,KU,ne_eq,not_false_eq_true,if_true,Sem.run_bind,hpv,hpu,Result.andThen_ok,ZIj,Sem.run_ite,ih,Sem.run_pure]
       subst he
       cases r1<;>simp

theorem ZII (s:Sim F L (b++l) w) (he:RB w F L e a) {op:BinOp} {t u:TypeId} {fs:Array Field} {ks:List FK} (ht:P.underlying t=some (.struct fs)) (hks:qL P 0 fs.toList=some ks)
  (pG:P.stoodInHeld t=false) (hg:P.eqGuardType P.depth t=false) (hop:op=.eql∨op=.neq) {y z:Operand} {y' z':Opd} (ho:o.op=.binOp op t y z u) (hy:eA y=some y') (hz:eA z=some z')
  (h:aop e b l (.eqs (op==.neq) ks y' z')=.val x b' l'):ZB P o a w F L b l x b' l':=by
 have h1:=pA he hy
 have h2:=pA he hz
 simp only[aop]at h
 generalize ev e y'=q at *
 generalize ev e z'=r at *
 split at h
 case h_2=>cases h
 rename_i xs ys
 split at h
 case h_2=>cases h
 rename_i r hr
 cases h
 obtain⟨vs,e1,l1⟩:=h1.aggL
 obtain⟨us,e2,l2⟩:=h2.aggL
 have hf:P.fieldsOf t=fs:=by simp[Program.fieldsOf,ht]
 have AC:=K7 (P:=P) (d:=9998) hks (vs:=vs) (us:=us) (by simpa using l1) (by simpa using l2) hr
 have mX:=run_equalIn_struct w 9999 t vs us (by rw[hf];exact ht) pG
 rw[hf,AC]at mX
 rcases hop with rfl|rfl
 ·refine ZB.pure s (v:=.bool r) ?_ (vV _)
  simp[execOp,ho,e1,e2,run_eqGuard_agg w _ t _ _ _ _ hg,run_eql_struct,mX]
 ·refine ZB.pure s (v:=.bool (!r)) ?_ (vV _)
  simp[execOp,ho,e1,e2,run_eqGuard_agg w _ t _ _ _ _ hg,run_neq_struct,mX]
end

section
variable {P:Program} {w:World} {F:Nat→Prop} {L:LMap} {o:Oper} {a:Act} {e:List AV} {b l b' l':List Row} {x:AV}

theorem sJ {xs:List (List AV)} {sz blk p:Nat} (hz:0<sz) (h1:∀(k:Nat) (row:List AV),xs[k]? = some row→row.length=sz)
  (h2:∀(k:Nat) (row:List AV) (j:Nat) (c:AV),xs[k]? = some row→row[j]? = some c→c.cell=true∧∃u,w.cell? ⟨blk,p+k*sz+j,none⟩=some u∧RepA w F L c u) :
  ∃news:Array Value,news.size=xs.length*sz∧GM w F L sz xs news∧(∀u∈news.toList,u.oneCell'=true)∧∀j u,news[j]? = some u→w.cell? ⟨blk,p+j,none⟩=some u:=by
 have hq:∀q,q<xs.length*sz→∃c u,w.cell? ⟨blk,p+q,none⟩=some u∧RepA w F L c u∧c.cell=true:=by
  intro q hq
  have hk:q / sz<xs.length:=by rw[Nat.div_lt_iff_lt_mul hz];exact hq
  have sD:=ah hk
  have pC:=h1 _ _ sD
  have hj:q % sz<xs[q / sz].length:=by rw[pC];exact Nat.mod_lt _ hz
  obtain⟨c1,u,hu,hr⟩:=h2 _ _ _ _ sD (ah hj)
  have hqe:q / sz*sz+q % sz=q:=Nat.div_add_mod' q sz
  exact⟨_,u,by rw[←hqe,←ct];exact hu,hr,c1⟩
 refine⟨(Array.range (xs.length*sz)).map fun q=>(w.cell? ⟨blk,p+q,none⟩).getD undef,by simp,⟨h1,fun k row j c hk hj=>?_⟩,fun u hu=>?_,fun j u hju=>?_⟩
 ·obtain⟨c1,u,hu,hr⟩:=h2 k row j c hk hj
  have GN:k<xs.length:=(ak.1 hk).1
  have rG:j<sz:=by rw[←h1 k row hk];exact (ak.1 hj).1
  have yA:k*sz+j<xs.length*sz:=by have:=EG (sz:=sz) (j:=j) (n:=1) GN oM;omega
  refine⟨c1,u,?_,hr⟩
  rw[ct]at hu
  simp[yA,hu]
 ·simp at hu
  obtain⟨q,hql,rfl⟩:=hu
  obtain⟨c,u,h3,h4,h5⟩:=hq q hql
  rw[h3]
  exact h4.one h5
 ·simp at hju
  obtain⟨rG,rfl⟩:j<xs.length*sz∧(w.cell? ⟨blk,p+j,none⟩).getD undef=u:=by
   rw[Array.getElem?_range]at hju
   split at hju
   ·rename_i yA;exact⟨yA,by simpa using hju⟩
   ·simp at hju
  obtain⟨c,u,h3,h4,h5⟩:=hq j rG
  rw[h3];rfl

theorem mA {sz n:Nat} {blk p len cap:Nat} {news:Array Value} (h:∀j u,news[j]? = some u→w.cell? ⟨blk,p+j,none⟩=some u) (hn:n*sz≤news.size) {w2:World} (hw:w2.heap=w.heap) :
  (Builtin.firstCells sz n (.slice (some ⟨blk,p,none⟩) len cap)).run P w2=.ok (news.extract 0 (n*sz)) w2:=by
 have:=run_loadCells_list (P:=P) w2 ⟨blk,p,none⟩ (news.extract 0 (n*sz)).toList (fun j u hu=>by
  rw[Addr.add_lit]
  have hc:w2.cell? ⟨blk,p+j,none⟩=w.cell? ⟨blk,p+j,none⟩:=World.cell?_of_block (by rw[hw])
  rw[hc]
  refine h j u ?_
  simp only[fz,ko,fd,gz,cz]at hu
  split at hu
  ·simpa using hu
  ·cases hu)
 have hl:(news.extract 0 (n*sz)).toList.length=n*sz:=by simp;omega
 rw[hl,ip]at this
 exact this

theorem EN (s:Sim F L (b++l) w) {sz:Nat} (hz:0<sz) {q:AV} {v:Value} {xs:List (List AV)} (h:fE b l sz q=some xs) (hr:RepA w F L q v) :
  (∀w2,(Builtin.lenOf v).run P w2=.ok xs.length w2)∧∃news:Array Value,news.size=xs.length*sz∧GM w F L sz xs news∧(∀u∈news.toList,u.oneCell'=true) ∧
   ∀n w2,n≤xs.length→w2.heap=w.heap→(Builtin.firstCells sz n v).run P w2=.ok (news.extract 0 (n*sz)) w2:=by
 have empty:∀(ad:Option Addr) (c:Nat),v=.slice ad 0 c→xs=[]→(∀w2,(Builtin.lenOf v).run P w2=.ok xs.length w2)∧∃news:Array Value,news.size=xs.length*sz∧GM w F L sz xs news∧(∀u∈news.toList,u.oneCell'=true) ∧
   ∀n w2,n≤xs.length→w2.heap=w.heap→(Builtin.firstCells sz n v).run P w2=.ok (news.extract 0 (n*sz)) w2:=by
  intro ad c hv hx
  subst hv;subst hx
  refine⟨fun w2=>by simp[Builtin.lenOf],#[],by simp,⟨by simp,by simp⟩,by simp,fun n w2 hn _=>?_⟩
  have:n=0:=by simpa using hn
  subst this
  cases ad<;>simp[Builtin.firstCells,loadCells,loadCellsFrom]
 unfold fE at h
 split at h
 ·cases h
  cases hr.vI
  exact empty _ _ rfl rfl
 ·rename_i s0 rows
  split at h
  case isFalse=>cases h
  rename_i hs
  subst hs
  cases h
  cases hr.vI with
  |isl0 _ ad c=>exact empty _ _ rfl rfl
  |isl _ b1 off _ c val h1 h2 h3 h4 h5 h6 =>
    obtain⟨news,n1,n2,n3,n4⟩:=sJ (w:=w) (F:=F) (L:=L) (xs:=rows.map (·.map .v)) (blk:=b1) (p:=off) hz (fun k row hk=>by
     rw[an]at hk
     cases hq:rows[k]? with
     |none=>simp[hq]at hk
     |some r0=>simp[hq]at hk;subst hk;simpa using h4 k r0 hq) (fun k row j c hk hj=>by
     rw[an]at hk
     cases hq:rows[k]? with
     |none=>simp[hq]at hk
     |some r0 =>
       simp[hq]at hk
       subst hk
       rw[an]at hj
       cases FS:r0[j]? with
       |none=>simp[FS]at hj
       |some y =>
         simp[FS]at hj
         subst hj
         exact⟨rfl,_,h5 k r0 j y hq FS,.v _ _ (h6 k r0 j y hq FS)⟩)
    refine⟨fun w2=>by simp[Builtin.lenOf],news,n1,n2,n3,fun n w2 hn hw=>mA n4 (by rw[n1];exact ck _ hn) hw⟩
 ·rename_i id ver off len
  split at h
  case h_2=>cases h
  rename_i v0 s0 els hg
  split at h
  case isFalse=>cases h
  rename_i hs
  obtain⟨rfl,rfl,CJ⟩:=hs
  cases h
  rw[PC]at hg
  cases hr with
  |sl _ _ _ _ b1 o1 z1 c1 hL h1 h2 =>
    obtain⟨lc,k1,k2⟩:=s.row _ _ _ _ hg
    rw[hL]at k1;cases k1
    obtain⟨rfl,k3,k4,cur,T,k5,k6,k7,k8⟩:=k2
    have mJ:∀(k:Nat) (row:List AV),((els.drop off).take len)[k]? = some row→els[off+k]? = some row:=by
     intro k row hk
     rw[cz]at hk
     split at hk
     ·rwa [de]at hk
     ·cases hk
    obtain⟨news,n1,n2,n3,n4⟩:=sJ (w:=w) (F:=F) (L:=L) (xs:=(els.drop off).take len) (blk:=b1) (p:=o1+off*z1) hz (fun k row hk=>k7 _ _ (mJ k row hk)) (fun k row j c hk hj=>by
     obtain⟨c1,u,hu,hru⟩:=k8 _ _ j c (mJ k row hk) hj
     refine⟨c1,u,?_,hru⟩
     rw[bp]at hu
     simp[World.cell?,k5,←ct]at hu⊢
     exact hu)
    have pC:((els.drop off).take len).length=len:=by simp;omega
    refine⟨fun w2=>by rw[pC];simp[Builtin.lenOf],news,n1,n2,n3,fun n w2 hn hw=>mA n4 (by rw[n1];exact ck _ hn) hw⟩
  |slz _ _ _ b1 o1 z1 c1 x1 hL sQ=>exact empty _ _ rfl kS
  |sln _ _ ad hL=>exact empty _ _ rfl kS
 ·rename_i str
  split at h
  case isFalse=>cases h
  rename_i hs
  subst hs
  cases h
  have hv:=LP hr
  subst hv
  have zN:str.data.size=str.size:=rfl
  refine⟨fun w2=>by simp[Builtin.lenOf,zN],str.data.map fun c=>.int .u8 c.toNat,by simp,⟨fun k row hk=>?_,fun k row j c hk hj=>?_⟩,fun u hu=>?_,fun n w2 hn hw=>?_⟩
  ·rw[an]at hk
   cases hq:str.data.toList[k]? with
   |none=>simp[hq]at hk
   |some c=>simp[hq]at hk;subst hk;rfl
  ·rw[an]at hk
   cases hq:str.data.toList[k]? with
   |none=>simp[hq]at hk
   |some ch =>
     simp[hq]at hk
     subst hk
     cases j with
     |succ j=>simp at hj
     |zero =>
       simp at hj
       subst hj
       refine⟨rfl,.int .u8 ch.toNat,?_,toN _ _⟩
       have:str.data[k]? = some ch:=by simpa using hq
       simp[this]
  ·simp at hu
   obtain⟨c,_,rfl⟩:=hu
   rfl
  ·simp[Builtin.firstCells]
 ·cases h

theorem QY {xs:List (List AV)} {ns:List Int} (h:qQ xs=some ns) {news:Array Value} (hs:news.size=xs.length*1) (hr:GM w F L 1 xs news):news=(ns.map (Value.int .u8)).toArray:=by
 have key:∀(xs:List (List AV)) (ns:List Int),qQ xs=some ns→xs.length=ns.length∧∀(k:Nat) (n:Int),ns[k]? = some n→xs[k]? = some [.v (.int .u8 n)]:=by
  intro xs
  induction xs with
  |nil=>intro ns h;cases h;exact⟨rfl,by simp⟩
  |cons x xs ih =>
    intro ns h
    unfold qQ at h
    split at h
    ·rename_i h0;cases h0
    ·rename_i n rs h0
     cases h0
     obtain⟨ms,h1,h2⟩:=kp.1 h
     subst h2
     obtain⟨i1,i2⟩:=ih ms h1
     refine⟨by simp[i1],fun k m hk=>?_⟩
     cases k with
     |zero=>simp at hk⊢;exact hk
     |succ k=>simp at hk⊢;exact i2 k m hk
    ·cases h
 obtain⟨k1,k2⟩:=key xs ns h
 apply Array.ext_getElem?
 intro j
 by_cases hj:j<ns.length
 ·have hn:=k2 j ns[j] (ah hj)
  obtain⟨_,u,g1,g2⟩:=hr.2 j _ 0 _ hn rfl
  rw[MH g2]at g1
  simp only[iq,eo]at g1
  rw[g1]
  simp[hj]
 ·rw[kq oM,kq (by simp;omega)]
theorem ZC8 (s:Sim F L (b++l) w) (he:RB w F L e a) {t u el:TypeId} (ht:P.underlying t=some (.slice el)) (mJ:P.underlying el=some (.int .u8)) (hu:P.underlying u=some .string) {y:Operand} {z:Opd} (ho:o.op=.convert t u y) (hy:eA y=some z)
  (h:aop e b l (.tostr z)=.val x b' l'):ZB P o a w F L b l x b' l':=by
 have hr:=pA he hy
 simp only[aop]at h
 generalize ev e z=q at *
 generalize hv:a.eval y=v at hr
 unfold bD at h
 split at h
 ·cases h
 rename_i hns
 split at h
 case h_2=>cases h
 rename_i xs e9
 split at h
 case h_2=>cases h
 rename_i ns LY
 cases h
 obtain⟨h1,news,n1,n2,_,n4⟩:=EN s (P:=P) (sz:=1) kE e9 hr
 obtain⟨ad,len,cap,rfl⟩:∃ad len cap,v=.slice ad len cap:=by
  unfold fE at e9
  split at e9
  ·cases hr.vI;exact⟨_,_,_,rfl⟩
  ·split at e9
   ·cases hr.vI<;>exact⟨_,_,_,rfl⟩
   ·cases e9
  ·cases hr<;>exact⟨_,_,_,rfl⟩
  ·exact absurd rfl (hns _)
  ·cases e9
 have pC:len=xs.length:=by
  have:=h1 w
  simp[Builtin.lenOf]at this
  exact this
 have hnw:=QY LY n1 n2
 have hf:=n4 len w oM rfl
 have zN:news.size=len:=by omega
 have JF:news.extract 0 (len*1)=news:=by
  apply Array.ext_getElem?
  intro j
  rw[eu]
  by_cases hj:j<news.size
  ·rw[if_pos oM,cm]
  ·rw[if_neg oM,kq oM]
 rw[JF,hnw]at hf
 refine ZB.pure s (v:=.string (LW ns)) ?_ (toS _)
 have hc:(convert t u (.slice ad len cap)).run P w=.ok (.string (LW ns)) w:=by
  rw[run_convert_bytes_string w t u el ad len cap ht mJ hu]
  cases ad with
  |none =>
    have h0:(ns.map (Value.int .u8)).toArray=#[]:=by
     simp[Builtin.firstCells]at hf
     simp[hf]
    have:ns=[]:=by simpa using h0
    subst this
    simp[Conv.bytesToString,LW]
    rfl
  |some ad =>
    have hl:(loadCells ad len).run P w=.ok (ns.map (Value.int .u8)).toArray w:=by
     simpa [Builtin.firstCells] using hf
    rw[run_bytesToString w ad len cap ns hl]
    have key:∀(ns:List Int) (s:ByteArray),ns.foldl (fun r n=>r.push (UInt8.ofNat n.toNat)) s=⟨s.data++(ns.map fun n=>UInt8.ofNat n.toNat).toArray⟩:=by
     intro ns
     induction ns with
     |nil=>intro s;simp
     |cons n ns ih=>intro s;rw[km,ih];simp[ByteArray.push]
    rw[key]
    simp[LW,ByteArray.empty,ByteArray.emptyWithCapacity]
    try rfl
 simp[execOp,ho,hv,hc]

theorem notInt_or {d:TypeDesc} (h:wN (some d)=true):(∃el,d=.slice el)∨d=.string:=by
 cases d<;>first|(cases h;done)|exact .inl ⟨_,rfl⟩|exact .inr rfl

theorem AF {t u el ty:TypeId} {du:TypeDesc} {sz:Nat} (ht:P.underlying t=some (.slice el)) (hu:P.underlying u=some du) (hd:wN (some du)=true) (hs:rD P el=some sz)
  {blk p len cap m:Nat} {vx:Value} {news cur:Array Value} {T:TypeId} (hl:(Builtin.lenOf vx).run P w=.ok m w) (hf:(Builtin.firstCells sz m vx).run P w=.ok news w) (hn:news.size=m*sz)
  (JC:len+m≤cap) (O0:w.heap[blk]? = some (.cells cur T (0,0))) (JI:p+len*sz+m*sz≤cur.size) (h1:∀u∈news.toList,u.oneCell'=true) :
  (Builtin.append_ #[t,u] ty #[.slice (some ⟨blk,p,none⟩) len cap,vx]).run P w=.ok (.slice (some ⟨blk,p,none⟩) (len+m) cap) (w.setRow blk (cur.toList.take (p+len*sz)++news.toList++cur.toList.drop (p+len*sz+news.toList.length)).toArray):=by
 have pG:=run_storeCells_at P blk (p+len*sz) T news.toList 0 cur w O0 (by simp;omega) h1
 simp only[eo]at pG
 rcases notInt_or hd with ⟨el',rfl⟩|rfl<;>simp[Builtin.append_,run_underlying ht,run_underlying hu,aA hs,hl,JC,hf,Addr.add_lit,pG]

theorem mG {t u el ty:TypeId} {du:TypeDesc} {sz bytes:Nat} {i:TypeInfo} {z:Value} (ht:P.underlying t=some (.slice el)) (hu:P.underlying u=some du) (hd:wN (some du)=true) (hs:rD P el=some sz)
  (hi:P.info? el=some i) (hz:i.zero=some z) (WN:i.bytes=bytes)
  {base:Option Addr} {len cap m:Nat} {vx:Value} {olds news:Array Value} (hl:(Builtin.lenOf vx).run P w=.ok m w)
  (hf:(Builtin.firstCells sz m vx).run P w.drew=.ok news w.drew) (ho:(Builtin.firstCells sz len (.slice base len cap)).run P w.drew=.ok olds w.drew)
  (JC:cap<len+m) (jL:(len+m)*bytes≤140737488355328) (hm:len+m≤140737488355328) (h0:0<bytes) :
  (Builtin.append_ #[t,u] ty #[.slice base len cap,vx]).run P w=.ok (.slice (some ⟨w.heap.size,0,none⟩) (len+m) (grownCap w (len+m) cap el))
    (w.drew.alloc (.cells (olds++news++Builtin.zeroCells z.cells (grownCap w (len+m) cap el-(len+m))) el)):=by
 have hn:¬(len+m≤cap):=by omega
 have h63:¬(9223372036854775807<((len:Int)+(m:Int))):=by omega
 have ZJ8:=growslice_fits (need:=len+m) (old:=cap) (bytes:=bytes) JC jL
 have h48:¬(281474976710656<Builtin.nextslicecap (len+m) cap*i.bytes):=by rw[WN];omega
 rcases notInt_or hd with ⟨el',rfl⟩|rfl<;>simp[Builtin.append_,run_underlying ht,run_underlying hu,aA hs,typeInfo,zeroValue,hi,hz,hl,hn,h63,h48,Question.forced,ho,hf,newRow,grownCap]
end

section
variable {P:Program} {w:World} {F:Nat→Prop} {L:LMap} {o:Oper} {a:Act} {e:List AV} {b l b' l':List Row} {x:AV}

theorem GM.append {sz:Nat} {xs ys:List (List AV)} {us vs zs:Array Value} (h:GM w F L sz xs us) (k:GM w F L sz ys vs) (hu:us.size=xs.length*sz) (hv:vs.size=ys.length*sz):GM w F L sz (xs++ys) (us++vs++zs):=by
 refine⟨fun i row hi=>?_,fun i row j c hi hj=>?_⟩
 ·by_cases yA:i<xs.length
  ·rw[aw yA]at hi;exact h.1 i row hi
  ·rw[ar oM]at hi;exact k.1 _ row hi
 ·by_cases yA:i<xs.length
  ·rw[aw yA]at hi
   obtain⟨h1,u,h2,h3⟩:=h.2 i row j c hi hj
   have:i*sz+j<us.size:=(bo.1 h2).1
   exact⟨h1,u,by rw[Array.append_assoc,cg this];exact h2,h3⟩
  ·rw[ar oM]at hi
   obtain⟨h1,u,h2,h3⟩:=k.2 _ row j c hi hj
   have h4:(i-xs.length)*sz+j<vs.size:=(bo.1 h2).1
   have h5:i*sz=xs.length*sz+(i-xs.length)*sz:=by rw[←bp];congr 1;omega
   refine⟨h1,u,?_,h3⟩
   rw[cg (by simp;omega),ec oM]
   rw[show i*sz+j-us.size=(i-xs.length)*sz+j by omega]
   exact h2

theorem fH {t u el ty:TypeId} {du:TypeDesc} {sz:Nat} (ht:P.underlying t=some (.slice el)) (hu:P.underlying u=some du) (hd:wN (some du)=true) (hs:rD P el=some sz)
  {base:Option Addr} {len cap:Nat} {vx:Value} (hl:(Builtin.lenOf vx).run P w=.ok 0 w) (hf:(Builtin.firstCells sz 0 vx).run P w=.ok #[] w) (CJ:len≤cap) :
  (Builtin.append_ #[t,u] ty #[.slice base len cap,vx]).run P w=.ok (.slice base len cap) w:=by
 rcases notInt_or hd with ⟨el',rfl⟩|rfl<;>cases base<;>simp[Builtin.append_,run_underlying ht,run_underlying hu,aA hs,hl,hf,CJ,storeCells]

theorem Sim.bumpNil {h:List Row} (s:Sim F L h w) {id ver sz:Nat} {els:List (List AV)} (hr:h[id]? = some (.live ver sz els)) (hL:L id ver=some .nil) :
  ∃L':LMap,Sim F L' (h.set id (.live (ver+1) sz [])) w∧Step h.length F L h w F L' (h.set id (.live (ver+1) sz [])) w∧L' id (ver+1)=some .nil∧∀i v l,L i v=some l→L' i v=some l:=by
 have hid:id<h.length:=(ak.1 hr).1
 have tN:L id (ver+1)=none:=by
  cases hq:L id (ver+1) with
  |none=>rfl
  |some q =>
    obtain⟨r,h1,h2⟩:=s.born _ _ _ hq
    rw[hr]at h1;cases h1
    simp[Row.ver]at h2
    omega
 obtain⟨L',LS,XX,mT⟩:∃L':LMap,L' id (ver+1)=some .nil∧(∀i v l,L i v=some l→L' i v=some l)∧∀i v,(i≠id∨v≠ver+1)→L' i v=L i v:=by
  refine⟨fun i v=>if i=id∧v=ver+1 then some .nil else L i v,by simp,?_,?_⟩
  ·intro i v q hl
   by_cases hi:i=id∧v=ver+1
   ·obtain⟨rfl,rfl⟩:=hi
    rw[tN]at hl;cases hl
   ·simp[hi,hl]
  ·intro i v hi
   have:¬(i=id∧v=ver+1):=fun ⟨a,b⟩=>hi.elim (fun h=>h a) (fun h=>h b)
   simp[this]
 have mono:∀{x:AV} {v:Value},RepA w F L x v→RepA w F L' x v:=fun hx=>hx.mono (fun _ h=>h) (fun _ _=>rfl) XX
 have own:∀k,bC L' (h.set id (.live (ver+1) sz [])) k→bC L h k:=by
  rintro k ⟨i,v,z,e1,q1,h1,h2,h3⟩
  by_cases hi:i=id
  ·subst hi
   rw[ay hid]at h1;cases h1
   rw[LS]at h2;cases h2
   exact h3.elim
  ·rw[bf (Ne.symm hi)]at h1
   rw[mT i v (.inl hi)]at h2
   exact⟨i,v,z,e1,q1,h1,h2,h3⟩
 refine⟨L',⟨?_,?_,?_,fun k hk=>⟨(s.imm k hk).1,fun ho=>(s.imm k hk).2 (own k ho)⟩,s.glob⟩,⟨fun _ h=>h,fun i v l _ hl=>XX i v l hl,rfl,rfl,rfl,ai _,fun _ _ _=>rfl,fun k _ ho=>own k ho,?_,fun _ _ h=>.inl h⟩,LS,XX⟩
 ·intro j v z e1 hj
  by_cases JG:j=id
  ·subst JG
   rw[ay hid]at hj
   cases hj
   exact⟨.nil,LS,rfl⟩
  ·rw[bf (Ne.symm JG)]at hj
   obtain⟨l,ZQ,iV⟩:=s.row j v z e1 hj
   exact⟨l,XX _ _ _ ZQ,iV.mono (fun _ _=>rfl) (fun _ _=>mono)⟩
 ·intro i v l ZQ
  by_cases hi:i=id
  ·subst hi
   refine⟨_,ay hid,?_⟩
   by_cases hv:v=ver+1
   ·subst hv;exact ai _
   ·rw[mT i v (.inr hv)]at ZQ
    obtain⟨r,h1,h2⟩:=s.born _ _ _ ZQ
    rw[hr]at h1;cases h1
    exact dh h2 (ir _)
  ·rw[mT i v (.inl hi)]at ZQ
   obtain⟨r,h1,h2⟩:=s.born _ _ _ ZQ
   exact⟨r,by rw[bf (Ne.symm hi)];exact h1,h2⟩
 ·intro i i' v v' z z' e1 e2 b q1 q2 h1 h2 h3 h4 h5 h6
  by_cases hi:i=id
  ·subst hi
   rw[ay hid]at h1;cases h1
   rw[LS]at h3;cases h3
   exact h5.elim
  ·by_cases hi':i'=id
   ·subst hi'
    rw[ay hid]at h2;cases h2
    rw[LS]at h4;cases h4
    exact h6.elim
   ·rw[bf (Ne.symm hi)]at h1
    rw[bf (Ne.symm hi')]at h2
    rw[mT i v (.inl hi)]at h3
    rw[mT i' v' (.inl hi')]at h4
    exact s.apart i i' v v' z z' e1 e2 b q1 q2 h1 h2 h3 h4 h5 h6
 ·intro i hi v hv
  by_cases hii:i=id
  ·subst hii;rw[hr]at hv;cases hv
  ·rw[bf (Ne.symm hii)];exact hv

theorem XN {h:List Row} (s:Sim F L h w) {id ver sz:Nat} {els:List (List AV)} (hr:h[id]? = some (.live ver sz els)):L id (ver+1)=none:=by
 cases hq:L id (ver+1) with
 |none=>rfl
 |some q =>
   obtain⟨r,h1,h2⟩:=s.born _ _ _ hq
   rw[hr]at h1;cases h1
   simp[Row.ver]at h2
   omega

theorem ZAU (s:Sim F L (b++l) w) (he:RB w F L e a) {c:Call} {t u el:TypeId} {sz bytes:Nat} {zs:List AV} (ht:P.underlying t=some (.slice el)) (hu:wN (P.underlying u)=true)
  (hs:rD P el=some sz) (WN:jO P el=some bytes) (hz:uF P el=some zs) (R7:zs.length=sz) (h0:0<sz) (hb0:0<bytes)
  {y z:Operand} {y' z':Opd} (hc:c.callee=.builtin .append) (ha:c.args.toList=[y,z]) (wW:c.argTypes.toList=[t,u]) (ho:o.op=.call c) (hy:eA y=some y') (hz':eA z=some z')
  (h:aop e b l (.append sz bytes y' z')=.val x b' l'):ZB P o a w F L b l x b' l':=by
 obtain⟨i,zv,hi,xW,vU⟩:=YE hz
 obtain⟨c1,c2⟩:=LE (w:=w) (F:=F) (L:=L) vU
 have hzv:zv.cells.size=sz:=by have:=c1.1;simp at this;omega
 have hbz:i.bytes=bytes:=by simp[jO,hi]at WN;exact WN
 obtain⟨du,hdu,hd⟩:∃du,P.underlying u=some du∧wN (some du)=true:=by
  cases hq:P.underlying u with
  |none=>rw[hq]at hu;cases hu
  |some du=>rw[hq]at hu;exact⟨du,rfl,hu⟩
 have h1:=pA he hy
 have h2:=pA he hz'
 simp only[aop]at h
 generalize ev e y'=q at *
 generalize ev e z'=r at *
 have ML:∀v w',(Builtin.append_ #[t,u] o.type #[a.eval y,a.eval z]).run P w=.ok v w'→(execOp a.eval o).run P w=.ok (.value v) w':=by
  intro v w' hr
  rw[TD ho hc ha wW]
  simp[invoke,builtin,hr]
 unfold IC at h
 split at h
 case h_1=>cases h
 rename_i xs e9
 obtain⟨pC,news,n1,n2,n3,n4⟩:=EN (P:=P) s h0 e9 h2
 have ZEZ:xs.length=0→(Builtin.firstCells sz 0 (a.eval z)).run P w=.ok #[] w:=by
  intro hx
  have:=n4 0 w (aj _) rfl
  simpa using this
 have ZJ9:news.extract 0 (xs.length*sz)=news:=by rw[←n1];simp
 have hf:∀w2,w2.heap=w.heap→(Builtin.firstCells sz xs.length (a.eval z)).run P w2=.ok news w2:=by
  intro w2 hw
  have:=n4 xs.length w2 (ai _) hw
  rwa [ZJ9]at this
 split at h
 ·split at h
  ·rename_i hx0
   cases h
   obtain⟨ad,hv⟩:∃ad,a.eval y=.slice ad 0 0:=by
    generalize a.eval y=v at h1
    cases h1.vI;exact⟨_,rfl⟩
   refine ZB.pure s (v:=a.eval y) (ML _ _ ?_) h1
   rw[hv]
   have hl0:=pC w
   rw[hx0]at hl0
   exact fH ht hdu hd hs hl0 (ZEZ (by rw[hx0];rfl)) (ai _)
  ·rename_i hx0
   split at h
   case isFalse=>cases h
   rename_i hb
   unfold room at hb
   obtain⟨ad,hv⟩:∃ad,a.eval y=.slice ad 0 0:=by
    generalize a.eval y=v at h1
    cases h1.vI;exact⟨_,rfl⟩
   have Q1:0<xs.length:=by cases xs with
    |nil=>exact absurd rfl hx0
    |cons _ _=>simp
   have LG:(Builtin.firstCells sz 0 (.slice ad 0 0)).run P w.drew=.ok #[] w.drew:=by
    cases ad<;>simp[Builtin.firstCells,loadCells,loadCellsFrom]
   have AC:=mG (P:=P) (w:=w) (ty:=o.type) ht hdu hd hs hi xW hbz (base:=ad) (len:=0) (cap:=0) (pC w) (hf _ rfl) LG oM (by simpa using hb.1) (by simpa using hb.2) hb0
   rw[←hv]at AC
   simp only[cm,Array.empty_append]at AC
   have xH:=grownCap_ge w xs.length 0 el
   have iM:grownCap w xs.length 0 el≤maxLen:=grownCap_le_maxLen w _ 0 el (by unfold maxLen;omega)
   refine CW s (w':=w.drew.alloc (.cells (news++Builtin.zeroCells zv.cells (grownCap w xs.length 0 el-xs.length)) el)) (cur:=news++Builtin.zeroCells zv.cells (grownCap w xs.length 0 el-xs.length)) (T:=el) (cap:=grownCap w xs.length 0 el)
    (v:=.slice (some ⟨w.heap.size,0,none⟩) xs.length (grownCap w xs.length 0 el)) (.inl (ML _ _ AC)) rfl rfl rfl rfl xH iM ?_ n2.1 ?_ ?_ h
   ·rw[bs,size_zeroCells,n1,hzv,←bp]
    exact ck _ oM
   ·intro k row j cc hk hj
    obtain⟨g1,v,g2,g3⟩:=n2.2 k row j cc hk hj
    exact⟨g1,v,by rw[cg (bo.1 g2).1];exact g2,g3⟩
   ·intro L' hL'
    have:=RepA.sl (w:=w.drew.alloc (.cells (news++Builtin.zeroCells zv.cells (grownCap w xs.length 0 el-xs.length)) el)) (F:=F) (b.length+l.length) 0 0 xs.length _ _ _ _ hL' oM iM
    simpa using this
 ·rename_i id ver off len
  split at h
  case h_2=>cases h
  rename_i v0 s0 els hg
  split at h
  case isFalse=>cases h
  rename_i hb
  obtain⟨rfl,rfl,CJ,jL,JC⟩:=hb
  unfold room at jL JC
  cases h
  have hg':(b++l)[id]? = some (.live v0 s0 els):=by rw[←PC];exact hg
  have hid:id<(b++l).length:=(ak.1 hg').1
  have hfr:=XN s hg'
  have mJ:fE b l s0 (.sl id v0 off len)=some ((els.drop off).take len):=by simp[fE,hg,CJ]
  obtain⟨klen,olds,m1,m2,m3,m4⟩:=EN (P:=P) s h0 mJ h1
  have ZX:((els.drop off).take len).length=len:=by simp;omega
  rw[ZX]at m1 m4 klen
  have holds:olds.extract 0 (len*s0)=olds:=by rw[←m1];simp
  have grow:∀base cap,a.eval y=.slice base len cap→cap<len+xs.length→ZB P o a w F L b l (.sl id (v0+1) 0 (len+xs.length)) (vE b id (.live (v0+1) s0 ((els.drop off).take len++xs))) (lE b l id (.live (v0+1) s0 ((els.drop off).take len++xs))):=by
   intro base cap hv yA
   have ho2:=m4 len w.drew (ai _) rfl
   rw[hv,holds]at ho2
   have AC:=mG (P:=P) (w:=w) (ty:=o.type) ht hdu hd hs hi xW hbz (pC w) (hf _ rfl) ho2 yA jL JC hb0
   rw[←hv]at AC
   have xH:=grownCap_ge w (len+xs.length) cap el
   have iM:grownCap w (len+xs.length) cap el≤maxLen:=grownCap_le_maxLen w _ cap el (by unfold maxLen;omega)
   obtain⟨L',r1,r2,r3,r4⟩:=s.putRow (h':=(b++l).set id (.live (v0+1) s0 ((els.drop off).take len++xs))) (w':=w.drew.alloc (.cells (olds++news++Builtin.zeroCells zv.cells (grownCap w (len+xs.length) cap el-(len+xs.length))) el))
    id (v0+1) s0 w.heap.size 0 (grownCap w (len+xs.length) cap el) ((els.drop off).take len++xs) rfl rfl rfl kS (fun k hk _=>heap_alloc_old w.drew _ k hk) (.inl (ai _))
    (ay hid) (fun j hj=>bf (Ne.symm hj)) (fun r hr=>by rw[hg']at hr;cases hr;exact⟨ir _,_,_,_,rfl⟩) (.inl hfr)
    (by rw[aq,ZX];exact xH) iM (olds++news++Builtin.zeroCells zv.cells (grownCap w (len+xs.length) cap el-(len+xs.length))) el (heap_alloc_new w.drew _)
    (by
     rw[bs,bs,size_zeroCells,n1,m1,hzv,←bp,←bp,cm]
     exact ck _ oM)
    (GM.append m2 n2 (by rw[ZX];exact m1) n1 (zs:=Builtin.zeroCells zv.cells (grownCap w (len+xs.length) cap el-(len+xs.length)))).1
    (fun k row j cc hk hj=>by simpa using (GM.append m2 n2 (by rw[ZX];exact m1) n1 (zs:=Builtin.zeroCells zv.cells (grownCap w (len+xs.length) cap el-(len+xs.length)))).2 k row j cc hk hj)
   refine⟨_,_,L',.inl (ML _ _ AC),?_,by rw[QE];exact r1,by rw[QE];exact r2,QF _ _ _⟩
   have:=RepA.sl (w:=w.drew.alloc (.cells (olds++news++Builtin.zeroCells zv.cells (grownCap w (len+xs.length) cap el-(len+xs.length))) el)) (F:=F) id (v0+1) 0 (len+xs.length) _ _ _ _ r3 oM iM
   simpa using this
  generalize hv:a.eval y=vy at h1
  cases h1 with
  |sl _ _ _ _ b1 o1 z1 cap1 hL g1 g2 =>
    by_cases JI:len+xs.length≤cap1-off
    ·obtain⟨lc,k1,k2⟩:=s.row _ _ _ _ hg'
     rw[hL]at k1;cases k1
     obtain⟨rfl,k3,k4,cur,T,k5,k6,k7,k8⟩:=k2
     have ZIk:(off+(len+xs.length))*z1≤cap1*z1:=ck _ oM
     rw[bp,bp]at ZIk
     have AC:=AF (P:=P) (w:=w) (ty:=o.type) (p:=o1+off*z1) ht hdu hd hs (pC w) (hf _ rfl) n1 JI k5 oM n3
     rw[←hv]at AC
     have I0:news.toList.length=xs.length*z1:=by simpa using n1
     have FL:cur.toList.length=cur.size:=by simp
     have KO:(cur.toList.take (o1+off*z1+len*z1)++news.toList++cur.toList.drop (o1+off*z1+len*z1+news.toList.length)).toArray.size=cur.size:=by
      simp only[dq,aq,cf,ea,I0,FL]
      omega
     have hget:∀i,(cur.toList.take (o1+off*z1+len*z1)++news.toList++cur.toList.drop (o1+off*z1+len*z1+news.toList.length)).toArray[i]? = if o1+off*z1+len*z1≤i∧i<o1+off*z1+len*z1+xs.length*z1 then news[i-(o1+off*z1+len*z1)]? else cur[i]?:=by
      intro i
      have:=iI cur.toList news.toList (o1+off*z1+len*z1) i (by rw[I0,FL];omega)
      simp only[gy]
      rw[this,I0]
      simp
     obtain⟨L',r1,r2,r3,r4⟩:=s.putRow (h':=(b++l).set id (.live (v0+1) z1 ((els.drop off).take len++xs))) (w':=w.setRow b1 (cur.toList.take (o1+off*z1+len*z1)++news.toList++cur.toList.drop (o1+off*z1+len*z1+news.toList.length)).toArray)
      id (v0+1) z1 b1 (o1+off*z1) (cap1-off) ((els.drop off).take len++xs) rfl rfl rfl kS (fun i _ hi=>setRow_other w b1 i _ hi) (.inr ⟨_,_,_,_,_,_,hg',hL⟩)
      (ay hid) (fun j hj=>bf (Ne.symm hj)) (fun r hr=>by rw[hg']at hr;cases hr;exact⟨ir _,_,_,_,rfl⟩) (.inl hfr)
      (by rw[aq,ZX];exact JI) oM _ T (setRow_heap w b1 cur _ T _ k5)
      (by
       rw[KO]
       have:off*z1+(cap1-off)*z1=cap1*z1:=by rw[←bp];congr 1;omega
       omega)
      (fun k row hk=>by
       by_cases GN:k<len
       ·rw[aw oM]at hk;exact m2.1 k row hk
       ·rw[ar oM]at hk;exact n2.1 _ row hk)
      (fun k row j cc hk hj=>by
       rw[hget]
       by_cases GN:k<len
       ·rw[aw oM]at hk
        rw[cz,if_pos GN,de]at hk
        obtain⟨q1,u,q2,q3⟩:=k8 _ row j cc hk hj
        have rG:j<z1:=by rw[←k7 _ _ hk];exact (ak.1 hj).1
        have:=EG (sz:=z1) (j:=j) (n:=1) GN oM
        refine⟨q1,u,?_,q3⟩
        rw[if_neg oM]
        rw[bp]at q2
        rw[←q2];congr 1;omega
       ·rw[ar oM,ZX]at hk
        obtain⟨q1,u,q2,q3⟩:=n2.2 _ row j cc hk hj
        have hq:=(bo.1 q2).1
        have h5:k*z1=len*z1+(k-len)*z1:=by rw[←bp];congr 1;omega
        refine⟨q1,u,?_,q3⟩
        rw[if_pos oM,show o1+off*z1+k*z1+j-(o1+off*z1+len*z1)=(k-len)*z1+j by omega]
        exact q2)
     refine⟨_,_,L',.inl (ML _ _ AC),?_,by rw[QE];exact r1,by rw[QE];exact r2,QF _ _ _⟩
     have:=RepA.sl (w:=w.setRow b1 (cur.toList.take (o1+off*z1+len*z1)++news.toList++cur.toList.drop (o1+off*z1+len*z1+news.toList.length)).toArray) (F:=F) id (v0+1) 0 (len+xs.length) _ _ _ _ r3 oM oM
     simpa using this
    ·exact grow _ _ hv oM
  |slz _ _ _ b1 o1 z1 cap1 x1 hL sQ =>
    by_cases hx:xs.length=0
    ·obtain⟨lc,k1,k2⟩:=s.row _ _ _ _ hg'
     rw[hL]at k1;cases k1
     obtain⟨rfl,k3,k4,cur,T,k5,k6,k7,k8⟩:=k2
     have hxn:xs=[]:=co hx
     subst hxn
     have hl0:=pC w
     have AC:=fH (P:=P) (w:=w) (ty:=o.type) (base:=some ⟨b1,x1,none⟩) (len:=0) (cap:=0) ht hdu hd hs hl0 (ZEZ rfl) (ai _)
     rw[←hv]at AC
     obtain⟨L',r1,r2,r3,r4⟩:=s.putRow (h':=(b++l).set id (.live (v0+1) z1 ((els.drop off).take 0++[]))) (w':=w)
      id (v0+1) z1 b1 (o1+off*z1) 0 ((els.drop off).take 0++[]) rfl rfl rfl (ai _) (fun i _ hi=>rfl) (.inr ⟨_,_,_,_,_,_,hg',hL⟩)
      (ay hid) (fun j hj=>bf (Ne.symm hj)) (fun r hr=>by rw[hg']at hr;cases hr;exact⟨ir _,_,_,_,rfl⟩) (.inl hfr)
      kS kE cur T k5 (by rw[←sQ]at k6;omega) kS kS
     refine⟨a.eval y,w,L',.inl (ML _ _ (by rw[AC,hv])),?_,by rw[QE];exact r1,by rw[QE];exact r2,QF _ _ _⟩
     rw[hv]
     exact .slz id (v0+1) 0 _ _ _ _ x1 r3 rfl
    ·exact grow _ _ hv oM
  |sln _ _ ad hL =>
    by_cases hx:xs.length=0
    ·have hxn:xs=[]:=co hx
     subst hxn
     obtain⟨lc,k1,k2⟩:=s.row _ _ _ _ hg'
     rw[hL]at k1;cases k1
     have tV:els=[]:=k2
     subst tV
     have hl0:=pC w
     have AC:=fH (P:=P) (w:=w) (ty:=o.type) (base:=ad) (len:=0) (cap:=0) ht hdu hd hs hl0 (ZEZ rfl) (ai _)
     rw[←hv]at AC
     obtain⟨L',r1,r2,r3,r4⟩:=s.bumpNil hg' hL
     refine⟨a.eval y,w,L',.inl (ML _ _ (by rw[AC,hv])),?_,by rw[QE];exact r1,by rw[QE];exact r2,QF _ _ _⟩
     rw[hv]
     exact .sln id (v0+1) ad r3
    ·exact grow _ _ hv oM
 ·cases h

theorem YQ {t u el ty:TypeId} {sz bytes:Nat} {i:TypeInfo} {z:Value} (ht:P.underlying t=some (.slice el)) (hu:P.underlying u=some (.int .i64)) (hs:rD P el=some sz)
  (hi:P.info? el=some i) (hz:i.zero=some z) (WN:i.bytes=bytes) {base:Option Addr} {m:Nat} (hm0:0<m) (zN:0<sz) (jL:m*bytes≤140737488355328) (hm:m≤140737488355328) (h0:0<bytes) :
  (Builtin.append_ #[t,u] ty #[.slice base 0 0,.int .i64 (m:Int)]).run P w=.ok (.slice (some ⟨w.heap.size,0,none⟩) m (grownCap w m 0 el))
    (w.drew.alloc (.cells (Builtin.zeroCells z.cells m++Builtin.zeroCells z.cells (grownCap w m 0 el-m)) el)):=by
 have ZJ8:=growslice_fits (need:=m) (old:=0) (bytes:=bytes) hm0 jL
 have h48:¬(281474976710656<Builtin.nextslicecap m 0*i.bytes):=by rw[WN];omega
 have hw:IntKind.i64.wrap (m:Int)=(m:Int):=by rw[IntKind.wrap_i64];omega
 have h1:¬((m:Int)<0):=by omega
 have h2:¬(281474976710656<(m:Int)*(i.bytes:Int)):=by
  rw[WN]
  have:(m:Int)*(bytes:Int)=((m*bytes:Nat):Int):=by rw[Int.natCast_mul]
  omega
 have h3:¬(m*sz=0):=by
  have:0<m*sz:=Nat.mul_pos hm0 zN
  omega
 have h5:¬(9223372036854775807<(m:Int)):=by omega
 have h6:m≠0:=by omega
 cases base<;>simp[Builtin.append_,run_underlying ht,run_underlying hu,aA hs,typeInfo,zeroValue,hi,hz,asInt,asIntOf,hw,h1,h2,h3,h5,h6,h48,Question.forced,newRow,grownCap,Builtin.firstCells,loadCells,loadCellsFrom]

theorem uO {t u el ty:TypeId} {sz:Nat} {i:TypeInfo} (ht:P.underlying t=some (.slice el)) (hu:P.underlying u=some (.int .i64)) (hs:rD P el=some sz) (hi:P.info? el=some i) {base:Option Addr} :
  (Builtin.append_ #[t,u] ty #[.slice base 0 0,.int .i64 0]).run P w=.ok (.slice base 0 0) w:=by
 have hw:IntKind.i64.wrap 0=0:=by rw[IntKind.wrap_i64];omega
 cases base<;>simp[Builtin.append_,run_underlying ht,run_underlying hu,aA hs,typeInfo,hi,asInt,asIntOf,hw,storeCells]

theorem ZFo (s:Sim F L (b++l) w) (he:RB w F L e a) {c:Call} {t u el:TypeId} {sz bytes:Nat} {zs:List AV} (ht:P.underlying t=some (.slice el)) (hu:ZEV (P.underlying u)=true)
  (hs:rD P el=some sz) (WN:jO P el=some bytes) (hz:uF P el=some zs) (R7:zs.length=sz) (h0:0<sz) (hb0:0<bytes)
  {y z:Operand} {y' z':Opd} (hc:c.callee=.builtin .append) (ha:c.args.toList=[y,z]) (wW:c.argTypes.toList=[t,u]) (ho:o.op=.call c) (hy:eA y=some y') (hz':eA z=some z')
  (h:aop e b l (.appz sz bytes zs y' z')=.val x b' l'):ZB P o a w F L b l x b' l':=by
 obtain⟨i,zv,hi,xW,vU⟩:=YE hz
 obtain⟨c1,c2⟩:=LE (w:=w) (F:=F) (L:=L) vU
 have hzv:zv.cells.size=sz:=by have:=c1.1;simp at this;omega
 have hbz:i.bytes=bytes:=by simp[jO,hi]at WN;exact WN
 have hdu:P.underlying u=some (.int .i64):=by
  unfold ZEV at hu
  split at hu
  ·rename_i h;exact h
  ·cases hu
 have h1:=pA he hy
 have h2:=pA he hz'
 simp only[aop]at h
 generalize ev e y'=q at *
 generalize ev e z'=r at *
 have ML:∀v w',(Builtin.append_ #[t,u] o.type #[a.eval y,a.eval z]).run P w=.ok v w'→(execOp a.eval o).run P w=.ok (.value v) w':=by
  intro v w' hr
  rw[TD ho hc ha wW]
  simp[invoke,builtin,hr]
 unfold rF at h
 split at h
 case h_2=>cases h
 rename_i n
 obtain⟨ad,hv⟩:∃ad,a.eval y=.slice ad 0 0:=by
  generalize a.eval y=v at h1
  cases h1.vI;exact⟨_,rfl⟩
 have hn:=MH h2
 split at h
 ·rename_i hn0
  subst hn0
  cases h
  refine ZB.pure s (v:=a.eval y) (ML _ _ ?_) h1
  rw[hv,hn]
  exact uO ht hdu hs hi
 ·split at h
  case isFalse=>cases h
  rename_i hn0 hb
  obtain⟨g1,g2,g3⟩:=hb
  unfold room at g2 g3
  obtain⟨m,rfl⟩:∃m:Nat,n=m:=⟨n.toNat,by omega⟩
  simp only[cj]at *
  have hm0:0<m:=by omega
  have AC:=YQ (P:=P) (w:=w) (ty:=o.type) ht hdu hs hi xW hbz (base:=ad) hm0 h0 g2 g3 hb0
  rw[←hv,←hn]at AC
  have xH:=grownCap_ge w m 0 el
  have iM:grownCap w m 0 el≤maxLen:=grownCap_le_maxLen w _ 0 el (by unfold maxLen;omega)
  have OW:=DN (w:=w) (F:=F) (L:=L) (n:=m) c1 c2 R7 (m*sz) (ai _)
  have hmz:madeCells zv.cells (m*sz)=Builtin.zeroCells zv.cells m:=by unfold madeCells Builtin.zeroCells;rw[hzv]
  rw[hmz]at OW
  refine CW s (w':=w.drew.alloc (.cells (Builtin.zeroCells zv.cells m++Builtin.zeroCells zv.cells (grownCap w m 0 el-m)) el)) (cur:=Builtin.zeroCells zv.cells m++Builtin.zeroCells zv.cells (grownCap w m 0 el-m)) (T:=el) (cap:=grownCap w m 0 el)
   (v:=.slice (some ⟨w.heap.size,0,none⟩) m (grownCap w m 0 el)) (.inl (ML _ _ AC)) rfl rfl rfl rfl (by rw[kr];exact xH) iM ?_ OW.1 ?_ ?_ h
  ·rw[bs,size_zeroCells,size_zeroCells,hzv,←bp]
   exact ck _ oM
  ·intro k row j cc hk hj
   obtain⟨g1,v,g2,g3⟩:=OW.2 k row j cc hk hj
   exact⟨g1,v,by rw[cg (bo.1 g2).1];exact g2,g3⟩
  ·intro L' hL'
   have:=RepA.sl (w:=w.drew.alloc (.cells (Builtin.zeroCells zv.cells m++Builtin.zeroCells zv.cells (grownCap w m 0 el-m)) el)) (F:=F) (b.length+l.length) 0 0 m _ _ _ _ hL' oM iM
   simpa using this

theorem ZFi (s:Sim F L (b++l) w) (he:RB w F L e a) {c:Call} {t u el:TypeId} {sz:Nat} (ht:P.underlying t=some (.slice el)) (hs:rD P el=some sz) (h0:0<sz)
  {y z:Operand} {y' z':Opd} (hc:c.callee=.builtin .copy) (ha:c.args.toList=[y,z]) (wW:c.argTypes.toList=[t,u]) (ho:o.op=.call c) (hy:eA y=some y') (hz':eA z=some z')
  (h:aop e b l (.copy sz y' z')=.val x b' l'):ZB P o a w F L b l x b' l':=by
 have h1:=pA he hy
 have h2:=pA he hz'
 simp only[aop]at h
 generalize ev e y'=q at *
 generalize ev e z'=r at *
 have ML:∀v w',(Builtin.copy_ #[t,u] o.type #[a.eval y,a.eval z]).run P w=.ok v w'→(execOp a.eval o).run P w=.ok (.value v) w':=by
  intro v w' hr
  rw[TD ho hc ha wW]
  simp[invoke,builtin,hr]
 unfold dF at h
 split at h
 case h_1=>cases h
 rename_i xs e9
 obtain⟨pC,news,n1,n2,n3,n4⟩:=EN (P:=P) s h0 e9 h2
 split at h
 case h_2=>cases h
 rename_i id ver off len
 split at h
 case h_2=>cases h
 rename_i v0 s0 els hg
 split at h
 case isFalse=>cases h
 rename_i hb
 obtain⟨rfl,rfl,CJ⟩:=hb
 cases h
 have hg':(b++l)[id]? = some (.live v0 s0 els):=by rw[←PC];exact hg
 have hid:id<(b++l).length:=(ak.1 hg').1
 have hfn:=n4 (min xs.length len) w (Nat.min_le_left _ _) rfl
 have none_:∀base c0,a.eval y=.slice base 0 c0→len=0→ZB P o a w F L b l (.v (.int .i64 (min xs.length len:Nat))) (vE b id (.live v0 s0 (els.take off++xs.take len++els.drop (off+min xs.length len)))) (lE b l id (.live v0 s0 (els.take off++xs.take len++els.drop (off+min xs.length len)))):=by
  intro base c0 hv hl0
  subst hl0
  have tV:els.take off++xs.take 0++els.drop (off+min xs.length 0)=els:=by simp
  rw[tV]
  have xO:(b++l).set id (.live v0 s0 els)=b++l:=by
   apply dr
   intro j
   by_cases hj:id=j
   ·subst hj;rw[ay hid,hg']
   ·rw[bf hj]
  have AC:(Builtin.copy_ #[t,u] o.type #[a.eval y,a.eval z]).run P w=.ok (goInt 0) w:=by
   simp at hfn
   cases base<;>simp[Builtin.copy_,run_underlying ht,aA hs,pC w,hv,hfn,storeCells]
  refine⟨goInt 0,w,L,.inl (ML _ _ AC),by simp[goInt];exact toN .i64 0,by rw[QE,xO];exact s,by rw[QE,xO];exact Step.refl _ _ _ _ _,QF _ _ _⟩
 generalize hv:a.eval y=vy at h1
 cases h1 with
 |slz _ _ _ b1 o1 z1 cap1 x1 hL sQ=>exact none_ _ _ hv rfl
 |sln _ _ ad hL=>exact none_ _ _ hv rfl
 |sl _ _ _ _ b1 o1 z1 cap1 hL g1 g2 =>
   obtain⟨lc,k1,k2⟩:=s.row _ _ _ _ hg'
   rw[hL]at k1;cases k1
   obtain⟨rfl,k3,k4,cur,T,k5,k6,k7,k8⟩:=k2
   have FL:cur.toList.length=cur.size:=by simp
   have hmn:min xs.length len≤len:=Nat.min_le_right _ _
   have hmx:min xs.length len≤xs.length:=Nat.min_le_left _ _
   have ZIk:(off+min xs.length len)*z1≤cap1*z1:=ck _ oM
   rw[bp]at ZIk
   have VU:min xs.length len*z1≤xs.length*z1:=ck _ hmx
   have I0:(news.extract 0 (min xs.length len*z1)).toList.length=min xs.length len*z1:=by simp;omega
   have ZBa:∀v∈(news.extract 0 (min xs.length len*z1)).toList,v.oneCell'=true:=fun v hv2=>n3 v (by
    simp only[fz,ko,fd,gz]at hv2
    exact dt hv2)
   have pG:=run_storeCells_at P b1 (o1+off*z1) T (news.extract 0 (min xs.length len*z1)).toList 0 cur w k5 (by rw[I0];omega) ZBa
   simp only[eo]at pG
   have AC:(Builtin.copy_ #[t,u] o.type #[a.eval y,a.eval z]).run P w=.ok (goInt (min xs.length len:Nat)) (w.setRow b1 (cur.toList.take (o1+off*z1)++(news.extract 0 (min xs.length len*z1)).toList++cur.toList.drop (o1+off*z1+(news.extract 0 (min xs.length len*z1)).toList.length)).toArray):=by
    have ZIl:Nat.min xs.length len=min xs.length len:=rfl
    simp only[Builtin.copy_,run_underlying ht,aA hs,pC w,hv,Sem.run_bind,Result.andThen_ok,ZIl,hfn,pG,Sem.run_pure,gy,ku,ga]
   have KO:(cur.toList.take (o1+off*z1)++(news.extract 0 (min xs.length len*z1)).toList++cur.toList.drop (o1+off*z1+(news.extract 0 (min xs.length len*z1)).toList.length)).toArray.size=cur.size:=by
    simp only[dq,aq,cf,ea,I0,FL]
    omega
   have hget:∀i,(cur.toList.take (o1+off*z1)++(news.extract 0 (min xs.length len*z1)).toList++cur.toList.drop (o1+off*z1+(news.extract 0 (min xs.length len*z1)).toList.length)).toArray[i]? = if o1+off*z1≤i∧i<o1+off*z1+min xs.length len*z1 then news[i-(o1+off*z1)]? else cur[i]?:=by
    intro i
    have:=iI cur.toList (news.extract 0 (min xs.length len*z1)).toList (o1+off*z1) i (by rw[I0,FL];omega)
    simp only[gy]
    rw[this,I0]
    split
    ·rename_i GE
     simp only[fz,ko,fd,gz,cz]
     rw[if_pos oM]
     simp
    ·simp
   have htk:(els.take off).length=off:=by simp;omega
   have ZIm:(xs.take len).length=min xs.length len:=by simp[Nat.min_comm]
   have nG:∀k,(els.take off++xs.take len++els.drop (off+min xs.length len))[k]? = if off≤k∧k<off+min xs.length len then xs[k-off]? else els[k]?:=by
    intro k
    have:=iI els (xs.take len) off k (by rw[ZIm];omega)
    rw[ZIm]at this
    rw[this]
    split
    ·rename_i GE
     rw[cz,if_pos oM]
    ·rfl
   obtain⟨L',r1,r2,r3,r4⟩:=s.putRow (h':=(b++l).set id (.live v0 z1 (els.take off++xs.take len++els.drop (off+min xs.length len)))) (w':=w.setRow b1 (cur.toList.take (o1+off*z1)++(news.extract 0 (min xs.length len*z1)).toList++cur.toList.drop (o1+off*z1+(news.extract 0 (min xs.length len*z1)).toList.length)).toArray)
    id v0 z1 b1 o1 cap1 (els.take off++xs.take len++els.drop (off+min xs.length len)) rfl rfl rfl kS (fun i _ hi=>setRow_other w b1 i _ hi) (.inr ⟨_,_,_,_,_,_,hg',hL⟩)
    (ay hid) (fun j hj=>bf (Ne.symm hj)) (fun r hr=>by rw[hg']at hr;cases hr;exact⟨ai _,_,_,_,rfl⟩) (.inr hL)
    (by simp only[aq,htk,ZIm,ea];omega) k4 _ T (setRow_heap w b1 cur _ T _ k5) (by rw[KO];exact k6)
    (fun k row hk=>by
     rw[nG]at hk
     split at hk
     ·exact n2.1 _ row hk
     ·exact k7 _ row hk)
    (fun k row j cc hk hj=>by
     rw[nG]at hk
     rw[hget]
     split at hk
     ·rename_i GE
      obtain⟨q1,u,q2,q3⟩:=n2.2 _ row j cc hk hj
      have rG:j<z1:=by rw[←n2.1 _ _ hk];exact (ak.1 hj).1
      have h5:k*z1=off*z1+(k-off)*z1:=by rw[←bp];congr 1;omega
      have:=EG (sz:=z1) (j:=j) (n:=1) (show k-off<min xs.length len by omega) oM
      refine⟨q1,u,?_,q3⟩
      rw[if_pos oM,show o1+k*z1+j-(o1+off*z1)=(k-off)*z1+j by omega]
      exact q2
     ·rename_i GE
      have rG:j<z1:=by rw[←k7 _ _ hk];exact (ak.1 hj).1
      rw[if_neg ?_]
      ·exact k8 k row j cc hk hj
      ·rintro⟨p1,p2⟩
       by_cases hko:k<off
       ·have:=EG (sz:=z1) (j:=j) (n:=1) hko oM;omega
       ·have h5:k*z1=off*z1+(k-off)*z1:=by rw[←bp];congr 1;omega
        have:=ck z1 (show min xs.length len≤k-off by omega)
        omega)
   exact⟨_,_,L',.inl (ML _ _ AC),toN _ _,by rw[QE];exact r1,by rw[QE];exact r2,QF _ _ _⟩
end

section
variable {P:Program} {w:World} {F:Nat→Prop} {L:LMap} {o:Oper} {a:Act} {e:List AV} {b l b' l':List Row} {x:AV}

theorem IJ {α β:Type} {f:α→β} {y:Option α} {z:β} (h:y.map f=some z):∃q,y=some q∧z=f q:=by
 cases y with
 |none=>cases h
 |some q=>cases h;exact⟨q,rfl,rfl⟩
theorem HW {r:Nat} {es:Array MapEntry} {clk:Nat} (hb:w.heap[r]? = some (.map es clk)):(getObj r).run P w=.ok (.map es clk) w:=by
 simp[getObj,Sem.run,hb]
theorem X8 {r:Nat} {es:Array MapEntry} {clk:Nat} (o:Obj) (hb:w.heap[r]? = some (.map es clk)):(setObj r o).run P w=.ok () {w with heap:=w.heap.setIfInBounds r o}:=by
 simp[setObj,Sem.run,hb]
theorem PS {a b:ByteArray} (h:(a==b)=true):a=b:=by
 rw[beq_toListBytes]at h
 have:=eq_of_beq h
 rw[ByteArray.toList_eq,ByteArray.toList_eq]at this
 obtain⟨x⟩:=a
 obtain⟨y⟩:=b
 simp at this
 rw[this]
theorem iK (a:ByteArray):(a==a)=true:=by rw[beq_toListBytes];simp
def kOk:FK→AV→Bool
 |.i,.v (.int _ _)=>true
 |.b,.v (.bool _)=>true
 |.s,.v (.str _)=>true
 |_,_=>false
theorem SW {k:FK} {x y:AV} {r:Bool} (h:eqF k x y=some r):kOk k x=true:=by
 unfold eqF at h
 split at h<;>first|rfl|cases h

theorem ZH {em:Bool} {n:Nat} {t:TypeId} {k:FK} (hk:LI P t=some k) {x:AV} {v:Value} (hx:RepA w F L x v) (ho:kOk k x=true):(Instr.checkKey em (n+1) t v).run P w=.ok () w:=by
 unfold LI at hk
 unfold kOk at ho
 split at ho
 ·rename_i kk m
  split at hk<;>first|(cases hk;done)|skip
  rename_i hd
  rw[MH hx]
  simp[Instr.checkKey,run_underlying hd]
 ·rename_i t
  split at hk<;>first|(cases hk;done)|skip
  rename_i hd
  rw[CL hx]
  simp[Instr.checkKey,run_underlying hd]
 ·rename_i t
  split at hk<;>first|(cases hk;done)|skip
  rename_i hd
  rw[LP hx]
  simp[Instr.checkKey,run_underlying hd]
 ·cases ho

theorem WH {em:Bool} {d:Nat}:∀{fs:List Field} {n:Nat} {ks:List FK} {xs ys:List AV} {vs:Array Value} {r:Bool},qL P n fs=some ks →
  bA w F L xs (vs.toList.drop n)→eqC ks xs ys=some r→(forIn fs PUnit.unit (fun f (_:PUnit)=>(if f.name≠ "_" then do
    let x ←part f.type vs f.offset
    Instr.checkKey em (d+1) f.type x
    pure (ForInStep.yield PUnit.unit)
   else pure (ForInStep.yield PUnit.unit):Sem (ForInStep PUnit)))).run P w=.ok PUnit.unit w
 |[],n,ks,xs,ys,vs,r,hp,hx,he=>by simp
 |f::fs,n,ks,xs,ys,vs,r,hp,hx,he=>by
   unfold qL at hp
   split at hp
   case isFalse=>cases hp
   rename_i hb
   obtain⟨sQ,KU⟩:=hb
   split at hp
   case h_2=>cases hp
   rename_i k ks' hk hks
   cases hp
   cases xs with
   |nil=>simp[eqC]at he
   |cons x xs0 =>
   cases ys with
   |nil=>simp[eqC]at he
   |cons y ys0 =>
   simp only[eqC]at he
   cases hq:eqF k x y with
   |none=>simp[hq,tG]at he
   |some r1 =>
     cases FS:eqC ks' xs0 ys0 with
     |none=>simp[hq,FS,tG]at he
     |some r2 =>
       obtain⟨v,hv,hrv⟩:=hx.get (j:=0) (a:=x) rfl
       have hv':vs[n]? = some v:=by simpa using hv
       have Z1:=wM hk
       have hpv:(part f.type vs f.offset).run P w=.ok v w:=by simp[part,ZF Z1,sQ,hv']
       have hck:=ZH (em:=em) (n:=d) hk hrv (SW hq)
       have tail:bA w F L xs0 (vs.toList.drop (n+1)):=by
        refine⟨by have:=hx.1;simp at this⊢;omega,fun i c' z' hc hz'=>?_⟩
        exact hx.2 (i+1) c' z' (by simpa using hc) (by
         rw[de]at hz'⊢
         rw[show n+(i+1)=n+1+i by omega];exact hz')
       have ih:=WH (em:=em) (d:=d) hks tail FS
       rw[kw]
       simp only[KU,ne_eq,not_false_eq_true,if_true,Sem.run_bind,hpv,Result.andThen_ok,hck,Sem.run_pure]
       exact ih

theorem ZI {em:Bool} {d:Nat} {el:TypeId} {k:FK} (hk:LI P el=some k):∀{m n:Nat} {xs ys:List AV} {vs:Array Value} {r:Bool},
  bA w F L xs (vs.toList.drop n)→eqC (List.replicate m k) xs ys=some r→(hs:rD P el=some 1)→(forIn (List.range' n m) PUnit.unit (fun i (_:PUnit)=>(do
   let s ←sizeOf el
   let x ←part el vs (i*s)
   Instr.checkKey em (d+1) el x
   pure (ForInStep.yield PUnit.unit):Sem (ForInStep PUnit)))).run P w=.ok PUnit.unit w
 |0,n,xs,ys,vs,r,hx,he,hs=>by simp
 |m+1,n,xs,ys,vs,r,hx,he,hs=>by
   rw[bx]at he
   cases xs with
   |nil=>simp[eqC]at he
   |cons x xs0 =>
   cases ys with
   |nil=>simp[eqC]at he
   |cons y ys0 =>
   simp only[eqC]at he
   cases hq:eqF k x y with
   |none=>simp[hq,tG]at he
   |some r1 =>
     cases FS:eqC (List.replicate m k) xs0 ys0 with
     |none=>simp[hq,FS,tG]at he
     |some r2 =>
       obtain⟨v,hv,hrv⟩:=hx.get (j:=0) (a:=x) rfl
       have hv':vs[n]? = some v:=by simpa using hv
       have Z1:=wM hk
       have hpv:(part el vs n).run P w=.ok v w:=by simp[part,ZF Z1,hv']
       have hck:=ZH (em:=em) (n:=d) hk hrv (SW hq)
       have tail:bA w F L xs0 (vs.toList.drop (n+1)):=by
        refine⟨by have:=hx.1;simp at this⊢;omega,fun i c' z' hc hz'=>?_⟩
        exact hx.2 (i+1) c' z' (by simpa using hc) (by
         rw[de]at hz'⊢
         rw[show n+(i+1)=n+1+i by omega];exact hz')
       have ih:=ZI (em:=em) (d:=d) hk tail FS hs
       rw[List.range'_succ,kw]
       simp only[Sem.run_bind,aA hs,iq,hpv,Result.andThen_ok,hck,Sem.run_pure]
       exact ih

theorem nK {em:Bool} {n:Nat} {t:TypeId} {kk:KK} (hk:kkT P t=some kk) {x y:AV} {v:Value} {r:Bool} (hx:RepA w F L x v) (he:LC kk x y=some r):(Instr.checkKey em (n+2) t v).run P w=.ok () w:=by
 unfold kkT at hk
 split at hk
 ·rename_i fs ht
  split at hk
  case isFalse=>cases hk
  obtain⟨ks,hks,rfl⟩:=IJ hk
  unfold LC at he
  split at he<;>first|(cases he;done)|skip
  ·rename_i h;cases h
  ·rename_i xs ys h
   cases h
   obtain⟨vs,rfl,hl⟩:=hx.aggL
   have:=WH (em:=em) (d:=n) hks (vs:=vs) (by simpa using hl) he
   unfold Instr.checkKey
   simp only[Sem.run_bind,run_underlying ht,Result.andThen_ok]
   rw[←Array.forIn_toList]
   rw[this]
   simp
 ·rename_i m el ht
  split at hk
  case h_2=>cases hk
  rename_i k tO hs
  cases hk
  unfold LC at he
  split at he<;>first|(cases he;done)|skip
  ·rename_i h;cases h
  ·rename_i xs ys h
   cases h
   obtain⟨vs,rfl,hl⟩:=hx.aggL
   have:=ZI (em:=em) (d:=n) tO (n:=0) (vs:=vs) (by simpa using hl) he hs
   unfold Instr.checkKey
   simp only[Sem.run_bind,run_underlying ht,Result.andThen_ok]
   rw[Std.Legacy.Range.forIn_eq_forIn_range']
   simp only[Std.Legacy.Range.size,fd,fa,Nat.div_one]
   rw[this]
   simp
 ·obtain⟨k,hk2,rfl⟩:=IJ hk
  refine ZH (n:=n+1) hk2 hx ?_
  simp only[LC]at he
  exact SW he
 ·cases hk

def LK (d:Nat) (el:TypeId) (xs ys:Array Value):List Nat→Sem Bool
 |[]=>pure true
 |i::is=>do
   let x ←part el xs (i*1)
   let y ←part el ys (i*1)
   let r ←Op.equalIn d el x y
   if r then LK d el xs ys is else pure false

theorem AI {d:Nat} {t el:TypeId} {m:Nat} {xs ys:Array Value} (ht:P.underlying t=some (.array m el)) (hs:rD P el=some 1) :
  (Op.equalIn (d+1) t (.agg xs) (.agg ys)).run P w=(LK d el xs ys (List.range' 0 m)).run P w:=by
 unfold Op.equalIn
 simp only[Sem.run_bind,run_underlying ht,Result.andThen_ok,aA hs]
 rw[Std.Legacy.Range.forIn_eq_forIn_range']
 simp only[Std.Legacy.Range.size,fd,fa,Nat.div_one]
 generalize List.range' 0 m=is
 clear ht
 induction is generalizing w with
 |nil=>simp[LK]
 |cons i is ih =>
   simp only[kw,LK,Sem.run_bind,Sem.run_ite]
   generalize (part el xs (i*1)).run P w=r1
   cases r1 with
   |ok a w1 =>
     simp only[Result.andThen_ok]
     generalize (part el ys (i*1)).run P w1=r2
     cases r2 with
     |ok b w2 =>
       simp only[Result.andThen_ok]
       generalize (Op.equalIn d el a b).run P w2=r3
       cases r3 with
       |ok r w3 =>
         cases r
         ·simp only[Result.andThen_ok,Bool.not_false,if_true,Sem.run_pure,dn,if_false]
         ·simp only[Result.andThen_ok,it,dn,if_false,Sem.run_pure,if_true]
          exact ih
       |halt x w3=>simp[Result.andThen]
     |halt x w2=>simp[Result.andThen]
   |halt x w1=>simp[Result.andThen]

theorem UN {d:Nat} {el:TypeId} {k:FK} (hk:LI P el=some k):∀{m n:Nat} {xs ys:List AV} {vs us:Array Value} {r:Bool},
  bA w F L xs (vs.toList.drop n)→bA w F L ys (us.toList.drop n)→eqC (List.replicate m k) xs ys=some r→(LK (d+1) el vs us (List.range' n m)).run P w=.ok r w
 |0,n,xs,ys,vs,us,r,hx,hy,he=>by
   cases xs<;>cases ys<;>simp[eqC]at he
   subst he
   simp[LK]
 |m+1,n,xs,ys,vs,us,r,hx,hy,he=>by
   rw[bx]at he
   cases xs with
   |nil=>simp[eqC]at he
   |cons x xs0 =>
   cases ys with
   |nil=>simp[eqC]at he
   |cons y ys0 =>
   simp only[eqC]at he
   cases hq:eqF k x y with
   |none=>simp[hq,tG]at he
   |some r1 =>
     cases FS:eqC (List.replicate m k) xs0 ys0 with
     |none=>simp[hq,FS,tG]at he
     |some r2 =>
       simp[hq,FS,tG]at he
       obtain⟨v,hv,hrv⟩:=hx.get (j:=0) (a:=x) rfl
       obtain⟨u,hu,hru⟩:=hy.get (j:=0) (a:=y) rfl
       have hv':vs[n]? = some v:=by simpa using hv
       have hu':us[n]? = some u:=by simpa using hu
       have Z1:=wM hk
       have hpv:(part el vs n).run P w=.ok v w:=by simp[part,ZF Z1,hv']
       have hpu:(part el us n).run P w=.ok u w:=by simp[part,ZF Z1,hu']
       have tail:∀{cs:List AV} {c:AV} {zs:Array Value},bA w F L (c::cs) (zs.toList.drop n)→bA w F L cs (zs.toList.drop (n+1)):=by
        intro cs c zs hz
        refine⟨by have:=hz.1;simp at this⊢;omega,fun i c' z' hc hz'=>?_⟩
        exact hz.2 (i+1) c' z' (by simpa using hc) (by
         rw[de]at hz'⊢
         rw[show n+(i+1)=n+1+i by omega];exact hz')
       have ZIj:=U7 (P:=P) (d:=d) hk hrv hru hq
       have ih:=UN (d:=d) hk (tail hx) (tail hy) FS
       rw[List.range'_succ]
       simp only[LK,Sem.run_bind,iq,hpv,hpu,Result.andThen_ok,ZIj,Sem.run_ite,ih,Sem.run_pure]
       subst he
       cases r1<;>simp

theorem ZFh (s:Sim F L (b++l) w) (he:RB w F L e a) {op:BinOp} {t u el:TypeId} {m:Nat} {k:FK} (ht:P.underlying t=some (.array m el)) (hk:LI P el=some k) (hs:rD P el=some 1)
  (hg:P.eqGuardType P.depth t=false) (hop:op=.eql∨op=.neq) {y z:Operand} {y' z':Opd} (ho:o.op=.binOp op t y z u) (hy:eA y=some y') (hz:eA z=some z')
  (h:aop e b l (.eqs (op==.neq) (List.replicate m k) y' z')=.val x b' l'):ZB P o a w F L b l x b' l':=by
 have h1:=pA he hy
 have h2:=pA he hz
 simp only[aop]at h
 generalize ev e y'=q at *
 generalize ev e z'=r at *
 split at h
 case h_2=>cases h
 rename_i xs ys
 split at h
 case h_2=>cases h
 rename_i r hr
 cases h
 obtain⟨vs,e1,l1⟩:=h1.aggL
 obtain⟨us,e2,l2⟩:=h2.aggL
 have AC:=UN (P:=P) (d:=9998) hk (n:=0) (vs:=vs) (us:=us) (by simpa using l1) (by simpa using l2) hr
 have mX:=AI (P:=P) (w:=w) (d:=9999) (xs:=vs) (ys:=us) ht hs
 rw[AC]at mX
 rcases hop with rfl|rfl
 ·refine ZB.pure s (v:=.bool r) ?_ (vV _)
  simp[execOp,ho,e1,e2,run_eqGuard_agg w _ t _ _ _ _ hg,run_eql_struct,mX]
 ·refine ZB.pure s (v:=.bool (!r)) ?_ (vV _)
  simp[execOp,ho,e1,e2,run_eqGuard_agg w _ t _ _ _ _ hg,run_neq_struct,mX]

theorem TH {t:TypeId} {kk:KK} (hk:kkT P t=some kk) {x y:AV} {v u:Value} {r:Bool} (hx:RepA w F L x v) (hy:RepA w F L y u) (he:LC kk x y=some r):(Op.equal t v u).run P w=.ok r w:=by
 unfold Op.equal Op.maxDepth
 unfold kkT at hk
 split at hk
 ·rename_i fs ht
  split at hk
  case isFalse=>cases hk
  rename_i pG
  obtain⟨ks,hks,rfl⟩:=IJ hk
  unfold LC at he
  split at he<;>first|(cases he;done)|skip
  ·rename_i h;cases h
  ·rename_i xs ys h
   cases h
   obtain⟨vs,rfl,hl⟩:=hx.aggL
   obtain⟨us,rfl,iV⟩:=hy.aggL
   have hf:P.fieldsOf t=fs:=by simp[Program.fieldsOf,ht]
   have AC:=K7 (P:=P) (d:=9998) hks (vs:=vs) (us:=us) (by simpa using hl) (by simpa using iV) he
   have mX:=run_equalIn_struct w 9999 t vs us (by rw[hf];exact ht) pG
   rw[hf,AC]at mX
   exact mX
 ·rename_i m el ht
  split at hk
  case h_2=>cases hk
  rename_i k tO hs
  cases hk
  unfold LC at he
  split at he<;>first|(cases he;done)|skip
  ·rename_i h;cases h
  ·rename_i xs ys h
   cases h
   obtain⟨vs,rfl,hl⟩:=hx.aggL
   obtain⟨us,rfl,iV⟩:=hy.aggL
   rw[AI (d:=9999) ht hs]
   exact UN (P:=P) (d:=9998) tO (n:=0) (vs:=vs) (us:=us) (by simpa using hl) (by simpa using iV) he
 ·obtain⟨k,hk2,rfl⟩:=IJ hk
  simp only[LC]at he
  exact U7 (d:=9999) hk2 hx hy he
 ·cases hk

def VK (w:World) (F:Nat→Prop) (L:LMap):List (List AV)→List MapEntry→Prop
 |[],[]=>True
 |row::els,e::es=>(∃x y,row=[x,y]∧RepA w F L x e.key∧RepA w F L y e.val)∧VK w F L els es
 |_,_=>False
theorem TW:∀{els:List (List AV)} {es:List MapEntry},es.length=els.length→(∀(k:Nat) (row:List AV) (e:MapEntry),els[k]? = some row→es[k]? = some e→∃x y,row=[x,y]∧RepA w F L x e.key∧RepA w F L y e.val)→VK w F L els es
 |[],[],_,_=>trivial
 |[],e::es,h,_=>by simp at h
 |r::els,[],h,_=>by simp at h
 |row::els,e::es,h,g=>⟨g 0 row e rfl rfl,TW (by simpa using h) (fun k row e hr he=>g (k+1) row e (by simpa using hr) (by simpa using he))⟩
theorem VK.to:∀{els:List (List AV)} {es:List MapEntry},VK w F L els es→es.length=els.length∧∀(k:Nat) (row:List AV) (e:MapEntry),els[k]? = some row→es[k]? = some e→∃x y,row=[x,y]∧RepA w F L x e.key∧RepA w F L y e.val
 |[],[],_=>⟨rfl,by simp⟩
 |[],e::es,h=>h.elim
 |r::els,[],h=>h.elim
 |row::els,e::es,h=>by
   obtain⟨h1,h2⟩:=VK.to h.2
   refine⟨by simp[h1],fun k row' e' hr he=>?_⟩
   cases k with
   |zero=>simp at hr he;subst hr;subst he;exact h.1
   |succ k=>exact h2 k row' e' (by simpa using hr) (by simpa using he)

theorem eP {t:TypeId} {kk:KK} (hk:kkT P t=some kk) {x:AV} {v:Value} (hx:RepA w F L x v):∀{els:List (List AV)} {es:List MapEntry} {i:Nat} {r:Option AV},VK w F L els es→AO kk x els=some r →
  ∃q,(Instr.findAsking t v es i).run P w=.ok q w∧(∀y,r=some y→∃j u,q=some (j,u)∧RepA w F L y u)∧(r=none→q=none)
 |[],[],i,r,_,h=>by
   simp[AO]at h
   subst h
   exact⟨none,rfl,by simp,fun _=>rfl⟩
 |[],e::es,i,r,h,_=>h.elim
 |row::els,[],i,r,h,_=>h.elim
 |row::els,e::es,i,r,h,hf=>by
   obtain⟨⟨y,u,rfl,h1,h2⟩,h3⟩:=h
   simp only[AO]at hf
   split at hf
   ·rename_i hq
    cases hf
    have:=TH hk hx h1 hq
    exact⟨some (i,e.val),by simp[Instr.findAsking,this],fun y hy=>by cases hy;exact⟨_,_,rfl,h2⟩,by simp⟩
   ·rename_i hq
    have:=TH hk hx h1 hq
    obtain⟨q,g1,g2⟩:=eP hk hx (i:=i+1) h3 hf
    exact⟨q,by simp[Instr.findAsking,this,g1],g2⟩
   ·cases hf

theorem gK {t:TypeId} {d:TypeDesc} {kk:KK} (hd:P.underlying t=some d) (hk:kkT P t=some kk) {x y:AV} {v u:Value} {r c:Bool} (hx:RepA w F L x v) (hy:RepA w F L y u) (he:LC kk x y=some r) (hs:Instr.sameNow d v u=some c):c=r:=by
 unfold kkT at hk
 rw[hd]at hk
 unfold Instr.sameNow at hs
 split at hs
 ·simp only[LI,hd,jo,jq]at hk
  subst hk
  simp only[LC]at he
  unfold eqF at he
  split at he<;>first|(cases he;done)|skip
  ·have e1:=MH hx;have e2:=MH hy;cases e1;cases e2
   split at hs<;>split at he<;>simp_all
  ·have e1:=CL hx;cases e1
  ·have e1:=LP hx;cases e1
 ·simp only[LI,hd,jo,jq]at hk
  subst hk
  simp only[LC]at he
  unfold eqF at he
  split at he<;>first|(cases he;done)|skip
  ·have e1:=MH hx;cases e1
  ·have e1:=CL hx;cases e1
  ·have e1:=LP hx;have e2:=LP hy;cases e1;cases e2;simp_all
 ·simp only[LI,hd,jo,jq]at hk
  subst hk
  simp only[LC]at he
  unfold eqF at he
  split at he<;>first|(cases he;done)|skip
  ·have e1:=MH hx;cases e1
  ·have e1:=CL hx;have e2:=CL hy;cases e1;cases e2;simp_all
  ·have e1:=LP hx;cases e1
 ·cases hs

theorem EZ {t:TypeId} {d:TypeDesc} {kk:KK} (hd:P.underlying t=some d) (hk:kkT P t=some kk) {x:AV} {v:Value} (hx:RepA w F L x v):∀{els:List (List AV)} {es:List MapEntry} {i:Nat} {r:Option AV} {q:Option (Nat×Value)},VK w F L els es→AO kk x els=some r→Instr.findNow d v es i=some q →
  (∀y,r=some y→∃j u,q=some (j,u)∧RepA w F L y u)∧(r=none→q=none)
 |[],[],i,r,q,_,h,hn=>by
   simp[AO]at h
   subst h
   simp[Instr.findNow]at hn
   subst hn
   exact⟨by simp,fun _=>rfl⟩
 |[],e::es,i,r,q,h,_,_=>h.elim
 |row::els,[],i,r,q,h,_,_=>h.elim
 |row::els,e::es,i,r,q,h,hf,hn=>by
   obtain⟨⟨y,u,rfl,h1,h2⟩,h3⟩:=h
   simp only[AO]at hf
   simp only[Instr.findNow]at hn
   split at hf
   ·rename_i hq
    cases hf
    split at hn
    ·cases hn;exact⟨fun y hy=>by cases hy;exact⟨_,_,rfl,h2⟩,by simp⟩
    ·rename_i hs;have:=gK hd hk hx h1 hq hs;cases this
    ·cases hn
   ·rename_i hq
    split at hn
    ·rename_i hs;have:=gK hd hk hx h1 hq hs;cases this
    ·exact EZ hd hk hx h3 hf hn
    ·cases hn
   ·cases hf

theorem NZ {t:TypeId} {kk:KK} (hk:kkT P t=some kk):∃d,P.underlying t=some d:=by
 unfold kkT at hk
 cases h:P.underlying t with
 |none=>rw[h]at hk;cases hk
 |some d=>exact⟨d,rfl⟩

theorem DO {t:TypeId} {kk:KK} (hk:kkT P t=some kk) {x:AV} {v:Value} (hx:RepA w F L x v) {els:List (List AV)} {es:List MapEntry} {r:Option AV} (h:VK w F L els es) (hf:AO kk x els=some r) :
  ∃q,(Instr.findKey t v es).run P w=.ok q w∧(∀y,r=some y→∃j u,q=some (j,u)∧RepA w F L y u)∧(r=none→q=none):=by
 obtain⟨d,hd⟩:=NZ hk
 obtain⟨q,g1,g2,g3⟩:=eP hk hx (i:=0) h hf
 cases hn:Instr.findNow d v es 0 with
 |none=>exact⟨q,by simp[Instr.findKey,run_underlying hd,hn,g1],g2,g3⟩
 |some q' =>
   obtain⟨k1,k2⟩:=EZ hd hk hx h hf hn
   exact⟨q',by simp[Instr.findKey,run_underlying hd,hn],k1,k2⟩

theorem ZCI {t:TypeId} {z:AV} (hz:ZBQ P t=some z):∃u,(zeroValue t).run P w=.ok u w∧RepA w F L z u:=by
 unfold ZBQ at hz
 split at hz
 case h_2=>cases hz
 rename_i inf nV
 split at hz
 case h_2=>cases hz
 rename_i zz xW
 exact⟨zz,by simp[zeroValue,typeInfo,nV,xW],p9 hz⟩

theorem SS (c:Bool) {y:AV} {u:Value} (k:Bool) (h:RepA w F L y u):RepA w F L (comma c y k) (if c then .tuple #[u,.bool k] else u):=by
 unfold comma
 cases c
 ·simpa using h
 ·simp only[if_true]
  exact bA.tup (bA.cons h (bA.cons (vV _) bA.nil))

theorem ZAO (s:Sim F L (b++l) w) (he:RB w F L e a) {t kt el:TypeId} {kk:KK} {z:AV} {c:Bool} (ht:P.underlying t=some (.map kt el)) (hk:kkT P kt=some kk) (hz:ZBQ P el=some z)
  {m y:Operand} {m' y':Opd} (ho:o.op=.lookup t m y c) (hm:eA m=some m') (hy:eA y=some y') (h:aop e b l (.lookup kk z c m' y')=.val x b' l'):ZB P o a w F L b l x b' l':=by
 have h1:=pA he hm
 have h2:=pA he hy
 simp only[aop,fC]at h
 generalize ev e m'=q at *
 generalize ev e y'=r at *
 generalize hv:a.eval m=vm at h1
 split at h
 case isFalse=>cases h
 rename_i DK
 have hck:∀em,(Instr.checkKey em 10000 kt (a.eval y)).run P w=.ok () w:=fun em=>nK (em:=em) (n:=9998) hk h2 DK
 obtain⟨u,hu,hru⟩:=ZCI (w:=w) (F:=F) (L:=L) hz
 split at h
 ·cases h
  obtain rfl:vm=.map none:=by cases h1.vI;rfl
  refine ZB.pure s (v:=if c then .tuple #[u,.bool false] else u) ?_ (SS c false hru)
  have hfk:(Instr.findKey kt (a.eval y) []).run P w=.ok none w:=by
   obtain⟨q,g1,_,g3⟩:=DO hk h2 (els:=[]) (es:=[]) (r:=none) (w:=w) (F:=F) (L:=L) trivial rfl
   rw[g1,g3 rfl]
  simp[execOp,ho,Instr.lookup,run_underlying ht,hv,hck,hfk,hu]
 ·rename_i id ver
  split at h
  case h_2=>cases h
  rename_i v sz els hg
  split at h
  case isFalse=>cases h
  rename_i hve
  subst hve
  cases h1 with
  |mp _ _ blk hL =>
  rw[PC]at hg
  obtain⟨lc,g1,g2⟩:=s.row _ _ _ _ hg
  rw[hL]at g1;cases g1
  obtain⟨es,clk,g3,g4,g5⟩:=g2
  have ZBb:VK w F L els es.toList:=TW (by simpa using g4) (fun k row e hr he=>g5 k row e hr (by simpa using he))
  have hgo:=HW (P:=P) g3
  have hck':=hck es.isEmpty
  split at h
  ·rename_i y1 hf
   cases h
   obtain⟨q,k1,k2,_⟩:=DO hk h2 ZBb hf
   obtain⟨j,u1,rfl,hu1⟩:=k2 _ rfl
   refine ZB.pure s (v:=if c then .tuple #[u1,.bool true] else u1) ?_ (SS c true hu1)
   simp[execOp,ho,Instr.lookup,run_underlying ht,hv,hgo,hck',k1]
  ·rename_i hf
   cases h
   obtain⟨q,k1,_,k3⟩:=DO hk h2 ZBb hf
   obtain rfl:=k3 rfl
   refine ZB.pure s (v:=if c then .tuple #[u,.bool false] else u) ?_ (SS c false hru)
   simp[execOp,ho,Instr.lookup,run_underlying ht,hv,hgo,hck',k1,hu]
  ·cases h
 ·cases h

theorem OZ {k:FK} {x y:AV} {v u:Value} (hx:RepA w F L x v) (hy:RepA w F L y u) (h:eqF k x y=some true):v=u∧∀n,Instr.sameBits n v v=true:=by
 unfold eqF at h
 split at h<;>first|(cases h;done)|skip
 ·split at h<;>simp at h
  rename_i hk
  subst hk;subst h
  rw[MH hx,MH hy]
  exact⟨rfl,fun n=>by cases n<;>simp[Instr.sameBits]⟩
 ·simp at h
  subst h
  rw[CL hx,CL hy]
  exact⟨rfl,fun n=>by cases n<;>simp[Instr.sameBits]⟩
 ·have h:=PS (by simpa using h)
  subst h
  rw[LP hx,LP hy]
  exact⟨rfl,fun n=>by cases n<;>simp[Instr.sameBits,iK]⟩
theorem Z0:∀{ks:List FK} {xs ys:List AV} {vs us:List Value},bA w F L xs vs→bA w F L ys us→eqC ks xs ys=some true→vs=us∧∀n,(vs.zip vs).all (fun p=>Instr.sameBits n p.1 p.2)=true
 |[],[],[],vs,us,hx,hy,h=>by
   have h1:vs=[]:=co hx.1.symm
   have h2:us=[]:=co hy.1.symm
   subst h1;subst h2
   exact⟨rfl,fun n=>rfl⟩
 |k::ks,x::xs,y::ys,vs,us,hx,hy,h=>by
   cases vs with
   |nil=>have:=hx.1;simp at this
   |cons v vs =>
   cases us with
   |nil=>have:=hy.1;simp at this
   |cons u us =>
   simp only[eqC]at h
   cases hq:eqF k x y with
   |none=>simp[hq,tG]at h
   |some r1 =>
     cases FS:eqC ks xs ys with
     |none=>simp[hq,FS,tG]at h
     |some r2 =>
       simp[hq,FS,tG]at h
       obtain⟨rfl,rfl⟩:=h
       have tl:∀{c:AV} {cs:List AV} {z:Value} {zs:List Value},bA w F L (c::cs) (z::zs)→bA w F L cs zs:=fun h=>⟨by simpa using h.1,fun i a v ha hv=>h.2 (i+1) a v (by simpa using ha) (by simpa using hv)⟩
       obtain⟨h1,h2⟩:=OZ (hx.2 0 _ _ rfl rfl) (hy.2 0 _ _ rfl rfl) hq
       obtain⟨h3,h4⟩:=Z0 (tl hx) (tl hy) FS
       exact⟨by rw[h1,h3],fun n=>by simp[h2 n];simpa using h4 n⟩
 |[],_::_,_,_,_,_,_,h=>by simp[eqC]at h
 |[],[],_::_,_,_,_,_,h=>by simp[eqC]at h
 |_::_,[],_,_,_,_,_,h=>by simp[eqC]at h
 |_::_,_::_,[],_,_,_,_,h=>by simp[eqC]at h
theorem V4 {kk:KK} {x y:AV} {v u:Value} (hx:RepA w F L x v) (hy:RepA w F L y u) (h:LC kk x y=some true):v=u∧Instr.sameBits 10000 v v=true:=by
 unfold LC at h
 split at h
 ·obtain⟨h1,h2⟩:=OZ hx hy h
  exact⟨h1,h2 _⟩
 ·obtain⟨vs,rfl,hl⟩:=hx.aggL
  obtain⟨us,rfl,iV⟩:=hy.aggL
  obtain⟨h1,h2⟩:=Z0 hl iV h
  have:vs=us:=gb.1 h1
  subst this
  refine⟨rfl,?_⟩
  unfold Instr.sameBits
  simp only[jd,hU]
  exact h2 9999
 ·cases h

theorem VK.snoc {x y:AV} {e1:MapEntry} (h1:RepA w F L x e1.key) (h2:RepA w F L y e1.val):∀{els:List (List AV)} {es:List MapEntry},VK w F L els es→VK w F L (els++[[x,y]]) (es++[e1])
 |[],[],_=>⟨⟨x,y,rfl,h1,h2⟩,trivial⟩
 |[],e::es,h=>h.elim
 |r::els,[],h=>h.elim
 |row::els,e::es,h=>⟨h.1,VK.snoc h1 h2 h.2⟩
theorem VK.setAt {x y:AV} {e1:MapEntry} (h1:RepA w F L x e1.key) (h2:RepA w F L y e1.val):∀{els:List (List AV)} {es:List MapEntry} {j:Nat},VK w F L els es→VK w F L (els.set j [x,y]) (es.set j e1)
 |[],[],_,_=>trivial
 |[],e::es,_,h=>h.elim
 |r::els,[],_,h=>h.elim
 |row::els,e::es,0,h=>⟨⟨x,y,rfl,h1,h2⟩,h.2⟩
 |row::els,e::es,j+1,h=>⟨h.1,VK.setAt h1 h2 h.2⟩

def qS (kk:KK) (x:AV):List (List AV)→Nat→Option (Option Nat)
 |[],_=>some none
 |[y,v]::r,i=>match LC kk x y with
   |some true=>some (some i)
   |some false=>qS kk x r (i+1)
   |none=>none
 |_::_,_=>none
theorem A7 {kk:KK} {x v:AV}:∀{els els':List (List AV)} (i:Nat),n7 kk x v els=some els'→∃r,qS kk x els i=some r∧((r=none∧els'=els++[[x,v]])∨∃j,r=some (i+j)∧els'=els.set j [x,v])
 |[],els',i,h=>by simp[n7]at h;subst h;exact⟨none,rfl,.inl ⟨rfl,rfl⟩⟩
 |[]::_,_,_,h=>by simp[n7]at h
 |[_]::_,_,_,h=>by simp[n7]at h
 |(_::_::_::_)::_,_,_,h=>by simp[n7]at h
 |[y,u]::els,els',i,h=>by
   simp only[n7]at h
   simp only[qS]
   cases hq:LC kk x y with
   |none=>simp only[hq]at h;cases h
   |some c =>
     cases c with
     |true =>
       simp only[hq]at h⊢
       cases h
       exact⟨_,rfl,.inr ⟨0,rfl,rfl⟩⟩
     |false =>
       simp only[hq]at h⊢
       obtain⟨r,h1,rfl⟩:=IJ h
       obtain⟨q,g1,g2⟩:=A7 (i+1) h1
       refine⟨q,g1,?_⟩
       rcases g2 with ⟨rfl,rfl⟩|⟨j,rfl,rfl⟩
       ·exact .inl ⟨rfl,rfl⟩
       ·exact .inr ⟨j+1,by congr 1;omega,rfl⟩

theorem nR {t:TypeId} {kk:KK} (hk:kkT P t=some kk) {x:AV} {v:Value} (hx:RepA w F L x v):∀{els:List (List AV)} {es:List MapEntry} {i:Nat} {r:Option Nat},VK w F L els es→qS kk x els i=some r →
  ∃q,(Instr.findAsking t v es i).run P w=.ok q w∧(∀j,r=some j→∃u,q=some (j,u))∧(r=none→q=none)
 |[],[],i,r,_,h=>by
   simp[qS]at h
   subst h
   exact⟨none,rfl,by simp,fun _=>rfl⟩
 |[],e::es,i,r,h,_=>h.elim
 |row::els,[],i,r,h,_=>h.elim
 |row::els,e::es,i,r,h,hf=>by
   obtain⟨⟨y,u,rfl,h1,h2⟩,h3⟩:=h
   simp only[qS]at hf
   split at hf
   ·rename_i hq
    cases hf
    have:=TH hk hx h1 hq
    exact⟨some (i,e.val),by simp[Instr.findAsking,this],fun y hy=>by cases hy;exact⟨_,rfl⟩,by simp⟩
   ·rename_i hq
    have:=TH hk hx h1 hq
    obtain⟨q,g1,g2⟩:=nR hk hx (i:=i+1) h3 hf
    exact⟨q,by simp[Instr.findAsking,this,g1],g2⟩
   ·cases hf
theorem M8 {t:TypeId} {d:TypeDesc} {kk:KK} (hd:P.underlying t=some d) (hk:kkT P t=some kk) {x:AV} {v:Value} (hx:RepA w F L x v):∀{els:List (List AV)} {es:List MapEntry} {i:Nat} {r:Option Nat} {q:Option (Nat×Value)},VK w F L els es→qS kk x els i=some r→Instr.findNow d v es i=some q →
  (∀j,r=some j→∃u,q=some (j,u))∧(r=none→q=none)
 |[],[],i,r,q,_,h,hn=>by
   simp[qS]at h
   subst h
   simp[Instr.findNow]at hn
   subst hn
   exact⟨by simp,fun _=>rfl⟩
 |[],e::es,i,r,q,h,_,_=>h.elim
 |row::els,[],i,r,q,h,_,_=>h.elim
 |row::els,e::es,i,r,q,h,hf,hn=>by
   obtain⟨⟨y,u,rfl,h1,h2⟩,h3⟩:=h
   simp only[qS]at hf
   simp only[Instr.findNow]at hn
   split at hf
   ·rename_i hq
    cases hf
    split at hn
    ·cases hn;exact⟨fun y hy=>by cases hy;exact⟨_,rfl⟩,by simp⟩
    ·rename_i hs;have:=gK hd hk hx h1 hq hs;cases this
    ·cases hn
   ·rename_i hq
    split at hn
    ·rename_i hs;have:=gK hd hk hx h1 hq hs;cases this
    ·exact M8 hd hk hx h3 hf hn
    ·cases hn
   ·cases hf
theorem ZF7 {t:TypeId} {kk:KK} (hk:kkT P t=some kk) {x:AV} {v:Value} (hx:RepA w F L x v) {els:List (List AV)} {es:List MapEntry} {r:Option Nat} (h:VK w F L els es) (hf:qS kk x els 0=some r) :
  ∃q,(Instr.findKey t v es).run P w=.ok q w∧(∀j,r=some j→∃u,q=some (j,u))∧(r=none→q=none):=by
 obtain⟨d,hd⟩:=NZ hk
 obtain⟨q,g1,g2,g3⟩:=nR hk hx (i:=0) h hf
 cases hn:Instr.findNow d v es 0 with
 |none=>exact⟨q,by simp[Instr.findKey,run_underlying hd,hn,g1],g2,g3⟩
 |some q' =>
   obtain⟨k1,k2⟩:=M8 hd hk hx h hf hn
   exact⟨q',by simp[Instr.findKey,run_underlying hd,hn],k1,k2⟩
theorem ZDw {kk:KK} {x:AV}:∀{els:List (List AV)} {es:List MapEntry} {i j:Nat},VK w F L els es→qS kk x els i=some (some j)→∃k e0 x0,j=i+k∧es[k]? = some e0∧RepA w F L x0 e0.key∧LC kk x x0=some true
 |[],[],i,j,_,h=>by simp[qS]at h
 |[],e::es,i,j,h,_=>h.elim
 |row::els,[],i,j,h,_=>h.elim
 |row::els,e::es,i,j,h,hf=>by
   obtain⟨⟨y,u,rfl,h1,h2⟩,h3⟩:=h
   simp only[qS]at hf
   split at hf
   ·rename_i hq
    cases hf
    exact⟨0,e,y,rfl,rfl,h1,hq⟩
   ·obtain⟨k,e0,x0,g1,g2,g3⟩:=ZDw h3 hf
    exact⟨k+1,e0,x0,by omega,by simpa using g2,g3⟩
   ·cases hf

theorem H3 (s:Sim F L (b++l) w) (he:RB w F L e a) {t kt el:TypeId} {kk:KK} (ht:P.underlying t=some (.map kt el)) (hk:kkT P kt=some kk)
  {m y z:Operand} {m' y' z':Opd} (ho:o.op=.mapUpdate t m y z) (hm:eA m=some m') (hy:eA y=some y') (hz:eA z=some z') (h:aop e b l (.mupdate kk m' y' z')=.val x b' l'):ZB P o a w F L b l x b' l':=by
 have h1:=pA he hm
 have h2:=pA he hy
 have h3:=pA he hz
 simp only[aop,IB]at h
 generalize ev e m'=q at *
 generalize ev e y'=r at *
 generalize ev e z'=z1 at *
 generalize hv:a.eval m=vm at h1
 split at h
 case isFalse=>cases h
 rename_i DK
 have hck:(Instr.checkKey false 10000 kt (a.eval y)).run P w=.ok () w:=nK (n:=9998) hk h2 DK
 split at h
 case h_2=>cases h
 rename_i id ver
 split at h
 case h_2=>cases h
 rename_i v sz els hg
 split at h
 case isFalse=>cases h
 rename_i hve
 subst hve
 split at h
 case h_2=>cases h
 rename_i els' hu
 cases h
 cases h1 with
 |mp _ _ blk hL =>
 rw[PC]at hg
 obtain⟨lc,g1,g2⟩:=s.row _ _ _ _ hg
 rw[hL]at g1;cases g1
 obtain⟨es,clk,g3,g4,g5⟩:=g2
 have ZBb:VK w F L els es.toList:=TW (by simpa using g4) (fun k row e hr he=>g5 k row e hr (by simpa using he))
 have hgo:=HW (P:=P) g3
 have rN:blk<w.heap.size:=(bo.1 g3).1
 have hid:id<(b++l).length:=(ak.1 hg).1
 obtain⟨r0,p1,p2⟩:=A7 0 hu
 obtain⟨q,k1,k2,k3⟩:=ZF7 hk h2 ZBb p1
 obtain⟨es',clk',AC,hent'⟩:∃(es':Array MapEntry) (clk':Nat),(execOp a.eval o).run P w=.ok .skip {w with heap:=w.heap.setIfInBounds blk (.map es' clk')}∧VK w F L els' es'.toList:=by
  rcases p2 with ⟨rfl,rfl⟩|⟨j,rfl,rfl⟩
  ·obtain rfl:=k3 rfl
   refine⟨es.push {key:=a.eval y,val:=a.eval z,born:=clk},clk+1,?_,?_⟩
   ·simp[execOp,ho,Instr.mapUpdate,run_underlying ht,hv,hgo,hck,k1,X8 _ g3]
   ·rw[Array.toList_push]
    exact ZBb.snoc h2 h3
  ·obtain⟨u,rfl⟩:=k2 _ rfl
   obtain⟨k,e0,x0,hjk,he0,hx0,hq0⟩:=ZDw ZBb p1
   have hjk:j=k:=by omega
   subst hjk
   obtain⟨LH,uW⟩:=V4 h2 hx0 hq0
   have he0':es[j]? = some e0:=by simpa using he0
   refine⟨es.modify j (fun e=>{e with key:=a.eval y,val:=a.eval z}),clk,?_,?_⟩
   ·have hks:(Instr.keyThatStays e0.key (a.eval y)).run P w=.ok (a.eval y) w:=by
     rw[←LH]
     simp[Instr.keyThatStays,uW]
    simp[execOp,ho,Instr.mapUpdate,run_underlying ht,hv,hgo,hck,k1,he0',hks,X8 _ g3]
   ·have:(es.modify j (fun e=>{e with key:=a.eval y,val:=a.eval z})).toList=es.toList.set j {e0 with key:=a.eval y,val:=a.eval z}:=by
     have hj:j<es.size:=(bo.1 he0').1
     apply dr
     intro i
     rw[Array.getElem?_toList,Array.getElem?_modify,jb]
     by_cases hi:j=i
     ·subst hi;simp[hj,(bo.1 he0').2]
     ·simp[hi]
    rw[this]
    exact ZBb.setAt h2 h3
 obtain⟨L',r1,r2,r3,r4⟩:=s.putLoc (h':=(b++l).set id (.live v sz els')) (w':={w with heap:=w.heap.setIfInBounds blk (.map es' clk')}) id v sz blk (.mp blk) els' (fun k hk=>hk.symm) rfl rfl rfl kS
  (fun k hk VG=>by simp[im (Ne.symm VG)]) (.inr ⟨v,sz,els,.mp blk,hg,hL,rfl⟩) (ay hid) (fun j hj=>bf (Ne.symm hj))
  (fun r hr=>by rw[hg]at hr;cases hr;exact⟨ai _,_,_,_,rfl⟩) (.inr hL)
  (fun L' mono=>by
   obtain⟨q1,q2⟩:=hent'.to
   refine⟨es',clk',by simp[rN],by simpa using q1,fun k row e hr he=>?_⟩
   obtain⟨x1,y1,e1,e2,e3⟩:=q2 k row e hr (by simpa using he)
   exact⟨x1,y1,e1,mono _ _ e2,mono _ _ e3⟩)
 rw[←QE]at r1 r2
 exact⟨undef,_,L',.inr ⟨AC,rfl⟩,RepA.undef _ _ _,r1,r2,QF _ _ _⟩

theorem ZCc (s:Sim F L (b++l) w) {t:TypeId} {r:Option Operand} (ht:Y7 (P.underlying t)=true) (hr:J7 r=true) (ho:o.op=.makeMap t r) (h:aop e b l .mkmap=.val x b' l'):ZB P o a w F L b l x b' l':=by
 simp only[aop,mk]at h
 cases h
 have pC:(b++l).length=b.length+l.length:=by simp
 obtain⟨kt,el,hu⟩:∃kt el,P.underlying t=some (.map kt el):=by
  unfold Y7 at ht
  split at ht
  ·rename_i h;exact⟨_,_,h⟩
  ·cases ht
 have AC:(execOp a.eval o).run P w=.ok (.value (.map (some w.heap.size))) (w.alloc (.map #[] 0)):=by
  unfold J7 at hr
  split at hr
  ·simp[execOp,ho,Instr.makeMap]
  ·simp[execOp,ho,Instr.makeMap,run_underlying hu,Act.eval,asInt,asIntOf]
  ·cases hr
 obtain⟨L',r1,r2,r3,r4⟩:=s.putLoc (h':=b++(l++[.live 0 0 []])) (w':=w.alloc (.map #[] 0)) (b.length+l.length) 0 0 w.heap.size (.mp w.heap.size) [] (fun k hk=>hk.symm) rfl rfl rfl (by show _≤(w.heap.push _).size;simp)
  (fun k hk _=>by show (w.heap.push _)[k]? = _;rw[kj,if_neg oM]) (.inl (ai _))
  (by rw[←bh,ar oM];simp)
  (fun j hj=>by
   rw[←bh]
   by_cases rG:j<(b++l).length
   ·rw[aw rG]
   ·rw[bu (by simp;omega),bu oM])
  (fun r hr=>by rw[bu oM]at hr;cases hr)
  (.inl (by
   cases hq:L (b.length+l.length) 0 with
   |none=>rfl
   |some q=>exact absurd (s.lt hq) oM))
  (fun L' mono=>⟨#[],0,by show (w.heap.push _)[w.heap.size]? = _;simp,rfl,by simp⟩)
 exact⟨_,_,L',.inl AC,.mp _ _ _ r3,r1,r2,rfl⟩

theorem ZFe (s:Sim F L (b++l) w) (he:RB w F L e a) {c:Call} {t kt el:TypeId} (ht:P.underlying t=some (.map kt el)) {y:Operand} {y':Opd} (hc:c.callee=.builtin .len) (ha:c.args.toList=[y]) (wW:c.argTypes.toList=[t]) (ho:o.op=.call c) (hy:eA y=some y')
  (h:aop e b l (.lenM y')=.val x b' l'):ZB P o a w F L b l x b' l':=by
 have hr:=pA he hy
 simp only[aop]at h
 generalize ev e y'=q at *
 generalize hv:a.eval y=v at hr
 unfold qF at h
 split at h
 ·cases h
  obtain rfl:v=.map none:=by cases hr.vI;rfl
  refine ZB.pure s (v:=goInt 0) ?_ (toN _ _)
  rw[TD ho hc ha wW]
  simp[invoke,builtin,hv,Builtin.len_,run_underlying ht]
 ·rename_i id ver
  split at h
  case h_2=>cases h
  rename_i v sz els hg
  split at h
  case isFalse=>cases h
  rename_i hve
  subst hve
  cases h
  cases hr with
  |mp _ _ blk hL =>
  rw[PC]at hg
  obtain⟨lc,g1,g2⟩:=s.row _ _ _ _ hg
  rw[hL]at g1;cases g1
  obtain⟨es,clk,g3,g4,g5⟩:=g2
  have hgo:=HW (P:=P) g3
  refine ZB.pure s (v:=goInt es.size) ?_ (by rw[g4];exact toN _ _)
  rw[TD ho hc ha wW]
  simp[invoke,builtin,hv,Builtin.len_,run_underlying ht,hgo]
 ·cases h
end
theorem cfA {α:Type}:(Array.mk ([]:List α))=#[]:=rfl
theorem cfN (n:Nat):Int.negSucc n=-((n+1:Nat):Int):=rfl
structure CF (P:Program) (n:Nat) where
  c:AFunc
  h:jA P n=some c:=by
    conv=>lhs;(reduce;(try simp only[Int.ofNat_eq_natCast,Int.cast_ofNat_Int,Int.natCast_zero,Int.natCast_one,cfN,cfA,Nat.reduceAdd]))
end Go.Proofs.YtmaokjojbjdpoaaGreatDoor
