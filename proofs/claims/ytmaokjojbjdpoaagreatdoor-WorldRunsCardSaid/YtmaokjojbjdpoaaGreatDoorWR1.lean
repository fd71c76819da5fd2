/- Texts of one proof, laid together: ZZ, W0, W1, W2, W3, W4, W5, W6, W7, W8, W9, WA, WX. No condition. -/
import Derived.Calls
import Derived.Orders
import Derived.Below
import Derived.Laws.AppendOwn
import Derived.Laws.OwnMore
import Derived.Laws.StructEq
import Derived.Laws.Slices
import Derived.Laws.Sem
import Derived.Lib.TrailingZeros
import Derived.Laws.Concat
import Derived.Laws.MakeOwn
import Derived.Laws.BytesString
set_option linter.unusedSimpArgs false
namespace Go.Proofs.YtmaokjojbjdpoaaGreatDoor
abbrev aa:=@List.length_map
abbrev ae:=@decide_eq_true
abbrev ag:=@decide_eq_false
abbrev ah:=@List.getElem?_eq_getElem
abbrev ai:=@Nat.le_refl
abbrev aj:=@Nat.zero_le
abbrev ak:=@List.getElem_mem
abbrev am:=@List.getElem?_eq_some_iff
abbrev an:=@List.getElem?_map
abbrev ap:=@List.length_append
abbrev aq:=@List.getElem?_append_right
abbrev ar:=@Bool.and_eq_true
abbrev au:=@List.getD_eq_getElem?_getD
abbrev aw:=@List.getElem?_append_left
abbrev ay:=@List.getElem?_set_self
abbrev ba:=@List.mem_range
abbrev bc:=@List.append_assoc
abbrev bf:=@decide_eq_true_eq
abbrev bg:=@List.length_take
abbrev bh:=@List.map_append
abbrev bj:=@List.map_cons
abbrev bl:=@List.getElem?_set_ne
abbrev bn:=@List.all_eq_true
abbrev bo:=@List.take_of_length_le
abbrev bp:=@Nat.lt_or_ge
abbrev bq:=@List.replicate_succ
abbrev bs:=@List.replicate_zero
abbrev bu:=@List.mem_append
abbrev bw:=@Array.getElem?_eq_some_iff
abbrev bx:=@Nat.add_mul
abbrev ca:=@Int.toNat_natCast
abbrev cd:=@List.map_nil
abbrev cf:=@Array.size_append
abbrev cg:=@List.getElem?_eq_none
abbrev ci:=@List.mem_of_getElem?
abbrev cj:=@Nat.add_sub_cancel_left
abbrev ck:=@Array.getElem?_append_left
abbrev cm:=@Nat.mul_le_mul_right
abbrev cn:=@Nat.zero_add
abbrev co:=@List.length_drop
abbrev cq:=@List.eq_nil_of_length_eq_zero
abbrev cr:=@List.mem_map
abbrev ct:=@List.append_nil
abbrev cu:=@List.getElem_of_mem
abbrev cw:=@Nat.add_assoc
abbrev cz:=@List.mem_cons
abbrev da:=@List.cons_append
abbrev db:=@List.find?_eq_none
abbrev de:=@List.getElem?_take
abbrev dh:=@List.length_set
abbrev dp:=@List.getElem?_drop
abbrev dq:=@Nat.le_trans
abbrev dr:=@beq_eq_false_iff_ne
abbrev dt:=@Bool.false_eq_true
abbrev dw:=@List.length_singleton
abbrev dx:=@List.size_toArray
abbrev dy:=@Nat.sub_self
abbrev ea:=@List.ext_getElem?
abbrev ec:=@List.mem_of_mem_take
abbrev ee:=@List.nil_append
abbrev eh:=@Bool.eq_iff_iff
abbrev ei:=@Array.getElem?_append_right
abbrev ej:=@List.length_cons
abbrev ek:=@List.mem_iff_getElem?
abbrev eo:=@Nat.add_zero
abbrev ep:=@Array.extract_size
abbrev eq:=@Array.size_extract
abbrev eu:=@Array.getElem?_extract
abbrev ew:=@List.all_eq_false
abbrev ey:=@List.mem_of_mem_drop
abbrev ez:=@List.set_cons_zero
abbrev fa:=@List.map_set
abbrev fc:=@List.find?_append
abbrev fd:=@Nat.add_sub_cancel
abbrev fe:=@Nat.lt_of_lt_of_le
abbrev fg:=@Nat.sub_zero
abbrev fh:=@List.getElem?_cons_succ
abbrev fj:=@List.any_eq_true
abbrev fk:=@List.mem_of_find?_eq_some
abbrev fo:=@List.set_cons_succ
abbrev fq:=@List.length_nil
abbrev ft:=@Array.length_toList
abbrev fu:=@Option.getD_some
abbrev fw:=@List.range_succ
abbrev fx:=@of_decide_eq_false
abbrev fy:=@Array.getElem?_eq_getElem
abbrev fz:=@List.map_drop
abbrev ga:=@List.any_eq_false
abbrev gb:=@List.take_add_one
abbrev ge:=@List.find?_some
abbrev gg:=@of_decide_eq_true
abbrev gh:=@List.map_take
abbrev gi:=@Array.toList_extract
abbrev gj:=@Array.toList_inj
abbrev gp:=@Bool.or_eq_true
abbrev gq:=@Bool.false_or
abbrev gr:=@List.getElem?_replicate
abbrev gu:=@List.drop_zero
abbrev gv:=@List.filter_append
abbrev gx:=@Nat.not_lt_zero
abbrev gy:=@Nat.zero_mul
abbrev gz:=@Nat.add_comm
abbrev hU:=@List.getElem?_toArray
abbrev ia:=@List.length_replicate
abbrev ib:=@Bool.true_and
abbrev ic:=@List.nodup_append
abbrev ie:=@List.not_mem_nil
abbrev ig:=@Array.replicate_succ
abbrev ii:=@Array.replicate_zero
abbrev ij:=@List.push_toArray
abbrev ik:=@List.append_toArray
abbrev il:=@Nat.sub_mul
abbrev im:=@Int.le_refl
abbrev io:=@List.take_length
abbrev ip:=@Array.getElem?_setIfInBounds_ne
abbrev iq:=@Array.eq_empty_of_size_eq_zero
abbrev ir:=@Array.toArray_toList
abbrev it:=@Nat.mul_one
abbrev iu:=@Nat.le_succ
abbrev iw:=@Bool.not_true
abbrev ix:=@List.set_set
abbrev iy:=@List.Sublist.refl
abbrev iz:=@List.take_append_drop
abbrev ja:=@List.map_congr_left
abbrev jb:=@Nat.lt_succ_iff_lt_or_eq
abbrev jc:=@List.getElem_map
abbrev jd:=@Option.some.inj
abbrev je:=@List.getElem?_set
abbrev jf:=@List.set_append_left
abbrev jg:=@List.set_append_right
abbrev jh:=@List.take_succ_eq_append_getElem
abbrev ji:=@Option.some.injEq
abbrev jk:=@beq_self_eq_true
abbrev jl:=@List.filter_cons
abbrev jm:=@List.getElem?_range
abbrev jn:=@List.mem_flatMap
abbrev jo:=@List.length_range
abbrev jp:=@List.getElem_append_left
abbrev jq:=@Nat.succ_mul
abbrev jr:=@Array.getElem?_setIfInBounds
abbrev jt:=@Option.map_some
abbrev ju:=@Nat.eq_zero_or_pos
abbrev jv:=@List.pairwise_append
abbrev jx:=@List.Sublist.append
abbrev jy:=@List.nodup_cons
abbrev jz:=@List.append_of_mem
abbrev ka:=@Bool.true_or
abbrev kb:=@List.getElem_drop
abbrev kc:=@Nat.lt_succ_of_lt
abbrev ke:=@Nat.lt_succ_self
abbrev kf:=@List.flatMap_append
abbrev kg:=@List.range_add
abbrev kh:=@List.drop_eq_nil_of_le
abbrev ki:=@Bool.not_not
abbrev kj:=@List.take_zero
abbrev km:=@Bool.or_eq_false_iff
abbrev ko:=@Bool.not_eq_true'
abbrev kp:=@List.map_id'
abbrev kq:=@List.map_toArray
abbrev kr:=@Array.getElem?_push
abbrev ku:=@List.foldl_cons
abbrev kw:=@List.extract_eq_take_drop
abbrev kx:=@Option.map_eq_some_iff
abbrev ky:=@Array.getElem?_eq_none
abbrev kz:=@List.getElem?_cons_zero
abbrev la:=@List.forIn_cons
abbrev lf:=@List.mem_cons_of_mem
abbrev lh:=@List.sublist_cons_self
abbrev li:=@List.mem_filter
abbrev lj:=@Array.size_setIfInBounds
abbrev lk:=@List.mem_take_iff_getElem
abbrev lm:=@List.ext_getElem
abbrev ln:=@List.range_succ_eq_map
abbrev lp:=@List.getElem_append_right
abbrev lq:=@List.getElem_singleton
abbrev lu:=@List.any_append
abbrev lw:=@Nat.lt_trichotomy
abbrev lx:=@List.mem_singleton
abbrev ly:=@decide_eq_false_iff_not
abbrev lz:=@List.forall_mem_cons
abbrev ma:=@List.mem_replicate
abbrev mb:=@Array.getElem?_setIfInBounds_self_of_lt
theorem oM {p:Prop} (h:p:=by omega):p:=h
theorem aS {p:Prop} (h:p:=by assumption):p:=h
theorem kS {p:Prop} (h:p:=by simp):p:=h
theorem kE {p:Prop} (h:p:=by decide):p:=h
theorem kH {p:Prop} (h:p:=by (repeat' (first|exact trivial|refine And.intro ?_ ?_))<;>(first|rfl|(congr 2;omega))):p:=h
theorem kA {p:Prop} (h:p:=by (try (first|simp (disch:=decide) only[hA,sA,DD,QH,jR,hg5,hg6,go_sem]|simp (disch:=decide) only[hA,sA,DD,QH,jR,hg5,go_sem]|simp (disch:=decide) only[hA,sA,DD,QH,jR,go_sem]|simp (disch:=decide) only[hA,sA,DD,QH,go_sem]|simp (disch:=decide) only[hA,sA,DD,go_sem]|simp (disch:=decide) only[hA,sA,go_sem]|simp (disch:=decide) only[hA,go_sem]))<;>exact kH):p:=h
theorem kR {p:Prop} (h:p:=by first|simp (disch:=first|decide|omega) only[resVs,resV,hA,sA,DD,QH,jR,hg5,hg6,go_sem]|simp (disch:=first|decide|omega) only[resVs,resV,hA,sA,DD,QH,jR,hg5,go_sem]|simp (disch:=first|decide|omega) only[resVs,resV,hA,sA,DD,QH,jR,go_sem]|simp (disch:=first|decide|omega) only[resVs,resV,hA,sA,DD,QH,go_sem]|simp (disch:=first|decide|omega) only[resVs,resV,hA,sA,DD,go_sem]|simp (disch:=first|decide|omega) only[resVs,resV,hA,sA,go_sem]|simp (disch:=first|decide|omega) only[resVs,resV,hA,go_sem]):p:=h
theorem kM {p:Prop} (h:p:=by repeat (first|exact KLt.mono aS oM|refine KLt.up ?_ kL)):p:=h
theorem kQ {p:Prop} (h:p:=by repeat (first|with_reducible assumption|refine (kAny_up rfl).trans ?_|refine (kAny_sub aS (kIn_sub rfl)).trans ?_)):p:=h
set_option linter.unusedVariables false

inductive IV where
 |int (k:IntKind) (n:Int)
 |bool (b:Bool)
 |str (s:ByteArray)
 |zsl
 |isl (sz:Nat) (rows:List (List IV))
 |iptr (row:List IV) (j:Nat)
 |nilp
 |nilm
 |nilf
 |yl (l:Nat)

inductive AV where
 |any
 |v (x:IV)
 |agg (cs:List AV)
 |tup (cs:List AV)
 |sl (id ver off len:Nat)
 |ptr (id ver k j:Nat)
 |fn (f:Nat) (caps:List AV)
 |mp (id ver:Nat)

inductive Row where
 |live (ver sz:Nat) (els:List (List AV))
 |dead (ver:Nat)

def Row.ver:Row→Nat
 |.live v _ _=>v
 |.dead v=>v

inductive Loc where
 |nil
 |pl (blk off sz cap:Nat)
 |mp (blk:Nat)

def Loc.on:Loc→Nat→Prop
 |.nil,_=>False
 |.pl b _ _ _,k=>b=k
 |.mp b,k=>b=k

abbrev LMap:=Nat→Nat→Option Loc

def AV.cell:AV→Bool
 |.v _=>true
 |.sl .. => true
 |.ptr .. => true
 |.fn .. => true
 |.mp .. => true
 |_=>false

inductive RepI (w:World) (F:Nat→Prop):IV→Value→Prop where
 |int (k:IntKind) (n:Int):RepI w F (.int k n) (.int k n)
 |bool (b:Bool):RepI w F (.bool b) (.bool b)
 |str (s:ByteArray):RepI w F (.str s) (.string s)
 |zsl (a:Option Addr):RepI w F .zsl (.slice a 0 0)
 |isl0 (sz:Nat) (a:Option Addr) (c:Nat) (hm:c≤maxLen):RepI w F (.isl sz []) (.slice a 0 c)
 |isl (rows:List (List IV)) (b off sz c:Nat) (val:Nat→Nat→Value) (hF:F b) (hc:rows.length≤c) (hm:c≤maxLen)
   (NN:∀(k:Nat) (row:List IV),rows[k]? = some row→row.length=sz)
   (jG:∀(k:Nat) (row:List IV) (j:Nat) (a:IV),rows[k]? = some row→row[j]? = some a→w.cell? ⟨b,off+k*sz+j,none⟩=some (val k j))
   (aW:∀(k:Nat) (row:List IV) (j:Nat) (a:IV),rows[k]? = some row→row[j]? = some a→RepI w F a (val k j)):RepI w F (.isl sz rows) (.slice (some ⟨b,off,none⟩) rows.length c)
 |iptr (row:List IV) (j b off:Nat) (val:Nat→Value) (hF:F b)
   (jG:∀(j:Nat) (a:IV),row[j]? = some a→w.cell? ⟨b,off+j,none⟩=some (val j))
   (aW:∀(j:Nat) (a:IV),row[j]? = some a→RepI w F a (val j)):RepI w F (.iptr row j) (.pointer (some ⟨b,off+j,none⟩))
 |nilp:RepI w F .nilp (.pointer none)
 |nilm:RepI w F .nilm (.map none)
 |nilf:RepI w F .nilf .nilFunc
 |yl (l:Nat):RepI w F (.yl l) (.func (.yield l) #[] #[])

inductive RepA (w:World) (F:Nat→Prop) (L:LMap):AV→Value→Prop where
 |any (v:Value):RepA w F L .any v
 |v (x:IV) (v:Value) (h:RepI w F x v):RepA w F L (.v x) v
 |agg (cs:List AV) (vs:Array Value) (hl:cs.length=vs.size) (h:∀(i:Nat) (a:AV) (v:Value),cs[i]? = some a→vs[i]? = some v→RepA w F L a v):RepA w F L (.agg cs) (.agg vs)
 |tup (cs:List AV) (vs:Array Value) (hl:cs.length=vs.size) (h:∀(i:Nat) (a:AV) (v:Value),cs[i]? = some a→vs[i]? = some v→RepA w F L a v):RepA w F L (.tup cs) (.tuple vs)
 |sl (id ver off len b o sz cap:Nat) (hL:L id ver=some (.pl b o sz cap)) (h:off+len≤cap) (hm:cap≤maxLen):RepA w F L (.sl id ver off len) (.slice (some ⟨b,o+off*sz,none⟩) len (cap-off))
 |slz (id ver off b o sz cap x:Nat) (hL:L id ver=some (.pl b o sz cap)) (h:off=cap):RepA w F L (.sl id ver off 0) (.slice (some ⟨b,x,none⟩) 0 0)
 |sln (id ver:Nat) (ad:Option Addr) (hL:L id ver=some .nil):RepA w F L (.sl id ver 0 0) (.slice ad 0 0)
 |ptr (id ver k j b o sz cap:Nat) (hL:L id ver=some (.pl b o sz cap)):RepA w F L (.ptr id ver k j) (.pointer (some ⟨b,o+k*sz+j,none⟩))
 |fn (f:Nat) (cs:List AV) (vs:Array Value) (hl:cs.length=vs.size) (h:∀(i:Nat) (a:AV) (v:Value),cs[i]? = some a→vs[i]? = some v→RepA w F L a v):RepA w F L (.fn f cs) (.func (.func f) #[] vs)
 |mp (id ver b:Nat) (hL:L id ver=some (.mp b)):RepA w F L (.mp id ver) (.map (some b))

theorem RepI.mono {w w':World} {F F':Nat→Prop} {x:IV} {v:Value} (h:RepI w F x v) (hF:∀b,F b→F' b)
  (hw:∀b,F b→w'.heap[b]? = w.heap[b]?):RepI w' F' x v:=by
 induction h with
 |int k n=>exact .int k n
 |bool b=>exact .bool b
 |str s=>exact .str s
 |zsl a=>exact .zsl a
 |isl0 sz a c hm=>exact .isl0 sz a c hm
 |isl rows b off sz c val h1 h2 h3 h4 h5 h6 ih =>
   exact .isl rows b off sz c val (hF b h1) h2 h3 h4 (fun k row j a hk hj=>by rw[←h5 k row j a hk hj];exact World.cell?_of_block (hw b h1)) ih
 |iptr row j b off val h1 h2 h3 ih =>
   exact .iptr row j b off val (hF b h1) (fun j a hj=>by rw[←h2 j a hj];exact World.cell?_of_block (hw b h1)) ih
 |nilp=>exact .nilp
 |nilm=>exact .nilm
 |nilf=>exact .nilf
 |yl l=>exact .yl l

theorem RepA.mono {w w':World} {F F':Nat→Prop} {L L':LMap} {x:AV} {v:Value} (h:RepA w F L x v) (hF:∀b,F b→F' b)
  (hw:∀b,F b→w'.heap[b]? = w.heap[b]?) (hL:∀id ver l,L id ver=some l→L' id ver=some l):RepA w' F' L' x v:=by
 induction h with
 |any v=>exact .any v
 |v x v h=>exact .v x v (h.mono hF hw)
 |agg cs vs hl _ ih=>exact .agg cs vs hl ih
 |tup cs vs hl _ ih=>exact .tup cs vs hl ih
 |sl id ver off len b o sz cap h1 h2 h3=>exact .sl id ver off len b o sz cap (hL _ _ _ h1) h2 h3
 |slz id ver off b o sz cap x h1 h2=>exact .slz id ver off b o sz cap x (hL _ _ _ h1) h2
 |sln id ver ad h1=>exact .sln id ver ad (hL _ _ _ h1)
 |ptr id ver k j b o sz cap h1=>exact .ptr id ver k j b o sz cap (hL _ _ _ h1)
 |fn f cs vs hl _ ih=>exact .fn f cs vs hl ih
 |mp id ver b h1=>exact .mp id ver b (hL _ _ _ h1)

def tR (w:World) (F:Nat→Prop) (L:LMap) (sz:Nat) (els:List (List AV)):Loc→Prop
 |.nil=>els=[]
 |.pl b o z cap=>z=sz∧els.length≤cap∧cap≤maxLen∧∃cur T,w.heap[b]? = some (.cells cur T (0,0))∧o+cap*sz≤cur.size ∧
   (∀(k:Nat) (row:List AV),els[k]? = some row→row.length=sz) ∧
   ∀(k:Nat) (row:List AV) (j:Nat) (a:AV),els[k]? = some row→row[j]? = some a→a.cell=true∧∃v,cur[o+k*sz+j]? = some v∧RepA w F L a v
 |.mp b=>∃es clk,w.heap[b]? = some (.map es clk)∧es.size=els.length∧∀(k:Nat) (row:List AV) (e:MapEntry),els[k]? = some row→es[k]? = some e→∃x y,row=[x,y]∧RepA w F L x e.key∧RepA w F L y e.val

theorem tR.lt {w:World} {F:Nat→Prop} {L:LMap} {sz:Nat} {els:List (List AV)} {q:Loc} {b:Nat} (h:tR w F L sz els q) (hb:q.on b):b<w.heap.size:=by
 cases q with
 |nil=>exact hb.elim
 |pl b' o z c =>
   cases hb
   obtain⟨_,_,_,cur,T,h4,_⟩:=h
   exact (bw.1 h4).1
 |mp b' =>
   cases hb
   obtain⟨es,clk,h4,_⟩:=h
   exact (bw.1 h4).1
theorem tR.mono {w w':World} {F F':Nat→Prop} {L L':LMap} {sz:Nat} {els:List (List AV)} {q:Loc} (h:tR w F L sz els q) (hw:∀b,q.on b→w'.heap[b]? = w.heap[b]?)
  (m:∀(x:AV) (v:Value),RepA w F L x v→RepA w' F' L' x v):tR w' F' L' sz els q:=by
 cases q with
 |nil=>exact h
 |pl b o z c =>
   obtain⟨h1,h2,h3,cur,T,h4,h5,h6,h7⟩:=h
   refine⟨h1,h2,h3,cur,T,by rw[hw b rfl];exact h4,h5,h6,fun k row i a hk hi=>?_⟩
   obtain⟨h8,u,h9,h10⟩:=h7 k row i a hk hi
   exact⟨h8,u,h9,m _ _ h10⟩
 |mp b =>
   obtain⟨es,clk,h4,h5,h6⟩:=h
   refine⟨es,clk,by rw[hw b rfl];exact h4,h5,fun k row e hk he=>?_⟩
   obtain⟨x,y,h7,h8,h9⟩:=h6 k row e hk he
   exact⟨x,y,h7,m _ _ h8,m _ _ h9⟩

def DC (L:LMap) (h:List Row) (b:Nat):Prop:=∃id ver s els q,h[id]? = some (.live ver s els)∧L id ver=some q∧q.on b

def gtab:Option (Nat×List Nat):=none
def ZDT (w:World) (F:Nat→Prop):Prop:=∀g tab,gtab=some (g,tab)→F g∧∀j,j<tab.length→w.cell? ⟨g,j,none⟩=some (.int .u8 (tab.getD j 0))
theorem ZDT.mono {w w':World} {F F':Nat→Prop} (h:ZDT w F) (hF:∀b,F b→F' b) (hw:∀b,F b→w'.heap[b]? = w.heap[b]?):ZDT w' F':=by
 intro g tab e
 obtain⟨h1,h2⟩:=h g tab e
 exact⟨hF g h1,fun j hj=>by rw[←h2 j hj];exact World.cell?_of_block (hw g h1)⟩

structure Sim (F:Nat→Prop) (L:LMap) (h:List Row) (w:World):Prop where
 row:∀id ver sz els,h[id]? = some (.live ver sz els)→∃l,L id ver=some l∧tR w F L sz els l
 born:∀id ver l,L id ver=some l→∃r,h[id]? = some r∧ver≤r.ver
 apart:∀id id' ver ver' s s' els els' b q q',h[id]? = some (.live ver s els)→h[id']? = some (.live ver' s' els') →
  L id ver=some q→L id' ver'=some q'→q.on b→q'.on b→id=id'
 imm:∀b,F b→b<w.heap.size∧¬DC L h b
 glob:ZDT w F

structure Step (nb:Nat) (F:Nat→Prop) (L:LMap) (h:List Row) (w:World) (F':Nat→Prop) (L':LMap) (h':List Row) (w':World):Prop where
 imm:∀b,F b→F' b
 loc:∀id ver l,id<nb→L id ver=some l→L' id ver=some l
 os:w'.os=w.os
 tape:w'.tape=w.tape
 output:w'.output=w.output
 size:w.heap.size≤w'.heap.size
 block:∀b,b<w.heap.size→¬DC L h b→w'.heap[b]? = w.heap[b]?
 own:∀b,b<w.heap.size→DC L' h' b→DC L h b
 base:∀(id:Nat),id<nb→∀(v:Nat),h[id]? = some (Row.dead v)→h'[id]? = some (Row.dead v)
 fnew:∀b,b<w.heap.size→F' b→F b∨DC L h b

theorem Step.refl (nb:Nat) (F:Nat→Prop) (L:LMap) (h:List Row) (w:World):Step nb F L h w F L h w:=
 ⟨fun _ h=>h,fun _ _ _ _ h=>h,rfl,rfl,rfl,ai _,fun _ _ _=>rfl,fun _ _ h=>h,fun _ _ _ h=>h,fun _ _ h=>.inl h⟩

theorem Step.trans {nb:Nat} {F F1 F2:Nat→Prop} {L L1 L2:LMap} {h h1 h2:List Row} {w w1 w2:World}
  (a:Step nb F L h w F1 L1 h1 w1) (b:Step nb F1 L1 h1 w1 F2 L2 h2 w2):Step nb F L h w F2 L2 h2 w2:=
 ⟨fun k hk=>b.imm k (a.imm k hk),fun id ver l hn hl=>b.loc id ver l hn (a.loc id ver l hn hl),b.os.trans a.os,b.tape.trans a.tape,b.output.trans a.output,
  dq a.size b.size,
  fun k hk ho=>(b.block k (fe hk a.size) (fun h=>ho (a.own k hk h))).trans (a.block k hk ho),
  fun k hk ho=>a.own k hk (b.own k (fe hk a.size) ho),fun id hn v hv=>b.base id hn v (a.base id hn v hv),fun k hk hf=>(b.fnew k (fe hk a.size) hf).elim (fun h=>a.fnew k hk h) (fun h=>.inr (a.own k hk h))⟩

theorem Step.weaken {nb nb':Nat} {F F1:Nat→Prop} {L L1:LMap} {h h1:List Row} {w w1:World}
  (a:Step nb F L h w F1 L1 h1 w1) (hn:nb'≤nb):Step nb' F L h w F1 L1 h1 w1:=
 ⟨a.imm,fun id ver l hi=>a.loc id ver l (fe hi hn),a.os,a.tape,a.output,a.size,a.block,a.own,fun id hi=>a.base id (fe hi hn),a.fnew⟩

def FB (w:World) (F:Nat→Prop) (L:LMap) (e:List AV) (a:Act):Prop:=
 a.defers=[]∧a.tmps.size=e.length∧∀(i:Nat) (x:AV) (v:Value),e[i]? = some x→a.tmps[i]? = some v→RepA w F L x v

theorem Sim.lt {F:Nat→Prop} {L:LMap} {h:List Row} {w:World} (s:Sim F L h w) {id ver:Nat} {l:Loc} (hl:L id ver=some l):id<h.length:=by
 obtain⟨r,hr,_⟩:=s.born id ver l hl
 exact (am.1 hr).1

theorem FB.mono {w w':World} {F F':Nat→Prop} {L L':LMap} {e:List AV} {a:Act} (h:FB w F L e a) (hF:∀b,F b→F' b)
  (hw:∀b,F b→w'.heap[b]? = w.heap[b]?) (hL:∀id ver l,L id ver=some l→L' id ver=some l):FB w' F' L' e a:=
 ⟨h.1,h.2.1,fun i x v hx hv=>(h.2.2 i x v hx hv).mono hF hw hL⟩

theorem Step.immEq {nb:Nat} {F F1:Nat→Prop} {L L1:LMap} {h h1:List Row} {w w1:World} (a:Step nb F L h w F1 L1 h1 w1) (s:Sim F L h w) :
  ∀b,F b→w1.heap[b]? = w.heap[b]?:=fun b hb=>a.block b (s.imm b hb).1 (s.imm b hb).2

theorem Step.locAll {F F1:Nat→Prop} {L L1:LMap} {h h1:List Row} {w w1:World} (a:Step h.length F L h w F1 L1 h1 w1) (s:Sim F L h w) :
  ∀id ver l,L id ver=some l→L1 id ver=some l:=fun id ver l hl=>a.loc id ver l (s.lt hl) hl

theorem FB.step {w w':World} {F F':Nat→Prop} {L L':LMap} {h h':List Row} {e:List AV} {a:Act} (he:FB w F L e a) (s:Sim F L h w)
  (st:Step h.length F L h w F' L' h' w'):FB w' F' L' e a:=he.mono st.imm (st.immEq s) (st.locAll s)

theorem RepA.step {w w':World} {F F':Nat→Prop} {L L':LMap} {h h':List Row} {x:AV} {v:Value} (hx:RepA w F L x v) (s:Sim F L h w)
  (st:Step h.length F L h w F' L' h' w'):RepA w' F' L' x v:=hx.mono st.imm (st.immEq s) (st.locAll s)

def nth:List AV→Nat→AV
 |[],_=>.tup []
 |a::_,0=>a
 |_::l,n+1=>nth l n
def upd:List AV→Nat→AV→List AV
 |[],_,_=>[]
 |_::l,0,x=>x::l
 |a::l,n+1,x=>a::upd l n x

theorem LN (l:List AV) (n:Nat):nth l n=(l[n]?).getD (.tup []):=by
 induction l generalizing n with
 |nil=>simp[nth]
 |cons a l ih=>cases n with
   |zero=>simp[nth]
   |succ n=>simp[nth,ih]
theorem ZK (l:List AV) (n:Nat) (x:AV):upd l n x=l.set n x:=by
 induction l generalizing n with
 |nil=>simp[upd]
 |cons a l ih=>cases n with
   |zero=>simp[upd]
   |succ n=>simp[upd,ih]

theorem RepA.undef (w:World) (F:Nat→Prop) (L:LMap):RepA w F L (.tup []) undef:=.tup [] #[] rfl kS

theorem FB.nth {w:World} {F:Nat→Prop} {L:LMap} {e:List AV} {a:Act} (h:FB w F L e a) (n:Nat):RepA w F L (nth e n) (a.tmps.getD n Go.undef):=by
 rw[LN]
 rcases bp n e.length with hn|hn
 ·have hn':n<a.tmps.size:=by rw[h.2.1];exact hn
  rw[ah hn]
  have:=h.2.2 n e[n] a.tmps[n] (ah hn) (fy hn')
  simpa [Array.getD,hn'] using this
 ·have hn':¬n<a.tmps.size:=by rw[h.2.1];omega
  rw[cg hn]
  simp only[Array.getD,hn',dif_neg,not_false_eq_true,Option.getD_none]
  exact RepA.undef w F L

theorem FB.upd {w:World} {F:Nat→Prop} {L:LMap} {e:List AV} {a:Act} (h:FB w F L e a) (n:Nat) {x:AV} {v:Value} (hx:RepA w F L x v) :
  FB w F L (upd e n x) (a.put (some n) v):=by
 rw[ZK]
 refine⟨h.1,by simp[Act.put,h.2.1],fun i y u hy hu=>?_⟩
 simp only[Act.put]at hu
 by_cases hi:n=i
 ·subst hi
  rw[je]at hy
  rw[jr]at hu
  simp only[if_true]at hy hu
  split at hy
  ·split at hu
   ·cases hy;cases hu;exact hx
   ·cases hu
  ·cases hy
 ·rw[bl hi]at hy
  rw[ip hi]at hu
  exact h.2.2 i y u hy hu

def put (e:List AV) (d:Option Nat) (x:AV):List AV:=
 match d with
 |some n=>upd e n x
 |none=>e

theorem FB.put {w:World} {F:Nat→Prop} {L:LMap} {e:List AV} {a:Act} (h:FB w F L e a) (d:Option Nat) {x:AV} {v:Value} (hx:RepA w F L x v) :
  FB w F L (put e d x) (a.put d v):=by
 cases d with
 |none=>exact h
 |some n=>exact h.upd n hx

def hget (b l:List Row) (id:Nat):Option Row:=if id<b.length then b[id]? else l[id-b.length]?

theorem OC (b l:List Row) (id:Nat):hget b l id=(b++l)[id]?:=by
 unfold hget
 split
 ·rename_i h;rw[aw h]
 ·rename_i h;rw[aq oM]

def iE (b:List Row) (id:Nat) (r:Row):List Row:=if id<b.length then b.set id r else b
def GE (b l:List Row) (id:Nat) (r:Row):List Row:=if id<b.length then l else l.set (id-b.length) r

theorem KE (b l:List Row) (id:Nat) (r:Row):iE b id r++GE b l id r=(b++l).set id r:=by
 unfold iE GE
 split
 ·rename_i h;rw[jf _ _ h]
 ·rename_i h;rw[jg _ _ oM]

theorem yF (b:List Row) (id:Nat) (r:Row):(iE b id r).length=b.length:=by unfold iE;split<;>simp


inductive Opd where
 |t (n:Nat)
 |c (x:AV)

inductive FK where
 |i
 |b
 |s

inductive KK where
 |one (k:FK)
 |many (ks:List FK)

inductive AOp where
 |mv (x:Opd)
 |nilck (x:Opd)
 |pick (c a b:Opd)
 |bin (o:BinOp) (x y:Opd)
 |binB (o:BinOp) (x y:Opd)
 |binS (o:BinOp) (x y:Opd)
 |eqs (neg:Bool) (ks:List FK) (x y:Opd)
 |not (x:Opd)
 |neg (x:Opd)
 |conv (k:IntKind) (x:Opd)
 |alloc (zs:List AV)
 |box (x:Opd)
 |build (zs:List AV) (ps:List (Nat×Nat×Opd))
 |bslice (sz:Nat) (zs:List AV) (len:Nat) (ps:List (Nat×Opd))
 |islb (sz:Nat) (zs:List AV) (len:Nat) (ps:List (Nat×Opd))
 |load (n:Option Nat) (x:Opd)
 |store (n:Nat) (x y:Opd)
 |faddr (d:Nat) (x:Opd)
 |iaddr (sz:Nat) (x i:Opd)
 |iaddrA (len sz:Nat) (x i:Opd)
 |field (off:Nat) (n:Option Nat) (x:Opd)
 |indexS (x i:Opd)
 |indexA (len sz:Nat) (n:Option Nat) (x i:Opd)
 |slice (sz:Nat) (x:Opd) (lo hi:Option Opd)
 |slice0 (x:Opd)
 |sliceS (x:Opd) (lo hi:Option Opd)
 |len (x:Opd)
 |lenS (x:Opd)
 |append (sz bytes:Nat) (s x:Opd)
 |mkslice (sz:Nat) (zs:List AV) (bytes:Nat) (l c:Opd)
 |mkfn (f:Nat) (caps:List Opd)
 |extract (i:Nat) (x:Opd)
 |call (f:Opd) (args:List Opd)
 |mm (isMax:Bool) (x y:Opd)
 |copy (sz:Nat) (x y:Opd)
 |isnil (neg:Bool) (x:Opd)
 |mkmap
 |lookup (kk:KK) (zero:AV) (comma:Bool) (m x:Opd)
 |mupdate (kk:KK) (m x y:Opd)
 |lenM (x:Opd)
 |tostr (x:Opd)
 |capz (x:Opd)
 |appz (sz bytes:Nat) (zs:List AV) (s n:Opd)

structure AOper where
 dst:Option Nat
 op:AOp
 guard:Option (Nat×Bool)

structure DOper where
 i:Nat
 o:AOper
 re:List AOper

inductive ACode where
 |skip
 |region (ops:List AOper)
 |draw (ds:List DOper)
 |both (a b:ACode)
 |seq (a b:ACode)
 |cond (c:Opd) (x y:ACode)
 |block (id:Nat) (c:ACode)
 |loop (c:ACode)
 |exit (id:Nat)
 |ret

inductive AExit where
 |normal
 |exit (id:Nat)
 |ret

inductive ARes where
 |tmp (t:Nat)
 |cell (t:Nat) (n:Option Nat)

structure AFunc where
 nargs:Nat
 ntmps:Nat
 res:List ARes
 body:ACode

abbrev oA (a b : Nat) (g : Option (Nat×Bool):=none):AOper:=⟨some a, .mv (.t b), g⟩
abbrev oB (a b c : Nat) (g : Option (Nat×Bool):=none):AOper:=⟨some a, .faddr b (.t c), g⟩
abbrev oC (a b : Nat) (g : Option (Nat×Bool):=none):AOper:=⟨some a, .load none (.t b), g⟩
abbrev oD (a b c : Nat) (g : Option (Nat×Bool):=none):AOper:=⟨some a, .bin .neq (.t b) (.t c), g⟩
abbrev oE (a b c d : Nat) (g : Option (Nat×Bool):=none):AOper:=⟨some a, .iaddr b (.t c) (.t d), g⟩
abbrev oF (a b : Nat) (g : Option (Nat×Bool):=none):AOper:=⟨some a, .len (.t b), g⟩
def AOp.quiet:AOp→Bool
 |.alloc _=>false
 |.box _=>false
 |.bslice .. => false
 |.store .. => false
 |.append .. => false
 |.appz .. => false
 |.mkslice .. => false
 |.call .. => false
 |.copy .. => false
 |.isnil .. => false
 |.mkmap=>false
 |.mupdate .. => false
 |_=>true

def AOp.isAlloc:AOp→Bool
 |.alloc _=>true
 |_=>false

def Opd.slot:Opd→List Nat
 |.t n=>[n]
 |.c _=>[]
def bJ:List Opd→List Nat
 |[]=>[]
 |x::xs=>x.slot++bJ xs
def O4:Option Opd→List Nat
 |some x=>x.slot
 |none=>[]
def AOp.looks:AOp→List Nat
 |.mv x=>x.slot
 |.nilck x=>x.slot
 |.pick c x y=>c.slot++x.slot++y.slot
 |.bin _ x y=>x.slot++y.slot
 |.binB _ x y=>x.slot++y.slot
 |.binS _ x y=>x.slot++y.slot
 |.eqs _ _ x y=>x.slot++y.slot
 |.not x=>x.slot
 |.neg x=>x.slot
 |.conv _ x=>x.slot
 |.alloc _=>[]
 |.box x=>x.slot
 |.build _ ps=>bJ (ps.map (·.2.2))
 |.bslice _ _ _ ps=>bJ (ps.map (·.2))
 |.islb _ _ _ ps=>bJ (ps.map (·.2))
 |.load _ x=>x.slot
 |.store _ x y=>x.slot++y.slot
 |.faddr _ x=>x.slot
 |.iaddr _ x y=>x.slot++y.slot
 |.iaddrA _ _ x y=>x.slot++y.slot
 |.field _ _ x=>x.slot
 |.indexS x y=>x.slot++y.slot
 |.indexA _ _ _ x y=>x.slot++y.slot
 |.slice _ x lo hi=>x.slot++O4 lo++O4 hi
 |.slice0 x=>x.slot
 |.sliceS x lo hi=>x.slot++O4 lo++O4 hi
 |.len x=>x.slot
 |.lenS x=>x.slot
 |.append _ _ x y=>x.slot++y.slot
 |.mkslice _ _ _ x y=>x.slot++y.slot
 |.mkfn _ cs=>bJ cs
 |.extract _ x=>x.slot
 |.call f az=>f.slot++bJ az
 |.mm _ x y=>x.slot++y.slot
 |.copy _ x y=>x.slot++y.slot
 |.isnil _ x=>x.slot
 |.mkmap=>[]
 |.lookup _ _ _ m x=>m.slot++x.slot
 |.mupdate _ m x y=>m.slot++x.slot++y.slot
 |.lenM x=>x.slot
 |.tostr x=>x.slot
 |.capz x=>x.slot
 |.appz _ _ _ x y=>x.slot++y.slot
def AOper.looks (o:AOper):List Nat:=o.op.looks++(match o.guard with
 |some (g,_)=>[g]
 |none=>[])

def ev (e:List AV):Opd→AV
 |.t n=>nth e n
 |.c x=>x
def evs (e:List AV):List Opd→List AV
 |[]=>[]
 |x::xs=>ev e x::evs e xs

inductive OpR where
 |val (x:AV) (b l:List Row)
 |two (c:Bool) (x y:AV)
 |call (f:Nat) (args:List AV)
 |bad

def dF (o:BinOp) (k:IntKind) (a b:Int):Option IV:=
 match o with
 |.add=>some (.int k (k.wrap (a+b)))
 |.sub=>some (.int k (k.wrap (a-b)))
 |.mul=>some (.int k (k.wrap (a*b)))
 |.quo=>if b=0 then none else some (.int k (k.wrap (a.tdiv b)))
 |.rem=>if b=0 then none else some (.int k (a.tmod b))
 |.and=>some (.int k (k.wrap ((BitVec.ofInt k.bits a &&& BitVec.ofInt k.bits b).toNat)))
 |.or=>some (.int k (k.wrap ((BitVec.ofInt k.bits a ||| BitVec.ofInt k.bits b).toNat)))
 |.xor=>some (.int k (k.wrap ((BitVec.ofInt k.bits a ^^^ BitVec.ofInt k.bits b).toNat)))
 |.andNot=>some (.int k (k.wrap ((BitVec.ofInt k.bits a &&& ~~~(BitVec.ofInt k.bits b)).toNat)))
 |.eql=>some (.bool (a==b))
 |.neq=>some (.bool (a != b))
 |.lss=>some (.bool (decide (a<b)))
 |.leq=>some (.bool (decide (a≤b)))
 |.gtr=>some (.bool (decide (a>b)))
 |.geq=>some (.bool (decide (a≥b)))
 |.shl=>none
 |.shr=>none

def yJ (o:BinOp) (k:IntKind) (a b:Int):Option IV:=
 if b<0 then none else
 match o with
 |.shl=>some (.int k (k.wrap (a*2 ^ (min b.toNat k.bits))))
 |.shr=>some (.int k (a.fdiv (2 ^ (min b.toNat k.bits))))
 |_=>none

def wJ:BinOp→Bool
 |.shl=>true
 |.shr=>true
 |_=>false

def uF (o:BinOp) (a b:ByteArray):Option IV:=
 match o with
 |.add=>if a.size+b.size≤9223372036854775807 then some (.str (a++b)) else none
 |.eql=>some (.bool (a==b))
 |.neq=>some (.bool (!(a==b)))
 |.lss=>some (.bool (Op.bytesLess a.toList b.toList))
 |.geq=>some (.bool (!(Op.bytesLess a.toList b.toList)))
 |_=>none

def vE (o:BinOp) (a b:Bool):Option IV:=
 match o with
 |.eql=>some (.bool (a==b))
 |.neq=>some (.bool (!(a==b)))
 |_=>none

def EJ (o:BinOp):AV→AV→Option IV
 |.v (.int k a),.v (.int k' b)=>if wJ o=true then yJ o k a b else if k=k' then dF o k a b else none
 |_,_=>none
def ZG (o:BinOp):AV→AV→Option IV
 |.v (.bool a),.v (.bool b)=>vE o a b
 |_,_=>none
def AF (o:BinOp):AV→AV→Option IV
 |.v (.str a),.v (.str b)=>uF o a b
 |_,_=>none

def aG:Option Bool→Option Bool→Option Bool
 |some r,some s=>some (r&&s)
 |_,_=>none

def eqF:FK→AV→AV→Option Bool
 |.i,.v (.int k a),.v (.int k' b)=>if k=k' then some (a==b) else none
 |.b,.v (.bool a),.v (.bool b)=>some (a==b)
 |.s,.v (.str a),.v (.str b)=>some (a==b)
 |_,_,_=>none

def eqC:List FK→List AV→List AV→Option Bool
 |[],[],[]=>some true
 |k::ks,x::xs,y::ys=>aG (eqF k x y) (eqC ks xs ys)
 |_,_,_=>none

def ZD:KK→AV→AV→Option Bool
 |.one k,x,y=>eqF k x y
 |.many ks,.agg xs,.agg ys=>eqC ks xs ys
 |_,_,_=>none
def EP (kk:KK) (x:AV):List (List AV)→Option (Option AV)
 |[]=>some none
 |[y,v]::r=>match ZD kk x y with
   |some true=>some (some v)
   |some false=>EP kk x r
   |none=>none
 |_::_=>none
def a9 (kk:KK) (x v:AV):List (List AV)→Option (List (List AV))
 |[]=>some [[x,v]]
 |[y,u]::r=>match ZD kk x y with
   |some true=>some ([x,v]::r)
   |some false=>(a9 kk x v r).map ([y,u]::·)
   |none=>none
 |_::_=>none

def cellsOf:AV→Option (List AV)
 |.v x=>some [.v x]
 |.agg cs=>some cs
 |.sl a b c d=>some [.sl a b c d]
 |.ptr a b c d=>some [.ptr a b c d]
 |.fn f cs=>some [.fn f cs]
 |.mp a b=>some [.mp a b]
 |_=>none

def rB (row:List AV) (j:Nat):List AV→List AV
 |[]=>row
 |c::cs=>rB (row.set j c) (j+1) cs

def bC (e:List AV) (row:List AV):List (Nat×Nat×Opd)→Option (List AV)
 |[]=>some row
 |(off,size,x)::ps =>
   match cellsOf (ev e x) with
   |some cs=>if cs.length=size∧off+size≤row.length then bC e (rB row off cs) ps else none
   |none=>none

def RB (e:List AV) (sz:Nat) (els:List (List AV)):List (Nat×Opd)→Option (List (List AV))
 |[]=>some els
 |(i,x)::ps =>
   match cellsOf (ev e x) with
   |some cs=>if cs.length=sz∧i<els.length∧cs.all AV.cell=true then RB e sz (els.set i cs) ps else none
   |none=>none

def NI:List AV→Option (List IV)
 |[]=>some []
 |.v x::r=>match NI r with
   |some ys=>some (x::ys)
   |none=>none
 |_::_=>none
def iF:List (List AV)→Option (List (List IV))
 |[]=>some []
 |r::rs=>match NI r,iF rs with
   |some x,some xs=>some (x::xs)
   |_,_=>none

def rd (row:List AV) (j:Nat):Option Nat→Option AV
 |none=>row[j]?
 |some n=>if j+n≤row.length then some (.agg ((row.drop j).take n)) else none
def rdI (row:List IV) (j:Nat):Option Nat→Option AV
 |none=>(row[j]?).map .v
 |some n=>if j+n≤row.length then some (.agg (((row.drop j).take n).map .v)) else none

def VJ (x:Option AV) (b l:List Row):OpR:=
 match x with
 |some x=>.val x b l
 |none=>.bad

def IE (b l:List Row) (sz:Nat):AV→Option (List (List AV))
 |.v .zsl=>some []
 |.v (.isl s rows)=>if s=sz then some (rows.map (·.map .v)) else none
 |.sl id ver off len =>
   match hget b l id with
   |some (.live v s els)=>if v=ver∧s=sz∧off+len≤els.length then some ((els.drop off).take len) else none
   |_=>none
 |.v (.str s)=>if sz=1 then some (s.data.toList.map fun c=>[.v (.int .u8 c.toNat)]) else none
 |_=>none

def mk (b l:List Row) (sz:Nat) (els:List (List AV)) (x:Nat→AV):OpR:=.val (x (b.length+l.length)) b (l++[.live 0 sz els])

def fD (n:Nat) (lo hi:Option AV):Option (Nat×Nat):=
 match lo,hi with
 |none,none=>some (0,n)
 |some (.v (.int _ a)),none=>if 0≤a∧a≤(n:Int) then some (a.toNat,n) else none
 |none,some (.v (.int _ c))=>if 0≤c∧c≤(n:Int) then some (0,c.toNat) else none
 |some (.v (.int _ a)),some (.v (.int _ c))=>if 0≤a∧a≤c∧c≤(n:Int) then some (a.toNat,c.toNat) else none
 |_,_=>none

def room:Nat:=140737488355328

def TD (b l:List Row) (sz:Nat) (x:AV) (lo hi:Option AV):OpR:=
 match x with
 |.v .zsl=>match fD 0 lo hi with
   |some _=>.val (.v .zsl) b l
   |none=>.bad
 |.v (.isl s rows) =>
   if s=sz then match fD rows.length lo hi with
    |some (p,q)=>.val (.v (.isl s ((rows.take q).drop p))) b l
    |none=>.bad
   else .bad
 |.sl id ver off len =>
   match hget b l id with
   |some (.live v s els)=>if v=ver∧s=sz then match fD len lo hi with
     |some (p,q)=>.val (.sl id ver (off+p) (q-p)) b l
     |none=>.bad
    else .bad
   |_=>.bad
 |_=>.bad

def LC (b l:List Row) (sz bytes:Nat) (s x:AV):OpR:=
 match IE b l sz x with
 |none=>.bad
 |some xs =>
   match s with
   |.v .zsl=>if xs=[] then .val (.v .zsl) b l else if xs.length*bytes≤room∧xs.length≤room then mk b l sz xs (fun i=>.sl i 0 0 xs.length) else .bad
   |.sl id ver off len =>
     match hget b l id with
     |some (.live v s' els) =>
       if v=ver∧s'=sz∧off+len≤els.length∧(len+xs.length)*bytes≤room∧len+xs.length≤room then
        .val (.sl id (ver+1) 0 (len+xs.length)) (iE b id (.live (ver+1) sz ((els.drop off).take len++xs))) (GE b l id (.live (ver+1) sz ((els.drop off).take len++xs)))
       else .bad
     |_=>.bad
   |_=>.bad

def IF (b l:List Row) (sz bytes:Nat) (zs:List AV) (s n:AV):OpR:=
 match s,n with
 |.v .zsl,.v (.int .i64 n)=>if n=0 then .val (.v .zsl) b l else if 0<n∧n.toNat*bytes≤room∧n.toNat≤room then mk b l sz (List.replicate n.toNat zs) (fun i=>.sl i 0 0 n.toNat) else .bad
 |_,_=>.bad

def AE (b l:List Row) (n:Option Nat):AV→OpR
 |.v (.iptr row j)=>VJ (rdI row j n) b l
 |.ptr id ver k j =>
   match hget b l id with
   |some (.live v _ els)=>if v=ver then match els[k]? with
     |some row=>VJ (rd row j n) b l
     |none=>.bad
    else .bad
   |_=>.bad
 |_=>.bad

def QE (b l:List Row) (n:Nat) (x y:AV):OpR:=
 match x,cellsOf y with
 |.ptr id ver k j,some cs =>
   match hget b l id with
   |some (.live v s els)=>if v=ver∧cs.length=n∧cs.all AV.cell=true then match els[k]? with
     |some row=>if j+n≤row.length then .val (.tup []) (iE b id (.live ver s (els.set k (rB row j cs)))) (GE b l id (.live ver s (els.set k (rB row j cs)))) else .bad
     |none=>.bad
    else .bad
   |_=>.bad
 |_,_=>.bad

def MD (b l:List Row) (sz:Nat) (x i:AV):OpR:=
 match x,i with
 |.v (.isl s rows),.v (.int _ n)=>if s=sz∧0≤n then match rows[n.toNat]? with
   |some row=>.val (.v (.iptr row 0)) b l
   |none=>.bad
  else .bad
 |.sl id ver off len,.v (.int _ n)=>match hget b l id with
   |some (.live v s els)=>if v=ver∧s=sz∧0≤n∧n<(len:Int) then .val (.ptr id ver (off+n.toNat) 0) b l else .bad
   |_=>.bad
 |_,_=>.bad

def GC (b l:List Row) (len sz:Nat) (x i:AV):OpR:=
 match x,i with
 |.v (.iptr row j),.v (.int _ n)=>if 0≤n∧n<(len:Int) then .val (.v (.iptr row (j+n.toNat*sz))) b l else .bad
 |.ptr id ver k j,.v (.int _ n)=>if 0≤n∧n<(len:Int) then .val (.ptr id ver k (j+n.toNat*sz)) b l else .bad
 |_,_=>.bad

def LD (b l:List Row) (d:Nat):AV→OpR
 |.v (.iptr row j)=>.val (.v (.iptr row (j+d))) b l
 |.ptr id ver k j=>.val (.ptr id ver k (j+d)) b l
 |_=>.bad

def XG:AV→Option AV
 |.v (.str s)=>some (.v (.int .i64 s.size))
 |_=>none
def AJ:AV→Option AV
 |.v .zsl=>some (.v (.int .i64 0))
 |.v (.isl _ rows)=>some (.v (.int .i64 rows.length))
 |.sl _ _ _ n=>some (.v (.int .i64 n))
 |_=>none

def GF (b l:List Row) (sz:Nat) (x y:AV):OpR:=
 match IE b l sz y with
 |none=>.bad
 |some xs =>
   match x with
   |.sl id ver off len =>
     match hget b l id with
     |some (.live v s els) =>
       if v=ver∧s=sz∧off+len≤els.length then
        .val (.v (.int .i64 ((min xs.length len:Nat):Int))) (iE b id (.live ver s (els.take off++xs.take len++els.drop (off+min xs.length len)))) (GE b l id (.live ver s (els.take off++xs.take len++els.drop (off+min xs.length len))))
       else .bad
     |_=>.bad
   |_=>.bad

def comma (c:Bool) (v:AV) (ok:Bool):AV:=if c then .tup [v,.v (.bool ok)] else v
def aC (b l:List Row) (kk:KK) (zero:AV) (c:Bool) (m x:AV):OpR:=
 if ZD kk x x=some true then match m with
  |.v .nilm=>.val (comma c zero false) b l
  |.mp id ver=>match hget b l id with
    |some (.live v _ els)=>if v=ver then match EP kk x els with
      |some (some y)=>.val (comma c y true) b l
      |some none=>.val (comma c zero false) b l
      |none=>.bad
     else .bad
    |_=>.bad
  |_=>.bad
 else .bad
def MB (b l:List Row) (kk:KK) (m x y:AV):OpR:=
 if ZD kk x x=some true then match m with
  |.mp id ver=>match hget b l id with
    |some (.live v s els)=>if v=ver then match a9 kk x y els with
      |some els'=>.val (.tup []) (iE b id (.live ver s els')) (GE b l id (.live ver s els'))
      |none=>.bad
     else .bad
    |_=>.bad
  |_=>.bad
 else .bad
def QR:List (List AV)→Option (List Int)
 |[]=>some []
 |[.v (.int .u8 n)]::rs=>(QR rs).map (n::·)
 |_=>none
def VY (ns:List Int):ByteArray:=⟨(ns.map fun n=>UInt8.ofNat n.toNat).toArray⟩
def SD (b l:List Row) (x:AV):OpR:=
 match x with
 |.v (.str _)=>.bad
 |x=>match IE b l 1 x with
   |some xs=>match QR xs with
     |some ns=>.val (.v (.str (VY ns))) b l
     |none=>.bad
   |none=>.bad
def sF (b l:List Row):AV→OpR
 |.v .nilm=>.val (.v (.int .i64 0)) b l
 |.mp id ver=>match hget b l id with
   |some (.live v _ els)=>if v=ver then .val (.v (.int .i64 els.length)) b l else .bad
   |_=>.bad
 |_=>.bad

def amm (isMax:Bool):AV→AV→Option AV
 |.v (.int k x),.v (.int _ y)=>some (.v (.int k (if isMax then (if y>x then y else x) else (if y<x then y else x))))
 |_,_=>none

def evo (e:List AV):Option Opd→Option AV
 |some x=>some (ev e x)
 |none=>none

def zF:AV→List AV→OpR
 |.fn f caps,args=>.call f (args++caps)
 |_,_=>.bad

def QG:AV→AV→AV→Option AV
 |.v (.bool t),.v (.bool a),.v (.bool c)=>some (.v (.bool (if t then a else c)))
 |.v (.bool t),a,c=>some (if t then a else c)
 |_,_,_=>none

def aop (e:List AV) (b l:List Row):AOp→OpR
 |.mv x=>.val (ev e x) b l
 |.nilck x=>match ev e x with
   |.v (.iptr row j)=>.val (.v (.iptr row j)) b l
   |.ptr id ver k j=>.val (.ptr id ver k j) b l
   |.fn f cs=>.val (.fn f cs) b l
   |_=>.bad
 |.pick c x y=>VJ (QG (ev e c) (ev e x) (ev e y)) b l
 |.bin o x y=>VJ ((EJ o (ev e x) (ev e y)).map .v) b l
 |.binB o x y=>VJ ((ZG o (ev e x) (ev e y)).map .v) b l
 |.binS o x y=>VJ ((AF o (ev e x) (ev e y)).map .v) b l
 |.eqs neg ks x y=>match ev e x,ev e y with
   |.agg xs,.agg ys=>match eqC ks xs ys with
     |some t=>.val (.v (.bool (if neg then !t else t))) b l
     |none=>.bad
   |_,_=>.bad
 |.not x=>match ev e x with
   |.v (.bool t)=>.val (.v (.bool (!t))) b l
   |_=>.bad
 |.neg x=>match ev e x with
   |.v (.int k n)=>.val (.v (.int k (k.wrap (0-n)))) b l
   |_=>.bad
 |.conv k x=>match ev e x with
   |.v (.int _ n)=>.val (.v (.int k (k.wrap n))) b l
   |_=>.bad
 |.alloc zs=>mk b l zs.length [zs] (fun i=>.ptr i 0 0 0)
 |.box x=>match cellsOf (ev e x) with
   |some cs=>if cs.all AV.cell=true then mk b l cs.length [cs] (fun i=>.ptr i 0 0 0) else .bad
   |none=>.bad
 |.build zs ps=>match bC e zs ps with
   |some cs=>.val (.agg cs) b l
   |none=>.bad
 |.bslice sz zs len ps=>match RB e sz (List.replicate len zs) ps with
   |some els=>mk b l sz els (fun i=>.sl i 0 0 len)
   |none=>.bad
 |.islb sz zs len ps=>match RB e sz (List.replicate len zs) ps with
   |some els=>match iF els with
     |some rows=>.val (.v (.isl sz rows)) b l
     |none=>.bad
   |none=>.bad
 |.load n x=>AE b l n (ev e x)
 |.store n x y=>QE b l n (ev e x) (ev e y)
 |.faddr d x=>LD b l d (ev e x)
 |.iaddr sz x i=>MD b l sz (ev e x) (ev e i)
 |.iaddrA len sz x i=>GC b l len sz (ev e x) (ev e i)
 |.field off n x=>match ev e x with
   |.agg cs=>VJ (rd cs off n) b l
   |_=>.bad
 |.indexS x i=>match ev e x,ev e i with
   |.v (.str s),.v (.int _ n)=>if h:0≤n∧n.toNat<s.size then .val (.v (.int .u8 (s[n.toNat]'h.2).toNat)) b l else .bad
   |_,_=>.bad
 |.indexA len sz n x i=>match ev e x,ev e i with
   |.agg cs,.v (.int _ k)=>if 0≤k∧k<(len:Int) then VJ (rd cs (k.toNat*sz) n) b l else .bad
   |_,_=>.bad
 |.slice sz x lo hi=>TD b l sz (ev e x) (evo e lo) (evo e hi)
 |.slice0 x=>match ev e x with
   |.v .zsl=>.val (.v .zsl) b l
   |.v (.isl _ _)=>.val (.v .zsl) b l
   |.sl .. => .val (.v .zsl) b l
   |_=>.bad
 |.sliceS x lo hi=>match ev e x with
   |.v (.str s)=>match fD s.size (evo e lo) (evo e hi) with
     |some (p,q)=>.val (.v (.str (s.extract p q))) b l
     |none=>.bad
   |_=>.bad
 |.len x=>VJ (AJ (ev e x)) b l
 |.capz x=>match ev e x with
   |.v .zsl=>.val (.v (.int .i64 0)) b l
   |_=>.bad
 |.lenS x=>VJ (XG (ev e x)) b l
 |.append sz bytes s x=>LC b l sz bytes (ev e s) (ev e x)
 |.appz sz bytes zs s n=>IF b l sz bytes zs (ev e s) (ev e n)
 |.mkslice sz zs bytes n c=>match ev e n,ev e c with
   |.v (.int _ n),.v (.int _ c)=>if 0≤n∧n≤c∧c.toNat*bytes≤room∧c.toNat≤room then mk b l sz (List.replicate n.toNat zs) (fun i=>.sl i 0 0 n.toNat) else .bad
   |_,_=>.bad
 |.mkfn f caps=>.val (.fn f (evs e caps)) b l
 |.extract i x=>match ev e x with
   |.tup cs=>VJ (cs[i]?) b l
   |_=>.bad
 |.call f args=>zF (ev e f) (evs e args)
 |.mm t x y=>VJ (amm t (ev e x) (ev e y)) b l
 |.copy sz x y=>GF b l sz (ev e x) (ev e y)
 |.isnil neg x=>match ev e x with
   |.v .zsl=>.two true (.v (.bool (!neg))) (.v (.bool neg))
   |.v (.isl _ rows)=>.two rows.isEmpty (.v (.bool (!neg))) (.v (.bool neg))
   |.sl _ _ _ n=>.two (n==0) (.v (.bool (!neg))) (.v (.bool neg))
   |_=>.bad
 |.mkmap=>mk b l 0 [] (fun i=>.mp i 0)
 |.lookup kk zero c m x=>aC b l kk zero c (ev e m) (ev e x)
 |.mupdate kk m x y=>MB b l kk (ev e m) (ev e x) (ev e y)
 |.lenM x=>sF b l (ev e x)
 |.tostr x=>SD b l (ev e x)

def gd (e:List AV):Option (Nat×Bool)→Option Bool
 |none=>some true
 |some (s,want)=>match nth e s with
   |.v (.bool t)=>some (t==want)
   |.tup []=>some false
   |_=>none

def dE (t:Option Bool) (A B:Prop):Prop:=
 match t with
 |some t=>if t=true then A else B
 |none=>False

abbrev CallP:=Nat→List AV→List Row→List Row→(AV→List Row→List Row→Prop)→Prop

def uK (C:CallP) (b l:List Row) (K:AV→List Row→List Row→Prop):OpR→Prop
 |.val x b' l'=>K x b' l'
 |.two c x y=>(c=true→K x b l)∧K y b l
 |.call f args=>C f args b l K
 |.bad=>False

def wF (C:CallP):List AOper→List AV→List Row→List Row→(List AV→List Row→List Row→Prop)→Prop
 |[],e,b,l,K=>K e b l
 |o::os,e,b,l,K =>
   dE (gd e o.guard)
    (uK C b l (fun x b' l'=>wF C os (put e o.dst x) b' l' K) (aop e b l o.op))
    (wF C os (put e o.dst (.tup [])) b l K)

def YE (e:List AV) (b l:List Row) (r:AOper):Prop:=
 dE (gd e r.guard) (∃v,aop e b l r.op=.val v b l∧(match r.dst with
  |some d=>nth e d=v∨e.length≤d
  |none=>True)) True
def TG (e:List AV) (b l:List Row):List AOper→Prop
 |[]=>True
 |r::rs=>YE e b l r∧TG e b l rs

def PG (C:CallP):List DOper→List AV→List Row→List Row→(List AV→List Row→List Row→Prop)→Prop
 |[],e,b,l,K=>K e b l
 |d::ds,e,b,l,K =>
   dE (gd e d.o.guard)
    (uK C b l (fun x b' l'=>TG e b' l' d.re∧PG C ds (put e d.o.dst x) b' l' K) (aop e b l d.o.op))
    (PG C ds (put e d.o.dst (.tup [])) b l K)

abbrev WeakP:=List AV→List Row→List Row→List AV→List Row→List Row→Prop

def nW (R:List AV→List Row→List Row→Prop) (Q:AExit→List AV→List Row→List Row→Prop):AExit→List AV→List Row→List Row→Prop
 |.normal,e,b,l=>R e b l
 |.exit i,e,b,l=>Q (.exit i) e b l
 |.ret,e,b,l=>Q .ret e b l
def S4 (id:Nat) (Q:AExit→List AV→List Row→List Row→Prop):AExit→List AV→List Row→List Row→Prop
 |.normal,e,b,l=>Q .normal e b l
 |.exit i,e,b,l=>if i=id then Q .normal e b l else Q (.exit i) e b l
 |.ret,e,b,l=>Q .ret e b l

def run (C:CallP) (W:WeakP):ACode→List AV→List Row→List Row→(AExit→List AV→List Row→List Row→Prop)→Prop
 |.skip,e,b,l,Q=>Q .normal e b l
 |.region ops,e,b,l,Q=>wF C ops e b l (Q .normal)
 |.draw ds,e,b,l,Q=>PG C ds e b l (Q .normal)
 |.both x y,e,b,l,Q=>run C W x e b l Q∧run C W y e b l Q
 |.seq x y,e,b,l,Q=>run C W x e b l (nW (fun e b l=>run C W y e b l Q) Q)
 |.cond c x y,e,b,l,Q =>
   match ev e c with
   |.v (.bool t)=>if t=true then run C W x e b l Q else run C W y e b l Q
   |_=>False
 |.block id c,e,b,l,Q=>run C W c e b l (S4 id Q)
 |.loop c,e,b,l,Q =>
   ∃I:List AV→List Row→List Row→Nat→Prop,(∃e' b' l' m,W e b l e' b' l'∧I e' b' l' m) ∧
    ∀e b l m,I e b l m→run C W c e b l (nW (fun e b l=>∃e' b' l' m',W e b l e' b' l'∧I e' b' l' m'∧m'<m) Q)
 |.exit i,e,b,l,Q=>Q (.exit i) e b l
 |.ret,e,b,l,Q=>Q .ret e b l

def resV (e:List AV) (b l:List Row):ARes→Option AV
 |.tmp t=>some (nth e t)
 |.cell t n=>match AE b l n (nth e t) with
   |.val x _ _=>some x
   |_=>none
def resVs (e:List AV) (b l:List Row):List ARes→Option (List AV)
 |[]=>some []
 |r::rs=>match resV e b l r,resVs e b l rs with
   |some x,some xs=>some (x::xs)
   |_,_=>none
def one:List AV→AV
 |[x]=>x
 |xs=>.tup xs

def cvI:Value→Option IV
 |.int k n=>some (.int k n)
 |.bool b=>some (.bool b)
 |.string s=>some (.str s)
 |.pointer none=>some .nilp
 |.slice none 0 0=>some .zsl
 |.map none=>some .nilm
 |.nilFunc=>some .nilf
 |_=>none
def cvL:List Value→Option (List AV)
 |[]=>some []
 |v::vs=>match cvI v,cvL vs with
   |some x,some xs=>some (.v x::xs)
   |_,_=>none
def cvA:Value→Option AV
 |.agg cs=>(cvL cs.toList).map .agg
 |.tuple vs=>if vs.size=0 then some (.tup []) else none
 |.func (.func f) first caps=>if first.size=0∧caps.size=0 then some (.fn f []) else none
 |v=>(cvI v).map .v

def aA:Operand→Option Opd
 |.tmp t=>some (.t t)
 |.const v=>(cvA v).map .c
 |.func f=>some (.c (.fn f []))
 |.global _=>none
def uR:List Operand→Option (List Opd)
 |[]=>some []
 |x::xs=>match aA x,uR xs with
   |some y,some ys=>some (y::ys)
   |_,_=>none
def yM:Option Operand→Option (Option Opd)
 |none=>some none
 |some x=>(aA x).map some

section
variable (P:Program)
def ZCq (t:TypeId):Option Bool:=
 match P.underlying t with
 |some (.struct _)=>some true
 |some (.array _ _)=>some true
 |some _=>some false
 |none=>none
def lD (t:TypeId):Option Nat:=(P.info? t).map (·.size)
def CO (t:TypeId):Option Nat:=(P.info? t).map (·.bytes)
def iK (t:TypeId):Option (Option Nat):=
 match ZCq P t,lD P t with
 |some true,some n=>some (some n)
 |some false,some _=>some none
 |_,_=>none
def aF (t:TypeId):Option (List AV):=
 match P.info? t with
 |some i=>match i.zero with
   |some z=>cvL z.cells.toList
   |none=>none
 |none=>none
def KJ (t:TypeId):Option FK:=
 match P.underlying t with
 |some (.int _)=>some .i
 |some .bool=>some .b
 |some .string=>some .s
 |_=>none
def SL:Nat→List Field→Option (List FK)
 |_,[]=>some []
 |n,f::fs=>if f.offset=n∧f.name≠ "_" then
   match KJ P f.type,SL (n+1) fs with
   |some k,some ks=>some (k::ks)
   |_,_=>none
  else none
def KR (fs:Array Field):List (Nat×Operand)→Option (List (Nat×Nat×Opd))
 |[]=>some []
 |(i,x)::ps=>match fs[i]?,aA x,KR fs ps with
   |some f,some y,some ys=>match lD P f.type with
     |some n=>some ((f.offset,n,y)::ys)
     |none=>none
   |_,_,_=>none
def qN (n:Nat):List (Nat×Operand)→Option (List (Nat×Nat×Opd))
 |[]=>some []
 |(i,x)::ps=>match aA x,qN n ps with
   |some y,some ys=>some ((i*n,n,y)::ys)
   |_,_=>none
def MJ:List (Nat×Operand)→Option (List (Nat×Opd))
 |[]=>some []
 |(i,x)::ps=>match aA x,MJ ps with
   |some y,some ys=>some ((i,y)::ys)
   |_,_=>none
def k9:Operand→Bool
 |.const (.slice none 0 0)=>true
 |_=>false
def YR:Option Operand→Bool
 |some (.const (.int _ 0))=>true
 |_=>false

def kkT (t:TypeId):Option KK:=
 match P.underlying t with
 |some (.struct fs)=>if P.stoodInHeld t=false then (SL P 0 fs.toList).map .many else none
 |some (.array n el)=>match KJ P el,lD P el with
   |some k,some 1=>some (.many (List.replicate n k))
   |_,_=>none
 |some _=>(KJ P t).map .one
 |none=>none
def ZC9 (t:TypeId):Option AV:=
 match P.info? t with
 |some i=>match i.zero with
   |some z=>cvA z
   |none=>none
 |none=>none
def x9:Option Operand→Bool
 |none=>true
 |some (.const (.int _ _))=>true
 |_=>false
def g9:Option TypeDesc→Bool
 |some (.map _ _)=>true
 |_=>false

def ZFa:Option TypeDesc→Bool
 |some (.int .i64)=>true
 |_=>false
def EN:Option TypeDesc→Bool
 |some (.slice _)=>true
 |some .string=>true
 |_=>false

def cOp (o:Op):Option AOp:=
 match o with
 |.move x=>(aA x).map .mv
 |.assign x=>(aA x).map .mv
 |.nilCheck x=>(aA x).map .nilck
 |.pick c a b=>do let c ←aA c;let a ←aA a;let b ←aA b;pure (.pick c a b)
 |.binOp o t x y _ =>
   match P.underlying t with
   |some (.struct fs)=>match SL P 0 fs.toList with
     |some ks=>if P.stoodInHeld t=false∧P.eqGuardType P.depth t=false∧(o=.eql∨o=.neq) then
       do let x ←aA x;let y ←aA y;pure (.eqs (o==.neq) ks x y) else none
     |none=>none
   |some (.array n el)=>match KJ P el,lD P el with
     |some k,some 1=>if P.eqGuardType P.depth t=false∧(o=.eql∨o=.neq) then
       do let x ←aA x;let y ←aA y;pure (.eqs (o==.neq) (List.replicate n k) x y) else none
     |_,_=>none
   |some (.int _)=>do let x ←aA x;let y ←aA y;pure (.bin o x y)
   |some .bool=>do let x ←aA x;let y ←aA y;pure (.binB o x y)
   |some .string=>do let x ←aA x;let y ←aA y;pure (.binS o x y)
   |some (.slice _)=>if (o=.eql∨o=.neq)∧k9 y=true then (aA x).map (.isnil (o==.neq)) else none
   |_=>none
 |.unOp .not _ x=>(aA x).map .not
 |.unOp .neg _ x=>(aA x).map .neg
 |.convert s d x=>match P.underlying s,P.underlying d with
   |some (.int _),some (.int k)=>(aA x).map (.conv k)
   |some (.slice el),some .string=>match P.underlying el with
     |some (.int .u8)=>(aA x).map .tostr
     |_=>none
   |_,_=>none
 |.alloc t=>(aF P t).map .alloc
 |.box _ x=>(aA x).map .box
 |.build t ps=>match P.underlying t,aF P t with
   |some (.struct fs),some zs=>if fs.toList.all (fun f=>(lD P f.type).isSome)=true then (KR P fs ps.toList).map (.build zs) else none
   |some (.array _ el),some zs=>match lD P el with
     |some n=>(qN n ps.toList).map (.build zs)
     |none=>none
   |_,_=>none
 |.buildSlice t len ps=>match P.underlying t with
   |some (.slice el)=>match lD P el,aF P el with
     |some n,some zs=>if 0<n∧len*n≤16777216∧zs.length=n then (MJ ps.toList).map (.bslice n zs len) else none
     |_,_=>none
   |_=>none
 |.load t x=>match iK P t with
   |some n=>(aA x).map (.load n)
   |none=>none
 |.store t a v=>match lD P t with
   |some n=>do let a ←aA a;let v ←aA v;pure (.store n a v)
   |none=>none
 |.fieldAddr t x i=>match P.underlying t with
   |some (.struct fs)=>match fs[i]? with
     |some f=>match lD P f.type with
       |some n=>if 0<n then (aA x).map (.faddr f.offset) else none
       |none=>none
     |none=>none
   |_=>none
 |.field t x i=>match P.underlying t with
   |some (.struct fs)=>match fs[i]? with
     |some f=>match iK P f.type with
       |some n=>(aA x).map (.field f.offset n)
       |none=>none
     |none=>none
   |_=>none
 |.indexAddr t x i=>match P.underlying t with
   |some (.slice el)=>match lD P el with
     |some n=>do let x ←aA x;let i ←aA i;pure (.iaddr n x i)
     |none=>none
   |some (.array len el)=>match lD P el with
     |some n=>do let x ←aA x;let i ←aA i;pure (.iaddrA len n x i)
     |none=>none
   |_=>none
 |.index t x i=>match P.underlying t with
   |some .string=>do let x ←aA x;let i ←aA i;pure (.indexS x i)
   |some (.array len el)=>match lD P el,iK P el with
     |some n,some s=>do let x ←aA x;let i ←aA i;pure (.indexA len n s x i)
     |_,_=>none
   |_=>none
 |.slice t x lo hi mx=>match P.underlying t with
   |some (.slice el)=>match mx with
     |none=>match lD P el with
       |some n=>do let x ←aA x;let lo ←yM lo;let hi ←yM hi;pure (.slice n x lo hi)
       |none=>none
     |some _=>if YR mx&&YR hi&&lo.isNone&&(lD P el).isSome then (aA x).map .slice0 else none
   |some .string=>match mx with
     |none=>do let x ←aA x;let lo ←yM lo;let hi ←yM hi;pure (.sliceS x lo hi)
     |some _=>none
   |_=>none
 |.makeSlice t n c=>match P.underlying t with
   |some (.slice el)=>match lD P el,aF P el,CO P el with
     |some s,some zs,some bytes=>if zs.length=s∧0<s then do let n ←aA n;let c ←aA c;pure (.mkslice s zs bytes n c) else none
     |_,_,_=>none
   |_=>none
 |.makeMap t r=>if g9 (P.underlying t)=true∧x9 r=true then some .mkmap else none
 |.lookup t x i c=>match P.underlying t with
   |some (.map k el)=>match kkT P k,ZC9 P el with
     |some kk,some z=>do let x ←aA x;let i ←aA i;pure (.lookup kk z c x i)
     |_,_=>none
   |_=>none
 |.mapUpdate t m x y=>match P.underlying t with
   |some (.map k _)=>match kkT P k with
     |some kk=>do let m ←aA m;let x ←aA x;let y ←aA y;pure (.mupdate kk m x y)
     |none=>none
   |_=>none
 |.makeFunc (.func f) first caps=>if first.size=0 then (uR caps.toList).map (.mkfn f) else none
 |.extract x i=>(aA x).map (.extract i)
 |.call c=>match c.callee with
   |.value f=>do let f ←aA f;let args ←uR c.args.toList;pure (.call f args)
   |.builtin .len=>match c.args.toList,c.argTypes.toList with
     |[x],[t]=>match P.underlying t with
       |some .string=>(aA x).map .lenS
       |some (.slice _)=>(aA x).map .len
       |some (.array n _)=>some (.mv (.c (.v (.int .i64 n))))
       |some (.map _ _)=>(aA x).map .lenM
       |_=>none
     |_,_=>none
   |.builtin .append=>match c.args.toList,c.argTypes.toList with
     |[s,x],[t,u]=>match P.underlying t with
       |some (.slice el)=>match lD P el,CO P el,aF P el with
         |some n,some bytes,some zs=>if 0<n∧0<bytes∧zs.length=n∧EN (P.underlying u)=true then do let s ←aA s;let x ←aA x;pure (.append n bytes s x)
           else if 0<n∧0<bytes∧zs.length=n∧ZFa (P.underlying u)=true then do let s ←aA s;let x ←aA x;pure (.appz n bytes zs s x) else none
         |_,_,_=>none
       |_=>none
     |_,_=>none
   |.builtin .copy=>match c.args.toList,c.argTypes.toList with
     |[x,y],[t,_]=>match P.underlying t with
       |some (.slice el)=>match lD P el with
         |some n=>if 0<n then do let x ←aA x;let y ←aA y;pure (.copy n x y) else none
         |none=>none
       |_=>none
     |_,_=>none
   |.builtin .max=>match c.args.toList with
     |[x,y]=>do let x ←aA x;let y ←aA y;pure (.mm true x y)
     |_=>none
   |.builtin .min=>match c.args.toList with
     |[x,y]=>do let x ←aA x;let y ←aA y;pure (.mm false x y)
     |_=>none
   |.builtin .cap=>match c.args.toList,c.argTypes.toList with
     |[x],[t]=>match P.underlying t with
       |some (.slice _)=>(aA x).map .capz
       |_=>none
     |_,_=>none
   |_=>none
 |_=>none

def ZFb:AOp→AOp
 |.bslice sz zs len ps=>.islb sz zs len ps
 |o=>o
def IY (imm:Bool) (o:Op):Option AOp:=if imm=true then (cOp P o).map ZFb else cOp P o
def zR (ops:Array Oper):Option (Nat×Bool)→Option (Option (Nat×Bool))
 |none=>some none
 |some (j,want)=>match (ops[j]?).bind (·.dst) with
   |some d=>some (some (d,want))
   |none=>none
def zT (imm:Bool) (ops:Array Oper):List Oper→Option (List AOper)
 |[]=>some []
 |o::os=>match IY P imm o.op,zR ops o.guard,zT imm ops os with
   |some x,some g,some xs=>some (⟨o.dst,x,g⟩::xs)
   |_,_,_=>none
def anc (ops:Array Oper) (x:Nat):Nat→Nat→Bool
 |0,_=>false
 |n+1,i=>match ops[i]? with
   |some o=>o.after.toList.any fun ed=>Region.binds .any ed&&(ed.on==x||anc ops x n ed.on)
   |none=>false
def O8 (ops:Array Oper) (done:List Nat) (i:Nat):Bool:=match ops[i]? with
 |some o=>o.after.toList.all fun ed=>!Region.binds .any ed||done.contains ed.on
 |none=>false
def ZR (ops:Array Oper) (qs als:List Bool):Nat→List Nat→List Nat→List Nat
 |0,_,_=>[]
 |n+1,left,done =>
   match left.find? (fun i=>O8 ops done i&&qs.getD i false) with
   |some i=>i::ZR ops qs als n (left.erase i) (i::done)
   |none=>match left.find? (fun i=>O8 ops done i&&!als.getD i false) with
     |some i=>i::ZR ops qs als n (left.erase i) (i::done)
     |none=>match left.find? (fun i=>O8 ops done i) with
       |some i=>i::ZR ops qs als n (left.erase i) (i::done)
       |none=>[]
def ZDP (ops:Array Oper) (aos:List AOper) (i:Nat):List Nat→List AOper
 |[]=>[]
 |j::js=>match aos[j]? with
   |some r=>if r.op.quiet&&!anc ops j ops.size i then r::ZDP ops aos i js else ZDP ops aos i js
   |none=>ZDP ops aos i js
def mkD (ops:Array Oper) (aos:List AOper):List Nat→List Nat→List DOper
 |_,[]=>[]
 |done,i::is=>match aos[i]? with
   |some o=>⟨i,o,if o.op.quiet then [] else ZDP ops aos i done⟩::mkD ops aos (done++[i]) is
   |none=>[]
def ZU (ops:Array Oper) (fin:List Nat) (a c:DOper):Bool:=
 (!fin.contains a.i||anc ops a.i ops.size c.i)&&(match c.o.dst with
  |some d=>(!(a.o.op.quiet||c.o.op.isAlloc)||(fin.contains c.i&&!c.o.op.isAlloc&&anc ops a.i ops.size c.i)||!a.o.looks.contains d)&&a.o.dst != some d&&(!c.o.op.isAlloc||a.re.all (fun r=>!r.looks.contains d&&r.dst != some d))
  |none=>true) &&
 (anc ops a.i ops.size c.i||((a.o.op.quiet||c.o.op.isAlloc)&&(match a.o.dst with
  |some d=>!c.o.looks.contains d
  |none=>true)))
def XS (o:AOper):Bool:=!o.op.isAlloc||(o.guard.isNone&&o.dst.isSome)
def OQ (a:DOper):Bool:=match a.o.dst with
 |some d=>!(a.o.op.quiet||a.o.op.isAlloc)||(!a.o.looks.contains d&&a.re.all (fun r=>!r.looks.contains d&&r.dst != some d))
 |none=>true
def LR (ops:Array Oper) (fin:List Nat):List DOper→Bool
 |[]=>true
 |a::ds=>OQ a&&ds.all (ZU ops fin a)&&LR ops fin ds
def fX (ops:Array Oper):List DOper→List Nat
 |[]=>[]
 |d::ds=>if ds.all (fun c=>anc ops d.i ops.size c.i) then d.i::fX ops ds else fX ops ds
def CM (is:List Nat) (i:Nat):Nat:=is.findIdx (· == i)
def XY (ops:Array Oper) (is:List Nat):Bool:=(List.range ops.size).all fun i=>match ops[i]? with
 |some o=>o.after.toList.all fun ed=>!Region.binds .any ed||decide (CM is ed.on<CM is i)
 |none=>true
def iR (imm:Bool) (ops:Array Oper):Option (List DOper):=
 match zT P imm ops ops.toList with
 |some aos =>
   let ds:=mkD ops aos [] (ZR ops (aos.map (·.op.quiet)) (aos.map (·.op.isAlloc)) ops.size (List.range ops.size) [])
   if P.follows .mixedOrders=true∧XY ops (ds.map (·.i))=true∧aos.all XS=true∧LR ops (fX ops ds) ds=true∧(ds.map (·.i)).length=ops.size∧(ds.map (·.i)).Nodup∧(List.range ops.size).all (fun i=>(ds.map (·.i)).contains i)=true then some ds else none
 |none=>none
def KC (ops:Array Oper) (k i:Nat):Array Oper:=match ops[k]? with
 |some o=>ops.setIfInBounds k {o with after:=o.after.push ⟨i,.data⟩}
 |none=>ops
def ZGc (ops:Array Oper) (aos:List AOper):Option (Nat×Nat):=
 let ms:=(List.range ops.size).filter fun i=>match aos[i]? with
  |some o=>!o.op.quiet&&!o.op.isAlloc
  |none=>false
 ms.findSome? fun i=>(ms.find? fun k=>decide (i<k)&&!anc ops i ops.size k&&!anc ops k ops.size i).map fun k=>(i,k)
def wI (imm:Bool):Nat→Array Oper→Option ACode
 |0,ops=>(iR P imm ops).map .draw
 |n+1,ops=>match iR P imm ops with
   |some ds=>some (.draw ds)
   |none=>match zT P imm ops ops.toList with
     |some aos=>match ZGc ops aos with
       |some (i,k)=>if i≠k∧i<ops.size∧k<ops.size then match wI imm n (KC ops k i),wI imm n (KC ops i k) with
         |some x,some y=>some (.both x y)
         |_,_=>none else none
       |none=>none
     |none=>none
def wY:ACode:=.region [⟨none,.extract 0 (.c .any),none⟩]
def ZGr:Option ACode→ACode
 |some c=>c
 |none=>wY
def ZGB (ops:Array Oper) (draw:Bool):Option ACode:=if draw then (match wI P false 6 ops with
 |some c=>some c
 |none=>wI P true 6 ops) else (zT P false ops ops.toList).map .region
def AH:Code→Option ACode
 |.skip=>some .skip
 |.region _ ops draw=>some (ZGr (ZGB P ops draw))
 |.seq a b=>match AH a,AH b with
   |some x,some y=>some (.seq x y)
   |_,_=>none
 |.cond c a b=>match aA c,AH a,AH b with
   |some c,some x,some y=>some (.cond c x y)
   |_,_,_=>none
 |.block id c=>(AH c).map (.block id)
 |.loop c=>(AH c).map .loop
 |.exit id=>some (.exit id)
 |.ret=>some .ret
 |_=>some wY
def ZCo:List ResultVar→Option (List ARes)
 |[]=>some []
 |.tmp t::rs=>(ZCo rs).map (ARes.tmp t::·)
 |.cell a t::rs=>match iK P t,ZCo rs with
   |some n,some xs=>some (.cell a n::xs)
   |_,_=>none
def qA (f:FuncId):Option AFunc:=
 match P.funcs[f]? with
 |some fn=>if fn.name == "runtime.NumGoroutine" then none else
   match fn.body with
   |some c=>match AH P c,ZCo P fn.results.toList with
     |some c,some rs=>some ⟨fn.params.size+fn.nfree,fn.ntmps,rs,c⟩
     |_,_=>none
   |none=>none
 |none=>none
end

theorem RepI.one {w:World} {F:Nat→Prop} {x:IV} {v:Value} (h:RepI w F x v):v.oneCell'=true:=by cases h<;>rfl

theorem RepA.one {w:World} {F:Nat→Prop} {L:LMap} {x:AV} {v:Value} (h:RepA w F L x v) (hx:x.cell=true):v.oneCell'=true:=by
 cases h<;>first|rfl|(simp[AV.cell]at hx;done)|skip
 case v h=>exact h.one

theorem xW {v:Value} (h:v.oneCell'=true):v.cells=#[v]:=by cases v<;>first|rfl|cases h

theorem Sim.putLoc {F:Nat→Prop} {L:LMap} {h h':List Row} {w w':World} (s:Sim F L h w) (id ver sz blk:Nat) (q:Loc) (els:List (List AV)) (hq:∀k,q.on k→k=blk)
  (hos:w'.os=w.os) (htp:w'.tape=w.tape) (rH:w'.output=w.output) (ZCc:w.heap.size≤w'.heap.size)
  (hb:∀k,k<w.heap.size→k≠blk→w'.heap[k]? = w.heap[k]?)
  (GG:w.heap.size≤blk∨∃v z els0 q0,h[id]? = some (.live v z els0)∧L id v=some q0∧q0.on blk)
  (hh:h'[id]? = some (.live ver sz els)) (iJ:∀j,j≠id→h'[j]? = h[j]?)
  (ZID:∀r,h[id]? = some r→r.ver≤ver∧∃v z els0,r=.live v z els0)
  (XO:L id ver=none∨L id ver=some q)
  (JD:∀L':LMap,(∀(x:AV) (v:Value),RepA w F L x v→RepA w' F L' x v)→tR w' F L' sz els q) :
  ∃L':LMap,Sim F L' h' w'∧Step h.length F L h w F L' h' w'∧L' id ver=some q∧∀i v l,L i v=some l→L' i v=some l:=by
 have hL':∃L':LMap,L' id ver=some q∧(∀i v l,L i v=some l→L' i v=some l)∧∀i v,(i≠id∨v≠ver)→L' i v=L i v:=by
  refine⟨fun i v=>if i=id∧v=ver then some q else L i v,by simp,?_,?_⟩
  ·intro i v l hl
   by_cases hi:i=id∧v=ver
   ·obtain⟨rfl,rfl⟩:=hi
    rcases XO with h0|h0
    ·rw[h0]at hl;cases hl
    ·rw[h0]at hl;simpa using hl
   ·simp[hi,hl]
  ·intro i v hi
   have:¬(i=id∧v=ver):=fun ⟨a,b⟩=>hi.elim (fun h=>h a) (fun h=>h b)
   simp[this]
 obtain⟨L',FT,yY,eU⟩:=hL'
 have notF:¬F blk:=fun hF=>by
  obtain⟨yA,VP⟩:=s.imm blk hF
  rcases GG with h0|⟨v,z,els0,q0,h1,h2,h3⟩
  ·omega
  ·exact VP ⟨id,v,z,els0,q0,h1,h2,h3⟩
 have hF:∀k,F k→w'.heap[k]? = w.heap[k]?:=fun k hk=>hb k (s.imm k hk).1 (fun e=>notF (e▸hk))
 have mono:∀(x:AV) (v:Value),RepA w F L x v→RepA w' F L' x v:=fun _ _ hx=>hx.mono (fun _ h=>h) hF yY
 have liveO:∀j v z els0 b q1,j≠id→h[j]? = some (.live v z els0)→L j v=some q1→q1.on b→b≠blk:=by
  intro j v z els0 b q1 hj h1 h2 h5 e
  subst e
  rcases GG with h0|⟨v',z',els',q',h3,h4,h6⟩
  ·obtain⟨l,g1,g2⟩:=s.row j v z els0 h1
   rw[h2]at g1;cases g1
   have:=g2.lt h5
   omega
  ·exact hj (s.apart j id v v' z z' els0 els' b q1 q' h1 h3 h2 h4 h5 h6)
 refine⟨L',⟨?_,?_,?_,?_,s.glob.mono (fun _ h=>h) hF⟩,⟨fun _ h=>h,fun i v l _ hl=>yY i v l hl,hos,htp,rH,ZCc,?_,?_,?_,fun _ _ h=>.inl h⟩,FT,yY⟩
 ·intro j v z e1 hj
  by_cases YG:j=id
  ·subst YG
   rw[hh]at hj
   cases hj
   exact⟨_,FT,JD L' mono⟩
  ·rw[iJ j YG]at hj
   obtain⟨l,bO,cU⟩:=s.row j v z e1 hj
   exact⟨l,yY _ _ _ bO,cU.mono (fun b hbo=>hb b (cU.lt hbo) (liveO j v z e1 b l YG hj bO hbo)) mono⟩
 ·intro i v l bO
  by_cases hi:i=id
  ·subst hi
   refine⟨_,hh,?_⟩
   by_cases hv:v=ver
   ·subst hv;exact ai _
   ·rw[eU i v (.inr hv)]at bO
    obtain⟨r,h1,h2⟩:=s.born _ _ _ bO
    exact dq h2 (ZID r h1).1
  ·rw[eU i v (.inl hi)]at bO
   obtain⟨r,h1,h2⟩:=s.born _ _ _ bO
   exact⟨r,by rw[iJ i hi];exact h1,h2⟩
 ·intro i i' v v' z z' e1 e2 b q1 q2 h1 h2 h3 h4 h5 h6
  by_cases hi:i=id
  ·by_cases hi':i'=id
   ·rw[hi,hi']
   ·subst hi
    rw[hh]at h1;cases h1
    rw[iJ i' hi']at h2
    rw[FT]at h3;cases h3
    rw[eU i' v' (.inl hi')]at h4
    exact absurd (hq b h5) (liveO i' v' z' e2 b q2 hi' h2 h4 h6)
  ·by_cases hi':i'=id
   ·subst hi'
    rw[hh]at h2;cases h2
    rw[iJ i hi]at h1
    rw[FT]at h4;cases h4
    rw[eU i v (.inl hi)]at h3
    exact absurd (hq b h6) (liveO i v z e1 b q1 hi h1 h3 h5)
   ·rw[iJ i hi]at h1
    rw[iJ i' hi']at h2
    rw[eU i v (.inl hi)]at h3
    rw[eU i' v' (.inl hi')]at h4
    exact s.apart i i' v v' z z' e1 e2 b q1 q2 h1 h2 h3 h4 h5 h6
 ·intro k hk
  refine⟨fe (s.imm k hk).1 ZCc,?_⟩
  rintro⟨i,v,z,e1,q1,h1,h2,h3⟩
  by_cases hi:i=id
  ·subst hi
   rw[hh]at h1;cases h1
   rw[FT]at h2;cases h2
   exact notF (hq k h3▸hk)
  ·rw[iJ i hi]at h1
   rw[eU i v (.inl hi)]at h2
   exact (s.imm k hk).2 ⟨i,v,z,e1,q1,h1,h2,h3⟩
 ·intro k hk VP
  refine hb k hk fun e=>?_
  subst e
  rcases GG with h0|⟨v',z',els',q',h3,h4,h5⟩
  ·omega
  ·exact VP ⟨id,v',z',els',q',h3,h4,h5⟩
 ·rintro k hk ⟨i,v,z,e1,q1,h1,h2,h3⟩
  by_cases hi:i=id
  ·subst hi
   rw[hh]at h1;cases h1
   rw[FT]at h2;cases h2
   obtain rfl:=hq k h3
   rcases GG with h0|⟨v',z',els',q',h3,h4,h5⟩
   ·omega
   ·exact⟨i,v',z',els',q',h3,h4,h5⟩
  ·rw[iJ i hi]at h1
   rw[eU i v (.inl hi)]at h2
   exact⟨i,v,z,e1,q1,h1,h2,h3⟩
 ·intro i hi v hv
  by_cases hii:i=id
  ·subst hii
   obtain⟨_,v',z',e',he⟩:=ZID _ hv
   cases he
  ·rw[iJ i hii];exact hv

theorem Sim.putRow {F:Nat→Prop} {L:LMap} {h h':List Row} {w w':World} (s:Sim F L h w) (id ver sz blk o cap:Nat) (els:List (List AV))
  (hos:w'.os=w.os) (htp:w'.tape=w.tape) (rH:w'.output=w.output) (ZCc:w.heap.size≤w'.heap.size)
  (hb:∀k,k<w.heap.size→k≠blk→w'.heap[k]? = w.heap[k]?)
  (GG:w.heap.size≤blk∨∃v z els0 o0 z0 cap0,h[id]? = some (.live v z els0)∧L id v=some (.pl blk o0 z0 cap0))
  (hh:h'[id]? = some (.live ver sz els)) (iJ:∀j,j≠id→h'[j]? = h[j]?)
  (ZID:∀r,h[id]? = some r→r.ver≤ver∧∃v z els0,r=.live v z els0)
  (XO:L id ver=none∨L id ver=some (.pl blk o sz cap))
  (hl:els.length≤cap) (EM:cap≤maxLen) (cur:Array Value) (T:TypeId) (M4:w'.heap[blk]? = some (.cells cur T (0,0))) (sI:o+cap*sz≤cur.size)
  (NN:∀(k:Nat) (row:List AV),els[k]? = some row→row.length=sz)
  (jG:∀(k:Nat) (row:List AV) (j:Nat) (a:AV),els[k]? = some row→row[j]? = some a→a.cell=true∧∃v,cur[o+k*sz+j]? = some v∧RepA w F L a v) :
  ∃L':LMap,Sim F L' h' w'∧Step h.length F L h w F L' h' w'∧L' id ver=some (.pl blk o sz cap)∧∀i v l,L i v=some l→L' i v=some l:=by
 refine s.putLoc id ver sz blk (.pl blk o sz cap) els (fun k hk=>hk.symm) hos htp rH ZCc hb (GG.imp (fun h=>h) fun ⟨v,z,e,o0,z0,c0,h1,h2⟩=>⟨v,z,e,_,h1,h2,rfl⟩) hh iJ ZID XO ?_
 intro L' mono
 exact⟨rfl,hl,EM,cur,T,M4,sI,NN,fun k row i a hk hi=>by
  obtain⟨h1,v,h2,h3⟩:=jG k row i a hk hi
  exact⟨h1,v,h2,mono _ _ h3⟩⟩

theorem Sim.same {F:Nat→Prop} {L:LMap} {h:List Row} {w w':World} (s:Sim F L h w) (hh:w'.heap=w.heap):Sim F L h w':=by
 have m:∀{x:AV} {v:Value},RepA w F L x v→RepA w' F L x v:=fun hx=>hx.mono (fun _ h=>h) (fun _ _=>by rw[hh]) (fun _ _ _ h=>h)
 refine⟨fun id ver sz els hr=>?_,s.born,s.apart,fun b hb=>⟨by rw[hh];exact (s.imm b hb).1,(s.imm b hb).2⟩,s.glob.mono (fun _ h=>h) (fun _ _=>by rw[hh])⟩
 obtain⟨l,h1,h2⟩:=s.row id ver sz els hr
 exact⟨l,h1,h2.mono (fun _ _=>by rw[hh]) (fun _ _=>m)⟩

theorem Step.same {nb:Nat} {F:Nat→Prop} {L:LMap} {h:List Row} {w w':World} (hh:w'.heap=w.heap) (hos:w'.os=w.os) (htp:w'.tape=w.tape) (rH:w'.output=w.output) :
  Step nb F L h w F L h w':=⟨fun _ h=>h,fun _ _ _ _ h=>h,hos,htp,rH,by rw[hh];exact ai _,fun _ _ _=>by rw[hh],fun _ _ h=>h,fun _ _ _ h=>h,fun _ _ h=>.inl h⟩

theorem Sim.cell {F:Nat→Prop} {L:LMap} {h:List Row} {w:World} (s:Sim F L h w) {id ver sz b o z cap k j:Nat} {els:List (List AV)} {row:List AV} {a:AV}
  (hr:h[id]? = some (.live ver sz els)) (hL:L id ver=some (.pl b o z cap)) (hk:els[k]? = some row) (hj:row[j]? = some a) :
  z=sz∧a.cell=true∧∃v,w.cell? ⟨b,o+k*z+j,none⟩=some v∧RepA w F L a v:=by
 obtain⟨l,h1,h2⟩:=s.row id ver sz els hr
 rw[hL]at h1;cases h1
 obtain⟨a1,a2,a3,cur,T,a4,a5,a6,a7⟩:=h2
 subst a1
 obtain⟨b1,v,b2,b3⟩:=a7 k row j a hk hj
 exact⟨rfl,b1,v,by simp[World.cell?,a4,b2],b3⟩


def Ends (P:Program) (o:Oper) (a:Act) (w:World) (v:Value) (w':World):Prop:=
 (execOp a.eval o).run P w=.ok (.value v) w'∨((execOp a.eval o).run P w=.ok .skip w'∧v=undef)

def VB (P:Program) (o:Oper) (a:Act) (w:World) (F:Nat→Prop) (L:LMap) (b l:List Row) (x:AV) (b' l':List Row):Prop:=
 ∃v w' L',Ends P o a w v w'∧RepA w' F L' x v∧Sim F L' (b'++l') w'∧Step (b++l).length F L (b++l) w F L' (b'++l') w'∧b'.length=b.length

def OP (P:Program) (o:Oper) (a:Act) (w:World) (F:Nat→Prop) (L:LMap) (b l:List Row) (x:AV) (b' l':List Row):Prop:=
 ∃v w' F' L',Ends P o a w v w'∧RepA w' F' L' x v∧Sim F' L' (b'++l') w'∧Step (b++l).length F L (b++l) w F' L' (b'++l') w'∧b'.length=b.length
theorem VB.toF {P:Program} {o:Oper} {a:Act} {w:World} {F:Nat→Prop} {L:LMap} {b l:List Row} {x:AV} {b' l':List Row} (h:VB P o a w F L b l x b' l'):OP P o a w F L b l x b' l':=by
 obtain⟨v,w',L',h1,h2,h3,h4,h5⟩:=h
 exact⟨v,w',F,L',h1,h2,h3,h4,h5⟩

theorem VB.pure {P:Program} {o:Oper} {a:Act} {w:World} {F:Nat→Prop} {L:LMap} {b l:List Row} {x:AV} {v:Value} (s:Sim F L (b++l) w)
  (h:(execOp a.eval o).run P w=.ok (.value v) w) (hx:RepA w F L x v):VB P o a w F L b l x b l:=
 ⟨v,w,L,.inl h,hx,s,Step.refl _ _ _ _ _,rfl⟩

section
variable {P:Program} {w:World} {F:Nat→Prop} {L:LMap}

theorem ZAy {v:Value} {x:IV} (h:cvI v=some x):RepI w F x v:=by
 unfold cvI at h
 split at h<;>first|(cases h;constructor)|cases h

def GA (w:World) (F:Nat→Prop) (L:LMap) (cs:List AV) (vs:List Value):Prop:=
 cs.length=vs.length∧∀(i:Nat) (a:AV) (v:Value),cs[i]? = some a→vs[i]? = some v→RepA w F L a v

theorem GA.nil:GA w F L [] []:=⟨rfl,by simp⟩
theorem GA.cons {a:AV} {v:Value} {cs:List AV} {vs:List Value} (h:RepA w F L a v) (t:GA w F L cs vs):GA w F L (a::cs) (v::vs):=by
 refine⟨by simp[t.1],fun i x u hx hu=>?_⟩
 cases i with
 |zero=>simp at hx hu;subst hx;subst hu;exact h
 |succ i=>simp at hx hu;exact t.2 i x u hx hu

theorem JF:∀{vs:List Value} {xs:List AV},cvL vs=some xs→GA w F L xs vs∧xs.all AV.cell=true
 |[],xs,h=>by simp[cvL]at h;subst h;exact⟨GA.nil,rfl⟩
 |v::vs,xs,h=>by
   unfold cvL at h
   split at h
   ·rename_i x ys h1 h2
    cases h
    obtain⟨h3,h4⟩:=JF h2
    exact⟨GA.cons (.v _ _ (ZAy h1)) h3,by simp[AV.cell,h4]⟩
   ·cases h

theorem GA.agg {cs:List AV} {vs:Array Value} (h:GA w F L cs vs.toList):RepA w F L (.agg cs) (.agg vs):=
 .agg cs vs (by simpa using h.1) (fun i a v hi hv=>h.2 i a v hi (by simpa using hv))
theorem GA.tup {cs:List AV} {vs:Array Value} (h:GA w F L cs vs.toList):RepA w F L (.tup cs) (.tuple vs):=
 .tup cs vs (by simpa using h.1) (fun i a v hi hv=>h.2 i a v hi (by simpa using hv))
theorem GA.fn {f:Nat} {cs:List AV} {vs:Array Value} (h:GA w F L cs vs.toList):RepA w F L (.fn f cs) (.func (.func f) #[] vs):=
 .fn f cs vs (by simpa using h.1) (fun i a v hi hv=>h.2 i a v hi (by simpa using hv))

theorem RepA.aggL {cs:List AV} {v:Value} (h:RepA w F L (.agg cs) v):∃vs:Array Value,v=.agg vs∧GA w F L cs vs.toList:=by
 cases h with
 |agg _ vs hl h=>exact⟨vs,rfl,by simpa using hl,fun i a v hi hv=>h i a v hi (by simpa using hv)⟩
theorem RepA.tupL {cs:List AV} {v:Value} (h:RepA w F L (.tup cs) v):∃vs:Array Value,v=.tuple vs∧GA w F L cs vs.toList:=by
 cases h with
 |tup _ vs hl h=>exact⟨vs,rfl,by simpa using hl,fun i a v hi hv=>h i a v hi (by simpa using hv)⟩
theorem RepA.fnL {f:Nat} {cs:List AV} {v:Value} (h:RepA w F L (.fn f cs) v):∃vs:Array Value,v=.func (.func f) #[] vs∧GA w F L cs vs.toList:=by
 cases h with
 |fn _ _ vs hl h=>exact⟨vs,rfl,by simpa using hl,fun i a v hi hv=>h i a v hi (by simpa using hv)⟩
theorem RepA.vI {x:IV} {v:Value} (h:RepA w F L (.v x) v):RepI w F x v:=by cases h;assumption

theorem ZAz {v:Value} {x:AV} (h:cvA v=some x):RepA w F L x v:=by
 unfold cvA at h
 split at h
 ·rename_i cs
  cases hc:cvL cs.toList with
  |none=>simp[hc]at h
  |some xs=>simp[hc]at h;subst h;exact (JF hc).1.agg
 ·split at h
  ·rename_i vs hv
   cases h
   have:vs=#[]:=iq hv
   subst this
   exact GA.tup GA.nil
  ·cases h
 ·rename_i f first caps
  split at h
  ·rename_i hv
   cases h
   have h1:first=#[]:=iq hv.1
   have h2:caps=#[]:=iq hv.2
   subst h1;subst h2
   exact GA.fn GA.nil
  ·cases h
 ·cases hc:cvI v with
  |none=>simp[hc]at h
  |some y=>simp[hc]at h;subst h;exact .v _ _ (ZAy hc)

theorem fA {e:List AV} {a:Act} (he:FB w F L e a) {x:Operand} {y:Opd} (h:aA x=some y):RepA w F L (ev e y) (a.eval x):=by
 unfold aA at h
 split at h
 ·cases h;exact he.nth _
 ·rename_i v
  cases hc:cvA v with
  |none=>simp[hc]at h
  |some z=>simp[hc]at h;subst h;exact ZAz hc
 ·cases h;exact GA.fn GA.nil
 ·cases h

theorem OX {e:List AV} {a:Act} (he:FB w F L e a):∀{xs:List Operand} {ys:List Opd},uR xs=some ys→GA w F L (evs e ys) (xs.map a.eval)
 |[],ys,h=>by simp[uR]at h;subst h;exact GA.nil
 |x::xs,ys,h=>by
   unfold uR at h
   split at h
   ·rename_i y zs h1 h2
    cases h
    exact GA.cons (fA he h1) (OX he h2)
   ·cases h

theorem vF {t:TypeId} {c:Bool} (h:ZCq P t=some c):(isAgg t).run P w=.ok c w:=by
 unfold ZCq at h
 unfold isAgg
 split at h
 ·rename_i hu;cases h;simp[run_underlying hu]
 ·rename_i hu;cases h;simp[run_underlying hu]
 ·rename_i d h1 h2 hu
  cases h
  simp only[Sem.run_bind,run_underlying hu,Result.andThen_ok]
  rfl
 ·cases h

theorem IA {t:TypeId} {n:Nat} (h:lD P t=some n):(sizeOf t).run P w=.ok n w:=by
 unfold lD at h
 cases hi:P.info? t with
 |none=>simp[hi]at h
 |some i=>simp[hi]at h;simp[sizeOf,typeInfo,hi,h]

theorem xS {t:TypeId} {n:Nat} (h:iK P t=some (some n)):ZCq P t=some true∧lD P t=some n:=by
 unfold iK at h
 split at h<;>first|(cases h;exact⟨by assumption,by assumption⟩)|cases h
theorem uS {t:TypeId} (h:iK P t=some none):ZCq P t=some false:=by
 unfold iK at h
 split at h<;>first|(cases h;assumption)|cases h

theorem ZDj {cs:List AV} {vs:List Value} (h:GA w F L cs vs) (j n:Nat):GA w F L ((cs.drop j).take n) ((vs.drop j).take n):=by
 refine⟨by simp[h.1],fun i a v ha hv=>?_⟩
 rw[de]at ha hv
 split at ha
 ·rename_i hi
  simp only[hi,if_true]at hv
  rw[dp]at ha hv
  exact h.2 _ a v ha hv
 ·cases ha

theorem GA.get {cs:List AV} {vs:List Value} (h:GA w F L cs vs) {j:Nat} {a:AV} (ha:cs[j]? = some a):∃v,vs[j]? = some v∧RepA w F L a v:=by
 have hj:j<vs.length:=by rw[←h.1];exact (am.1 ha).1
 exact⟨vs[j],ah hj,h.2 j a _ ha (ah hj)⟩

theorem GA.append {cs ds:List AV} {vs us:List Value} (h:GA w F L cs vs) (k:GA w F L ds us):GA w F L (cs++ds) (vs++us):=by
 refine⟨by simp[h.1,k.1],fun i a v ha hv=>?_⟩
 by_cases hi:i<cs.length
 ·rw[aw hi]at ha
  rw[aw (by rw[←h.1];exact hi)]at hv
  exact h.2 i a v ha hv
 ·rw[aq oM]at ha
  rw[aq (by have:=h.1;omega),←h.1]at hv
  exact k.2 _ a v ha hv

theorem ZA9 {cs:List AV} {vs:Array Value} (h:GA w F L cs vs.toList) {t:TypeId} {n:Option Nat} (ht:iK P t=some n) {off:Nat} {x:AV} (hx:rd cs off n=some x) :
  ∃v,(part t vs off).run P w=.ok v w∧RepA w F L x v:=by
 cases n with
 |none =>
   simp only[rd]at hx
   obtain⟨v,hv,hr⟩:=h.get hx
   refine⟨v,?_,hr⟩
   have:vs[off]? = some v:=by simpa using hv
   simp[part,vF (uS ht),this]
 |some n =>
   simp only[rd]at hx
   split at hx
   ·rename_i LJ
    cases hx
    obtain⟨h1,h2⟩:=xS ht
    refine⟨.agg (vs.extract off (off+n)),?_,?_⟩
    ·simp[part,vF h1,IA h2]
    ·refine GA.agg ?_
     have:=ZDj h off n
     simpa [List.take_drop,gz] using this
   ·cases hx

theorem DS {t:TypeId} {n:Option Nat} (ht:iK P t=some n) {b o:Nat} {vals:List AV} (hc:∀(i:Nat) (x:AV),vals[i]? = some x→∃v,w.cell? ⟨b,o+i,none⟩=some v∧RepA w F L x v) {x:AV}
  (hx:(match n with|none=>vals[0]?|some n=>if n≤vals.length then some (.agg (vals.take n)) else none)=some x) :
  ∃v,(loadVar t ⟨b,o,none⟩).run P w=.ok v w∧RepA w F L x v:=by
 cases n with
 |none =>
   obtain⟨v,hv,hr⟩:=hc 0 x hx
   exact⟨v,by simp[loadVar,vF (uS ht),show w.cell? ⟨b,o,none⟩=some v from hv],hr⟩
 |some n =>
   simp only at hx
   split at hx
   ·rename_i LJ
    cases hx
    obtain⟨h1,h2⟩:=xS ht
    have IB:∀m,m≤vals.length→∃vs:List Value,vs.length=m∧(∀j v,vs[j]? = some v→w.cell? ⟨b,o+j,none⟩=some v)∧GA w F L (vals.take m) vs:=by
     intro m
     induction m with
     |zero=>intro _;exact⟨[],rfl,by simp,by simpa using GA.nil⟩
     |succ m ih =>
       intro hm
       obtain⟨vs,e1,e2,e3⟩:=ih oM
       obtain⟨v,hv,hr⟩:=hc m vals[m] (ah oM)
       refine⟨vs++[v],by simp[e1],?_,?_⟩
       ·intro j u hu
        by_cases hj:j<vs.length
        ·rw[aw hj]at hu;exact e2 j u hu
        ·have hj2:j=vs.length:=by
          have:=(am.1 hu).1
          simp at this;omega
         subst hj2
         simp at hu
         subst hu
         rw[e1];exact hv
       ·rw[jh oM]
        exact e3.append (GA.cons hr GA.nil)
    obtain⟨vs,e1,e2,e3⟩:=IB n LJ
    have hl:=run_loadCells_list (P:=P) w ⟨b,o,none⟩ vs (fun j v hv=>by rw[Addr.add_lit];exact e2 j v hv)
    rw[e1]at hl
    refine⟨.agg vs.toArray,?_,GA.agg (by simpa using e3)⟩
    simp[loadVar,vF h1,IA h2,hl]
   ·cases hx
end

section
variable {P:Program} {w:World} {F:Nat→Prop} {L:LMap} {o:Oper} {a:Act} {e:List AV} {b l b' l':List Row} {x:AV}

theorem dM {t:Bool} {v:Value} (h:RepA w F L (.v (.bool t)) v):v=.bool t:=by cases h.vI;rfl
theorem UI {k:IntKind} {n:Int} {v:Value} (h:RepA w F L (.v (.int k n)) v):v=.int k n:=by cases h.vI;rfl
theorem SQ {s:ByteArray} {v:Value} (h:RepA w F L (.v (.str s)) v):v=.string s:=by cases h.vI;rfl
theorem tW (t:Bool):RepA w F L (.v (.bool t)) (.bool t):=.v _ _ (.bool t)
theorem toN (k:IntKind) (n:Int):RepA w F L (.v (.int k n)) (.int k n):=.v _ _ (.int k n)
theorem toS (s:ByteArray):RepA w F L (.v (.str s)) (.string s):=.v _ _ (.str s)

theorem UE {y:Option AV} (h:VJ y b l=.val x b' l'):y=some x∧b'=b∧l'=l:=by
 cases y with
 |none=>cases h
 |some y=>cases h;exact⟨rfl,rfl,rfl⟩

theorem ZIN (s:Sim F L (b++l) w) (he:FB w F L e a) {y:Operand} {z:Opd} (ho:o.op=.move y∨o.op=.assign y) (hy:aA y=some z) :
  VB P o a w F L b l (ev e z) b l:=by
 refine VB.pure s (v:=a.eval y) ?_ (fA he hy)
 rcases ho with ho|ho<;>simp[execOp,ho]

theorem ZDq (s:Sim F L (b++l) w) (he:FB w F L e a) {y:Operand} {z:Opd} (ho:o.op=.nilCheck y) (hy:aA y=some z)
  (h:aop e b l (.nilck z)=.val x b' l'):VB P o a w F L b l x b' l':=by
 have hr:=fA he hy
 simp only[aop]at h
 generalize ev e z=q at *
 split at h
 ·cases h
  obtain⟨u,hu⟩:∃u,a.eval y=.pointer (some u):=by
   generalize a.eval y=q at hr
   cases hr.vI;exact⟨_,rfl⟩
  exact VB.pure s (v:=a.eval y) (by simp[execOp,ho,hu]) hr
 ·cases h
  obtain⟨u,hu⟩:∃u,a.eval y=.pointer (some u):=by
   generalize a.eval y=q at hr
   cases hr;exact⟨_,rfl⟩
  exact VB.pure s (v:=a.eval y) (by simp[execOp,ho,hu]) hr
 ·cases h
  obtain⟨vs,hu,_⟩:=hr.fnL
  exact VB.pure s (v:=a.eval y) (by simp[execOp,ho,hu]) hr
 ·cases h

theorem ZGt (s:Sim F L (b++l) w) (he:FB w F L e a) {c y z:Operand} {c' y' z':Opd} (ho:o.op=.pick c y z) (hc:aA c=some c') (hy:aA y=some y') (hz:aA z=some z')
  (h:aop e b l (.pick c' y' z')=.val x b' l'):VB P o a w F L b l x b' l':=by
 have h1:=fA he hc
 have h2:=fA he hy
 have h3:=fA he hz
 simp only[aop]at h
 replace h:=UE h
 obtain⟨h,rfl,rfl⟩:=h
 generalize ev e c'=p at *
 generalize ev e y'=q at *
 generalize ev e z'=r at *
 unfold QG at h
 split at h
 ·rename_i t t1 t2
  cases h
  have e1:=dM h1
  have e2:=dM h2
  have e3:=dM h3
  refine VB.pure s (v:=.bool (if t then t1 else t2)) ?_ (tW _)
  cases t<;>simp[execOp,ho,e1,e2,e3,asBool]
 ·rename_i t VP
  cases h
  have e1:=dM h1
  cases t
  ·exact VB.pure s (v:=a.eval z) (by simp[execOp,ho,e1,asBool]) h3
  ·exact VB.pure s (v:=a.eval y) (by simp[execOp,ho,e1,asBool]) h2
 ·cases h

theorem EK {op:BinOp} {t:TypeId} {y z:Operand} {k k':IntKind} {m n:Int}:(eqGuard op t y z (.int k m) (.int k' n)).run P w=.ok () w:=by
 cases op<;>simp[eqGuard]
theorem FJ {op:BinOp} {t:TypeId} {y z:Operand} {m n:Bool}:(eqGuard op t y z (.bool m) (.bool n)).run P w=.ok () w:=by
 cases op<;>simp[eqGuard]
theorem MQ {op:BinOp} {t:TypeId} {y z:Operand} {m n:ByteArray}:(eqGuard op t y z (.string m) (.string n)).run P w=.ok () w:=by
 cases op<;>simp[eqGuard]

theorem ZJ5 (s:Sim F L (b++l) w) (he:FB w F L e a) {op:BinOp} {t u:TypeId} {y z:Operand} {y' z':Opd} (ho:o.op=.binOp op t y z u) (hy:aA y=some y') (hz:aA z=some z')
  (h:aop e b l (.bin op y' z')=.val x b' l'):VB P o a w F L b l x b' l':=by
 have h2:=fA he hy
 have h3:=fA he hz
 simp only[aop]at h
 replace h:=UE h
 obtain⟨h,rfl,rfl⟩:=h
 generalize ev e y'=q at *
 generalize ev e z'=r at *
 unfold EJ at h
 split at h
 case h_2=>cases h
 rename_i k m k' n
 have e2:=UI h2
 have e3:=UI h3
 cases hsh:wJ op
 ·simp only[hsh,dt,if_false]at h
  by_cases hk:k=k'
  ·subst hk
   simp only[if_true]at h
   have key:∀iv,dF op k m n=some iv→∃v,(binOp op t (.int k m) (.int k n)).run P w=.ok v w∧RepI w F iv v:=by
    intro iv vO
    cases op<;>simp only[dF,wJ]at vO hsh<;>first|(cases hsh;done)|skip
    all_goals first
     |(cases vO;refine⟨_,by simp[binOp,Op.intArith,Op.intBits,Op.intCmp];rfl,?_⟩;constructor)
     |(cases vO;refine⟨_,by simp only[binOp,ne_eq,not_true_eq_false,if_false,Op.intBits];rfl,?_⟩;constructor)
     | (split at vO
        ·cases vO
        ·rename_i hn
         cases vO
         refine⟨_,by simp[binOp,Op.intDiv,hn];rfl,?_⟩
         constructor)
   cases hi:dF op k m n with
   |none=>simp[hi]at h
   |some iv =>
     simp[hi]at h
     subst h
     obtain⟨v,hv,hr⟩:=key iv hi
     refine VB.pure s (v:=v) ?_ (.v _ _ hr)
     simp[execOp,ho,e2,e3,EK,hv]
  ·simp[hk]at h
 ·simp only[hsh,if_true]at h
  cases hi:yJ op k m n with
  |none=>simp[hi]at h
  |some iv =>
    simp[hi]at h
    subst h
    unfold yJ at hi
    split at hi
    ·cases hi
    ·rename_i hn
     cases op<;>simp only[wJ]at hsh<;>first|(cases hsh;done)|skip
     all_goals
      cases hi
      refine VB.pure s (v:=.int k _) ?_ (toN _ _)
      simp[execOp,ho,e2,e3,EK,binOp,Op.shift,hn]

theorem EL {t:TypeId} (ht:P.underlying t=some .bool) (m n:Bool):(Op.equal t (.bool m) (.bool n)).run P w=.ok (m==n) w:=run_equalIn_bool w 9999 t m n ht

theorem ZHG (s:Sim F L (b++l) w) (he:FB w F L e a) {op:BinOp} {t u:TypeId} (ht:P.underlying t=some .bool) {y z:Operand} {y' z':Opd} (ho:o.op=.binOp op t y z u) (hy:aA y=some y') (hz:aA z=some z')
  (h:aop e b l (.binB op y' z')=.val x b' l'):VB P o a w F L b l x b' l':=by
 have h2:=fA he hy
 have h3:=fA he hz
 simp only[aop]at h
 replace h:=UE h
 obtain⟨h,rfl,rfl⟩:=h
 generalize ev e y'=q at *
 generalize ev e z'=r at *
 unfold ZG at h
 split at h
 case h_2=>cases h
 rename_i m n
 have e2:=dM h2
 have e3:=dM h3
 cases op<;>simp[vE]at h<;>subst h
 ·exact VB.pure s (v:=.bool (m==n)) (by simp[execOp,ho,e2,e3,FJ,binOp,EL ht]) (tW _)
 ·exact VB.pure s (v:=.bool (!(m==n))) (by simp[execOp,ho,e2,e3,FJ,binOp,EL ht]) (tW _)

theorem ZHF (s:Sim F L (b++l) w) (he:FB w F L e a) {op:BinOp} {t u:TypeId} {y z:Operand} {y' z':Opd} (ho:o.op=.binOp op t y z u) (hy:aA y=some y') (hz:aA z=some z')
  (h:aop e b l (.binS op y' z')=.val x b' l'):VB P o a w F L b l x b' l':=by
 have h2:=fA he hy
 have h3:=fA he hz
 simp only[aop]at h
 replace h:=UE h
 obtain⟨h,rfl,rfl⟩:=h
 generalize ev e y'=q at *
 generalize ev e z'=r at *
 unfold AF at h
 split at h
 case h_2=>cases h
 rename_i m n
 have e2:=SQ h2
 have e3:=SQ h3
 have key:∀iv,uF op m n=some iv→∃v,(binOp op t (.string m) (.string n)).run P w=.ok v w∧RepI w F iv v:=by
  intro iv vO
  cases op<;>simp only[uF]at vO<;>first|(cases vO;done)|skip
  ·split at vO
   ·rename_i LJ
    cases vO
    exact⟨_,run_string_add_sum w m n LJ,.str _⟩
   ·cases vO
  all_goals (cases vO;refine⟨_,?_,.bool _⟩;simp[binOp,Op.stringOp,beq_toListBytes])
 cases hi:uF op m n with
 |none=>simp[hi]at h
 |some iv =>
   simp[hi]at h
   subst h
   obtain⟨v,hv,hr⟩:=key iv hi
   exact VB.pure s (v:=v) (by simp[execOp,ho,e2,e3,MQ,hv]) (.v _ _ hr)

theorem ZJ0 (s:Sim F L (b++l) w) (he:FB w F L e a) {t:TypeId} {y:Operand} {z:Opd} (ho:o.op=.unOp .not t y) (hy:aA y=some z)
  (h:aop e b l (.not z)=.val x b' l'):VB P o a w F L b l x b' l':=by
 have hr:=fA he hy
 simp only[aop]at h
 generalize ev e z=q at *
 split at h<;>cases h
 have e1:=dM hr
 exact VB.pure s (v:=.bool _) (by simp[execOp,ho,e1,Op.unary]) (tW _)

theorem ZJ1 (s:Sim F L (b++l) w) (he:FB w F L e a) {t:TypeId} {y:Operand} {z:Opd} (ho:o.op=.unOp .neg t y) (hy:aA y=some z)
  (h:aop e b l (.neg z)=.val x b' l'):VB P o a w F L b l x b' l':=by
 have hr:=fA he hy
 simp only[aop]at h
 generalize ev e z=q at *
 split at h<;>cases h
 have e1:=UI hr
 exact VB.pure s (v:=.int _ _) (by simp[execOp,ho,e1,Op.unary,Op.intArith]) (toN _ _)

theorem ZHC (s:Sim F L (b++l) w) (he:FB w F L e a) {t u:TypeId} {k k':IntKind} (ht:P.underlying t=some (.int k')) (hu:P.underlying u=some (.int k)) {y:Operand} {z:Opd} (ho:o.op=.convert t u y) (hy:aA y=some z)
  (h:aop e b l (.conv k z)=.val x b' l'):VB P o a w F L b l x b' l':=by
 have hr:=fA he hy
 simp only[aop]at h
 generalize ev e z=q at *
 split at h<;>cases h
 have e1:=UI hr
 exact VB.pure s (v:=.int _ _) (by simp[execOp,ho,e1,convert,run_underlying ht,run_underlying hu,Conv.intToInt]) (toN _ _)

theorem ZDu (s:Sim F L (b++l) w) (he:FB w F L e a) {t:TypeId} {i:Nat} {fs:Array Field} {f:Field} (ht:P.underlying t=some (.struct fs)) (hf:fs[i]? = some f) {n:Option Nat} (hn:iK P f.type=some n)
  {y:Operand} {z:Opd} (ho:o.op=.field t y i) (hy:aA y=some z)
  (h:aop e b l (.field f.offset n z)=.val x b' l'):VB P o a w F L b l x b' l':=by
 have hr:=fA he hy
 simp only[aop]at h
 generalize ev e z=q at *
 split at h
 case h_2=>cases h
 replace h:=UE h
 obtain⟨h,rfl,rfl⟩:=h
 obtain⟨vs,hv,hl⟩:=hr.aggL
 obtain⟨v,h1,h2⟩:=ZA9 (P:=P) hl hn h
 exact VB.pure s (v:=v) (by simp[execOp,ho,hv,Instr.field,run_underlying ht,hf,asAgg,h1]) h2

theorem j6 (s:Sim F L (b++l) w) (he:FB w F L e a) {i:Nat} {y:Operand} {z:Opd} (ho:o.op=.extract y i) (hy:aA y=some z)
  (h:aop e b l (.extract i z)=.val x b' l'):VB P o a w F L b l x b' l':=by
 have hr:=fA he hy
 simp only[aop]at h
 generalize ev e z=q at *
 split at h
 case h_2=>cases h
 replace h:=UE h
 obtain⟨h,rfl,rfl⟩:=h
 obtain⟨vs,hv,hl⟩:=hr.tupL
 obtain⟨v,h1,h2⟩:=hl.get h
 have h1':vs[i]? = some v:=by simpa using h1
 exact VB.pure s (v:=v) (by simp[execOp,ho,hv,Instr.extract,h1']) h2

theorem ZGu (s:Sim F L (b++l) w) (he:FB w F L e a) {f:FuncId} {first caps:Array Operand} {cs:List Opd} (h0:first.size=0) (ho:o.op=.makeFunc (.func f) first caps) (hc:uR caps.toList=some cs)
  : VB P o a w F L b l (.fn f (evs e cs)) b l:=by
 have hr:=OX he hc
 have:first=#[]:=iq h0
 subst this
 exact VB.pure s (v:=.func (.func f) #[] (caps.map a.eval)) (by simp[execOp,ho,Instr.makeFunc]) (GA.fn (by simpa using hr))

theorem ZB6 (s:Sim F L (b++l) w) (he:FB w F L e a) {t:TypeId} (ht:P.underlying t=some .string) {y i:Operand} {y' i':Opd} (ho:o.op=.index t y i) (hy:aA y=some y') (hi:aA i=some i')
  (h:aop e b l (.indexS y' i')=.val x b' l'):VB P o a w F L b l x b' l':=by
 have h1:=fA he hy
 have h2:=fA he hi
 simp only[aop]at h
 generalize ev e y'=q at *
 generalize ev e i'=r at *
 split at h
 case h_2=>cases h
 rename_i str k n
 split at h
 case isFalse=>cases h
 rename_i hb
 cases h
 have e1:=SQ h1
 have e2:=UI h2
 exact VB.pure s (v:=.int .u8 (str[n.toNat]'hb.2).toNat) (by simp[execOp,ho,e1,e2,Instr.index,asIntOf,run_underlying ht,hb.1,hb.2]) (toN _ _)

theorem ZB7 (s:Sim F L (b++l) w) (he:FB w F L e a) {t el:TypeId} {len sz:Nat} {n:Option Nat} (ht:P.underlying t=some (.array len el)) (hz:lD P el=some sz) (hn:iK P el=some n)
  {y i:Operand} {y' i':Opd} (ho:o.op=.index t y i) (hy:aA y=some y') (hi:aA i=some i')
  (h:aop e b l (.indexA len sz n y' i')=.val x b' l'):VB P o a w F L b l x b' l':=by
 have h1:=fA he hy
 have h2:=fA he hi
 simp only[aop]at h
 generalize ev e y'=q at *
 generalize ev e i'=r at *
 split at h
 case h_2=>cases h
 rename_i cs k m
 split at h
 case isFalse=>cases h
 rename_i hb
 replace h:=UE h
 obtain⟨h,rfl,rfl⟩:=h
 obtain⟨vs,hv,hl⟩:=h1.aggL
 have e2:=UI h2
 obtain⟨v,h3,h4⟩:=ZA9 (P:=P) hl hn h
 exact VB.pure s (v:=v) (by simp[execOp,ho,hv,e2,Instr.index,asIntOf,run_underlying ht,hb.1,hb.2,IA hz,h3]) h4

theorem ZIO (s:Sim F L (b++l) w) (he:FB w F L e a) {t:Bool} {c:Call} (hc:c.callee=.builtin (if t then .max else .min)) {y z:Operand} {y' z':Opd} (ha:c.args.toList=[y,z]) (ho:o.op=.call c) (hy:aA y=some y') (hz:aA z=some z')
  (h:aop e b l (.mm t y' z')=.val x b' l'):VB P o a w F L b l x b' l':=by
 have h1:=fA he hy
 have h2:=fA he hz
 simp only[aop]at h
 replace h:=UE h
 obtain⟨h,rfl,rfl⟩:=h
 generalize ev e y'=q at *
 generalize ev e z'=r at *
 unfold amm at h
 split at h
 case h_2=>cases h
 rename_i k m k' n
 cases h
 have e1:=UI h1
 have e2:=UI h2
 have ha':c.args=#[y,z]:=by rw[←ir (xs:=c.args),ha]
 cases t
 ·exact VB.pure s (v:=.int k _) (by simp[execOp,ho,resolve,hc,ha',invoke,builtin,e1,e2,Builtin.min_,Builtin.min2]) (toN _ _)
 ·exact VB.pure s (v:=.int k _) (by simp[execOp,ho,resolve,hc,ha',invoke,builtin,e1,e2,Builtin.max_,Builtin.max2]) (toN _ _)
end

theorem bI {α:Type} (xs ys:List α) (p i:Nat) (h:p+ys.length≤xs.length) :
  (xs.take p++ys++xs.drop (p+ys.length))[i]? = if p≤i∧i<p+ys.length then ys[i-p]? else xs[i]?:=by
 have h1:(xs.take p).length=p:=by simp;omega
 by_cases hi:i<p
 ·rw[bc,aw oM,de,if_pos hi,if_neg oM]
 ·by_cases hj:i<p+ys.length
  ·rw[bc,aq oM,h1,aw oM,if_pos oM]
  ·rw[aq (by simp;omega),if_neg oM,dp]
   congr 1
   simp;omega

theorem UQ (cs:List AV):∀(row:List AV) (j:Nat),(rB row j cs).length=row.length:=by
 induction cs with
 |nil=>intro row j;rfl
 |cons c cs ih=>intro row j;simp[rB,ih]
theorem KQ (cs:List AV):∀(row:List AV) (j i:Nat),j+cs.length≤row.length→(rB row j cs)[i]? = if j≤i∧i<j+cs.length then cs[i-j]? else row[i]?:=by
 induction cs with
 |nil=>intro row j i _;simp only[rB,fq];rw[if_neg oM]
 |cons c cs ih =>
   intro row j i h
   simp only[ej]at h
   simp only[rB]
   rw[ih _ _ _ (by simp;omega)]
   by_cases h1:i=j
   ·subst h1
    rw[if_neg oM,if_pos kS,ay oM]
    simp
   ·by_cases h2:j+1≤i∧i<j+1+cs.length
    ·rw[if_pos h2,if_pos (by simp;omega),show i-j=(i-(j+1))+1 by omega]
     simp
    ·rw[if_neg h2,if_neg (by simp;omega),bl oM]

theorem ZAu {sz k k' j j' n:Nat} (hk:k≠k') (hj:j'<sz) (hn:j+n≤sz):¬(k*sz+j≤k'*sz+j'∧k'*sz+j'<k*sz+j+n):=by
 rintro⟨h1,h2⟩
 rcases Nat.lt_or_gt_of_ne hk with h|h
 ·have:=cm sz (show k+1≤k' by omega)
  rw[bx]at this
  omega
 ·have:=cm sz (show k'+1≤k by omega)
  rw[bx]at this
  omega
theorem KH {sz k j n cap:Nat} (hk:k<cap) (hn:j+n≤sz):k*sz+j+n≤cap*sz:=by
 have:=cm sz (show k+1≤cap by omega)
 rw[bx]at this
 omega

section
variable {P:Program} {w:World} {F:Nat→Prop} {L:LMap} {o:Oper} {a:Act} {e:List AV} {b l b' l':List Row} {x:AV}

theorem jM {x:AV} {v:Value} {cs:List AV} (h:RepA w F L x v) (hc:cellsOf x=some cs) (ha:cs.all AV.cell=true) :
  GA w F L cs v.cells.toList∧∀u∈v.cells.toList,u.oneCell'=true:=by
 cases x with
 |any=>cases hc
 |tup cs=>cases hc
 |agg ds =>
   cases hc
   obtain⟨vs,rfl,hl⟩:=h.aggL
   refine⟨hl,fun u hu=>?_⟩
   obtain⟨i,hi⟩:=ek.1 hu
   simp only[Value.cells]at hi
   have hi2:i<cs.length:=by rw[hl.1];exact (am.1 hi).1
   exact (hl.2 i cs[i] u (ah hi2) hi).one (by simpa using bn.1 ha cs[i] (ak hi2))
 |_ =>
   cases hc
   have h1:=h.one rfl
   rw[xW h1]
   exact⟨by simpa using GA.cons h GA.nil,by simpa using h1⟩

theorem ZDv (s:Sim F L (b++l) w) (he:FB w F L e a) {t:TypeId} {i n:Nat} {fs:Array Field} {f:Field} (ht:P.underlying t=some (.struct fs)) (hf:fs[i]? = some f) (hn:lD P f.type=some n) (h0:0<n)
  {y:Operand} {z:Opd} (ho:o.op=.fieldAddr t y i) (hy:aA y=some z)
  (h:aop e b l (.faddr f.offset z)=.val x b' l'):VB P o a w F L b l x b' l':=by
 have hr:=fA he hy
 simp only[aop]at h
 generalize ev e z=q at *
 have key:∀blk p,a.eval y=.pointer (some ⟨blk,p,none⟩)→(execOp a.eval o).run P w=.ok (.value (.pointer (some ⟨blk,p+f.offset,none⟩))) w:=by
  intro blk p hp
  simp[execOp,ho,hp,Instr.fieldAt,run_underlying ht,hf,Instr.sureAddr,fieldPlace,IA hn,show n≠0 by omega,Addr.add_lit]
 unfold LD at h
 split at h
 ·rename_i row j
  cases h
  generalize hp:a.eval y=u at *
  cases hr.vI with
  |iptr _ _ b1 off val h1 h2 h3 =>
    exact VB.pure s (key _ _ rfl) (.v _ _ (by rw[cw];exact .iptr row _ b1 off val h1 h2 h3))
 ·rename_i id ver k j
  cases h
  generalize hp:a.eval y=u at *
  cases hr with
  |ptr _ _ _ _ b1 o1 sz cap hL =>
    exact VB.pure s (key _ _ rfl) (by rw[cw];exact .ptr id ver k _ b1 o1 sz cap hL)
 ·cases h

theorem ZDt (s:Sim F L (b++l) w) (he:FB w F L e a) {t el:TypeId} {sz:Nat} (ht:P.underlying t=some (.slice el)) (hz:lD P el=some sz)
  {y i:Operand} {y' i':Opd} (ho:o.op=.indexAddr t y i) (hy:aA y=some y') (hi:aA i=some i')
  (h:aop e b l (.iaddr sz y' i')=.val x b' l'):VB P o a w F L b l x b' l':=by
 have h1:=fA he hy
 have h2:=fA he hi
 simp only[aop]at h
 generalize ev e y'=q at *
 generalize ev e i'=r at *
 have key:∀(blk p len cap:Nat) (k:IntKind) (n:Int),a.eval y=.slice (some ⟨blk,p,none⟩) len cap→a.eval i=.int k n→0≤n→n<(len:Int)→(execOp a.eval o).run P w=.ok (.value (.pointer (some ⟨blk,p+n.toNat*sz,none⟩))) w:=by
  intro blk p len cap k n e1 e2 h0 hn
  simp[execOp,ho,e1,e2,Instr.indexAt,asIntOf,run_underlying ht,IA hz,h0,hn,Addr.add_lit]
 unfold MD at h
 split at h
 ·rename_i s0 rows k n
  split at h
  case isFalse=>cases h
  rename_i hb
  obtain⟨rfl,h0⟩:=hb
  split at h
  case h_2=>cases h
  rename_i row JD
  cases h
  have e2:=UI h2
  have yA:n.toNat<rows.length:=(am.1 JD).1
  generalize hp:a.eval y=u at *
  cases h1.vI with
  |isl0=>simp at JD
  |isl _ b1 off _ c val g1 g2 g3 g4 g5 g6 =>
    refine VB.pure s (key _ _ _ _ _ _ rfl e2 h0 oM) (.v _ _ ?_)
    have:=RepI.iptr (w:=w) (F:=F) row 0 b1 (off+n.toNat*s0) (val n.toNat) g1 (fun j a hj=>g5 _ row j a JD hj) (fun j a hj=>g6 _ row j a JD hj)
    simpa using this
 ·rename_i id ver off len k n
  split at h
  case h_2=>cases h
  rename_i v s0 els hg
  split at h
  case isFalse=>cases h
  rename_i hb
  obtain⟨rfl,rfl,h0,hn⟩:=hb
  cases h
  rw[OC]at hg
  have e2:=UI h2
  generalize hp:a.eval y=u at *
  cases h1 with
  |sl _ _ _ _ b1 o1 sz1 cap1 g1 g2 g3 =>
    obtain⟨lc,k1,k2⟩:=s.row _ _ _ _ hg
    rw[g1]at k1;cases k1
    obtain⟨rfl,_⟩:=k2
    refine VB.pure s (key _ _ _ _ _ _ rfl e2 h0 hn) ?_
    have:=RepA.ptr (w:=w) (F:=F) id v (off+n.toNat) 0 b1 o1 sz1 cap1 g1
    rw[bx]at this
    simpa [cw] using this
  |slz=>simp at hn;omega
  |sln=>simp at hn;omega
 ·cases h

theorem ZB8 (s:Sim F L (b++l) w) (he:FB w F L e a) {t el:TypeId} {len sz:Nat} (ht:P.underlying t=some (.array len el)) (hz:lD P el=some sz)
  {y i:Operand} {y' i':Opd} (ho:o.op=.indexAddr t y i) (hy:aA y=some y') (hi:aA i=some i')
  (h:aop e b l (.iaddrA len sz y' i')=.val x b' l'):VB P o a w F L b l x b' l':=by
 have h1:=fA he hy
 have h2:=fA he hi
 simp only[aop]at h
 generalize ev e y'=q at *
 generalize ev e i'=r at *
 have key:∀(blk p:Nat) (k:IntKind) (n:Int),a.eval y=.pointer (some ⟨blk,p,none⟩)→a.eval i=.int k n→0≤n→n<(len:Int)→(execOp a.eval o).run P w=.ok (.value (.pointer (some ⟨blk,p+n.toNat*sz,none⟩))) w:=by
  intro blk p k n e1 e2 h0 hn
  simp[execOp,ho,e1,e2,Instr.indexAt,asIntOf,run_underlying ht,IA hz,h0,hn,Addr.add_lit,Instr.sureAddr]
 unfold GC at h
 split at h
 ·rename_i row j k n
  split at h
  case isFalse=>cases h
  rename_i hb
  cases h
  have e2:=UI h2
  generalize hp:a.eval y=u at *
  cases h1.vI with
  |iptr _ _ b1 off val g1 g2 g3 =>
    exact VB.pure s (key _ _ _ _ rfl e2 hb.1 hb.2) (.v _ _ (by rw[cw];exact .iptr row _ b1 off val g1 g2 g3))
 ·rename_i id ver k j kk n
  split at h
  case isFalse=>cases h
  rename_i hb
  cases h
  have e2:=UI h2
  generalize hp:a.eval y=u at *
  cases h1 with
  |ptr _ _ _ _ b1 o1 sz1 cap hL =>
    exact VB.pure s (key _ _ _ _ rfl e2 hb.1 hb.2) (by rw[cw];exact .ptr id ver k _ b1 o1 sz1 cap hL)
 ·cases h

theorem U4 (s:Sim F L (b++l) w) {t:TypeId} {n:Option Nat} (hn:iK P t=some n) {q:AV} {v:Value} (hr:RepA w F L q v)
  (h:AE b l n q=.val x b' l'):∃blk p u,v=.pointer (some ⟨blk,p,none⟩)∧(loadVar t ⟨blk,p,none⟩).run P w=.ok u w∧RepA w F L x u∧b'=b∧l'=l:=by
 unfold AE at h
 split at h
 ·rename_i row j
  replace h:=UE h
  obtain⟨h,rfl,rfl⟩:=h
  cases hr.vI with
  |iptr _ _ b1 off val g1 g2 g3 =>
    have:=DS (P:=P) (w:=w) (F:=F) (L:=L) hn (b:=b1) (o:=off+j) (vals:=(row.drop j).map .v) (x:=x) (by
     intro i y hy
     rw[an]at hy
     cases hq:(row.drop j)[i]? with
     |none=>simp[hq]at hy
     |some z =>
       simp[hq]at hy
       subst hy
       rw[dp]at hq
       exact⟨_,by rw[cw];exact g2 _ _ hq,.v _ _ (g3 _ _ hq)⟩) (by
     cases n with
     |none=>simp only[rdI]at h;simpa using h
     |some n =>
       simp only[rdI]at h
       split at h
       ·rename_i LJ
        cases h
        simp only
        rw[if_pos (by simp;omega),gh]
       ·cases h)
    obtain⟨u,h1,h2⟩:=this
    exact⟨b1,off+j,u,rfl,h1,h2,rfl,rfl⟩
 ·rename_i id ver k j
  split at h
  case h_2=>cases h
  rename_i v0 s0 els hg
  split at h
  case isFalse=>cases h
  rename_i hv
  subst hv
  split at h
  case h_2=>cases h
  rename_i row JD
  replace h:=UE h
  obtain⟨h,rfl,rfl⟩:=h
  rw[OC]at hg
  cases hr with
  |ptr _ _ _ _ b1 o1 sz1 cap hL =>
    have:=DS (P:=P) (w:=w) (F:=F) (L:=L) hn (b:=b1) (o:=o1+k*sz1+j) (vals:=row.drop j) (x:=x) (by
     intro i y hy
     rw[dp]at hy
     obtain⟨_,_,u,h1,h2⟩:=s.cell hg hL JD hy
     exact⟨u,by rw[cw];exact h1,h2⟩) (by
     cases n with
     |none=>simp only[rd]at h;simpa using h
     |some n =>
       simp only[rd]at h
       split at h
       ·rename_i LJ
        cases h
        simp only
        rw[if_pos (by simp;omega)]
       ·cases h)
    obtain⟨u,h1,h2⟩:=this
    exact⟨b1,o1+k*sz1+j,u,rfl,h1,h2,rfl,rfl⟩
 ·cases h

theorem ZGv (s:Sim F L (b++l) w) (he:FB w F L e a) {t:TypeId} {n:Option Nat} (hn:iK P t=some n) {y:Operand} {z:Opd} (ho:o.op=.load t y) (hy:aA y=some z)
  (h:aop e b l (.load n z)=.val x b' l'):VB P o a w F L b l x b' l':=by
 have hr:=fA he hy
 simp only[aop]at h
 obtain⟨blk,p,u,h1,h2,h3,rfl,rfl⟩:=U4 (P:=P) s hn hr h
 exact VB.pure s (v:=u) (by simp[execOp,ho,h1,Instr.loadAt,Instr.sureAddr,h2]) h3

theorem ZDo (s:Sim F L (b++l) w) (he:FB w F L e a) {t:TypeId} {n:Nat} (hn:lD P t=some n) {y z:Operand} {y' z':Opd} (ho:o.op=.store t y z) (hy:aA y=some y') (hz:aA z=some z')
  (h:aop e b l (.store n y' z')=.val x b' l'):VB P o a w F L b l x b' l':=by
 have h1:=fA he hy
 have h2:=fA he hz
 simp only[aop]at h
 generalize ev e y'=q at *
 generalize ev e z'=r at *
 unfold QE at h
 split at h
 case h_2=>cases h
 rename_i id ver k j cs TY
 split at h
 case h_2=>cases h
 rename_i v0 s0 els hg
 split at h
 case isFalse=>cases h
 rename_i hb
 obtain⟨rfl,IB,xF⟩:=hb
 split at h
 case h_2=>cases h
 rename_i row JD
 split at h
 case isFalse=>cases h
 rename_i sI
 cases h
 rw[OC]at hg
 obtain⟨c1,c2⟩:=jM h2 TY xF
 generalize hvs:a.eval z=v at *
 generalize hp:a.eval y=u at *
 cases h1 with
 |ptr _ _ _ _ b1 o1 sz1 cap hL =>
   obtain⟨lc,k1,k2⟩:=s.row _ _ _ _ hg
   rw[hL]at k1;cases k1
   obtain⟨rfl,k3,k4,cur,T,k5,k6,k7,k8⟩:=k2
   have hk:k<els.length:=(am.1 JD).1
   have nR:=k7 k row JD
   have bU:v.cells.toList.length=n:=by rw[←c1.1,IB]
   have hvz:v.cells.size=n:=by simpa using bU
   have LJ:k*sz1+j+n≤cap*sz1:=KH oM oM
   have ZF:=run_storeCells_at P b1 (o1+k*sz1+j) T v.cells.toList 0 cur w k5 oM c2
   have VD:(execOp a.eval o).run P w=.ok .skip (w.setRow b1 (cur.toList.take (o1+k*sz1+j)++v.cells.toList++cur.toList.drop (o1+k*sz1+j+v.cells.toList.length)).toArray):=by
    simp only[eo]at ZF
    have NN:v.cells.size=n:=by simpa using bU
    simp[execOp,ho,hp,hvs,Instr.storeAt,Instr.sureAddr,storeVar,IA hn,NN,ZF]
   have PO:(cur.toList.take (o1+k*sz1+j)++v.cells.toList++cur.toList.drop (o1+k*sz1+j+v.cells.toList.length)).toArray.size=cur.size:=by
    simp only[dx,ap,bg,co,ft]
    omega
   have hget:∀i,(cur.toList.take (o1+k*sz1+j)++v.cells.toList++cur.toList.drop (o1+k*sz1+j+v.cells.toList.length)).toArray[i]? = if o1+k*sz1+j≤i∧i<o1+k*sz1+j+n then v.cells.toList[i-(o1+k*sz1+j)]? else cur[i]?:=by
    intro i
    have:=bI cur.toList v.cells.toList (o1+k*sz1+j) i (by simp only[ft];omega)
    rw[bU]at this
    simp only[hU]
    rw[bU,this]
    simp
   obtain⟨L',r1,r2,r3,r4⟩:=s.putRow (h':=(b++l).set id (.live v0 sz1 (els.set k (rB row j cs)))) (w':=w.setRow b1 (cur.toList.take (o1+k*sz1+j)++v.cells.toList++cur.toList.drop (o1+k*sz1+j+v.cells.toList.length)).toArray)
    id v0 sz1 b1 o1 cap (els.set k (rB row j cs)) rfl rfl rfl kS (fun i _ hi=>setRow_other w b1 i _ hi) (.inr ⟨_,_,_,_,_,_,hg,hL⟩)
    (ay (am.1 hg).1) (fun i hi=>bl (Ne.symm hi)) (fun r hr=>by rw[hg]at hr;cases hr;exact⟨ai _,_,_,_,rfl⟩) (.inr hL)
    (by simpa using k3) k4 _ T (setRow_heap w b1 cur _ T _ k5) (by rw[PO];exact k6)
    (fun k' row' hk'=>by
     by_cases UP:k=k'
     ·subst UP
      rw[ay hk]at hk';cases hk'
      rw[UQ];exact nR
     ·rw[bl UP]at hk';exact k7 _ _ hk')
    (fun k' row' j' a' hk' hj'=>by
     by_cases UP:k=k'
     ·subst UP
      rw[ay hk]at hk';cases hk'
      rw[KQ cs row j j' oM]at hj'
      rw[hget]
      by_cases zE:j≤j'∧j'<j+cs.length
      ·rw[if_pos zE]at hj'
       rw[if_pos oM]
       obtain⟨u,hu,hru⟩:=c1.get hj'
       refine⟨?_,u,by rw[show o1+k*sz1+j'-(o1+k*sz1+j)=j'-j by omega];exact hu,hru⟩
       exact bn.1 xF _ (ci hj')
      ·rw[if_neg zE]at hj'
       rw[if_neg oM]
       exact k8 k row j' a' JD hj'
     ·rw[bl UP]at hk'
      have hj2:j'<sz1:=by rw[←k7 _ _ hk'];exact (am.1 hj').1
      rw[hget,if_neg (by have:=ZAu (n:=n) (j:=j) UP hj2 oM;omega)]
      exact k8 k' row' j' a' hk' hj')
   refine⟨undef,_,L',.inr ⟨VD,rfl⟩,RepA.undef _ _ _,by rw[KE];exact r1,by rw[KE];exact r2,yF _ _ _⟩
end

section
variable {P:Program} {w:World} {F:Nat→Prop} {L:LMap} {o:Oper} {a:Act} {e:List AV} {b l b' l':List Row} {x:AV}

theorem VZ {t ty el:TypeId} (ht:P.underlying t=some (.slice el)) (ad:Option Addr) (n c:Nat):(Builtin.len_ #[t] ty #[.slice ad n c]).run P w=.ok (goInt n) w:=by
 simp[Builtin.len_,run_underlying ht]

theorem CD {c:Call} {bi:Builtin} {xs:List Operand} {ts:List TypeId} (ho:o.op=.call c) (hc:c.callee=.builtin bi) (ha:c.args.toList=xs) (sX:c.argTypes.toList=ts) :
  execOp a.eval o=(do let d ←(Pure.pure {target:=.builtin bi ts.toArray o.type (xs.toArray.map fun|.const _=>true|_=>false),args:=(xs.map a.eval).toArray}:Sem Deferred);invoke d.target d.args):=by
 have h1:c.args=xs.toArray:=by rw[←ha]
 have h2:c.argTypes=ts.toArray:=by rw[←sX]
 simp only[execOp,ho,resolve,hc,h1,h2,kq]
 rfl

theorem ZJ2 (s:Sim F L (b++l) w) (he:FB w F L e a) {c:Call} {t el:TypeId} (ht:P.underlying t=some (.slice el)) {y:Operand} {z:Opd} (hc:c.callee=.builtin .len) (ha:c.args.toList=[y]) (sX:c.argTypes.toList=[t]) (ho:o.op=.call c) (hy:aA y=some z)
  (h:aop e b l (.len z)=.val x b' l'):VB P o a w F L b l x b' l':=by
 have hr:=fA he hy
 simp only[aop]at h
 replace h:=UE h
 obtain⟨h,rfl,rfl⟩:=h
 generalize ev e z=q at *
 have key:∀ad n cp,a.eval y=.slice ad n cp→VB P o a w F L b' l' (.v (.int .i64 n)) b' l':=by
  intro ad n cp hv
  refine VB.pure s (v:=goInt n) ?_ (toN _ _)
  rw[CD ho hc ha sX]
  simp[invoke,builtin,hv,VZ ht]
 unfold AJ at h
 split at h
 ·cases h
  generalize hv:a.eval y=v at hr
  cases hr.vI
  exact key _ _ _ hv
 ·cases h
  generalize hv:a.eval y=v at hr
  cases hr.vI
  ·exact key _ _ _ hv
  ·exact key _ _ _ hv
 ·cases h
  generalize hv:a.eval y=v at hr
  cases hr
  ·exact key _ _ _ hv
  ·exact key _ _ _ hv
  ·exact key _ _ _ hv
 ·cases h

theorem UZ {t ty el:TypeId} (ht:P.underlying t=some (.slice el)) (ad:Option Addr) (n c:Nat):(Builtin.cap_ #[t] ty #[.slice ad n c]).run P w=.ok (goInt c) w:=by
 simp[Builtin.cap_,run_underlying ht]

theorem ZHD (s:Sim F L (b++l) w) (he:FB w F L e a) {c:Call} {t el:TypeId} (ht:P.underlying t=some (.slice el)) {y:Operand} {z:Opd} (hc:c.callee=.builtin .cap) (ha:c.args.toList=[y]) (sX:c.argTypes.toList=[t]) (ho:o.op=.call c) (hy:aA y=some z)
  (h:aop e b l (.capz z)=.val x b' l'):VB P o a w F L b l x b' l':=by
 have hr:=fA he hy
 simp only[aop]at h
 generalize ev e z=q at *
 split at h
 case h_2=>cases h
 cases h
 generalize hv:a.eval y=v at hr
 cases hr.vI
 refine VB.pure s (v:=goInt 0) ?_ (toN _ _)
 rw[CD ho hc ha sX]
 simp[invoke,builtin,hv,UZ ht]

theorem ZGw (s:Sim F L (b++l) w) (he:FB w F L e a) {c:Call} {t:TypeId} (ht:P.underlying t=some .string) {y:Operand} {z:Opd} (hc:c.callee=.builtin .len) (ha:c.args.toList=[y]) (sX:c.argTypes.toList=[t]) (ho:o.op=.call c) (hy:aA y=some z)
  (h:aop e b l (.lenS z)=.val x b' l'):VB P o a w F L b l x b' l':=by
 have hr:=fA he hy
 simp only[aop]at h
 replace h:=UE h
 obtain⟨h,rfl,rfl⟩:=h
 generalize ev e z=q at *
 unfold XG at h
 split at h
 ·cases h
  have hv:=SQ hr
  refine VB.pure s (v:=goInt _) ?_ (toN _ _)
  rw[CD ho hc ha sX]
  simp[invoke,builtin,hv,Builtin.len_,run_underlying ht]
 ·cases h

theorem ZGy (s:Sim F L (b++l) w) {c:Call} {t el:TypeId} {n:Nat} (ht:P.underlying t=some (.array n el)) {y:Operand} (hc:c.callee=.builtin .len) (ha:c.args.toList=[y]) (sX:c.argTypes.toList=[t]) (ho:o.op=.call c) :
  VB P o a w F L b l (.v (.int .i64 n)) b l:=by
 refine VB.pure s (v:=goInt n) ?_ (toN _ _)
 rw[CD ho hc ha sX]
 simp[invoke,builtin,Builtin.len_,run_underlying ht]

theorem LF {n m p q:Nat} {lo hi:Option AV} {vlo vhi:Option Value} (h:fD n lo hi=some (p,q)) (hm:n≤m) (isS:Bool)
  (h1:∀y,lo=some y→∃v,vlo=some v∧RepA w F L y v) (h1n:lo=none→vlo=none)
  (h2:∀y,hi=some y→∃v,vhi=some v∧RepA w F L y v) (h2n:hi=none→vhi=none) :
  (Instr.sliceBounds isS n m vlo vhi none).run P w=.ok (p,q,m) w∧p≤q∧q≤n:=by
 unfold fD at h
 split at h
 ·cases h
  rw[h1n rfl,h2n rfl]
  exact⟨by simp[Instr.sliceBounds],aj _,ai _⟩
 ·rename_i k i
  split at h
  ·rename_i hb
   cases h
   obtain⟨v,e1,e2⟩:=h1 _ rfl
   rw[e1,h2n rfl,UI e2]
   exact⟨by simp[Instr.sliceBounds,Instr.sliceBound,asIntOf,hb.1,hb.2],by omega,ai _⟩
  ·cases h
 ·rename_i k i
  split at h
  ·rename_i hb
   cases h
   obtain⟨v,e1,e2⟩:=h2 _ rfl
   rw[e1,h1n rfl,UI e2]
   have:i≤(m:Int):=by omega
   exact⟨by simp[Instr.sliceBounds,Instr.sliceBound,asIntOf,hb.1,this],by omega,by omega⟩
  ·cases h
 ·rename_i k i k' i'
  split at h
  ·rename_i hb
   cases h
   obtain⟨v,e1,e2⟩:=h1 _ rfl
   obtain⟨u,e3,e4⟩:=h2 _ rfl
   rw[e1,e3,UI e2,UI e4]
   have h0:0≤i':=by omega
   have h3:i'≤(m:Int):=by omega
   have h4:i≤((i'.toNat:Nat):Int):=by omega
   have h5:¬(max i' 0<i):=by omega
   exact⟨by simp[Instr.sliceBounds,Instr.sliceBound,asIntOf,hb.1,h0,h3,h5],by omega,by omega⟩
  ·cases h
 ·cases h

theorem OR (he:FB w F L e a) {y:Option Operand} {z:Option Opd} (h:yM y=some z) :
  (∀u,evo e z=some u→∃v,y.map a.eval=some v∧RepA w F L u v)∧(evo e z=none→y.map a.eval=none):=by
 cases y with
 |none=>simp[yM]at h;subst h;exact⟨fun u hu=>by simp[evo]at hu,fun _=>rfl⟩
 |some y =>
   cases hc:aA y with
   |none=>simp[yM,hc]at h
   |some q =>
     simp[yM,hc]at h
     subst h
     exact⟨fun u hu=>by simp[evo]at hu;subst hu;exact⟨_,rfl,fA he hc⟩,fun h=>by simp[evo]at h⟩

theorem SH {t el:TypeId} {sz:Nat} (ht:P.underlying t=some (.slice el)) (hz:lD P el=some sz) {ad:Option Addr} {n m p q:Nat} {vlo vhi:Option Value} (hb:(Instr.sliceBounds true n m vlo vhi none).run P w=.ok (p,q,m) w) :
  (Instr.sliceAt t (.slice ad n m) vlo vhi none).run P w=.ok (.slice (if m=p then ad else ad.map (·.add (p*sz))) (q-p) (m-p)) w:=by
 simp only[Instr.sliceAt,Sem.run_bind,run_underlying ht,Result.andThen_ok,Instr.slice,hb,IA hz,Sem.run_pure]

theorem ZDp (s:Sim F L (b++l) w) (he:FB w F L e a) {t el:TypeId} {sz:Nat} (ht:P.underlying t=some (.slice el)) (hz:lD P el=some sz)
  {y:Operand} {y':Opd} {lo hi:Option Operand} {lo' hi':Option Opd} (ho:o.op=.slice t y lo hi none) (hy:aA y=some y') (hlo:yM lo=some lo') (hhi:yM hi=some hi')
  (h:aop e b l (.slice sz y' lo' hi')=.val x b' l'):VB P o a w F L b l x b' l':=by
 have hr:=fA he hy
 obtain⟨g1,g2⟩:=OR he hlo
 obtain⟨g3,g4⟩:=OR he hhi
 simp only[aop]at h
 generalize ev e y'=q at *
 unfold TD at h
 split at h
 ·split at h
  case h_2=>cases h
  rename_i pq hb
  obtain⟨p,q⟩:=pq
  cases h
  generalize hv:a.eval y=v at hr
  cases hr.vI with
  |zsl ad =>
    obtain⟨k1,k2,k3⟩:=LF (P:=P) hb (ai _) true g1 g2 g3 g4
    have hq:q=0:=by omega
    subst hq
    have hp:p=0:=by omega
    subst hp
    refine VB.pure s (v:=.slice ad 0 0) ?_ (.v _ _ (.zsl _))
    simp[execOp,ho,hv,SH ht hz k1]
 ·rename_i s0 rows
  split at h
  case isFalse=>cases h
  rename_i hs
  subst hs
  split at h
  case h_2=>cases h
  rename_i p q hb
  cases h
  have qL:∀ad m,rows.length≤m→a.eval y=.slice ad rows.length m→RepA w F L (.v (.isl s0 ((rows.take q).drop p))) (.slice (if m=p then ad else ad.map (·.add (p*s0))) (q-p) (m-p))→VB P o a w F L b l (.v (.isl s0 ((rows.take q).drop p))) b l:=by
   intro ad m hm hv hx
   obtain⟨k1,_,_⟩:=LF (P:=P) hb hm true g1 g2 g3 g4
   refine VB.pure s (v:=_) ?_ hx
   simp[execOp,ho,hv,SH ht hz k1]
  generalize hv:a.eval y=v at hr
  cases hr.vI with
  |isl0 _ ad m hm =>
    refine qL _ _ (aj _) hv (.v _ _ ?_)
    obtain⟨_,k2,k3⟩:=LF (P:=P) hb (ai _) true g1 g2 g3 g4
    simp at k3
    subst k3
    simp
    exact .isl0 s0 _ _ oM
  |isl _ b1 off _ m val h1 h2 h3 h4 h5 h6 =>
    refine qL _ _ h2 hv (.v _ _ ?_)
    obtain⟨_,k2,k3⟩:=LF (P:=P) hb h2 true g1 g2 g3 g4
    by_cases hpq:p=q
    ·subst hpq
     have:(rows.take p).drop p=[]:=by simp
     rw[this,dy]
     exact .isl0 s0 _ _ oM
    ·rw[if_neg oM]
     have IB:((rows.take q).drop p).length=q-p:=by simp;omega
     have:=RepI.isl (w:=w) (F:=F) ((rows.take q).drop p) b1 (off+p*s0) s0 (m-p) (fun k j=>val (p+k) j) h1 oM oM
      (fun k row hk=>by
       rw[dp,de]at hk
       split at hk
       ·exact h4 _ _ hk
       ·cases hk)
      (fun k row j a hk hj=>by
       rw[dp,de]at hk
       split at hk
       ·have:=h5 _ row j a hk hj
        rw[bx]at this
        simpa [cw] using this
       ·cases hk)
      (fun k row j a hk hj=>by
       rw[dp,de]at hk
       split at hk
       ·exact h6 _ row j a hk hj
       ·cases hk)
     rw[IB]at this
     simpa [Addr.add_lit] using this
 ·rename_i id ver off len
  split at h
  case h_2=>cases h
  rename_i v0 s0 els hg
  split at h
  case isFalse=>cases h
  rename_i hs
  obtain⟨rfl,rfl⟩:=hs
  split at h
  case h_2=>cases h
  rename_i p q hb
  cases h
  rw[OC]at hg
  have qL:∀ad m,len≤m→a.eval y=.slice ad len m→RepA w F L (.sl id v0 (off+p) (q-p)) (.slice (if m=p then ad else ad.map (·.add (p*s0))) (q-p) (m-p))→VB P o a w F L b l (.sl id v0 (off+p) (q-p)) b l:=by
   intro ad m hm hv hx
   obtain⟨k1,_,_⟩:=LF (P:=P) hb hm true g1 g2 g3 g4
   refine VB.pure s (v:=_) ?_ hx
   simp[execOp,ho,hv,SH ht hz k1]
  generalize hv:a.eval y=v at hr
  cases hr with
  |sl _ _ _ _ b1 o1 z1 c1 hL h1 h2 =>
    obtain⟨lc,k1,k2⟩:=s.row _ _ _ _ hg
    rw[hL]at k1;cases k1
    obtain⟨rfl,_⟩:=k2
    refine qL _ _ oM hv ?_
    obtain⟨_,k2,k3⟩:=LF (P:=P) hb (show len≤c1-off by omega) true g1 g2 g3 g4
    by_cases hp:c1-off=p
    ·rw[if_pos hp,hp,dy]
     have:q-p=0:=by omega
     rw[this]
     exact .slz id v0 (off+p) b1 o1 z1 c1 _ hL oM
    ·rw[if_neg hp]
     have:=RepA.sl (w:=w) (F:=F) id v0 (off+p) (q-p) b1 o1 z1 c1 hL oM h2
     rw[bx]at this
     simpa [Addr.add_lit,cw,Nat.sub_sub] using this
  |slz _ _ _ b1 o1 z1 cap1 x1 hL gR =>
    refine qL _ _ (ai _) hv ?_
    obtain⟨_,k2,k3⟩:=LF (P:=P) hb (ai _) true g1 g2 g3 g4
    have hq:q=0:=by omega
    subst hq
    have hp:p=0:=by omega
    subst hp
    simp
    exact .slz id v0 _ b1 o1 z1 _ _ hL gR
  |sln _ _ ad hL =>
    refine qL _ _ (ai _) hv ?_
    obtain⟨_,k2,k3⟩:=LF (P:=P) hb (ai _) true g1 g2 g3 g4
    have hq:q=0:=by omega
    subst hq
    have hp:p=0:=by omega
    subst hp
    simp
    exact .sln id v0 _ hL
 ·cases h

theorem VW {y:Option Operand} (h:YR y=true):∃k,y=some (.const (.int k 0)):=by
 unfold YR at h
 split at h
 ·exact⟨_,rfl⟩
 ·cases h

theorem ZB4 (s:Sim F L (b++l) w) (he:FB w F L e a) {t el:TypeId} {sz:Nat} (ht:P.underlying t=some (.slice el)) (hz:lD P el=some sz)
  {y:Operand} {y':Opd} {hi mx:Option Operand} (ho:o.op=.slice t y none hi mx) (hhi:YR hi=true) (hmx:YR mx=true) (hy:aA y=some y')
  (h:aop e b l (.slice0 y')=.val x b' l'):VB P o a w F L b l x b' l':=by
 have hr:=fA he hy
 obtain⟨k,rfl⟩:=VW hhi
 obtain⟨k',rfl⟩:=VW hmx
 simp only[aop]at h
 generalize ev e y'=q at *
 have qL:∀ad n m,a.eval y=.slice ad n m→VB P o a w F L b l (.v .zsl) b l:=by
  intro ad n m hv
  have:(execOp a.eval o).run P w=.ok (.value (.slice ad 0 0)) w:=by
   have c1:a.eval (.const (.int k 0))=.int k 0:=rfl
   have c2:a.eval (.const (.int k' 0))=.int k' 0:=rfl
   have hb:(Instr.sliceBounds true n m none (some (.int k 0)) (some (.int k' 0))).run P w=.ok (0,0,0) w:=by simp[Instr.sliceBounds,Instr.sliceBound,asIntOf]
   simp[execOp,ho,hv,c1,c2,Instr.sliceAt,run_underlying ht,Instr.slice,hb,IA hz]
  exact VB.pure s this (.v _ _ (.zsl ad))
 split at h<;>cases h
 ·generalize hv:a.eval y=v at hr
  cases hr.vI
  exact qL _ _ _ hv
 ·generalize hv:a.eval y=v at hr
  cases hr.vI
  ·exact qL _ _ _ hv
  ·exact qL _ _ _ hv
 ·generalize hv:a.eval y=v at hr
  cases hr
  ·exact qL _ _ _ hv
  ·exact qL _ _ _ hv
  ·exact qL _ _ _ hv

theorem ZB3 (s:Sim F L (b++l) w) (he:FB w F L e a) {t:TypeId} (ht:P.underlying t=some .string)
  {y:Operand} {y':Opd} {lo hi:Option Operand} {lo' hi':Option Opd} (ho:o.op=.slice t y lo hi none) (hy:aA y=some y') (hlo:yM lo=some lo') (hhi:yM hi=some hi')
  (h:aop e b l (.sliceS y' lo' hi')=.val x b' l'):VB P o a w F L b l x b' l':=by
 have hr:=fA he hy
 obtain⟨g1,g2⟩:=OR he hlo
 obtain⟨g3,g4⟩:=OR he hhi
 simp only[aop]at h
 generalize ev e y'=q at *
 split at h
 case h_2=>cases h
 rename_i str
 split at h
 case h_2=>cases h
 rename_i p q hb
 cases h
 have hv:=SQ hr
 obtain⟨k1,_,_⟩:=LF (P:=P) hb (ai _) false g1 g2 g3 g4
 refine VB.pure s (v:=.string (str.extract p q)) ?_ (toS _)
 simp[execOp,ho,hv,Instr.sliceAt,run_underlying ht,Instr.slice,k1]
end

section
variable {P:Program} {w:World} {F:Nat→Prop} {L:LMap} {o:Oper} {a:Act} {e:List AV} {b l b' l':List Row} {x:AV}

theorem KY (s:Sim F L (b++l) w) {w':World} {sz cap:Nat} {els:List (List AV)} {g:Nat→AV} {cur:Array Value} {T:TypeId} {v:Value}
  (VD:Ends P o a w v w') (ZFd:w'.heap=w.heap.push (.cells cur T (0,0))) (hos:w'.os=w.os) (htp:w'.tape=w.tape) (rH:w'.output=w.output)
  (hl:els.length≤cap) (EM:cap≤maxLen) (sI:cap*sz≤cur.size)
  (NN:∀(k:Nat) (row:List AV),els[k]? = some row→row.length=sz)
  (jG:∀(k:Nat) (row:List AV) (j:Nat) (c:AV),els[k]? = some row→row[j]? = some c→c.cell=true∧∃u,cur[k*sz+j]? = some u∧RepA w F L c u)
  (hg:∀(L':LMap),L' (b.length+l.length) 0=some (.pl w.heap.size 0 sz cap)→RepA w' F L' (g (b.length+l.length)) v)
  (h:mk b l sz els g=.val x b' l'):VB P o a w F L b l x b' l':=by
 unfold mk at h
 cases h
 have IB:(b++l).length=b.length+l.length:=by simp
 obtain⟨L',r1,r2,r3,r4⟩:=s.putRow (h':=b++(l++[.live 0 sz els])) (w':=w') (b.length+l.length) 0 sz w.heap.size 0 cap els hos htp rH (by rw[ZFd];simp)
  (fun k hk _=>by rw[ZFd,kr,if_neg oM]) (.inl (ai _))
  (by rw[←bc,aq oM];simp)
  (fun j hj=>by
   rw[←bc]
   by_cases wG:j<(b++l).length
   ·rw[aw wG]
   ·rw[cg (by simp;omega),cg oM])
  (fun r hr=>by rw[cg oM]at hr;cases hr)
  (.inl (by
   cases hq:L (b.length+l.length) 0 with
   |none=>rfl
   |some q=>exact absurd (s.lt hq) oM))
  hl EM cur T (by rw[ZFd];simp) (by simpa using sI) NN (fun k row j c hk hj=>by simpa using jG k row j c hk hj)
 exact⟨v,w',L',VD,hg L' r3,r1,r2,rfl⟩

theorem ZDx (s:Sim F L (b++l) w) {t:TypeId} {zs:List AV} (ho:o.op=.alloc t) (hz:aF P t=some zs)
  (h:aop e b l (.alloc zs)=.val x b' l'):VB P o a w F L b l x b' l':=by
 simp only[aop]at h
 unfold aF at hz
 split at hz
 case h_2=>cases hz
 rename_i i hi
 split at hz
 case h_2=>cases hz
 rename_i z tX
 obtain⟨c1,c2⟩:=JF (w:=w) (F:=F) (L:=L) hz
 have N9:zs.length=z.cells.size:=by simpa using c1.1
 refine KY s (w':=w.alloc (.cells z.cells t)) (cur:=z.cells) (T:=t) (cap:=1) (v:=.pointer (some ⟨w.heap.size,0,none⟩)) (.inl ?_) rfl rfl rfl rfl kS kE oM ?_ ?_ ?_ h
 ·simp[execOp,ho,Instr.alloc,zeroValue,typeInfo,hi,tX,newVar,newRow]
 ·intro k row hk
  cases k with
  |zero=>simp at hk;subst hk;rfl
  |succ k=>simp at hk
 ·intro k row j c hk hj
  cases k with
  |zero =>
    simp at hk;subst hk
    obtain⟨u,hu,hr⟩:=c1.get hj
    exact⟨bn.1 c2 _ (ci hj),u,by simpa using hu,hr⟩
  |succ k=>simp at hk
 ·intro L' hL'
  have:=RepA.ptr (w:=w.alloc (.cells z.cells t)) (F:=F) (b.length+l.length) 0 0 0 _ _ _ _ hL'
  simpa using this

theorem ZJ4 (s:Sim F L (b++l) w) (he:FB w F L e a) {t:TypeId} {y:Operand} {z:Opd} (ho:o.op=.box t y) (hy:aA y=some z)
  (h:aop e b l (.box z)=.val x b' l'):VB P o a w F L b l x b' l':=by
 have hr:=fA he hy
 simp only[aop]at h
 generalize ev e z=q at *
 split at h
 case h_2=>cases h
 rename_i cs TY
 split at h
 case isFalse=>cases h
 rename_i xF
 obtain⟨c1,c2⟩:=jM hr TY xF
 have N9:cs.length=(a.eval y).cells.size:=by simpa using c1.1
 refine KY s (w':=w.alloc (.cells (a.eval y).cells t)) (cur:=(a.eval y).cells) (T:=t) (cap:=1) (v:=.pointer (some ⟨w.heap.size,0,none⟩)) (.inl ?_) rfl rfl rfl rfl kS kE oM ?_ ?_ ?_ h
 ·simp[execOp,ho,Instr.box,newVar,newRow]
 ·intro k row hk
  cases k with
  |zero=>simp at hk;subst hk;rfl
  |succ k=>simp at hk
 ·intro k row j c hk hj
  cases k with
  |zero =>
    simp at hk;subst hk
    obtain⟨u,hu,hr⟩:=c1.get hj
    exact⟨bn.1 xF _ (ci hj),u,by simpa using hu,hr⟩
  |succ k=>simp at hk
 ·intro L' hL'
  have:=RepA.ptr (w:=w.alloc (.cells (a.eval y).cells t)) (F:=F) (b.length+l.length) 0 0 0 _ _ _ _ hL'
  simpa using this

theorem sN (vs:List Value):∀(cs:Array Value) (off n:Nat) (i:Nat),off+n+vs.length≤cs.size →
  ((vs.zipIdx n).foldl (fun cs (p:Value×Nat)=>cs.setIfInBounds (off+p.2) p.1) cs).size=cs.size ∧
  ((vs.zipIdx n).foldl (fun cs (p:Value×Nat)=>cs.setIfInBounds (off+p.2) p.1) cs)[i]? = if off+n≤i∧i<off+n+vs.length then vs[i-(off+n)]? else cs[i]?:=by
 induction vs with
 |nil=>intro cs off n i _;simp;intro h1 h2;omega
 |cons v vs ih =>
   intro cs off n i h
   simp only[ej]at h
   simp only[List.zipIdx_cons,ku]
   obtain⟨h1,h2⟩:=ih (cs.setIfInBounds (off+n) v) off (n+1) i (by simp;omega)
   refine⟨by rw[h1];simp,?_⟩
   rw[h2]
   by_cases hi:i=off+n
   ·subst hi
    rw[if_neg oM,if_pos kS,mb oM]
    simp
   ·by_cases hj:off+(n+1)≤i∧i<off+(n+1)+vs.length
    ·rw[if_pos hj,if_pos (by simp;omega),show i-(off+n)=(i-(off+(n+1)))+1 by omega]
     simp
    ·rw[if_neg hj,if_neg (by simp;omega),ip oM]

theorem MH (vs cs:Array Value) (off:Nat):vs.zipIdx.foldl (fun cs (p:Value×Nat)=>cs.setIfInBounds (off+p.2) p.1) cs=(vs.toList.zipIdx 0).foldl (fun cs (p:Value×Nat)=>cs.setIfInBounds (off+p.2) p.1) cs:=by
 rw[←Array.foldl_toList];simp

theorem ZEH {row ds:List AV} {cs vs:Array Value} (h:GA w F L row cs.toList) (k:GA w F L ds vs.toList) {off:Nat} (LJ:off+ds.length≤row.length) :
  GA w F L (rB row off ds) (vs.zipIdx.foldl (fun cs (p:Value×Nat)=>cs.setIfInBounds (off+p.2) p.1) cs).toList:=by
 have hl:cs.size=row.length:=by simpa using h.1.symm
 have hk:vs.toList.length=ds.length:=k.1.symm
 rw[MH]
 have key:=fun i=>sN vs.toList cs off 0 i oM
 refine⟨?_,fun i c u hc hu=>?_⟩
 ·rw[UQ,ft]
  exact (hl.symm.trans (key 0).1.symm)
 ·rw[KQ ds row off i LJ]at hc
  rw[Array.getElem?_toList,(key i).2]at hu
  simp only[eo,hk]at hu
  split at hc
  ·rename_i zE
   rw[if_pos zE]at hu
   exact k.2 _ c u hc hu
  ·rename_i zE
   rw[if_neg zE]at hu
   exact h.2 i c u hc (by simpa using hu)

theorem AX (he:FB w F L e a) {place:Nat→Option (Nat×Nat)}:∀{ps:List (Nat×Operand)} {qs:List (Nat×Nat×Opd)} {row:List AV} {cs:Array Value} {out:List AV},
  (∀(i:Nat) (p:Nat×Operand),ps[i]? = some p→∃(off n:Nat) (z:Opd),qs[i]? = some (off,n,z)∧place p.1=some (off,n)∧aA p.2=some z)→qs.length=ps.length →
  GA w F L row cs.toList→bC e row qs=some out→∃vs,Instr.fill place cs (ps.map fun p=>(p.1,a.eval p.2))=some vs∧GA w F L out vs.toList
 |[],qs,row,cs,out,_,hl,hr,hf=>by
   have:qs=[]:=cq (by simpa using hl)
   subst this
   simp[bC]at hf
   subst hf
   exact⟨cs,rfl,hr⟩
 |p::ps,[],row,cs,out,_,hl,hr,hf=>by simp at hl
 |p::ps,q::qs,row,cs,out,hp,hl,hr,hf=>by
   obtain⟨off,n,z,e1,e2,e3⟩:=hp 0 p rfl
   simp at e1
   subst e1
   unfold bC at hf
   split at hf
   case h_2=>cases hf
   rename_i ds zP
   split at hf
   case isFalse=>cases hf
   rename_i hb
   have hz:=fA he e3
   have jG:GA w F L ds (a.eval p.2).cells.toList:=by
    generalize ev e z=q at *
    cases q with
    |any=>cases zP
    |tup cs=>cases zP
    |agg ds =>
      cases zP
      obtain⟨vs,hv,hl⟩:=hz.aggL
      rw[hv];exact hl
    |_=>cases zP;rw[xW (hz.one rfl)];simpa using GA.cons hz GA.nil
   have NN:(a.eval p.2).cells.size=n:=by have:=jG.1;simp at this;omega
   have ZMv:=ZEH hr jG (off:=off) oM
   obtain⟨vs,h1,h2⟩:=AX he (place:=place) (ps:=ps) (qs:=qs) (fun i p' hi=>hp (i+1) p' (by simpa using hi)) (by simpa using hl) ZMv hf
   refine⟨vs,?_,h2⟩
   simp only[bj,Instr.fill,e2,NN]
   have nR:row.length=cs.size:=by simpa using hr.1
   rw[if_neg (by simp;omega)]
   exact h1

theorem GQ {fs:Array Field}:∀{ps:List (Nat×Operand)} {qs:List (Nat×Nat×Opd)},KR P fs ps=some qs→qs.length=ps.length ∧
  ∀(i:Nat) (p:Nat×Operand),ps[i]? = some p→∃(off n:Nat) (z:Opd) (f:Field),qs[i]? = some (off,n,z)∧fs[p.1]? = some f∧f.offset=off∧lD P f.type=some n∧aA p.2=some z
 |[],qs,h=>by simp[KR]at h;subst h;simp
 |(i,y)::ps,qs,h=>by
   unfold KR at h
   split at h
   case h_2=>cases h
   rename_i f z ys h1 h2 h3
   split at h
   case h_2=>cases h
   rename_i n h4
   cases h
   obtain⟨h5,h6⟩:=GQ h3
   refine⟨by simp[h5],fun j p hj=>?_⟩
   cases j with
   |zero=>simp at hj;subst hj;exact⟨_,_,_,f,rfl,h1,rfl,h4,h2⟩
   |succ j=>simp at hj;simpa using h6 j p hj

theorem jO {n:Nat}:∀{ps:List (Nat×Operand)} {qs:List (Nat×Nat×Opd)},qN n ps=some qs→qs.length=ps.length ∧
  ∀(i:Nat) (p:Nat×Operand),ps[i]? = some p→∃(z:Opd),qs[i]? = some (p.1*n,n,z)∧aA p.2=some z
 |[],qs,h=>by simp[qN]at h;subst h;simp
 |(i,y)::ps,qs,h=>by
   unfold qN at h
   split at h
   case h_2=>cases h
   rename_i z ys h1 h2
   cases h
   obtain⟨h5,h6⟩:=jO h2
   refine⟨by simp[h5],fun j p hj=>?_⟩
   cases j with
   |zero=>simp at hj;subst hj;exact⟨_,rfl,h1⟩
   |succ j=>simp at hj;simpa using h6 j p hj

theorem iN {α β:Type} (f:α→Sem β) (g:α→β):∀(xs:List α),(∀x∈xs,(f x).run P w=.ok (g x) w)→(xs.mapM f).run P w=.ok (xs.map g) w
 |[],_=>by simp
 |x::xs,h=>by
   have ih:=iN f g xs (fun y hy=>h y (by simp[hy]))
   rw[List.mapM_cons]
   simp[h x kS,ih]
end

section
variable {P:Program} {w:World} {F:Nat→Prop} {L:LMap} {o:Oper} {a:Act} {e:List AV} {b l b' l':List Row} {x:AV}

theorem qE {t:TypeId} {zs:List AV} (hz:aF P t=some zs):∃i z,P.info? t=some i∧i.zero=some z∧cvL z.cells.toList=some zs:=by
 unfold aF at hz
 split at hz
 case h_2=>cases hz
 rename_i i hi
 split at hz
 case h_2=>cases hz
 rename_i z tX
 exact⟨i,z,hi,tX,hz⟩

theorem iH {t:TypeId} {i:TypeInfo} {z:Value} (hi:P.info? t=some i) (hz:i.zero=some z):(zeroValue t).run P w=.ok z w:=by
 simp[zeroValue,typeInfo,hi,hz]

theorem M5 (fs:Array Field) (h:fs.toList.all (fun f=>(lD P f.type).isSome)=true) :
  (fs.mapM fun f=>(do pure (f.offset,←sizeOf f.type):Sem (Nat×Nat))).run P w=.ok (fs.map fun f=>(f.offset,(lD P f.type).getD 0)) w:=by
 rw[Array.mapM_eq_mapM_toList]
 have:=iN (P:=P) (w:=w) (fun f:Field=>(do pure (f.offset,←sizeOf f.type):Sem (Nat×Nat))) (fun f=>(f.offset,(lD P f.type).getD 0)) fs.toList (fun f hf=>by
  have h1:=bn.1 h f hf
  cases hn:lD P f.type with
  |none=>simp[hn]at h1
  |some n=>simp[IA hn])
 simp only[map_eq_pure_bind,Sem.run_bind,this,Result.andThen_ok,Sem.run_pure]
 congr 1
 apply Array.ext'
 simp

theorem ZDw (s:Sim F L (b++l) w) (he:FB w F L e a) {t:TypeId} {fs:Array Field} {zs:List AV} {parts:Array (Nat×Operand)} {qs:List (Nat×Nat×Opd)} (ht:P.underlying t=some (.struct fs)) (hz:aF P t=some zs)
  (xF:fs.toList.all (fun f=>(lD P f.type).isSome)=true) (hq:KR P fs parts.toList=some qs) (ho:o.op=.build t parts)
  (h:aop e b l (.build zs qs)=.val x b' l'):VB P o a w F L b l x b' l':=by
 obtain⟨i,z,hi,tX,wV⟩:=qE hz
 obtain⟨c1,c2⟩:=JF (w:=w) (F:=F) (L:=L) wV
 obtain⟨q1,q2⟩:=GQ hq
 simp only[aop]at h
 split at h
 case h_2=>cases h
 rename_i cs TY
 cases h
 obtain⟨vs,h1,h2⟩:=AX he (place:=fun j=>(fs.map fun f=>(f.offset,(lD P f.type).getD 0))[j]?) (ps:=parts.toList) (qs:=qs) (fun j p hj=>by
  obtain⟨off,n,y,f,e1,e2,e3,e4,e5⟩:=q2 j p hj
  exact⟨off,n,y,e1,by simp[e2,e3,e4],e5⟩) q1 c1 TY
 refine VB.pure s (v:=.agg vs) ?_ h2.agg
 have hm:(parts.map fun (j,y)=>(j,a.eval y)).toList=parts.toList.map fun p=>(p.1,a.eval p.2):=by simp
 simp only[execOp,ho,Instr.build,Sem.run_bind,iH hi tX,Result.andThen_ok,run_underlying ht,M5 fs xF,hm,h1,Sem.run_pure]

theorem ZB9 (s:Sim F L (b++l) w) (he:FB w F L e a) {t el:TypeId} {m n:Nat} {zs:List AV} {parts:Array (Nat×Operand)} {qs:List (Nat×Nat×Opd)} (ht:P.underlying t=some (.array m el)) (hn:lD P el=some n) (hz:aF P t=some zs)
  (hq:qN n parts.toList=some qs) (ho:o.op=.build t parts)
  (h:aop e b l (.build zs qs)=.val x b' l'):VB P o a w F L b l x b' l':=by
 obtain⟨i,z,hi,tX,wV⟩:=qE hz
 obtain⟨c1,c2⟩:=JF (w:=w) (F:=F) (L:=L) wV
 obtain⟨q1,q2⟩:=jO hq
 simp only[aop]at h
 split at h
 case h_2=>cases h
 rename_i cs TY
 cases h
 obtain⟨vs,h1,h2⟩:=AX he (place:=fun j=>some (j*n,n)) (ps:=parts.toList) (qs:=qs) (fun j p hj=>by
  obtain⟨y,e1,e2⟩:=q2 j p hj
  exact⟨_,_,y,e1,rfl,e2⟩) q1 c1 TY
 refine VB.pure s (v:=.agg vs) ?_ h2.agg
 have hm:(parts.map fun (j,y)=>(j,a.eval y)).toList=parts.toList.map fun p=>(p.1,a.eval p.2):=by simp
 simp only[execOp,ho,Instr.build,Sem.run_bind,iH hi tX,Result.andThen_ok,run_underlying ht,IA hn,hm,h1,Sem.run_pure]

theorem bK:∀{ps:List (Nat×Operand)} {qs:List (Nat×Opd)},MJ ps=some qs→qs.length=ps.length ∧
  ∀(i:Nat) (p:Nat×Operand),ps[i]? = some p→∃(z:Opd),qs[i]? = some (p.1,z)∧aA p.2=some z
 |[],qs,h=>by simp[MJ]at h;subst h;simp
 |(i,y)::ps,qs,h=>by
   unfold MJ at h
   split at h
   case h_2=>cases h
   rename_i z ys h1 h2
   cases h
   obtain⟨h5,h6⟩:=bK h2
   refine⟨by simp[h5],fun j p hj=>?_⟩
   cases j with
   |zero=>simp at hj;subst hj;exact⟨_,rfl,h1⟩
   |succ j=>simp at hj;simpa using h6 j p hj

def wN (w:World) (F:Nat→Prop) (L:LMap) (sz:Nat) (els:List (List AV)) (cur:Array Value):Prop:=
 (∀(k:Nat) (row:List AV),els[k]? = some row→row.length=sz) ∧
 ∀(k:Nat) (row:List AV) (j:Nat) (c:AV),els[k]? = some row→row[j]? = some c→c.cell=true∧∃u,cur[k*sz+j]? = some u∧RepA w F L c u

theorem fT (he:FB w F L e a) {sz:Nat}:∀{ps:List (Nat×Operand)} {qs:List (Nat×Opd)} {els out:List (List AV)} {cur:Array Value},
  (∀(i:Nat) (p:Nat×Operand),ps[i]? = some p→∃(z:Opd),qs[i]? = some (p.1,z)∧aA p.2=some z)→qs.length=ps.length →
  cur.size=els.length*sz→wN w F L sz els cur→RB e sz els qs=some out →
  ∃vs,Instr.fill (fun i=>some (i*sz,sz)) cur (ps.map fun p=>(p.1,a.eval p.2))=some vs∧vs.size=cur.size∧out.length=els.length∧wN w F L sz out vs
 |[],qs,els,out,cur,_,hl,hs,hr,hf=>by
   have:qs=[]:=cq (by simpa using hl)
   subst this
   simp[RB]at hf
   subst hf
   exact⟨cur,rfl,rfl,rfl,hr⟩
 |p::ps,[],els,out,cur,_,hl,hs,hr,hf=>by simp at hl
 |p::ps,q::qs,els,out,cur,hp,hl,hs,hr,hf=>by
   obtain⟨z,e1,e3⟩:=hp 0 p rfl
   simp at e1
   subst e1
   unfold RB at hf
   split at hf
   case h_2=>cases hf
   rename_i ds zP
   split at hf
   case isFalse=>cases hf
   rename_i hb
   obtain⟨xJ,vR,hb3⟩:=hb
   obtain⟨d1,d2⟩:=jM (fA he e3) zP hb3
   have NN:(a.eval p.2).cells.size=sz:=by have:=d1.1;simp at this;omega
   have ZMw:(a.eval p.2).cells.toList.length=sz:=by simpa using NN
   have sI:p.1*sz+sz≤cur.size:=by
    rw[hs];have:=KH (sz:=sz) (j:=0) (n:=sz) vR oM;omega
   have key:=fun i=>sN (a.eval p.2).cells.toList cur (p.1*sz) 0 i oM
   have GG:wN w F L sz (els.set p.1 ds) ((a.eval p.2).cells.zipIdx.foldl (fun cs (q:Value×Nat)=>cs.setIfInBounds (p.1*sz+q.2) q.1) cur):=by
    rw[MH]
    refine⟨fun k row hk=>?_,fun k row j c hk hj=>?_⟩
    ·by_cases UP:p.1=k
     ·subst UP
      rw[ay vR]at hk;cases hk;exact xJ
     ·rw[bl UP]at hk;exact hr.1 k row hk
    ·rw[(key _).2]
     simp only[eo,ZMw]
     by_cases UP:p.1=k
     ·subst UP
      rw[ay vR]at hk;cases hk
      have wG:j<sz:=by have:=(am.1 hj).1;omega
      rw[if_pos oM,cj]
      obtain⟨u,hu,hru⟩:=d1.get hj
      exact⟨bn.1 hb3 _ (ci hj),u,hu,hru⟩
     ·rw[bl UP]at hk
      have wG:j<sz:=by rw[←hr.1 k row hk];exact (am.1 hj).1
      rw[if_neg (by have:=ZAu (sz:=sz) (j:=0) (n:=sz) UP wG oM;omega)]
      exact hr.2 k row j c hk hj
   have ZLi:((a.eval p.2).cells.zipIdx.foldl (fun cs (q:Value×Nat)=>cs.setIfInBounds (p.1*sz+q.2) q.1) cur).size=cur.size:=by rw[MH];exact (key 0).1
   obtain⟨vs,h1,h2,h3,h4⟩:=fT he (ps:=ps) (qs:=qs) (fun i p' hi=>hp (i+1) p' (by simpa using hi)) (by simpa using hl) (by rw[ZLi];simpa using hs) GG hf
   refine⟨vs,?_,by rw[h2,ZLi],by simpa using h3,h4⟩
   simp only[bj,Instr.fill,NN]
   rw[if_neg (by simp;omega)]
   exact h1

theorem uO {sz n:Nat} {z:Value} {zs:List AV} (c1:GA w F L zs z.cells.toList) (c2:zs.all AV.cell=true) (hl:zs.length=sz) (m:Nat) (hm:n*sz≤m) :
  wN w F L sz (List.replicate n zs) (madeCells z.cells m):=by
 have hzs:z.cells.size=sz:=by have:=c1.1;simp at this;omega
 refine⟨fun k row hk=>?_,fun k row j c hk hj=>?_⟩
 ·rw[gr]at hk
  split at hk
  ·cases hk;exact hl
  ·cases hk
 ·rw[gr]at hk
  split at hk
  ·rename_i hkn
   cases hk
   have wG:j<sz:=by have:=(am.1 hj).1;omega
   obtain⟨u,hu,hru⟩:=c1.get hj
   refine⟨bn.1 c2 _ (ci hj),u,?_,hru⟩
   have yA:k*sz+j<m:=by have:=KH (sz:=sz) (j:=j) (n:=1) hkn oM;omega
   have ZMx:(k*sz+j) % sz=j:=by rw[Nat.mul_comm,Nat.mul_add_mod,Nat.mod_eq_of_lt wG]
   have hu':z.cells[j]? = some u:=by simpa using hu
   have hj2:j<z.cells.size:=by omega
   simp only[madeCells,Array.getElem?_map,Array.getElem?_range,yA,if_true,jt,hzs,ZMx]
   rw[getElem!_pos z.cells j hj2]
   rw[fy hj2]at hu'
   exact hu'
  ·cases hk

theorem ZBa (s:Sim F L (b++l) w) (he:FB w F L e a) {t el:TypeId} {n len:Nat} {zs:List AV} {parts:Array (Nat×Operand)} {qs:List (Nat×Opd)} (ht:P.underlying t=some (.slice el)) (hn:lD P el=some n) (hz:aF P el=some zs)
  (h0:0<n) (LJ:len*n≤16777216) (N9:zs.length=n) (hq:MJ parts.toList=some qs) (ho:o.op=.buildSlice t len parts)
  (h:aop e b l (.bslice n zs len qs)=.val x b' l'):VB P o a w F L b l x b' l':=by
 obtain⟨i,z,hi,tX,wV⟩:=qE hz
 obtain⟨c1,c2⟩:=JF (w:=w) (F:=F) (L:=L) wV
 obtain⟨q1,q2⟩:=bK hq
 simp only[aop]at h
 split at h
 case h_2=>cases h
 rename_i els xN
 obtain⟨vs,h1,h2,h3,h4⟩:=fT he (ps:=parts.toList) (qs:=qs) q2 q1 (cur:=madeCells z.cells (len*n)) (by simp[size_madeCells]) (uO c1 c2 N9 _ (ai _)) xN
 have IB:els.length=len:=by simpa using h3
 have hm:(parts.map fun (j,y)=>(j,a.eval y)).toList=parts.toList.map fun p=>(p.1,a.eval p.2):=by simp
 have hlm:len≤16777216:=by
  rcases ju len with h|h
  ·omega
  ·have:=Nat.le_mul_of_pos_right len h0;omega
 refine KY s (w':=w.alloc (.cells vs el)) (cur:=vs) (T:=el) (cap:=len) (v:=.slice (some ⟨w.heap.size,0,none⟩) len len) (.inl ?_) rfl rfl rfl rfl oM (by unfold maxLen;omega) (by rw[h2,size_madeCells];exact ai _) h4.1 h4.2 ?_ h
 ·have yA:¬(len*n>2 ^ 24):=by omega
  by_cases P9:len*n=0
  ·have hmc:madeCells z.cells (len*n)=#[]:=by rw[P9];simp[madeCells,Array.range_zero']
   rw[hmc]at h1
   have hmd:(Array.range (len*n)).map (((#[]:Array Value)[· % (#[]:Array Value).size]!))=#[]:=by rw[P9];simp[Array.range_zero']
   have hlt':¬(len*n>16777216):=by omega
   simp only[execOp,ho,Instr.buildSlice,Sem.run_bind,run_underlying ht,Result.andThen_ok,IA hn,Sem.run_ite,P9,if_true,Sem.run_pure,hm]
   rw[P9]at hmd
   simp only[hmd,h1,newRow,Sem.run_bind]
   simp
  ·simp only[execOp,ho,Instr.buildSlice,Sem.run_bind,run_underlying ht,Result.andThen_ok,IA hn,Sem.run_ite,yA,if_false,P9,Sem.run_pure,hm,iH hi tX]
   have h1':=h1
   unfold madeCells at h1'
   simp only[h1',newRow,Sem.run_bind]
   simp
 ·intro L' hL'
  have:=RepA.sl (w:=w.alloc (.cells vs el)) (F:=F) (b.length+l.length) 0 0 len _ _ _ _ hL' oM (by unfold maxLen;omega)
  simpa using this

theorem z6 (s:Sim F L (b++l) w) (he:FB w F L e a) {t el:TypeId} {sz bytes:Nat} {zs:List AV} (ht:P.underlying t=some (.slice el)) (hn:lD P el=some sz) (yO:CO P el=some bytes) (hz:aF P el=some zs) (N9:zs.length=sz)
  {y z:Operand} {y' z':Opd} (ho:o.op=.makeSlice t y z) (hy:aA y=some y') (hzz':aA z=some z')
  (h:aop e b l (.mkslice sz zs bytes y' z')=.val x b' l'):VB P o a w F L b l x b' l':=by
 obtain⟨i,zv,hi,tX,wV⟩:=qE hz
 obtain⟨c1,c2⟩:=JF (w:=w) (F:=F) (L:=L) wV
 have h1:=fA he hy
 have h2:=fA he hzz'
 simp only[aop]at h
 generalize ev e y'=q at *
 generalize ev e z'=r at *
 split at h
 case h_2=>cases h
 rename_i k n k' c
 split at h
 case isFalse=>cases h
 rename_i hb
 obtain⟨xJ,vR,hb3,hb4⟩:=hb
 have e1:=UI h1
 have e2:=UI h2
 have NN:i.size=sz:=by simp[lD,hi]at hn;exact hn
 have hbz:i.bytes=bytes:=by simp[CO,hi]at yO;exact yO
 have EM:c.toNat≤maxLen:=by unfold maxLen;unfold room at hb4;omega
 have hbb:(i.bytes:Int)*c≤281474976710656:=by
  unfold room at hb3
  have h0:c=(c.toNat:Int):=by omega
  rw[h0,hbz]
  have:((bytes*c.toNat:Nat):Int)≤281474976710656:=by rw[Nat.mul_comm];omega
  rwa [Int.natCast_mul]at this
 have VD:=run_make (P:=P) w t el i zv ht hi tX k k' n c xJ vR hbb (by unfold room at hb4;omega)
 have sI:n.toNat*sz≤c.toNat*sz:=cm _ oM
 rw[NN]at VD
 have qY:=uO (n:=n.toNat) c1 c2 N9 (c.toNat*sz) sI
 refine KY s (w':=w.alloc (.cells (madeCells zv.cells (c.toNat*sz)) el)) (cur:=madeCells zv.cells (c.toNat*sz)) (T:=el) (cap:=c.toNat) (v:=.slice (some ⟨w.heap.size,0,none⟩) n.toNat c.toNat) (.inl ?_) rfl rfl rfl rfl (by simp;omega) EM (by rw[size_madeCells];exact ai _) qY.1 qY.2 ?_ h
 ·simp[execOp,ho,e1,e2,VD]
 ·intro L' hL'
  have:=RepA.sl (w:=w.alloc (.cells (madeCells zv.cells (c.toNat*sz)) el)) (F:=F) (b.length+l.length) 0 0 n.toNat _ _ _ _ hL' oM EM
  simpa using this

theorem s9 {d:Nat} {t:TypeId} {k:FK} (hk:KJ P t=some k) {x y:AV} {v u:Value} (hx:RepA w F L x v) (hy:RepA w F L y u) {r:Bool} (h:eqF k x y=some r) :
  (Op.equalIn (d+1) t v u).run P w=.ok r w:=by
 unfold KJ at hk
 unfold eqF at h
 split at h
 ·split at h
  ·rename_i UP
   cases h
   subst UP
   rw[UI hx,UI hy]
   split at hk<;>cases hk
   rename_i hd
   exact run_equalIn_int w d t _ _ _ _ hd
  ·cases h
 ·cases h
  rw[dM hx,dM hy]
  split at hk<;>cases hk
  rename_i hd
  exact run_equalIn_bool w d t _ _ hd
 ·cases h
  rw[SQ hx,SQ hy]
  split at hk<;>cases hk
  rename_i hd
  rw[beq_toListBytes]
  exact run_equalIn_string w d t _ _ hd
 ·cases h

theorem PM {t:TypeId} {k:FK} (hk:KJ P t=some k):ZCq P t=some false:=by
 unfold KJ at hk
 unfold ZCq
 split at hk<;>first|(cases hk;done)|skip
 all_goals (rename_i hd;rw[hd])

theorem t9 {d:Nat}:∀{n:Nat} {fs:List Field} {ks:List FK} {xs ys:List AV} {vs us:Array Value} {r:Bool},SL P n fs=some ks →
  GA w F L xs (vs.toList.drop n)→GA w F L ys (us.toList.drop n)→eqC ks xs ys=some r→(Op.eqFields (d+1) vs us fs).run P w=.ok r w
 |n,[],ks,xs,ys,vs,us,r,hp,hx,hy,he=>by
   simp[SL]at hp
   subst hp
   cases xs<;>cases ys<;>simp[eqC]at he
   subst he
   simp[Op.eqFields]
 |n,f::fs,ks,xs,ys,vs,us,r,hp,hx,hy,he=>by
   unfold SL at hp
   split at hp
   case isFalse=>cases hp
   rename_i hb
   obtain⟨gR,qV⟩:=hb
   split at hp
   case h_2=>cases hp
   rename_i k ks' hk hks
   cases hp
   cases xs with
   |nil=>simp[eqC]at he
   |cons x xs0 =>
   cases ys with
   |nil=>simp[eqC]at he
   |cons y ys0 =>
   simp only[eqC]at he
   cases hq:eqF k x y with
   |none=>simp[hq,aG]at he
   |some r1 =>
     cases ET:eqC ks' xs0 ys0 with
     |none=>simp[hq,ET,aG]at he
     |some r2 =>
       simp[hq,ET,aG]at he
       obtain⟨v,hv,hrv⟩:=hx.get (j:=0) (a:=x) rfl
       obtain⟨u,hu,hru⟩:=hy.get (j:=0) (a:=y) rfl
       have hv':vs[n]? = some v:=by simpa using hv
       have hu':us[n]? = some u:=by simpa using hu
       have L4:=PM hk
       have hpv:(part f.type vs f.offset).run P w=.ok v w:=by simp[part,vF L4,gR,hv']
       have hpu:(part f.type us f.offset).run P w=.ok u w:=by simp[part,vF L4,gR,hu']
       have tail:∀{cs:List AV} {c:AV} {zs:Array Value},GA w F L (c::cs) (zs.toList.drop n)→GA w F L cs (zs.toList.drop (n+1)):=by
        intro cs c zs hz
        refine⟨by have:=hz.1;simp at this⊢;omega,fun i c' z' hc hz'=>?_⟩
        exact hz.2 (i+1) c' z' (by simpa using hc) (by
         rw[dp]at hz'⊢
         rw[show n+(i+1)=n+1+i by omega];exact hz')
       have ZKE:=s9 (P:=P) (d:=d) hk hrv hru hq
       have ih:=t9 (d:=d) hks (tail hx) (tail hy) ET
       simp only[Op.eqFields,qV,ne_eq,not_false_eq_true,if_true,Sem.run_bind,hpv,hpu,Result.andThen_ok,ZKE,Sem.run_ite,ih,Sem.run_pure]
       subst he
       cases r1<;>simp

theorem ZJ3 (s:Sim F L (b++l) w) (he:FB w F L e a) {op:BinOp} {t u:TypeId} {fs:Array Field} {ks:List FK} (ht:P.underlying t=some (.struct fs)) (hks:SL P 0 fs.toList=some ks)
  (ZF:P.stoodInHeld t=false) (hg:P.eqGuardType P.depth t=false) (hop:op=.eql∨op=.neq) {y z:Operand} {y' z':Opd} (ho:o.op=.binOp op t y z u) (hy:aA y=some y') (hz:aA z=some z')
  (h:aop e b l (.eqs (op==.neq) ks y' z')=.val x b' l'):VB P o a w F L b l x b' l':=by
 have h1:=fA he hy
 have h2:=fA he hz
 simp only[aop]at h
 generalize ev e y'=q at *
 generalize ev e z'=r at *
 split at h
 case h_2=>cases h
 rename_i xs ys
 split at h
 case h_2=>cases h
 rename_i r hr
 cases h
 obtain⟨vs,e1,l1⟩:=h1.aggL
 obtain⟨us,e2,l2⟩:=h2.aggL
 have hf:P.fieldsOf t=fs:=by simp[Program.fieldsOf,ht]
 have VD:=t9 (P:=P) (d:=9998) hks (vs:=vs) (us:=us) (by simpa using l1) (by simpa using l2) hr
 have DY:=run_equalIn_struct w 9999 t vs us (by rw[hf];exact ht) ZF
 rw[hf,VD]at DY
 rcases hop with rfl|rfl
 ·refine VB.pure s (v:=.bool r) ?_ (tW _)
  simp[execOp,ho,e1,e2,run_eqGuard_agg w _ t _ _ _ _ hg,run_eql_struct,DY]
 ·refine VB.pure s (v:=.bool (!r)) ?_ (tW _)
  simp[execOp,ho,e1,e2,run_eqGuard_agg w _ t _ _ _ _ hg,run_neq_struct,DY]
end

section
variable {P:Program} {w:World} {F:Nat→Prop} {L:LMap} {o:Oper} {a:Act} {e:List AV} {b l b' l':List Row} {x:AV}

theorem TJ {xs:List (List AV)} {sz blk p:Nat} (hz:0<sz) (h1:∀(k:Nat) (row:List AV),xs[k]? = some row→row.length=sz)
  (h2:∀(k:Nat) (row:List AV) (j:Nat) (c:AV),xs[k]? = some row→row[j]? = some c→c.cell=true∧∃u,w.cell? ⟨blk,p+k*sz+j,none⟩=some u∧RepA w F L c u) :
  ∃news:Array Value,news.size=xs.length*sz∧wN w F L sz xs news∧(∀u∈news.toList,u.oneCell'=true)∧∀j u,news[j]? = some u→w.cell? ⟨blk,p+j,none⟩=some u:=by
 have hq:∀q,q<xs.length*sz→∃c u,w.cell? ⟨blk,p+q,none⟩=some u∧RepA w F L c u∧c.cell=true:=by
  intro q hq
  have hk:q / sz<xs.length:=by rw[Nat.div_lt_iff_lt_mul hz];exact hq
  have JD:=ah hk
  have IB:=h1 _ _ JD
  have hj:q % sz<xs[q / sz].length:=by rw[IB];exact Nat.mod_lt _ hz
  obtain⟨c1,u,hu,hr⟩:=h2 _ _ _ _ JD (ah hj)
  have hqe:q / sz*sz+q % sz=q:=Nat.div_add_mod' q sz
  exact⟨_,u,by rw[←hqe,←cw];exact hu,hr,c1⟩
 refine⟨(Array.range (xs.length*sz)).map fun q=>(w.cell? ⟨blk,p+q,none⟩).getD undef,by simp,⟨h1,fun k row j c hk hj=>?_⟩,fun u hu=>?_,fun j u hju=>?_⟩
 ·obtain⟨c1,u,hu,hr⟩:=h2 k row j c hk hj
  have OK:k<xs.length:=(am.1 hk).1
  have wG:j<sz:=by rw[←h1 k row hk];exact (am.1 hj).1
  have yA:k*sz+j<xs.length*sz:=by have:=KH (sz:=sz) (j:=j) (n:=1) OK oM;omega
  refine⟨c1,u,?_,hr⟩
  rw[cw]at hu
  simp[yA,hu]
 ·simp at hu
  obtain⟨q,hql,rfl⟩:=hu
  obtain⟨c,u,h3,h4,h5⟩:=hq q hql
  rw[h3]
  exact h4.one h5
 ·simp at hju
  obtain⟨wG,rfl⟩:j<xs.length*sz∧(w.cell? ⟨blk,p+j,none⟩).getD undef=u:=by
   rw[Array.getElem?_range]at hju
   split at hju
   ·rename_i yA;exact⟨yA,by simpa using hju⟩
   ·simp at hju
  obtain⟨c,u,h3,h4,h5⟩:=hq j wG
  rw[h3];rfl

theorem eA {sz n:Nat} {blk p len cap:Nat} {news:Array Value} (h:∀j u,news[j]? = some u→w.cell? ⟨blk,p+j,none⟩=some u) (hn:n*sz≤news.size) {w2:World} (hw:w2.heap=w.heap) :
  (Builtin.firstCells sz n (.slice (some ⟨blk,p,none⟩) len cap)).run P w2=.ok (news.extract 0 (n*sz)) w2:=by
 have:=run_loadCells_list (P:=P) w2 ⟨blk,p,none⟩ (news.extract 0 (n*sz)).toList (fun j u hu=>by
  rw[Addr.add_lit]
  have hc:w2.cell? ⟨blk,p+j,none⟩=w.cell? ⟨blk,p+j,none⟩:=World.cell?_of_block (by rw[hw])
  rw[hc]
  refine h j u ?_
  simp only[gi,kw,fg,gu,de]at hu
  split at hu
  ·simpa using hu
  ·cases hu)
 have hl:(news.extract 0 (n*sz)).toList.length=n*sz:=by simp;omega
 rw[hl,ir]at this
 exact this

theorem lO (s:Sim F L (b++l) w) {sz:Nat} (hz:0<sz) {q:AV} {v:Value} {xs:List (List AV)} (h:IE b l sz q=some xs) (hr:RepA w F L q v) :
  (∀w2,(Builtin.lenOf v).run P w2=.ok xs.length w2)∧∃news:Array Value,news.size=xs.length*sz∧wN w F L sz xs news∧(∀u∈news.toList,u.oneCell'=true) ∧
   ∀n w2,n≤xs.length→w2.heap=w.heap→(Builtin.firstCells sz n v).run P w2=.ok (news.extract 0 (n*sz)) w2:=by
 have empty:∀(ad:Option Addr) (c:Nat),v=.slice ad 0 c→xs=[]→(∀w2,(Builtin.lenOf v).run P w2=.ok xs.length w2)∧∃news:Array Value,news.size=xs.length*sz∧wN w F L sz xs news∧(∀u∈news.toList,u.oneCell'=true) ∧
   ∀n w2,n≤xs.length→w2.heap=w.heap→(Builtin.firstCells sz n v).run P w2=.ok (news.extract 0 (n*sz)) w2:=by
  intro ad c hv hx
  subst hv;subst hx
  refine⟨fun w2=>by simp[Builtin.lenOf],#[],by simp,⟨by simp,by simp⟩,by simp,fun n w2 hn _=>?_⟩
  have:n=0:=by simpa using hn
  subst this
  cases ad<;>simp[Builtin.firstCells,loadCells,loadCellsFrom]
 unfold IE at h
 split at h
 ·cases h
  cases hr.vI
  exact empty _ _ rfl rfl
 ·rename_i s0 rows
  split at h
  case isFalse=>cases h
  rename_i hs
  subst hs
  cases h
  cases hr.vI with
  |isl0 _ ad c=>exact empty _ _ rfl rfl
  |isl _ b1 off _ c val h1 h2 h3 h4 h5 h6 =>
    obtain⟨news,n1,n2,n3,n4⟩:=TJ (w:=w) (F:=F) (L:=L) (xs:=rows.map (·.map .v)) (blk:=b1) (p:=off) hz (fun k row hk=>by
     rw[an]at hk
     cases hq:rows[k]? with
     |none=>simp[hq]at hk
     |some r0=>simp[hq]at hk;subst hk;simpa using h4 k r0 hq) (fun k row j c hk hj=>by
     rw[an]at hk
     cases hq:rows[k]? with
     |none=>simp[hq]at hk
     |some r0 =>
       simp[hq]at hk
       subst hk
       rw[an]at hj
       cases ET:r0[j]? with
       |none=>simp[ET]at hj
       |some y =>
         simp[ET]at hj
         subst hj
         exact⟨rfl,_,h5 k r0 j y hq ET,.v _ _ (h6 k r0 j y hq ET)⟩)
    refine⟨fun w2=>by simp[Builtin.lenOf],news,n1,n2,n3,fun n w2 hn hw=>eA n4 (by rw[n1];exact cm _ hn) hw⟩
 ·rename_i id ver off len
  split at h
  case h_2=>cases h
  rename_i v0 s0 els hg
  split at h
  case isFalse=>cases h
  rename_i hs
  obtain⟨rfl,rfl,LJ⟩:=hs
  cases h
  rw[OC]at hg
  cases hr with
  |sl _ _ _ _ b1 o1 z1 c1 hL h1 h2 =>
    obtain⟨lc,k1,k2⟩:=s.row _ _ _ _ hg
    rw[hL]at k1;cases k1
    obtain⟨rfl,k3,k4,cur,T,k5,k6,k7,k8⟩:=k2
    have XJ:∀(k:Nat) (row:List AV),((els.drop off).take len)[k]? = some row→els[off+k]? = some row:=by
     intro k row hk
     rw[de]at hk
     split at hk
     ·rwa [dp]at hk
     ·cases hk
    obtain⟨news,n1,n2,n3,n4⟩:=TJ (w:=w) (F:=F) (L:=L) (xs:=(els.drop off).take len) (blk:=b1) (p:=o1+off*z1) hz (fun k row hk=>k7 _ _ (XJ k row hk)) (fun k row j c hk hj=>by
     obtain⟨c1,u,hu,hru⟩:=k8 _ _ j c (XJ k row hk) hj
     refine⟨c1,u,?_,hru⟩
     rw[bx]at hu
     simp[World.cell?,k5,←cw]at hu⊢
     exact hu)
    have IB:((els.drop off).take len).length=len:=by simp;omega
    refine⟨fun w2=>by rw[IB];simp[Builtin.lenOf],news,n1,n2,n3,fun n w2 hn hw=>eA n4 (by rw[n1];exact cm _ hn) hw⟩
  |slz _ _ _ b1 o1 z1 c1 x1 hL gR=>exact empty _ _ rfl kS
  |sln _ _ ad hL=>exact empty _ _ rfl kS
 ·rename_i str
  split at h
  case isFalse=>cases h
  rename_i hs
  subst hs
  cases h
  have hv:=SQ hr
  subst hv
  have NN:str.data.size=str.size:=rfl
  refine⟨fun w2=>by simp[Builtin.lenOf,NN],str.data.map fun c=>.int .u8 c.toNat,by simp,⟨fun k row hk=>?_,fun k row j c hk hj=>?_⟩,fun u hu=>?_,fun n w2 hn hw=>?_⟩
  ·rw[an]at hk
   cases hq:str.data.toList[k]? with
   |none=>simp[hq]at hk
   |some c=>simp[hq]at hk;subst hk;rfl
  ·rw[an]at hk
   cases hq:str.data.toList[k]? with
   |none=>simp[hq]at hk
   |some ch =>
     simp[hq]at hk
     subst hk
     cases j with
     |succ j=>simp at hj
     |zero =>
       simp at hj
       subst hj
       refine⟨rfl,.int .u8 ch.toNat,?_,toN _ _⟩
       have:str.data[k]? = some ch:=by simpa using hq
       simp[this]
  ·simp at hu
   obtain⟨c,_,rfl⟩:=hu
   rfl
  ·simp[Builtin.firstCells]
 ·cases h

theorem yZ {xs:List (List AV)} {ns:List Int} (h:QR xs=some ns) {news:Array Value} (hs:news.size=xs.length*1) (hr:wN w F L 1 xs news):news=(ns.map (Value.int .u8)).toArray:=by
 have key:∀(xs:List (List AV)) (ns:List Int),QR xs=some ns→xs.length=ns.length∧∀(k:Nat) (n:Int),ns[k]? = some n→xs[k]? = some [.v (.int .u8 n)]:=by
  intro xs
  induction xs with
  |nil=>intro ns h;cases h;exact⟨rfl,by simp⟩
  |cons x xs ih =>
    intro ns h
    unfold QR at h
    split at h
    ·rename_i h0;cases h0
    ·rename_i n rs h0
     cases h0
     obtain⟨ms,h1,h2⟩:=kx.1 h
     subst h2
     obtain⟨i1,i2⟩:=ih ms h1
     refine⟨by simp[i1],fun k m hk=>?_⟩
     cases k with
     |zero=>simp at hk⊢;exact hk
     |succ k=>simp at hk⊢;exact i2 k m hk
    ·cases h
 obtain⟨k1,k2⟩:=key xs ns h
 apply Array.ext_getElem?
 intro j
 by_cases hj:j<ns.length
 ·have hn:=k2 j ns[j] (ah hj)
  obtain⟨_,u,g1,g2⟩:=hr.2 j _ 0 _ hn rfl
  rw[UI g2]at g1
  simp only[it,eo]at g1
  rw[g1]
  simp[hj]
 ·rw[ky oM,ky (by simp;omega)]
theorem ZDn (s:Sim F L (b++l) w) (he:FB w F L e a) {t u el:TypeId} (ht:P.underlying t=some (.slice el)) (XJ:P.underlying el=some (.int .u8)) (hu:P.underlying u=some .string) {y:Operand} {z:Opd} (ho:o.op=.convert t u y) (hy:aA y=some z)
  (h:aop e b l (.tostr z)=.val x b' l'):VB P o a w F L b l x b' l':=by
 have hr:=fA he hy
 simp only[aop]at h
 generalize ev e z=q at *
 generalize hv:a.eval y=v at hr
 unfold SD at h
 split at h
 ·cases h
 rename_i hns
 split at h
 case h_2=>cases h
 rename_i xs R8
 split at h
 case h_2=>cases h
 rename_i ns j0
 cases h
 obtain⟨h1,news,n1,n2,_,n4⟩:=lO s (P:=P) (sz:=1) kE R8 hr
 obtain⟨ad,len,cap,rfl⟩:∃ad len cap,v=.slice ad len cap:=by
  unfold IE at R8
  split at R8
  ·cases hr.vI;exact⟨_,_,_,rfl⟩
  ·split at R8
   ·cases hr.vI<;>exact⟨_,_,_,rfl⟩
   ·cases R8
  ·cases hr<;>exact⟨_,_,_,rfl⟩
  ·exact absurd rfl (hns _)
  ·cases R8
 have IB:len=xs.length:=by
  have:=h1 w
  simp[Builtin.lenOf]at this
  exact this
 have hnw:=yZ j0 n1 n2
 have hf:=n4 len w oM rfl
 have NN:news.size=len:=by omega
 have xF:news.extract 0 (len*1)=news:=by
  apply Array.ext_getElem?
  intro j
  rw[eu]
  by_cases hj:j<news.size
  ·rw[if_pos oM,cn]
  ·rw[if_neg oM,ky oM]
 rw[xF,hnw]at hf
 refine VB.pure s (v:=.string (VY ns)) ?_ (toS _)
 have hc:(convert t u (.slice ad len cap)).run P w=.ok (.string (VY ns)) w:=by
  rw[run_convert_bytes_string w t u el ad len cap ht XJ hu]
  cases ad with
  |none =>
    have h0:(ns.map (Value.int .u8)).toArray=#[]:=by
     simp[Builtin.firstCells]at hf
     simp[hf]
    have:ns=[]:=by simpa using h0
    subst this
    simp[Conv.bytesToString,VY]
    rfl
  |some ad =>
    have hl:(loadCells ad len).run P w=.ok (ns.map (Value.int .u8)).toArray w:=by
     simpa [Builtin.firstCells] using hf
    rw[run_bytesToString w ad len cap ns hl]
    have key:∀(ns:List Int) (s:ByteArray),ns.foldl (fun r n=>r.push (UInt8.ofNat n.toNat)) s=⟨s.data++(ns.map fun n=>UInt8.ofNat n.toNat).toArray⟩:=by
     intro ns
     induction ns with
     |nil=>intro s;simp
     |cons n ns ih=>intro s;rw[ku,ih];simp[ByteArray.push]
    rw[key]
    simp[VY,ByteArray.empty,ByteArray.emptyWithCapacity]
    try rfl
 simp[execOp,ho,hv,hc]

theorem notInt_or {d:TypeDesc} (h:EN (some d)=true):(∃el,d=.slice el)∨d=.string:=by
 cases d<;>first|(cases h;done)|exact .inl ⟨_,rfl⟩|exact .inr rfl

theorem zG {t u el ty:TypeId} {du:TypeDesc} {sz:Nat} (ht:P.underlying t=some (.slice el)) (hu:P.underlying u=some du) (hd:EN (some du)=true) (hs:lD P el=some sz)
  {blk p len cap m:Nat} {vx:Value} {news cur:Array Value} {T:TypeId} (hl:(Builtin.lenOf vx).run P w=.ok m w) (hf:(Builtin.firstCells sz m vx).run P w=.ok news w) (hn:news.size=m*sz)
  (zC:len+m≤cap) (M4:w.heap[blk]? = some (.cells cur T (0,0))) (sI:p+len*sz+m*sz≤cur.size) (h1:∀u∈news.toList,u.oneCell'=true) :
  (Builtin.append_ #[t,u] ty #[.slice (some ⟨blk,p,none⟩) len cap,vx]).run P w=.ok (.slice (some ⟨blk,p,none⟩) (len+m) cap) (w.setRow blk (cur.toList.take (p+len*sz)++news.toList++cur.toList.drop (p+len*sz+news.toList.length)).toArray):=by
 have ZF:=run_storeCells_at P blk (p+len*sz) T news.toList 0 cur w M4 (by simp;omega) h1
 simp only[eo]at ZF
 rcases notInt_or hd with ⟨el',rfl⟩|rfl<;>simp[Builtin.append_,run_underlying ht,run_underlying hu,IA hs,hl,zC,hf,Addr.add_lit,ZF]

theorem DG {t u el ty:TypeId} {du:TypeDesc} {sz bytes:Nat} {i:TypeInfo} {z:Value} (ht:P.underlying t=some (.slice el)) (hu:P.underlying u=some du) (hd:EN (some du)=true) (hs:lD P el=some sz)
  (hi:P.info? el=some i) (hz:i.zero=some z) (yO:i.bytes=bytes)
  {base:Option Addr} {len cap m:Nat} {vx:Value} {olds news:Array Value} (hl:(Builtin.lenOf vx).run P w=.ok m w)
  (hf:(Builtin.firstCells sz m vx).run P w.drew=.ok news w.drew) (ho:(Builtin.firstCells sz len (.slice base len cap)).run P w.drew=.ok olds w.drew)
  (zC:cap<len+m) (TL:(len+m)*bytes≤140737488355328) (hm:len+m≤140737488355328) (h0:0<bytes) :
  (Builtin.append_ #[t,u] ty #[.slice base len cap,vx]).run P w=.ok (.slice (some ⟨w.heap.size,0,none⟩) (len+m) (grownCap w (len+m) cap el))
    (w.drew.alloc (.cells (olds++news++Builtin.zeroCells z.cells (grownCap w (len+m) cap el-(len+m))) el)):=by
 have hn:¬(len+m≤cap):=by omega
 have h63:¬(9223372036854775807<((len:Int)+(m:Int))):=by omega
 have ZLH:=growslice_fits (need:=len+m) (old:=cap) (bytes:=bytes) zC TL
 have h48:¬(281474976710656<Builtin.nextslicecap (len+m) cap*i.bytes):=by rw[yO];omega
 rcases notInt_or hd with ⟨el',rfl⟩|rfl<;>simp[Builtin.append_,run_underlying ht,run_underlying hu,IA hs,typeInfo,zeroValue,hi,hz,hl,hn,h63,h48,Question.forced,ho,hf,newRow,grownCap]
end

section
variable {P:Program} {w:World} {F:Nat→Prop} {L:LMap} {o:Oper} {a:Act} {e:List AV} {b l b' l':List Row} {x:AV}

theorem wN.append {sz:Nat} {xs ys:List (List AV)} {us vs zs:Array Value} (h:wN w F L sz xs us) (k:wN w F L sz ys vs) (hu:us.size=xs.length*sz) (hv:vs.size=ys.length*sz):wN w F L sz (xs++ys) (us++vs++zs):=by
 refine⟨fun i row hi=>?_,fun i row j c hi hj=>?_⟩
 ·by_cases yA:i<xs.length
  ·rw[aw yA]at hi;exact h.1 i row hi
  ·rw[aq oM]at hi;exact k.1 _ row hi
 ·by_cases yA:i<xs.length
  ·rw[aw yA]at hi
   obtain⟨h1,u,h2,h3⟩:=h.2 i row j c hi hj
   have:i*sz+j<us.size:=(bw.1 h2).1
   exact⟨h1,u,by rw[Array.append_assoc,ck this];exact h2,h3⟩
  ·rw[aq oM]at hi
   obtain⟨h1,u,h2,h3⟩:=k.2 _ row j c hi hj
   have h4:(i-xs.length)*sz+j<vs.size:=(bw.1 h2).1
   have h5:i*sz=xs.length*sz+(i-xs.length)*sz:=by rw[←bx];congr 1;omega
   refine⟨h1,u,?_,h3⟩
   rw[ck (by simp;omega),ei oM]
   rw[show i*sz+j-us.size=(i-xs.length)*sz+j by omega]
   exact h2

theorem TH {t u el ty:TypeId} {du:TypeDesc} {sz:Nat} (ht:P.underlying t=some (.slice el)) (hu:P.underlying u=some du) (hd:EN (some du)=true) (hs:lD P el=some sz)
  {base:Option Addr} {len cap:Nat} {vx:Value} (hl:(Builtin.lenOf vx).run P w=.ok 0 w) (hf:(Builtin.firstCells sz 0 vx).run P w=.ok #[] w) (LJ:len≤cap) :
  (Builtin.append_ #[t,u] ty #[.slice base len cap,vx]).run P w=.ok (.slice base len cap) w:=by
 rcases notInt_or hd with ⟨el',rfl⟩|rfl<;>cases base<;>simp[Builtin.append_,run_underlying ht,run_underlying hu,IA hs,hl,hf,LJ,storeCells]

theorem Sim.bumpNil {h:List Row} (s:Sim F L h w) {id ver sz:Nat} {els:List (List AV)} (hr:h[id]? = some (.live ver sz els)) (hL:L id ver=some .nil) :
  ∃L':LMap,Sim F L' (h.set id (.live (ver+1) sz [])) w∧Step h.length F L h w F L' (h.set id (.live (ver+1) sz [])) w∧L' id (ver+1)=some .nil∧∀i v l,L i v=some l→L' i v=some l:=by
 have hid:id<h.length:=(am.1 hr).1
 have XO:L id (ver+1)=none:=by
  cases hq:L id (ver+1) with
  |none=>rfl
  |some q =>
    obtain⟨r,h1,h2⟩:=s.born _ _ _ hq
    rw[hr]at h1;cases h1
    simp[Row.ver]at h2
    omega
 obtain⟨L',FT,yY,eU⟩:∃L':LMap,L' id (ver+1)=some .nil∧(∀i v l,L i v=some l→L' i v=some l)∧∀i v,(i≠id∨v≠ver+1)→L' i v=L i v:=by
  refine⟨fun i v=>if i=id∧v=ver+1 then some .nil else L i v,by simp,?_,?_⟩
  ·intro i v q hl
   by_cases hi:i=id∧v=ver+1
   ·obtain⟨rfl,rfl⟩:=hi
    rw[XO]at hl;cases hl
   ·simp[hi,hl]
  ·intro i v hi
   have:¬(i=id∧v=ver+1):=fun ⟨a,b⟩=>hi.elim (fun h=>h a) (fun h=>h b)
   simp[this]
 have mono:∀{x:AV} {v:Value},RepA w F L x v→RepA w F L' x v:=fun hx=>hx.mono (fun _ h=>h) (fun _ _=>rfl) yY
 have own:∀k,DC L' (h.set id (.live (ver+1) sz [])) k→DC L h k:=by
  rintro k ⟨i,v,z,e1,q1,h1,h2,h3⟩
  by_cases hi:i=id
  ·subst hi
   rw[ay hid]at h1;cases h1
   rw[FT]at h2;cases h2
   exact h3.elim
  ·rw[bl (Ne.symm hi)]at h1
   rw[eU i v (.inl hi)]at h2
   exact⟨i,v,z,e1,q1,h1,h2,h3⟩
 refine⟨L',⟨?_,?_,?_,fun k hk=>⟨(s.imm k hk).1,fun ho=>(s.imm k hk).2 (own k ho)⟩,s.glob⟩,⟨fun _ h=>h,fun i v l _ hl=>yY i v l hl,rfl,rfl,rfl,ai _,fun _ _ _=>rfl,fun k _ ho=>own k ho,?_,fun _ _ h=>.inl h⟩,FT,yY⟩
 ·intro j v z e1 hj
  by_cases YG:j=id
  ·subst YG
   rw[ay hid]at hj
   cases hj
   exact⟨.nil,FT,rfl⟩
  ·rw[bl (Ne.symm YG)]at hj
   obtain⟨l,bO,cU⟩:=s.row j v z e1 hj
   exact⟨l,yY _ _ _ bO,cU.mono (fun _ _=>rfl) (fun _ _=>mono)⟩
 ·intro i v l bO
  by_cases hi:i=id
  ·subst hi
   refine⟨_,ay hid,?_⟩
   by_cases hv:v=ver+1
   ·subst hv;exact ai _
   ·rw[eU i v (.inr hv)]at bO
    obtain⟨r,h1,h2⟩:=s.born _ _ _ bO
    rw[hr]at h1;cases h1
    exact dq h2 (iu _)
  ·rw[eU i v (.inl hi)]at bO
   obtain⟨r,h1,h2⟩:=s.born _ _ _ bO
   exact⟨r,by rw[bl (Ne.symm hi)];exact h1,h2⟩
 ·intro i i' v v' z z' e1 e2 b q1 q2 h1 h2 h3 h4 h5 h6
  by_cases hi:i=id
  ·subst hi
   rw[ay hid]at h1;cases h1
   rw[FT]at h3;cases h3
   exact h5.elim
  ·by_cases hi':i'=id
   ·subst hi'
    rw[ay hid]at h2;cases h2
    rw[FT]at h4;cases h4
    exact h6.elim
   ·rw[bl (Ne.symm hi)]at h1
    rw[bl (Ne.symm hi')]at h2
    rw[eU i v (.inl hi)]at h3
    rw[eU i' v' (.inl hi')]at h4
    exact s.apart i i' v v' z z' e1 e2 b q1 q2 h1 h2 h3 h4 h5 h6
 ·intro i hi v hv
  by_cases hii:i=id
  ·subst hii;rw[hr]at hv;cases hv
  ·rw[bl (Ne.symm hii)];exact hv

theorem GN {h:List Row} (s:Sim F L h w) {id ver sz:Nat} {els:List (List AV)} (hr:h[id]? = some (.live ver sz els)):L id (ver+1)=none:=by
 cases hq:L id (ver+1) with
 |none=>rfl
 |some q =>
   obtain⟨r,h1,h2⟩:=s.born _ _ _ hq
   rw[hr]at h1;cases h1
   simp[Row.ver]at h2
   omega

theorem ZBb (s:Sim F L (b++l) w) (he:FB w F L e a) {c:Call} {t u el:TypeId} {sz bytes:Nat} {zs:List AV} (ht:P.underlying t=some (.slice el)) (hu:EN (P.underlying u)=true)
  (hs:lD P el=some sz) (yO:CO P el=some bytes) (hz:aF P el=some zs) (N9:zs.length=sz) (h0:0<sz) (hb0:0<bytes)
  {y z:Operand} {y' z':Opd} (hc:c.callee=.builtin .append) (ha:c.args.toList=[y,z]) (sX:c.argTypes.toList=[t,u]) (ho:o.op=.call c) (hy:aA y=some y') (hz':aA z=some z')
  (h:aop e b l (.append sz bytes y' z')=.val x b' l'):VB P o a w F L b l x b' l':=by
 obtain⟨i,zv,hi,tX,wV⟩:=qE hz
 obtain⟨c1,c2⟩:=JF (w:=w) (F:=F) (L:=L) wV
 have hzv:zv.cells.size=sz:=by have:=c1.1;simp at this;omega
 have hbz:i.bytes=bytes:=by simp[CO,hi]at yO;exact yO
 obtain⟨du,hdu,hd⟩:∃du,P.underlying u=some du∧EN (some du)=true:=by
  cases hq:P.underlying u with
  |none=>rw[hq]at hu;cases hu
  |some du=>rw[hq]at hu;exact⟨du,rfl,hu⟩
 have h1:=fA he hy
 have h2:=fA he hz'
 simp only[aop]at h
 generalize ev e y'=q at *
 generalize ev e z'=r at *
 have gM:∀v w',(Builtin.append_ #[t,u] o.type #[a.eval y,a.eval z]).run P w=.ok v w'→(execOp a.eval o).run P w=.ok (.value v) w':=by
  intro v w' hr
  rw[CD ho hc ha sX]
  simp[invoke,builtin,hr]
 unfold LC at h
 split at h
 case h_1=>cases h
 rename_i xs R8
 obtain⟨IB,news,n1,n2,n3,n4⟩:=lO (P:=P) s h0 R8 h2
 have ZFe:xs.length=0→(Builtin.firstCells sz 0 (a.eval z)).run P w=.ok #[] w:=by
  intro hx
  have:=n4 0 w (aj _) rfl
  simpa using this
 have ZLI:news.extract 0 (xs.length*sz)=news:=by rw[←n1];simp
 have hf:∀w2,w2.heap=w.heap→(Builtin.firstCells sz xs.length (a.eval z)).run P w2=.ok news w2:=by
  intro w2 hw
  have:=n4 xs.length w2 (ai _) hw
  rwa [ZLI]at this
 split at h
 ·split at h
  ·rename_i hx0
   cases h
   obtain⟨ad,hv⟩:∃ad,a.eval y=.slice ad 0 0:=by
    generalize a.eval y=v at h1
    cases h1.vI;exact⟨_,rfl⟩
   refine VB.pure s (v:=a.eval y) (gM _ _ ?_) h1
   rw[hv]
   have hl0:=IB w
   rw[hx0]at hl0
   exact TH ht hdu hd hs hl0 (ZFe (by rw[hx0];rfl)) (ai _)
  ·rename_i hx0
   split at h
   case isFalse=>cases h
   rename_i hb
   unfold room at hb
   obtain⟨ad,hv⟩:∃ad,a.eval y=.slice ad 0 0:=by
    generalize a.eval y=v at h1
    cases h1.vI;exact⟨_,rfl⟩
   have qT:0<xs.length:=by cases xs with
    |nil=>exact absurd rfl hx0
    |cons _ _=>simp
   have JH:(Builtin.firstCells sz 0 (.slice ad 0 0)).run P w.drew=.ok #[] w.drew:=by
    cases ad<;>simp[Builtin.firstCells,loadCells,loadCellsFrom]
   have VD:=DG (P:=P) (w:=w) (ty:=o.type) ht hdu hd hs hi tX hbz (base:=ad) (len:=0) (cap:=0) (IB w) (hf _ rfl) JH oM (by simpa using hb.1) (by simpa using hb.2) hb0
   rw[←hv]at VD
   simp only[cn,Array.empty_append]at VD
   have yH:=grownCap_ge w xs.length 0 el
   have EM:grownCap w xs.length 0 el≤maxLen:=grownCap_le_maxLen w _ 0 el (by unfold maxLen;omega)
   refine KY s (w':=w.drew.alloc (.cells (news++Builtin.zeroCells zv.cells (grownCap w xs.length 0 el-xs.length)) el)) (cur:=news++Builtin.zeroCells zv.cells (grownCap w xs.length 0 el-xs.length)) (T:=el) (cap:=grownCap w xs.length 0 el)
    (v:=.slice (some ⟨w.heap.size,0,none⟩) xs.length (grownCap w xs.length 0 el)) (.inl (gM _ _ VD)) rfl rfl rfl rfl yH EM ?_ n2.1 ?_ ?_ h
   ·rw[cf,size_zeroCells,n1,hzv,←bx]
    exact cm _ oM
   ·intro k row j cc hk hj
    obtain⟨g1,v,g2,g3⟩:=n2.2 k row j cc hk hj
    exact⟨g1,v,by rw[ck (bw.1 g2).1];exact g2,g3⟩
   ·intro L' hL'
    have:=RepA.sl (w:=w.drew.alloc (.cells (news++Builtin.zeroCells zv.cells (grownCap w xs.length 0 el-xs.length)) el)) (F:=F) (b.length+l.length) 0 0 xs.length _ _ _ _ hL' oM EM
    simpa using this
 ·rename_i id ver off len
  split at h
  case h_2=>cases h
  rename_i v0 s0 els hg
  split at h
  case isFalse=>cases h
  rename_i hb
  obtain⟨rfl,rfl,LJ,TL,zC⟩:=hb
  unfold room at TL zC
  cases h
  have hg':(b++l)[id]? = some (.live v0 s0 els):=by rw[←OC];exact hg
  have hid:id<(b++l).length:=(am.1 hg').1
  have Y5:=GN s hg'
  have XJ:IE b l s0 (.sl id v0 off len)=some ((els.drop off).take len):=by simp[IE,hg,LJ]
  obtain⟨klen,olds,m1,m2,m3,m4⟩:=lO (P:=P) s h0 XJ h1
  have jY:((els.drop off).take len).length=len:=by simp;omega
  rw[jY]at m1 m4 klen
  have holds:olds.extract 0 (len*s0)=olds:=by rw[←m1];simp
  have grow:∀base cap,a.eval y=.slice base len cap→cap<len+xs.length→VB P o a w F L b l (.sl id (v0+1) 0 (len+xs.length)) (iE b id (.live (v0+1) s0 ((els.drop off).take len++xs))) (GE b l id (.live (v0+1) s0 ((els.drop off).take len++xs))):=by
   intro base cap hv yA
   have ho2:=m4 len w.drew (ai _) rfl
   rw[hv,holds]at ho2
   have VD:=DG (P:=P) (w:=w) (ty:=o.type) ht hdu hd hs hi tX hbz (IB w) (hf _ rfl) ho2 yA TL zC hb0
   rw[←hv]at VD
   have yH:=grownCap_ge w (len+xs.length) cap el
   have EM:grownCap w (len+xs.length) cap el≤maxLen:=grownCap_le_maxLen w _ cap el (by unfold maxLen;omega)
   obtain⟨L',r1,r2,r3,r4⟩:=s.putRow (h':=(b++l).set id (.live (v0+1) s0 ((els.drop off).take len++xs))) (w':=w.drew.alloc (.cells (olds++news++Builtin.zeroCells zv.cells (grownCap w (len+xs.length) cap el-(len+xs.length))) el))
    id (v0+1) s0 w.heap.size 0 (grownCap w (len+xs.length) cap el) ((els.drop off).take len++xs) rfl rfl rfl kS (fun k hk _=>heap_alloc_old w.drew _ k hk) (.inl (ai _))
    (ay hid) (fun j hj=>bl (Ne.symm hj)) (fun r hr=>by rw[hg']at hr;cases hr;exact⟨iu _,_,_,_,rfl⟩) (.inl Y5)
    (by rw[ap,jY];exact yH) EM (olds++news++Builtin.zeroCells zv.cells (grownCap w (len+xs.length) cap el-(len+xs.length))) el (heap_alloc_new w.drew _)
    (by
     rw[cf,cf,size_zeroCells,n1,m1,hzv,←bx,←bx,cn]
     exact cm _ oM)
    (wN.append m2 n2 (by rw[jY];exact m1) n1 (zs:=Builtin.zeroCells zv.cells (grownCap w (len+xs.length) cap el-(len+xs.length)))).1
    (fun k row j cc hk hj=>by simpa using (wN.append m2 n2 (by rw[jY];exact m1) n1 (zs:=Builtin.zeroCells zv.cells (grownCap w (len+xs.length) cap el-(len+xs.length)))).2 k row j cc hk hj)
   refine⟨_,_,L',.inl (gM _ _ VD),?_,by rw[KE];exact r1,by rw[KE];exact r2,yF _ _ _⟩
   have:=RepA.sl (w:=w.drew.alloc (.cells (olds++news++Builtin.zeroCells zv.cells (grownCap w (len+xs.length) cap el-(len+xs.length))) el)) (F:=F) id (v0+1) 0 (len+xs.length) _ _ _ _ r3 oM EM
   simpa using this
  generalize hv:a.eval y=vy at h1
  cases h1 with
  |sl _ _ _ _ b1 o1 z1 cap1 hL g1 g2 =>
    by_cases sI:len+xs.length≤cap1-off
    ·obtain⟨lc,k1,k2⟩:=s.row _ _ _ _ hg'
     rw[hL]at k1;cases k1
     obtain⟨rfl,k3,k4,cur,T,k5,k6,k7,k8⟩:=k2
     have ZKF:(off+(len+xs.length))*z1≤cap1*z1:=cm _ oM
     rw[bx,bx]at ZKF
     have VD:=zG (P:=P) (w:=w) (ty:=o.type) (p:=o1+off*z1) ht hdu hd hs (IB w) (hf _ rfl) n1 sI k5 oM n3
     rw[←hv]at VD
     have NY:news.toList.length=xs.length*z1:=by simpa using n1
     have WM:cur.toList.length=cur.size:=by simp
     have PO:(cur.toList.take (o1+off*z1+len*z1)++news.toList++cur.toList.drop (o1+off*z1+len*z1+news.toList.length)).toArray.size=cur.size:=by
      simp only[dx,ap,bg,co,NY,WM]
      omega
     have hget:∀i,(cur.toList.take (o1+off*z1+len*z1)++news.toList++cur.toList.drop (o1+off*z1+len*z1+news.toList.length)).toArray[i]? = if o1+off*z1+len*z1≤i∧i<o1+off*z1+len*z1+xs.length*z1 then news[i-(o1+off*z1+len*z1)]? else cur[i]?:=by
      intro i
      have:=bI cur.toList news.toList (o1+off*z1+len*z1) i (by rw[NY,WM];omega)
      simp only[hU]
      rw[this,NY]
      simp
     obtain⟨L',r1,r2,r3,r4⟩:=s.putRow (h':=(b++l).set id (.live (v0+1) z1 ((els.drop off).take len++xs))) (w':=w.setRow b1 (cur.toList.take (o1+off*z1+len*z1)++news.toList++cur.toList.drop (o1+off*z1+len*z1+news.toList.length)).toArray)
      id (v0+1) z1 b1 (o1+off*z1) (cap1-off) ((els.drop off).take len++xs) rfl rfl rfl kS (fun i _ hi=>setRow_other w b1 i _ hi) (.inr ⟨_,_,_,_,_,_,hg',hL⟩)
      (ay hid) (fun j hj=>bl (Ne.symm hj)) (fun r hr=>by rw[hg']at hr;cases hr;exact⟨iu _,_,_,_,rfl⟩) (.inl Y5)
      (by rw[ap,jY];exact sI) oM _ T (setRow_heap w b1 cur _ T _ k5)
      (by
       rw[PO]
       have:off*z1+(cap1-off)*z1=cap1*z1:=by rw[←bx];congr 1;omega
       omega)
      (fun k row hk=>by
       by_cases OK:k<len
       ·rw[aw oM]at hk;exact m2.1 k row hk
       ·rw[aq oM]at hk;exact n2.1 _ row hk)
      (fun k row j cc hk hj=>by
       rw[hget]
       by_cases OK:k<len
       ·rw[aw oM]at hk
        rw[de,if_pos OK,dp]at hk
        obtain⟨q1,u,q2,q3⟩:=k8 _ row j cc hk hj
        have wG:j<z1:=by rw[←k7 _ _ hk];exact (am.1 hj).1
        have:=KH (sz:=z1) (j:=j) (n:=1) OK oM
        refine⟨q1,u,?_,q3⟩
        rw[if_neg oM]
        rw[bx]at q2
        rw[←q2];congr 1;omega
       ·rw[aq oM,jY]at hk
        obtain⟨q1,u,q2,q3⟩:=n2.2 _ row j cc hk hj
        have hq:=(bw.1 q2).1
        have h5:k*z1=len*z1+(k-len)*z1:=by rw[←bx];congr 1;omega
        refine⟨q1,u,?_,q3⟩
        rw[if_pos oM,show o1+off*z1+k*z1+j-(o1+off*z1+len*z1)=(k-len)*z1+j by omega]
        exact q2)
     refine⟨_,_,L',.inl (gM _ _ VD),?_,by rw[KE];exact r1,by rw[KE];exact r2,yF _ _ _⟩
     have:=RepA.sl (w:=w.setRow b1 (cur.toList.take (o1+off*z1+len*z1)++news.toList++cur.toList.drop (o1+off*z1+len*z1+news.toList.length)).toArray) (F:=F) id (v0+1) 0 (len+xs.length) _ _ _ _ r3 oM oM
     simpa using this
    ·exact grow _ _ hv oM
  |slz _ _ _ b1 o1 z1 cap1 x1 hL gR =>
    by_cases hx:xs.length=0
    ·obtain⟨lc,k1,k2⟩:=s.row _ _ _ _ hg'
     rw[hL]at k1;cases k1
     obtain⟨rfl,k3,k4,cur,T,k5,k6,k7,k8⟩:=k2
     have hxn:xs=[]:=cq hx
     subst hxn
     have hl0:=IB w
     have VD:=TH (P:=P) (w:=w) (ty:=o.type) (base:=some ⟨b1,x1,none⟩) (len:=0) (cap:=0) ht hdu hd hs hl0 (ZFe rfl) (ai _)
     rw[←hv]at VD
     obtain⟨L',r1,r2,r3,r4⟩:=s.putRow (h':=(b++l).set id (.live (v0+1) z1 ((els.drop off).take 0++[]))) (w':=w)
      id (v0+1) z1 b1 (o1+off*z1) 0 ((els.drop off).take 0++[]) rfl rfl rfl (ai _) (fun i _ hi=>rfl) (.inr ⟨_,_,_,_,_,_,hg',hL⟩)
      (ay hid) (fun j hj=>bl (Ne.symm hj)) (fun r hr=>by rw[hg']at hr;cases hr;exact⟨iu _,_,_,_,rfl⟩) (.inl Y5)
      kS kE cur T k5 (by rw[←gR]at k6;omega) kS kS
     refine⟨a.eval y,w,L',.inl (gM _ _ (by rw[VD,hv])),?_,by rw[KE];exact r1,by rw[KE];exact r2,yF _ _ _⟩
     rw[hv]
     exact .slz id (v0+1) 0 _ _ _ _ x1 r3 rfl
    ·exact grow _ _ hv oM
  |sln _ _ ad hL =>
    by_cases hx:xs.length=0
    ·have hxn:xs=[]:=cq hx
     subst hxn
     obtain⟨lc,k1,k2⟩:=s.row _ _ _ _ hg'
     rw[hL]at k1;cases k1
     have xN:els=[]:=k2
     subst xN
     have hl0:=IB w
     have VD:=TH (P:=P) (w:=w) (ty:=o.type) (base:=ad) (len:=0) (cap:=0) ht hdu hd hs hl0 (ZFe rfl) (ai _)
     rw[←hv]at VD
     obtain⟨L',r1,r2,r3,r4⟩:=s.bumpNil hg' hL
     refine⟨a.eval y,w,L',.inl (gM _ _ (by rw[VD,hv])),?_,by rw[KE];exact r1,by rw[KE];exact r2,yF _ _ _⟩
     rw[hv]
     exact .sln id (v0+1) ad r3
    ·exact grow _ _ hv oM
 ·cases h

theorem LQ {t u el ty:TypeId} {sz bytes:Nat} {i:TypeInfo} {z:Value} (ht:P.underlying t=some (.slice el)) (hu:P.underlying u=some (.int .i64)) (hs:lD P el=some sz)
  (hi:P.info? el=some i) (hz:i.zero=some z) (yO:i.bytes=bytes) {base:Option Addr} {m:Nat} (hm0:0<m) (NN:0<sz) (TL:m*bytes≤140737488355328) (hm:m≤140737488355328) (h0:0<bytes) :
  (Builtin.append_ #[t,u] ty #[.slice base 0 0,.int .i64 (m:Int)]).run P w=.ok (.slice (some ⟨w.heap.size,0,none⟩) m (grownCap w m 0 el))
    (w.drew.alloc (.cells (Builtin.zeroCells z.cells m++Builtin.zeroCells z.cells (grownCap w m 0 el-m)) el)):=by
 have ZLH:=growslice_fits (need:=m) (old:=0) (bytes:=bytes) hm0 TL
 have h48:¬(281474976710656<Builtin.nextslicecap m 0*i.bytes):=by rw[yO];omega
 have hw:IntKind.i64.wrap (m:Int)=(m:Int):=by rw[IntKind.wrap_i64];omega
 have h1:¬((m:Int)<0):=by omega
 have h2:¬(281474976710656<(m:Int)*(i.bytes:Int)):=by
  rw[yO]
  have:(m:Int)*(bytes:Int)=((m*bytes:Nat):Int):=by rw[Int.natCast_mul]
  omega
 have h3:¬(m*sz=0):=by
  have:0<m*sz:=Nat.mul_pos hm0 NN
  omega
 have h5:¬(9223372036854775807<(m:Int)):=by omega
 have h6:m≠0:=by omega
 cases base<;>simp[Builtin.append_,run_underlying ht,run_underlying hu,IA hs,typeInfo,zeroValue,hi,hz,asInt,asIntOf,hw,h1,h2,h3,h5,h6,h48,Question.forced,newRow,grownCap,Builtin.firstCells,loadCells,loadCellsFrom]

theorem QP {t u el ty:TypeId} {sz:Nat} {i:TypeInfo} (ht:P.underlying t=some (.slice el)) (hu:P.underlying u=some (.int .i64)) (hs:lD P el=some sz) (hi:P.info? el=some i) {base:Option Addr} :
  (Builtin.append_ #[t,u] ty #[.slice base 0 0,.int .i64 0]).run P w=.ok (.slice base 0 0) w:=by
 have hw:IntKind.i64.wrap 0=0:=by rw[IntKind.wrap_i64];omega
 cases base<;>simp[Builtin.append_,run_underlying ht,run_underlying hu,IA hs,typeInfo,hi,asInt,asIntOf,hw,storeCells]

theorem ZHH (s:Sim F L (b++l) w) (he:FB w F L e a) {c:Call} {t u el:TypeId} {sz bytes:Nat} {zs:List AV} (ht:P.underlying t=some (.slice el)) (hu:ZFa (P.underlying u)=true)
  (hs:lD P el=some sz) (yO:CO P el=some bytes) (hz:aF P el=some zs) (N9:zs.length=sz) (h0:0<sz) (hb0:0<bytes)
  {y z:Operand} {y' z':Opd} (hc:c.callee=.builtin .append) (ha:c.args.toList=[y,z]) (sX:c.argTypes.toList=[t,u]) (ho:o.op=.call c) (hy:aA y=some y') (hz':aA z=some z')
  (h:aop e b l (.appz sz bytes zs y' z')=.val x b' l'):VB P o a w F L b l x b' l':=by
 obtain⟨i,zv,hi,tX,wV⟩:=qE hz
 obtain⟨c1,c2⟩:=JF (w:=w) (F:=F) (L:=L) wV
 have hzv:zv.cells.size=sz:=by have:=c1.1;simp at this;omega
 have hbz:i.bytes=bytes:=by simp[CO,hi]at yO;exact yO
 have hdu:P.underlying u=some (.int .i64):=by
  unfold ZFa at hu
  split at hu
  ·rename_i h;exact h
  ·cases hu
 have h1:=fA he hy
 have h2:=fA he hz'
 simp only[aop]at h
 generalize ev e y'=q at *
 generalize ev e z'=r at *
 have gM:∀v w',(Builtin.append_ #[t,u] o.type #[a.eval y,a.eval z]).run P w=.ok v w'→(execOp a.eval o).run P w=.ok (.value v) w':=by
  intro v w' hr
  rw[CD ho hc ha sX]
  simp[invoke,builtin,hr]
 unfold IF at h
 split at h
 case h_2=>cases h
 rename_i n
 obtain⟨ad,hv⟩:∃ad,a.eval y=.slice ad 0 0:=by
  generalize a.eval y=v at h1
  cases h1.vI;exact⟨_,rfl⟩
 have hn:=UI h2
 split at h
 ·rename_i hn0
  subst hn0
  cases h
  refine VB.pure s (v:=a.eval y) (gM _ _ ?_) h1
  rw[hv,hn]
  exact QP ht hdu hs hi
 ·split at h
  case isFalse=>cases h
  rename_i hn0 hb
  obtain⟨g1,g2,g3⟩:=hb
  unfold room at g2 g3
  obtain⟨m,rfl⟩:∃m:Nat,n=m:=⟨n.toNat,by omega⟩
  simp only[ca]at *
  have hm0:0<m:=by omega
  have VD:=LQ (P:=P) (w:=w) (ty:=o.type) ht hdu hs hi tX hbz (base:=ad) hm0 h0 g2 g3 hb0
  rw[←hv,←hn]at VD
  have yH:=grownCap_ge w m 0 el
  have EM:grownCap w m 0 el≤maxLen:=grownCap_le_maxLen w _ 0 el (by unfold maxLen;omega)
  have qY:=uO (w:=w) (F:=F) (L:=L) (n:=m) c1 c2 N9 (m*sz) (ai _)
  have hmz:madeCells zv.cells (m*sz)=Builtin.zeroCells zv.cells m:=by unfold madeCells Builtin.zeroCells;rw[hzv]
  rw[hmz]at qY
  refine KY s (w':=w.drew.alloc (.cells (Builtin.zeroCells zv.cells m++Builtin.zeroCells zv.cells (grownCap w m 0 el-m)) el)) (cur:=Builtin.zeroCells zv.cells m++Builtin.zeroCells zv.cells (grownCap w m 0 el-m)) (T:=el) (cap:=grownCap w m 0 el)
   (v:=.slice (some ⟨w.heap.size,0,none⟩) m (grownCap w m 0 el)) (.inl (gM _ _ VD)) rfl rfl rfl rfl (by rw[ia];exact yH) EM ?_ qY.1 ?_ ?_ h
  ·rw[cf,size_zeroCells,size_zeroCells,hzv,←bx]
   exact cm _ oM
  ·intro k row j cc hk hj
   obtain⟨g1,v,g2,g3⟩:=qY.2 k row j cc hk hj
   exact⟨g1,v,by rw[ck (bw.1 g2).1];exact g2,g3⟩
  ·intro L' hL'
   have:=RepA.sl (w:=w.drew.alloc (.cells (Builtin.zeroCells zv.cells m++Builtin.zeroCells zv.cells (grownCap w m 0 el-m)) el)) (F:=F) (b.length+l.length) 0 0 m _ _ _ _ hL' oM EM
   simpa using this

theorem ZHB (s:Sim F L (b++l) w) (he:FB w F L e a) {c:Call} {t u el:TypeId} {sz:Nat} (ht:P.underlying t=some (.slice el)) (hs:lD P el=some sz) (h0:0<sz)
  {y z:Operand} {y' z':Opd} (hc:c.callee=.builtin .copy) (ha:c.args.toList=[y,z]) (sX:c.argTypes.toList=[t,u]) (ho:o.op=.call c) (hy:aA y=some y') (hz':aA z=some z')
  (h:aop e b l (.copy sz y' z')=.val x b' l'):VB P o a w F L b l x b' l':=by
 have h1:=fA he hy
 have h2:=fA he hz'
 simp only[aop]at h
 generalize ev e y'=q at *
 generalize ev e z'=r at *
 have gM:∀v w',(Builtin.copy_ #[t,u] o.type #[a.eval y,a.eval z]).run P w=.ok v w'→(execOp a.eval o).run P w=.ok (.value v) w':=by
  intro v w' hr
  rw[CD ho hc ha sX]
  simp[invoke,builtin,hr]
 unfold GF at h
 split at h
 case h_1=>cases h
 rename_i xs R8
 obtain⟨IB,news,n1,n2,n3,n4⟩:=lO (P:=P) s h0 R8 h2
 split at h
 case h_2=>cases h
 rename_i id ver off len
 split at h
 case h_2=>cases h
 rename_i v0 s0 els hg
 split at h
 case isFalse=>cases h
 rename_i hb
 obtain⟨rfl,rfl,LJ⟩:=hb
 cases h
 have hg':(b++l)[id]? = some (.live v0 s0 els):=by rw[←OC];exact hg
 have hid:id<(b++l).length:=(am.1 hg').1
 have hfn:=n4 (min xs.length len) w (Nat.min_le_left _ _) rfl
 have none_:∀base c0,a.eval y=.slice base 0 c0→len=0→VB P o a w F L b l (.v (.int .i64 (min xs.length len:Nat))) (iE b id (.live v0 s0 (els.take off++xs.take len++els.drop (off+min xs.length len)))) (GE b l id (.live v0 s0 (els.take off++xs.take len++els.drop (off+min xs.length len)))):=by
  intro base c0 hv hl0
  subst hl0
  have xN:els.take off++xs.take 0++els.drop (off+min xs.length 0)=els:=by simp
  rw[xN]
  have pK:(b++l).set id (.live v0 s0 els)=b++l:=by
   apply ea
   intro j
   by_cases hj:id=j
   ·subst hj;rw[ay hid,hg']
   ·rw[bl hj]
  have VD:(Builtin.copy_ #[t,u] o.type #[a.eval y,a.eval z]).run P w=.ok (goInt 0) w:=by
   simp at hfn
   cases base<;>simp[Builtin.copy_,run_underlying ht,IA hs,IB w,hv,hfn,storeCells]
  refine⟨goInt 0,w,L,.inl (gM _ _ VD),by simp[goInt];exact toN .i64 0,by rw[KE,pK];exact s,by rw[KE,pK];exact Step.refl _ _ _ _ _,yF _ _ _⟩
 generalize hv:a.eval y=vy at h1
 cases h1 with
 |slz _ _ _ b1 o1 z1 cap1 x1 hL gR=>exact none_ _ _ hv rfl
 |sln _ _ ad hL=>exact none_ _ _ hv rfl
 |sl _ _ _ _ b1 o1 z1 cap1 hL g1 g2 =>
   obtain⟨lc,k1,k2⟩:=s.row _ _ _ _ hg'
   rw[hL]at k1;cases k1
   obtain⟨rfl,k3,k4,cur,T,k5,k6,k7,k8⟩:=k2
   have WM:cur.toList.length=cur.size:=by simp
   have hmn:min xs.length len≤len:=Nat.min_le_right _ _
   have hmx:min xs.length len≤xs.length:=Nat.min_le_left _ _
   have ZKF:(off+min xs.length len)*z1≤cap1*z1:=cm _ oM
   rw[bx]at ZKF
   have zV:min xs.length len*z1≤xs.length*z1:=cm _ hmx
   have NY:(news.extract 0 (min xs.length len*z1)).toList.length=min xs.length len*z1:=by simp;omega
   have ZCr:∀v∈(news.extract 0 (min xs.length len*z1)).toList,v.oneCell'=true:=fun v hv2=>n3 v (by
    simp only[gi,kw,fg,gu]at hv2
    exact ec hv2)
   have ZF:=run_storeCells_at P b1 (o1+off*z1) T (news.extract 0 (min xs.length len*z1)).toList 0 cur w k5 (by rw[NY];omega) ZCr
   simp only[eo]at ZF
   have VD:(Builtin.copy_ #[t,u] o.type #[a.eval y,a.eval z]).run P w=.ok (goInt (min xs.length len:Nat)) (w.setRow b1 (cur.toList.take (o1+off*z1)++(news.extract 0 (min xs.length len*z1)).toList++cur.toList.drop (o1+off*z1+(news.extract 0 (min xs.length len*z1)).toList.length)).toArray):=by
    have ZKG:Nat.min xs.length len=min xs.length len:=rfl
    simp only[Builtin.copy_,run_underlying ht,IA hs,IB w,hv,Sem.run_bind,Result.andThen_ok,ZKG,hfn,ZF,Sem.run_pure,hU,kz,fh]
   have PO:(cur.toList.take (o1+off*z1)++(news.extract 0 (min xs.length len*z1)).toList++cur.toList.drop (o1+off*z1+(news.extract 0 (min xs.length len*z1)).toList.length)).toArray.size=cur.size:=by
    simp only[dx,ap,bg,co,NY,WM]
    omega
   have hget:∀i,(cur.toList.take (o1+off*z1)++(news.extract 0 (min xs.length len*z1)).toList++cur.toList.drop (o1+off*z1+(news.extract 0 (min xs.length len*z1)).toList.length)).toArray[i]? = if o1+off*z1≤i∧i<o1+off*z1+min xs.length len*z1 then news[i-(o1+off*z1)]? else cur[i]?:=by
    intro i
    have:=bI cur.toList (news.extract 0 (min xs.length len*z1)).toList (o1+off*z1) i (by rw[NY,WM];omega)
    simp only[hU]
    rw[this,NY]
    split
    ·rename_i zE
     simp only[gi,kw,fg,gu,de]
     rw[if_pos oM]
     simp
    ·simp
   have htk:(els.take off).length=off:=by simp;omega
   have ZKH:(xs.take len).length=min xs.length len:=by simp[Nat.min_comm]
   have GG:∀k,(els.take off++xs.take len++els.drop (off+min xs.length len))[k]? = if off≤k∧k<off+min xs.length len then xs[k-off]? else els[k]?:=by
    intro k
    have:=bI els (xs.take len) off k (by rw[ZKH];omega)
    rw[ZKH]at this
    rw[this]
    split
    ·rename_i zE
     rw[de,if_pos oM]
    ·rfl
   obtain⟨L',r1,r2,r3,r4⟩:=s.putRow (h':=(b++l).set id (.live v0 z1 (els.take off++xs.take len++els.drop (off+min xs.length len)))) (w':=w.setRow b1 (cur.toList.take (o1+off*z1)++(news.extract 0 (min xs.length len*z1)).toList++cur.toList.drop (o1+off*z1+(news.extract 0 (min xs.length len*z1)).toList.length)).toArray)
    id v0 z1 b1 o1 cap1 (els.take off++xs.take len++els.drop (off+min xs.length len)) rfl rfl rfl kS (fun i _ hi=>setRow_other w b1 i _ hi) (.inr ⟨_,_,_,_,_,_,hg',hL⟩)
    (ay hid) (fun j hj=>bl (Ne.symm hj)) (fun r hr=>by rw[hg']at hr;cases hr;exact⟨ai _,_,_,_,rfl⟩) (.inr hL)
    (by simp only[ap,htk,ZKH,co];omega) k4 _ T (setRow_heap w b1 cur _ T _ k5) (by rw[PO];exact k6)
    (fun k row hk=>by
     rw[GG]at hk
     split at hk
     ·exact n2.1 _ row hk
     ·exact k7 _ row hk)
    (fun k row j cc hk hj=>by
     rw[GG]at hk
     rw[hget]
     split at hk
     ·rename_i zE
      obtain⟨q1,u,q2,q3⟩:=n2.2 _ row j cc hk hj
      have wG:j<z1:=by rw[←n2.1 _ _ hk];exact (am.1 hj).1
      have h5:k*z1=off*z1+(k-off)*z1:=by rw[←bx];congr 1;omega
      have:=KH (sz:=z1) (j:=j) (n:=1) (show k-off<min xs.length len by omega) oM
      refine⟨q1,u,?_,q3⟩
      rw[if_pos oM,show o1+k*z1+j-(o1+off*z1)=(k-off)*z1+j by omega]
      exact q2
     ·rename_i zE
      have wG:j<z1:=by rw[←k7 _ _ hk];exact (am.1 hj).1
      rw[if_neg ?_]
      ·exact k8 k row j cc hk hj
      ·rintro⟨p1,p2⟩
       by_cases hko:k<off
       ·have:=KH (sz:=z1) (j:=j) (n:=1) hko oM;omega
       ·have h5:k*z1=off*z1+(k-off)*z1:=by rw[←bx];congr 1;omega
        have:=cm z1 (show min xs.length len≤k-off by omega)
        omega)
   exact⟨_,_,L',.inl (gM _ _ VD),toN _ _,by rw[KE];exact r1,by rw[KE];exact r2,yF _ _ _⟩
end

section
variable {P:Program} {w:World} {F:Nat→Prop} {L:LMap} {o:Oper} {a:Act} {e:List AV} {b l b' l':List Row} {x:AV}

theorem YK {α β:Type} {f:α→β} {y:Option α} {z:β} (h:y.map f=some z):∃q,y=some q∧z=f q:=by
 cases y with
 |none=>cases h
 |some q=>cases h;exact⟨q,rfl,rfl⟩
theorem CX {r:Nat} {es:Array MapEntry} {clk:Nat} (hb:w.heap[r]? = some (.map es clk)):(getObj r).run P w=.ok (.map es clk) w:=by
 simp[getObj,Sem.run,hb]
theorem ZAG {r:Nat} {es:Array MapEntry} {clk:Nat} (o:Obj) (hb:w.heap[r]? = some (.map es clk)):(setObj r o).run P w=.ok () {w with heap:=w.heap.setIfInBounds r o}:=by
 simp[setObj,Sem.run,hb]
theorem MT {a b:ByteArray} (h:(a==b)=true):a=b:=by
 rw[beq_toListBytes]at h
 have:=eq_of_beq h
 rw[ByteArray.toList_eq,ByteArray.toList_eq]at this
 obtain⟨x⟩:=a
 obtain⟨y⟩:=b
 simp at this
 rw[this]
theorem TK (a:ByteArray):(a==a)=true:=by rw[beq_toListBytes];simp
def kOk:FK→AV→Bool
 |.i,.v (.int _ _)=>true
 |.b,.v (.bool _)=>true
 |.s,.v (.str _)=>true
 |_,_=>false
theorem ZY {k:FK} {x y:AV} {r:Bool} (h:eqF k x y=some r):kOk k x=true:=by
 unfold eqF at h
 split at h<;>first|rfl|cases h

theorem vH {em:Bool} {n:Nat} {t:TypeId} {k:FK} (hk:KJ P t=some k) {x:AV} {v:Value} (hx:RepA w F L x v) (ho:kOk k x=true):(Instr.checkKey em (n+1) t v).run P w=.ok () w:=by
 unfold KJ at hk
 unfold kOk at ho
 split at ho
 ·rename_i kk m
  split at hk<;>first|(cases hk;done)|skip
  rename_i hd
  rw[UI hx]
  simp[Instr.checkKey,run_underlying hd]
 ·rename_i t
  split at hk<;>first|(cases hk;done)|skip
  rename_i hd
  rw[dM hx]
  simp[Instr.checkKey,run_underlying hd]
 ·rename_i t
  split at hk<;>first|(cases hk;done)|skip
  rename_i hd
  rw[SQ hx]
  simp[Instr.checkKey,run_underlying hd]
 ·cases ho

theorem FH {em:Bool} {d:Nat}:∀{fs:List Field} {n:Nat} {ks:List FK} {xs ys:List AV} {vs:Array Value} {r:Bool},SL P n fs=some ks →
  GA w F L xs (vs.toList.drop n)→eqC ks xs ys=some r→(forIn fs PUnit.unit (fun f (_:PUnit)=>(if f.name≠ "_" then do
    let x ←part f.type vs f.offset
    Instr.checkKey em (d+1) f.type x
    pure (ForInStep.yield PUnit.unit)
   else pure (ForInStep.yield PUnit.unit):Sem (ForInStep PUnit)))).run P w=.ok PUnit.unit w
 |[],n,ks,xs,ys,vs,r,hp,hx,he=>by simp
 |f::fs,n,ks,xs,ys,vs,r,hp,hx,he=>by
   unfold SL at hp
   split at hp
   case isFalse=>cases hp
   rename_i hb
   obtain⟨gR,qV⟩:=hb
   split at hp
   case h_2=>cases hp
   rename_i k ks' hk hks
   cases hp
   cases xs with
   |nil=>simp[eqC]at he
   |cons x xs0 =>
   cases ys with
   |nil=>simp[eqC]at he
   |cons y ys0 =>
   simp only[eqC]at he
   cases hq:eqF k x y with
   |none=>simp[hq,aG]at he
   |some r1 =>
     cases ET:eqC ks' xs0 ys0 with
     |none=>simp[hq,ET,aG]at he
     |some r2 =>
       obtain⟨v,hv,hrv⟩:=hx.get (j:=0) (a:=x) rfl
       have hv':vs[n]? = some v:=by simpa using hv
       have L4:=PM hk
       have hpv:(part f.type vs f.offset).run P w=.ok v w:=by simp[part,vF L4,gR,hv']
       have hck:=vH (em:=em) (n:=d) hk hrv (ZY hq)
       have tail:GA w F L xs0 (vs.toList.drop (n+1)):=by
        refine⟨by have:=hx.1;simp at this⊢;omega,fun i c' z' hc hz'=>?_⟩
        exact hx.2 (i+1) c' z' (by simpa using hc) (by
         rw[dp]at hz'⊢
         rw[show n+(i+1)=n+1+i by omega];exact hz')
       have ih:=FH (em:=em) (d:=d) hks tail ET
       rw[la]
       simp only[qV,ne_eq,not_false_eq_true,if_true,Sem.run_bind,hpv,Result.andThen_ok,hck,Sem.run_pure]
       exact ih

theorem iI {em:Bool} {d:Nat} {el:TypeId} {k:FK} (hk:KJ P el=some k):∀{m n:Nat} {xs ys:List AV} {vs:Array Value} {r:Bool},
  GA w F L xs (vs.toList.drop n)→eqC (List.replicate m k) xs ys=some r→(hs:lD P el=some 1)→(forIn (List.range' n m) PUnit.unit (fun i (_:PUnit)=>(do
   let s ←sizeOf el
   let x ←part el vs (i*s)
   Instr.checkKey em (d+1) el x
   pure (ForInStep.yield PUnit.unit):Sem (ForInStep PUnit)))).run P w=.ok PUnit.unit w
 |0,n,xs,ys,vs,r,hx,he,hs=>by simp
 |m+1,n,xs,ys,vs,r,hx,he,hs=>by
   rw[bq]at he
   cases xs with
   |nil=>simp[eqC]at he
   |cons x xs0 =>
   cases ys with
   |nil=>simp[eqC]at he
   |cons y ys0 =>
   simp only[eqC]at he
   cases hq:eqF k x y with
   |none=>simp[hq,aG]at he
   |some r1 =>
     cases ET:eqC (List.replicate m k) xs0 ys0 with
     |none=>simp[hq,ET,aG]at he
     |some r2 =>
       obtain⟨v,hv,hrv⟩:=hx.get (j:=0) (a:=x) rfl
       have hv':vs[n]? = some v:=by simpa using hv
       have L4:=PM hk
       have hpv:(part el vs n).run P w=.ok v w:=by simp[part,vF L4,hv']
       have hck:=vH (em:=em) (n:=d) hk hrv (ZY hq)
       have tail:GA w F L xs0 (vs.toList.drop (n+1)):=by
        refine⟨by have:=hx.1;simp at this⊢;omega,fun i c' z' hc hz'=>?_⟩
        exact hx.2 (i+1) c' z' (by simpa using hc) (by
         rw[dp]at hz'⊢
         rw[show n+(i+1)=n+1+i by omega];exact hz')
       have ih:=iI (em:=em) (d:=d) hk tail ET hs
       rw[List.range'_succ,la]
       simp only[Sem.run_bind,IA hs,it,hpv,Result.andThen_ok,hck,Sem.run_pure]
       exact ih

theorem CK {em:Bool} {n:Nat} {t:TypeId} {kk:KK} (hk:kkT P t=some kk) {x y:AV} {v:Value} {r:Bool} (hx:RepA w F L x v) (he:ZD kk x y=some r):(Instr.checkKey em (n+2) t v).run P w=.ok () w:=by
 unfold kkT at hk
 split at hk
 ·rename_i fs ht
  split at hk
  case isFalse=>cases hk
  obtain⟨ks,hks,rfl⟩:=YK hk
  unfold ZD at he
  split at he<;>first|(cases he;done)|skip
  ·rename_i h;cases h
  ·rename_i xs ys h
   cases h
   obtain⟨vs,rfl,hl⟩:=hx.aggL
   have:=FH (em:=em) (d:=n) hks (vs:=vs) (by simpa using hl) he
   unfold Instr.checkKey
   simp only[Sem.run_bind,run_underlying ht,Result.andThen_ok]
   rw[←Array.forIn_toList]
   rw[this]
   simp
 ·rename_i m el ht
  split at hk
  case h_2=>cases hk
  rename_i k UP hs
  cases hk
  unfold ZD at he
  split at he<;>first|(cases he;done)|skip
  ·rename_i h;cases h
  ·rename_i xs ys h
   cases h
   obtain⟨vs,rfl,hl⟩:=hx.aggL
   have:=iI (em:=em) (d:=n) UP (n:=0) (vs:=vs) (by simpa using hl) he hs
   unfold Instr.checkKey
   simp only[Sem.run_bind,run_underlying ht,Result.andThen_ok]
   rw[Std.Legacy.Range.forIn_eq_forIn_range']
   simp only[Std.Legacy.Range.size,fg,fd,Nat.div_one]
   rw[this]
   simp
 ·obtain⟨k,hk2,rfl⟩:=YK hk
  refine vH (n:=n+1) hk2 hx ?_
  simp only[ZD]at he
  exact ZY he
 ·cases hk

def iL (d:Nat) (el:TypeId) (xs ys:Array Value):List Nat→Sem Bool
 |[]=>pure true
 |i::is=>do
   let x ←part el xs (i*1)
   let y ←part el ys (i*1)
   let r ←Op.equalIn d el x y
   if r then iL d el xs ys is else pure false

theorem qJ {d:Nat} {t el:TypeId} {m:Nat} {xs ys:Array Value} (ht:P.underlying t=some (.array m el)) (hs:lD P el=some 1) :
  (Op.equalIn (d+1) t (.agg xs) (.agg ys)).run P w=(iL d el xs ys (List.range' 0 m)).run P w:=by
 unfold Op.equalIn
 simp only[Sem.run_bind,run_underlying ht,Result.andThen_ok,IA hs]
 rw[Std.Legacy.Range.forIn_eq_forIn_range']
 simp only[Std.Legacy.Range.size,fg,fd,Nat.div_one]
 generalize List.range' 0 m=is
 clear ht
 induction is generalizing w with
 |nil=>simp[iL]
 |cons i is ih =>
   simp only[la,iL,Sem.run_bind,Sem.run_ite]
   generalize (part el xs (i*1)).run P w=r1
   cases r1 with
   |ok a w1 =>
     simp only[Result.andThen_ok]
     generalize (part el ys (i*1)).run P w1=r2
     cases r2 with
     |ok b w2 =>
       simp only[Result.andThen_ok]
       generalize (Op.equalIn d el a b).run P w2=r3
       cases r3 with
       |ok r w3 =>
         cases r
         ·simp only[Result.andThen_ok,Bool.not_false,if_true,Sem.run_pure,dt,if_false]
         ·simp only[Result.andThen_ok,iw,dt,if_false,Sem.run_pure,if_true]
          exact ih
       |halt x w3=>simp[Result.andThen]
     |halt x w2=>simp[Result.andThen]
   |halt x w1=>simp[Result.andThen]

theorem SN {d:Nat} {el:TypeId} {k:FK} (hk:KJ P el=some k):∀{m n:Nat} {xs ys:List AV} {vs us:Array Value} {r:Bool},
  GA w F L xs (vs.toList.drop n)→GA w F L ys (us.toList.drop n)→eqC (List.replicate m k) xs ys=some r→(iL (d+1) el vs us (List.range' n m)).run P w=.ok r w
 |0,n,xs,ys,vs,us,r,hx,hy,he=>by
   cases xs<;>cases ys<;>simp[eqC]at he
   subst he
   simp[iL]
 |m+1,n,xs,ys,vs,us,r,hx,hy,he=>by
   rw[bq]at he
   cases xs with
   |nil=>simp[eqC]at he
   |cons x xs0 =>
   cases ys with
   |nil=>simp[eqC]at he
   |cons y ys0 =>
   simp only[eqC]at he
   cases hq:eqF k x y with
   |none=>simp[hq,aG]at he
   |some r1 =>
     cases ET:eqC (List.replicate m k) xs0 ys0 with
     |none=>simp[hq,ET,aG]at he
     |some r2 =>
       simp[hq,ET,aG]at he
       obtain⟨v,hv,hrv⟩:=hx.get (j:=0) (a:=x) rfl
       obtain⟨u,hu,hru⟩:=hy.get (j:=0) (a:=y) rfl
       have hv':vs[n]? = some v:=by simpa using hv
       have hu':us[n]? = some u:=by simpa using hu
       have L4:=PM hk
       have hpv:(part el vs n).run P w=.ok v w:=by simp[part,vF L4,hv']
       have hpu:(part el us n).run P w=.ok u w:=by simp[part,vF L4,hu']
       have tail:∀{cs:List AV} {c:AV} {zs:Array Value},GA w F L (c::cs) (zs.toList.drop n)→GA w F L cs (zs.toList.drop (n+1)):=by
        intro cs c zs hz
        refine⟨by have:=hz.1;simp at this⊢;omega,fun i c' z' hc hz'=>?_⟩
        exact hz.2 (i+1) c' z' (by simpa using hc) (by
         rw[dp]at hz'⊢
         rw[show n+(i+1)=n+1+i by omega];exact hz')
       have ZKE:=s9 (P:=P) (d:=d) hk hrv hru hq
       have ih:=SN (d:=d) hk (tail hx) (tail hy) ET
       rw[List.range'_succ]
       simp only[iL,Sem.run_bind,it,hpv,hpu,Result.andThen_ok,ZKE,Sem.run_ite,ih,Sem.run_pure]
       subst he
       cases r1<;>simp

theorem ZHA (s:Sim F L (b++l) w) (he:FB w F L e a) {op:BinOp} {t u el:TypeId} {m:Nat} {k:FK} (ht:P.underlying t=some (.array m el)) (hk:KJ P el=some k) (hs:lD P el=some 1)
  (hg:P.eqGuardType P.depth t=false) (hop:op=.eql∨op=.neq) {y z:Operand} {y' z':Opd} (ho:o.op=.binOp op t y z u) (hy:aA y=some y') (hz:aA z=some z')
  (h:aop e b l (.eqs (op==.neq) (List.replicate m k) y' z')=.val x b' l'):VB P o a w F L b l x b' l':=by
 have h1:=fA he hy
 have h2:=fA he hz
 simp only[aop]at h
 generalize ev e y'=q at *
 generalize ev e z'=r at *
 split at h
 case h_2=>cases h
 rename_i xs ys
 split at h
 case h_2=>cases h
 rename_i r hr
 cases h
 obtain⟨vs,e1,l1⟩:=h1.aggL
 obtain⟨us,e2,l2⟩:=h2.aggL
 have VD:=SN (P:=P) (d:=9998) hk (n:=0) (vs:=vs) (us:=us) (by simpa using l1) (by simpa using l2) hr
 have DY:=qJ (P:=P) (w:=w) (d:=9999) (xs:=vs) (ys:=us) ht hs
 rw[VD]at DY
 rcases hop with rfl|rfl
 ·refine VB.pure s (v:=.bool r) ?_ (tW _)
  simp[execOp,ho,e1,e2,run_eqGuard_agg w _ t _ _ _ _ hg,run_eql_struct,DY]
 ·refine VB.pure s (v:=.bool (!r)) ?_ (tW _)
  simp[execOp,ho,e1,e2,run_eqGuard_agg w _ t _ _ _ _ hg,run_neq_struct,DY]

theorem XI {t:TypeId} {kk:KK} (hk:kkT P t=some kk) {x y:AV} {v u:Value} {r:Bool} (hx:RepA w F L x v) (hy:RepA w F L y u) (he:ZD kk x y=some r):(Op.equal t v u).run P w=.ok r w:=by
 unfold Op.equal Op.maxDepth
 unfold kkT at hk
 split at hk
 ·rename_i fs ht
  split at hk
  case isFalse=>cases hk
  rename_i ZF
  obtain⟨ks,hks,rfl⟩:=YK hk
  unfold ZD at he
  split at he<;>first|(cases he;done)|skip
  ·rename_i h;cases h
  ·rename_i xs ys h
   cases h
   obtain⟨vs,rfl,hl⟩:=hx.aggL
   obtain⟨us,rfl,cU⟩:=hy.aggL
   have hf:P.fieldsOf t=fs:=by simp[Program.fieldsOf,ht]
   have VD:=t9 (P:=P) (d:=9998) hks (vs:=vs) (us:=us) (by simpa using hl) (by simpa using cU) he
   have DY:=run_equalIn_struct w 9999 t vs us (by rw[hf];exact ht) ZF
   rw[hf,VD]at DY
   exact DY
 ·rename_i m el ht
  split at hk
  case h_2=>cases hk
  rename_i k UP hs
  cases hk
  unfold ZD at he
  split at he<;>first|(cases he;done)|skip
  ·rename_i h;cases h
  ·rename_i xs ys h
   cases h
   obtain⟨vs,rfl,hl⟩:=hx.aggL
   obtain⟨us,rfl,cU⟩:=hy.aggL
   rw[qJ (d:=9999) ht hs]
   exact SN (P:=P) (d:=9998) UP (n:=0) (vs:=vs) (us:=us) (by simpa using hl) (by simpa using cU) he
 ·obtain⟨k,hk2,rfl⟩:=YK hk
  simp only[ZD]at he
  exact s9 (d:=9999) hk2 hx hy he
 ·cases hk

def nK (w:World) (F:Nat→Prop) (L:LMap):List (List AV)→List MapEntry→Prop
 |[],[]=>True
 |row::els,e::es=>(∃x y,row=[x,y]∧RepA w F L x e.key∧RepA w F L y e.val)∧nK w F L els es
 |_,_=>False
theorem QY:∀{els:List (List AV)} {es:List MapEntry},es.length=els.length→(∀(k:Nat) (row:List AV) (e:MapEntry),els[k]? = some row→es[k]? = some e→∃x y,row=[x,y]∧RepA w F L x e.key∧RepA w F L y e.val)→nK w F L els es
 |[],[],_,_=>trivial
 |[],e::es,h,_=>by simp at h
 |r::els,[],h,_=>by simp at h
 |row::els,e::es,h,g=>⟨g 0 row e rfl rfl,QY (by simpa using h) (fun k row e hr he=>g (k+1) row e (by simpa using hr) (by simpa using he))⟩
theorem nK.to:∀{els:List (List AV)} {es:List MapEntry},nK w F L els es→es.length=els.length∧∀(k:Nat) (row:List AV) (e:MapEntry),els[k]? = some row→es[k]? = some e→∃x y,row=[x,y]∧RepA w F L x e.key∧RepA w F L y e.val
 |[],[],_=>⟨rfl,by simp⟩
 |[],e::es,h=>h.elim
 |r::els,[],h=>h.elim
 |row::els,e::es,h=>by
   obtain⟨h1,h2⟩:=nK.to h.2
   refine⟨by simp[h1],fun k row' e' hr he=>?_⟩
   cases k with
   |zero=>simp at hr he;subst hr;subst he;exact h.1
   |succ k=>exact h2 k row' e' (by simpa using hr) (by simpa using he)

theorem lQ {t:TypeId} {kk:KK} (hk:kkT P t=some kk) {x:AV} {v:Value} (hx:RepA w F L x v):∀{els:List (List AV)} {es:List MapEntry} {i:Nat} {r:Option AV},nK w F L els es→EP kk x els=some r →
  ∃q,(Instr.findAsking t v es i).run P w=.ok q w∧(∀y,r=some y→∃j u,q=some (j,u)∧RepA w F L y u)∧(r=none→q=none)
 |[],[],i,r,_,h=>by
   simp[EP]at h
   subst h
   exact⟨none,rfl,by simp,fun _=>rfl⟩
 |[],e::es,i,r,h,_=>h.elim
 |row::els,[],i,r,h,_=>h.elim
 |row::els,e::es,i,r,h,hf=>by
   obtain⟨⟨y,u,rfl,h1,h2⟩,h3⟩:=h
   simp only[EP]at hf
   split at hf
   ·rename_i hq
    cases hf
    have:=XI hk hx h1 hq
    exact⟨some (i,e.val),by simp[Instr.findAsking,this],fun y hy=>by cases hy;exact⟨_,_,rfl,h2⟩,by simp⟩
   ·rename_i hq
    have:=XI hk hx h1 hq
    obtain⟨q,g1,g2⟩:=lQ hk hx (i:=i+1) h3 hf
    exact⟨q,by simp[Instr.findAsking,this,g1],g2⟩
   ·cases hf

theorem IK {t:TypeId} {d:TypeDesc} {kk:KK} (hd:P.underlying t=some d) (hk:kkT P t=some kk) {x y:AV} {v u:Value} {r c:Bool} (hx:RepA w F L x v) (hy:RepA w F L y u) (he:ZD kk x y=some r) (hs:Instr.sameNow d v u=some c):c=r:=by
 unfold kkT at hk
 rw[hd]at hk
 unfold Instr.sameNow at hs
 split at hs
 ·simp only[KJ,hd,jt,ji]at hk
  subst hk
  simp only[ZD]at he
  unfold eqF at he
  split at he<;>first|(cases he;done)|skip
  ·have e1:=UI hx;have e2:=UI hy;cases e1;cases e2
   split at hs<;>split at he<;>simp_all
  ·have e1:=dM hx;cases e1
  ·have e1:=SQ hx;cases e1
 ·simp only[KJ,hd,jt,ji]at hk
  subst hk
  simp only[ZD]at he
  unfold eqF at he
  split at he<;>first|(cases he;done)|skip
  ·have e1:=UI hx;cases e1
  ·have e1:=dM hx;cases e1
  ·have e1:=SQ hx;have e2:=SQ hy;cases e1;cases e2;simp_all
 ·simp only[KJ,hd,jt,ji]at hk
  subst hk
  simp only[ZD]at he
  unfold eqF at he
  split at he<;>first|(cases he;done)|skip
  ·have e1:=UI hx;cases e1
  ·have e1:=dM hx;have e2:=dM hy;cases e1;cases e2;simp_all
  ·have e1:=SQ hx;cases e1
 ·cases hs

theorem P3 {t:TypeId} {d:TypeDesc} {kk:KK} (hd:P.underlying t=some d) (hk:kkT P t=some kk) {x:AV} {v:Value} (hx:RepA w F L x v):∀{els:List (List AV)} {es:List MapEntry} {i:Nat} {r:Option AV} {q:Option (Nat×Value)},nK w F L els es→EP kk x els=some r→Instr.findNow d v es i=some q →
  (∀y,r=some y→∃j u,q=some (j,u)∧RepA w F L y u)∧(r=none→q=none)
 |[],[],i,r,q,_,h,hn=>by
   simp[EP]at h
   subst h
   simp[Instr.findNow]at hn
   subst hn
   exact⟨by simp,fun _=>rfl⟩
 |[],e::es,i,r,q,h,_,_=>h.elim
 |row::els,[],i,r,q,h,_,_=>h.elim
 |row::els,e::es,i,r,q,h,hf,hn=>by
   obtain⟨⟨y,u,rfl,h1,h2⟩,h3⟩:=h
   simp only[EP]at hf
   simp only[Instr.findNow]at hn
   split at hf
   ·rename_i hq
    cases hf
    split at hn
    ·cases hn;exact⟨fun y hy=>by cases hy;exact⟨_,_,rfl,h2⟩,by simp⟩
    ·rename_i hs;have:=IK hd hk hx h1 hq hs;cases this
    ·cases hn
   ·rename_i hq
    split at hn
    ·rename_i hs;have:=IK hd hk hx h1 hq hs;cases this
    ·exact P3 hd hk hx h3 hf hn
    ·cases hn
   ·cases hf

theorem G3 {t:TypeId} {kk:KK} (hk:kkT P t=some kk):∃d,P.underlying t=some d:=by
 unfold kkT at hk
 cases h:P.underlying t with
 |none=>rw[h]at hk;cases hk
 |some d=>exact⟨d,rfl⟩

theorem sP {t:TypeId} {kk:KK} (hk:kkT P t=some kk) {x:AV} {v:Value} (hx:RepA w F L x v) {els:List (List AV)} {es:List MapEntry} {r:Option AV} (h:nK w F L els es) (hf:EP kk x els=some r) :
  ∃q,(Instr.findKey t v es).run P w=.ok q w∧(∀y,r=some y→∃j u,q=some (j,u)∧RepA w F L y u)∧(r=none→q=none):=by
 obtain⟨d,hd⟩:=G3 hk
 obtain⟨q,g1,g2,g3⟩:=lQ hk hx (i:=0) h hf
 cases hn:Instr.findNow d v es 0 with
 |none=>exact⟨q,by simp[Instr.findKey,run_underlying hd,hn,g1],g2,g3⟩
 |some q' =>
   obtain⟨k1,k2⟩:=P3 hd hk hx h hf hn
   exact⟨q',by simp[Instr.findKey,run_underlying hd,hn],k1,k2⟩

theorem ZDY {t:TypeId} {z:AV} (hz:ZC9 P t=some z):∃u,(zeroValue t).run P w=.ok u w∧RepA w F L z u:=by
 unfold ZC9 at hz
 split at hz
 case h_2=>cases hz
 rename_i inf WW
 split at hz
 case h_2=>cases hz
 rename_i zz tX
 exact⟨zz,by simp[zeroValue,typeInfo,WW,tX],ZAz hz⟩

theorem ST (c:Bool) {y:AV} {u:Value} (k:Bool) (h:RepA w F L y u):RepA w F L (comma c y k) (if c then .tuple #[u,.bool k] else u):=by
 unfold comma
 cases c
 ·simpa using h
 ·simp only[if_true]
  exact GA.tup (GA.cons h (GA.cons (tW _) GA.nil))

theorem ZB5 (s:Sim F L (b++l) w) (he:FB w F L e a) {t kt el:TypeId} {kk:KK} {z:AV} {c:Bool} (ht:P.underlying t=some (.map kt el)) (hk:kkT P kt=some kk) (hz:ZC9 P el=some z)
  {m y:Operand} {m' y':Opd} (ho:o.op=.lookup t m y c) (hm:aA m=some m') (hy:aA y=some y') (h:aop e b l (.lookup kk z c m' y')=.val x b' l'):VB P o a w F L b l x b' l':=by
 have h1:=fA he hm
 have h2:=fA he hy
 simp only[aop,aC]at h
 generalize ev e m'=q at *
 generalize ev e y'=r at *
 generalize hv:a.eval m=vm at h1
 split at h
 case isFalse=>cases h
 rename_i qL
 have hck:∀em,(Instr.checkKey em 10000 kt (a.eval y)).run P w=.ok () w:=fun em=>CK (em:=em) (n:=9998) hk h2 qL
 obtain⟨u,hu,hru⟩:=ZDY (w:=w) (F:=F) (L:=L) hz
 split at h
 ·cases h
  obtain rfl:vm=.map none:=by cases h1.vI;rfl
  refine VB.pure s (v:=if c then .tuple #[u,.bool false] else u) ?_ (ST c false hru)
  have hfk:(Instr.findKey kt (a.eval y) []).run P w=.ok none w:=by
   obtain⟨q,g1,_,g3⟩:=sP hk h2 (els:=[]) (es:=[]) (r:=none) (w:=w) (F:=F) (L:=L) trivial rfl
   rw[g1,g3 rfl]
  simp[execOp,ho,Instr.lookup,run_underlying ht,hv,hck,hfk,hu]
 ·rename_i id ver
  split at h
  case h_2=>cases h
  rename_i v sz els hg
  split at h
  case isFalse=>cases h
  rename_i hve
  subst hve
  cases h1 with
  |mp _ _ blk hL =>
  rw[OC]at hg
  obtain⟨lc,g1,g2⟩:=s.row _ _ _ _ hg
  rw[hL]at g1;cases g1
  obtain⟨es,clk,g3,g4,g5⟩:=g2
  have ZCs:nK w F L els es.toList:=QY (by simpa using g4) (fun k row e hr he=>g5 k row e hr (by simpa using he))
  have G4:=CX (P:=P) g3
  have hck':=hck es.isEmpty
  split at h
  ·rename_i y1 hf
   cases h
   obtain⟨q,k1,k2,_⟩:=sP hk h2 ZCs hf
   obtain⟨j,u1,rfl,hu1⟩:=k2 _ rfl
   refine VB.pure s (v:=if c then .tuple #[u1,.bool true] else u1) ?_ (ST c true hu1)
   simp[execOp,ho,Instr.lookup,run_underlying ht,hv,G4,hck',k1]
  ·rename_i hf
   cases h
   obtain⟨q,k1,_,k3⟩:=sP hk h2 ZCs hf
   obtain rfl:=k3 rfl
   refine VB.pure s (v:=if c then .tuple #[u,.bool false] else u) ?_ (ST c false hru)
   simp[execOp,ho,Instr.lookup,run_underlying ht,hv,G4,hck',k1,hu]
  ·cases h
 ·cases h

theorem O3 {k:FK} {x y:AV} {v u:Value} (hx:RepA w F L x v) (hy:RepA w F L y u) (h:eqF k x y=some true):v=u∧∀n,Instr.sameBits n v v=true:=by
 unfold eqF at h
 split at h<;>first|(cases h;done)|skip
 ·split at h<;>simp at h
  rename_i hk
  subst hk;subst h
  rw[UI hx,UI hy]
  exact⟨rfl,fun n=>by cases n<;>simp[Instr.sameBits]⟩
 ·simp at h
  subst h
  rw[dM hx,dM hy]
  exact⟨rfl,fun n=>by cases n<;>simp[Instr.sameBits]⟩
 ·have h:=MT (by simpa using h)
  subst h
  rw[SQ hx,SQ hy]
  exact⟨rfl,fun n=>by cases n<;>simp[Instr.sameBits,TK]⟩
theorem Z4:∀{ks:List FK} {xs ys:List AV} {vs us:List Value},GA w F L xs vs→GA w F L ys us→eqC ks xs ys=some true→vs=us∧∀n,(vs.zip vs).all (fun p=>Instr.sameBits n p.1 p.2)=true
 |[],[],[],vs,us,hx,hy,h=>by
   have h1:vs=[]:=cq hx.1.symm
   have h2:us=[]:=cq hy.1.symm
   subst h1;subst h2
   exact⟨rfl,fun n=>rfl⟩
 |k::ks,x::xs,y::ys,vs,us,hx,hy,h=>by
   cases vs with
   |nil=>have:=hx.1;simp at this
   |cons v vs =>
   cases us with
   |nil=>have:=hy.1;simp at this
   |cons u us =>
   simp only[eqC]at h
   cases hq:eqF k x y with
   |none=>simp[hq,aG]at h
   |some r1 =>
     cases ET:eqC ks xs ys with
     |none=>simp[hq,ET,aG]at h
     |some r2 =>
       simp[hq,ET,aG]at h
       obtain⟨rfl,rfl⟩:=h
       have tl:∀{c:AV} {cs:List AV} {z:Value} {zs:List Value},GA w F L (c::cs) (z::zs)→GA w F L cs zs:=fun h=>⟨by simpa using h.1,fun i a v ha hv=>h.2 (i+1) a v (by simpa using ha) (by simpa using hv)⟩
       obtain⟨h1,h2⟩:=O3 (hx.2 0 _ _ rfl rfl) (hy.2 0 _ _ rfl rfl) hq
       obtain⟨h3,h4⟩:=Z4 (tl hx) (tl hy) ET
       exact⟨by rw[h1,h3],fun n=>by simp[h2 n];simpa using h4 n⟩
 |[],_::_,_,_,_,_,_,h=>by simp[eqC]at h
 |[],[],_::_,_,_,_,_,h=>by simp[eqC]at h
 |_::_,[],_,_,_,_,_,h=>by simp[eqC]at h
 |_::_,_::_,[],_,_,_,_,h=>by simp[eqC]at h
theorem D6 {kk:KK} {x y:AV} {v u:Value} (hx:RepA w F L x v) (hy:RepA w F L y u) (h:ZD kk x y=some true):v=u∧Instr.sameBits 10000 v v=true:=by
 unfold ZD at h
 split at h
 ·obtain⟨h1,h2⟩:=O3 hx hy h
  exact⟨h1,h2 _⟩
 ·obtain⟨vs,rfl,hl⟩:=hx.aggL
  obtain⟨us,rfl,cU⟩:=hy.aggL
  obtain⟨h1,h2⟩:=Z4 hl cU h
  have:vs=us:=gj.1 h1
  subst this
  refine⟨rfl,?_⟩
  unfold Instr.sameBits
  simp only[jk,ib]
  exact h2 9999
 ·cases h

theorem nK.snoc {x y:AV} {e1:MapEntry} (h1:RepA w F L x e1.key) (h2:RepA w F L y e1.val):∀{els:List (List AV)} {es:List MapEntry},nK w F L els es→nK w F L (els++[[x,y]]) (es++[e1])
 |[],[],_=>⟨⟨x,y,rfl,h1,h2⟩,trivial⟩
 |[],e::es,h=>h.elim
 |r::els,[],h=>h.elim
 |row::els,e::es,h=>⟨h.1,nK.snoc h1 h2 h.2⟩
theorem nK.setAt {x y:AV} {e1:MapEntry} (h1:RepA w F L x e1.key) (h2:RepA w F L y e1.val):∀{els:List (List AV)} {es:List MapEntry} {j:Nat},nK w F L els es→nK w F L (els.set j [x,y]) (es.set j e1)
 |[],[],_,_=>trivial
 |[],e::es,_,h=>h.elim
 |r::els,[],_,h=>h.elim
 |row::els,e::es,0,h=>⟨⟨x,y,rfl,h1,h2⟩,h.2⟩
 |row::els,e::es,j+1,h=>⟨h.1,nK.setAt h1 h2 h.2⟩

def UT (kk:KK) (x:AV):List (List AV)→Nat→Option (Option Nat)
 |[],_=>some none
 |[y,v]::r,i=>match ZD kk x y with
   |some true=>some (some i)
   |some false=>UT kk x r (i+1)
   |none=>none
 |_::_,_=>none
theorem ZAC {kk:KK} {x v:AV}:∀{els els':List (List AV)} (i:Nat),a9 kk x v els=some els'→∃r,UT kk x els i=some r∧((r=none∧els'=els++[[x,v]])∨∃j,r=some (i+j)∧els'=els.set j [x,v])
 |[],els',i,h=>by simp[a9]at h;subst h;exact⟨none,rfl,.inl ⟨rfl,rfl⟩⟩
 |[]::_,_,_,h=>by simp[a9]at h
 |[_]::_,_,_,h=>by simp[a9]at h
 |(_::_::_::_)::_,_,_,h=>by simp[a9]at h
 |[y,u]::els,els',i,h=>by
   simp only[a9]at h
   simp only[UT]
   cases hq:ZD kk x y with
   |none=>simp only[hq]at h;cases h
   |some c =>
     cases c with
     |true =>
       simp only[hq]at h⊢
       cases h
       exact⟨_,rfl,.inr ⟨0,rfl,rfl⟩⟩
     |false =>
       simp only[hq]at h⊢
       obtain⟨r,h1,rfl⟩:=YK h
       obtain⟨q,g1,g2⟩:=ZAC (i+1) h1
       refine⟨q,g1,?_⟩
       rcases g2 with ⟨rfl,rfl⟩|⟨j,rfl,rfl⟩
       ·exact .inl ⟨rfl,rfl⟩
       ·exact .inr ⟨j+1,by congr 1;omega,rfl⟩

theorem fS {t:TypeId} {kk:KK} (hk:kkT P t=some kk) {x:AV} {v:Value} (hx:RepA w F L x v):∀{els:List (List AV)} {es:List MapEntry} {i:Nat} {r:Option Nat},nK w F L els es→UT kk x els i=some r →
  ∃q,(Instr.findAsking t v es i).run P w=.ok q w∧(∀j,r=some j→∃u,q=some (j,u))∧(r=none→q=none)
 |[],[],i,r,_,h=>by
   simp[UT]at h
   subst h
   exact⟨none,rfl,by simp,fun _=>rfl⟩
 |[],e::es,i,r,h,_=>h.elim
 |row::els,[],i,r,h,_=>h.elim
 |row::els,e::es,i,r,h,hf=>by
   obtain⟨⟨y,u,rfl,h1,h2⟩,h3⟩:=h
   simp only[UT]at hf
   split at hf
   ·rename_i hq
    cases hf
    have:=XI hk hx h1 hq
    exact⟨some (i,e.val),by simp[Instr.findAsking,this],fun y hy=>by cases hy;exact⟨_,rfl⟩,by simp⟩
   ·rename_i hq
    have:=XI hk hx h1 hq
    obtain⟨q,g1,g2⟩:=fS hk hx (i:=i+1) h3 hf
    exact⟨q,by simp[Instr.findAsking,this,g1],g2⟩
   ·cases hf
theorem ZA8 {t:TypeId} {d:TypeDesc} {kk:KK} (hd:P.underlying t=some d) (hk:kkT P t=some kk) {x:AV} {v:Value} (hx:RepA w F L x v):∀{els:List (List AV)} {es:List MapEntry} {i:Nat} {r:Option Nat} {q:Option (Nat×Value)},nK w F L els es→UT kk x els i=some r→Instr.findNow d v es i=some q →
  (∀j,r=some j→∃u,q=some (j,u))∧(r=none→q=none)
 |[],[],i,r,q,_,h,hn=>by
   simp[UT]at h
   subst h
   simp[Instr.findNow]at hn
   subst hn
   exact⟨by simp,fun _=>rfl⟩
 |[],e::es,i,r,q,h,_,_=>h.elim
 |row::els,[],i,r,q,h,_,_=>h.elim
 |row::els,e::es,i,r,q,h,hf,hn=>by
   obtain⟨⟨y,u,rfl,h1,h2⟩,h3⟩:=h
   simp only[UT]at hf
   simp only[Instr.findNow]at hn
   split at hf
   ·rename_i hq
    cases hf
    split at hn
    ·cases hn;exact⟨fun y hy=>by cases hy;exact⟨_,rfl⟩,by simp⟩
    ·rename_i hs;have:=IK hd hk hx h1 hq hs;cases this
    ·cases hn
   ·rename_i hq
    split at hn
    ·rename_i hs;have:=IK hd hk hx h1 hq hs;cases this
    ·exact ZA8 hd hk hx h3 hf hn
    ·cases hn
   ·cases hf
theorem ZGp {t:TypeId} {kk:KK} (hk:kkT P t=some kk) {x:AV} {v:Value} (hx:RepA w F L x v) {els:List (List AV)} {es:List MapEntry} {r:Option Nat} (h:nK w F L els es) (hf:UT kk x els 0=some r) :
  ∃q,(Instr.findKey t v es).run P w=.ok q w∧(∀j,r=some j→∃u,q=some (j,u))∧(r=none→q=none):=by
 obtain⟨d,hd⟩:=G3 hk
 obtain⟨q,g1,g2,g3⟩:=fS hk hx (i:=0) h hf
 cases hn:Instr.findNow d v es 0 with
 |none=>exact⟨q,by simp[Instr.findKey,run_underlying hd,hn,g1],g2,g3⟩
 |some q' =>
   obtain⟨k1,k2⟩:=ZA8 hd hk hx h hf hn
   exact⟨q',by simp[Instr.findKey,run_underlying hd,hn],k1,k2⟩
theorem ZFL {kk:KK} {x:AV}:∀{els:List (List AV)} {es:List MapEntry} {i j:Nat},nK w F L els es→UT kk x els i=some (some j)→∃k e0 x0,j=i+k∧es[k]? = some e0∧RepA w F L x0 e0.key∧ZD kk x x0=some true
 |[],[],i,j,_,h=>by simp[UT]at h
 |[],e::es,i,j,h,_=>h.elim
 |row::els,[],i,j,h,_=>h.elim
 |row::els,e::es,i,j,h,hf=>by
   obtain⟨⟨y,u,rfl,h1,h2⟩,h3⟩:=h
   simp only[UT]at hf
   split at hf
   ·rename_i hq
    cases hf
    exact⟨0,e,y,rfl,rfl,h1,hq⟩
   ·obtain⟨k,e0,x0,g1,g2,g3⟩:=ZFL h3 hf
    exact⟨k+1,e0,x0,by omega,by simpa using g2,g3⟩
   ·cases hf

theorem K6 (s:Sim F L (b++l) w) (he:FB w F L e a) {t kt el:TypeId} {kk:KK} (ht:P.underlying t=some (.map kt el)) (hk:kkT P kt=some kk)
  {m y z:Operand} {m' y' z':Opd} (ho:o.op=.mapUpdate t m y z) (hm:aA m=some m') (hy:aA y=some y') (hz:aA z=some z') (h:aop e b l (.mupdate kk m' y' z')=.val x b' l'):VB P o a w F L b l x b' l':=by
 have h1:=fA he hm
 have h2:=fA he hy
 have h3:=fA he hz
 simp only[aop,MB]at h
 generalize ev e m'=q at *
 generalize ev e y'=r at *
 generalize ev e z'=z1 at *
 generalize hv:a.eval m=vm at h1
 split at h
 case isFalse=>cases h
 rename_i qL
 have hck:(Instr.checkKey false 10000 kt (a.eval y)).run P w=.ok () w:=CK (n:=9998) hk h2 qL
 split at h
 case h_2=>cases h
 rename_i id ver
 split at h
 case h_2=>cases h
 rename_i v sz els hg
 split at h
 case isFalse=>cases h
 rename_i hve
 subst hve
 split at h
 case h_2=>cases h
 rename_i els' hu
 cases h
 cases h1 with
 |mp _ _ blk hL =>
 rw[OC]at hg
 obtain⟨lc,g1,g2⟩:=s.row _ _ _ _ hg
 rw[hL]at g1;cases g1
 obtain⟨es,clk,g3,g4,g5⟩:=g2
 have ZCs:nK w F L els es.toList:=QY (by simpa using g4) (fun k row e hr he=>g5 k row e hr (by simpa using he))
 have G4:=CX (P:=P) g3
 have ON:blk<w.heap.size:=(bw.1 g3).1
 have hid:id<(b++l).length:=(am.1 hg).1
 obtain⟨r0,p1,p2⟩:=ZAC 0 hu
 obtain⟨q,k1,k2,k3⟩:=ZGp hk h2 ZCs p1
 obtain⟨es',clk',VD,hent'⟩:∃(es':Array MapEntry) (clk':Nat),(execOp a.eval o).run P w=.ok .skip {w with heap:=w.heap.setIfInBounds blk (.map es' clk')}∧nK w F L els' es'.toList:=by
  rcases p2 with ⟨rfl,rfl⟩|⟨j,rfl,rfl⟩
  ·obtain rfl:=k3 rfl
   refine⟨es.push {key:=a.eval y,val:=a.eval z,born:=clk},clk+1,?_,?_⟩
   ·simp[execOp,ho,Instr.mapUpdate,run_underlying ht,hv,G4,hck,k1,ZAG _ g3]
   ·rw[Array.toList_push]
    exact ZCs.snoc h2 h3
  ·obtain⟨u,rfl⟩:=k2 _ rfl
   obtain⟨k,e0,x0,hjk,he0,hx0,hq0⟩:=ZFL ZCs p1
   have hjk:j=k:=by omega
   subst hjk
   obtain⟨OH,aO⟩:=D6 h2 hx0 hq0
   have he0':es[j]? = some e0:=by simpa using he0
   refine⟨es.modify j (fun e=>{e with key:=a.eval y,val:=a.eval z}),clk,?_,?_⟩
   ·have hks:(Instr.keyThatStays e0.key (a.eval y)).run P w=.ok (a.eval y) w:=by
     rw[←OH]
     simp[Instr.keyThatStays,aO]
    simp[execOp,ho,Instr.mapUpdate,run_underlying ht,hv,G4,hck,k1,he0',hks,ZAG _ g3]
   ·have:(es.modify j (fun e=>{e with key:=a.eval y,val:=a.eval z})).toList=es.toList.set j {e0 with key:=a.eval y,val:=a.eval z}:=by
     have hj:j<es.size:=(bw.1 he0').1
     apply ea
     intro i
     rw[Array.getElem?_toList,Array.getElem?_modify,je]
     by_cases hi:j=i
     ·subst hi;simp[hj,(bw.1 he0').2]
     ·simp[hi]
    rw[this]
    exact ZCs.setAt h2 h3
 obtain⟨L',r1,r2,r3,r4⟩:=s.putLoc (h':=(b++l).set id (.live v sz els')) (w':={w with heap:=w.heap.setIfInBounds blk (.map es' clk')}) id v sz blk (.mp blk) els' (fun k hk=>hk.symm) rfl rfl rfl kS
  (fun k hk qG=>by simp[ip (Ne.symm qG)]) (.inr ⟨v,sz,els,.mp blk,hg,hL,rfl⟩) (ay hid) (fun j hj=>bl (Ne.symm hj))
  (fun r hr=>by rw[hg]at hr;cases hr;exact⟨ai _,_,_,_,rfl⟩) (.inr hL)
  (fun L' mono=>by
   obtain⟨q1,q2⟩:=hent'.to
   refine⟨es',clk',by simp[ON],by simpa using q1,fun k row e hr he=>?_⟩
   obtain⟨x1,y1,e1,e2,e3⟩:=q2 k row e hr (by simpa using he)
   exact⟨x1,y1,e1,mono _ _ e2,mono _ _ e3⟩)
 rw[←KE]at r1 r2
 exact⟨undef,_,L',.inr ⟨VD,rfl⟩,RepA.undef _ _ _,r1,r2,yF _ _ _⟩

theorem ZDr (s:Sim F L (b++l) w) {t:TypeId} {r:Option Operand} (ht:g9 (P.underlying t)=true) (hr:x9 r=true) (ho:o.op=.makeMap t r) (h:aop e b l .mkmap=.val x b' l'):VB P o a w F L b l x b' l':=by
 simp only[aop,mk]at h
 cases h
 have IB:(b++l).length=b.length+l.length:=by simp
 obtain⟨kt,el,hu⟩:∃kt el,P.underlying t=some (.map kt el):=by
  unfold g9 at ht
  split at ht
  ·rename_i h;exact⟨_,_,h⟩
  ·cases ht
 have VD:(execOp a.eval o).run P w=.ok (.value (.map (some w.heap.size))) (w.alloc (.map #[] 0)):=by
  unfold x9 at hr
  split at hr
  ·simp[execOp,ho,Instr.makeMap]
  ·simp[execOp,ho,Instr.makeMap,run_underlying hu,Act.eval,asInt,asIntOf]
  ·cases hr
 obtain⟨L',r1,r2,r3,r4⟩:=s.putLoc (h':=b++(l++[.live 0 0 []])) (w':=w.alloc (.map #[] 0)) (b.length+l.length) 0 0 w.heap.size (.mp w.heap.size) [] (fun k hk=>hk.symm) rfl rfl rfl (by show _≤(w.heap.push _).size;simp)
  (fun k hk _=>by show (w.heap.push _)[k]? = _;rw[kr,if_neg oM]) (.inl (ai _))
  (by rw[←bc,aq oM];simp)
  (fun j hj=>by
   rw[←bc]
   by_cases wG:j<(b++l).length
   ·rw[aw wG]
   ·rw[cg (by simp;omega),cg oM])
  (fun r hr=>by rw[cg oM]at hr;cases hr)
  (.inl (by
   cases hq:L (b.length+l.length) 0 with
   |none=>rfl
   |some q=>exact absurd (s.lt hq) oM))
  (fun L' mono=>⟨#[],0,by show (w.heap.push _)[w.heap.size]? = _;simp,rfl,by simp⟩)
 exact⟨_,_,L',.inl VD,.mp _ _ _ r3,r1,r2,rfl⟩

theorem ZGx (s:Sim F L (b++l) w) (he:FB w F L e a) {c:Call} {t kt el:TypeId} (ht:P.underlying t=some (.map kt el)) {y:Operand} {y':Opd} (hc:c.callee=.builtin .len) (ha:c.args.toList=[y]) (sX:c.argTypes.toList=[t]) (ho:o.op=.call c) (hy:aA y=some y')
  (h:aop e b l (.lenM y')=.val x b' l'):VB P o a w F L b l x b' l':=by
 have hr:=fA he hy
 simp only[aop]at h
 generalize ev e y'=q at *
 generalize hv:a.eval y=v at hr
 unfold sF at h
 split at h
 ·cases h
  obtain rfl:v=.map none:=by cases hr.vI;rfl
  refine VB.pure s (v:=goInt 0) ?_ (toN _ _)
  rw[CD ho hc ha sX]
  simp[invoke,builtin,hv,Builtin.len_,run_underlying ht]
 ·rename_i id ver
  split at h
  case h_2=>cases h
  rename_i v sz els hg
  split at h
  case isFalse=>cases h
  rename_i hve
  subst hve
  cases h
  cases hr with
  |mp _ _ blk hL =>
  rw[OC]at hg
  obtain⟨lc,g1,g2⟩:=s.row _ _ _ _ hg
  rw[hL]at g1;cases g1
  obtain⟨es,clk,g3,g4,g5⟩:=g2
  have G4:=CX (P:=P) g3
  refine VB.pure s (v:=goInt es.size) ?_ (by rw[g4];exact toN _ _)
  rw[CD ho hc ha sX]
  simp[invoke,builtin,hv,Builtin.len_,run_underlying ht,G4]
 ·cases h
end
theorem cfA {α:Type}:(Array.mk ([]:List α))=#[]:=rfl
theorem cfN (n:Nat):Int.negSucc n=-((n+1:Nat):Int):=rfl
structure CF (P:Program) (n:Nat) where
  c:AFunc
  h:qA P n=some c:=by
    conv=>lhs;(reduce;(try simp only[Int.ofNat_eq_natCast,Int.cast_ofNat_Int,Int.natCast_zero,Int.natCast_one,cfN,cfA,Nat.reduceAdd]))
end Go.Proofs.YtmaokjojbjdpoaaGreatDoor
