/- Texts of one proof, laid together: ZZ, W0, W1, W2, W3, W4, W5, W6, W7, W8, W9, WA, WX. No condition. -/
import Derived.KernelRfl
import Derived.Calls
import Derived.Orders
import Derived.Below
import Derived.Laws.AppendOwn
import Derived.Laws.OwnMore
import Derived.Laws.StructEq
import Derived.Laws.Slices
import Derived.Laws.Sem
import Derived.Lib.TrailingZeros
import Derived.Laws.Concat
import Derived.Laws.MakeOwn
import Derived.Laws.BytesString
set_option linter.unusedSimpArgs false
namespace Go.Proofs.YtadnnjchehjbiaaGreatDoor
abbrev aa:=@List.length_map
abbrev ae:=@List.getElem?_eq_getElem
abbrev ag:=@decide_eq_true
abbrev ah:=@Nat.le_refl
abbrev ai:=@List.getElem?_map
abbrev aj:=@List.getElem?_eq_some_iff
abbrev ak:=@decide_eq_false
abbrev am:=@List.length_append
abbrev an:=@Nat.zero_le
abbrev ap:=@List.getElem_mem
abbrev aq:=@List.getD_eq_getElem?_getD
abbrev ar:=@Bool.and_eq_true
abbrev au:=@List.getElem?_append_right
abbrev aw:=@List.getElem?_append_left
abbrev ay:=@List.append_assoc
abbrev ba:=@List.map_cons
abbrev bc:=@List.mem_range
abbrev bf:=@List.getElem?_set_self
abbrev bg:=@List.replicate_succ
abbrev bh:=@List.replicate_zero
abbrev bj:=@decide_eq_true_eq
abbrev bl:=@List.map_nil
abbrev bn:=@List.mem_append
abbrev bo:=@List.all_eq_true
abbrev bp:=@Array.getElem?_eq_some_iff
abbrev bq:=@List.getElem?_set_ne
abbrev br:=@Nat.zero_add
abbrev bs:=@Int.toNat_natCast
abbrev bu:=@List.length_take
abbrev bw:=@List.cons_append
abbrev bx:=@Bool.false_eq_true
abbrev ca:=@Nat.add_mul
abbrev cd:=@List.mem_of_getElem?
abbrev ce:=@List.getElem?_eq_none
abbrev cf:=@Array.size_append
abbrev cg:=@List.nil_append
abbrev ci:=@List.map_append
abbrev cj:=@List.append_nil
abbrev ck:=@List.length_cons
abbrev cm:=@Nat.add_zero
abbrev cn:=@Array.getElem?_append_left
abbrev co:=@Nat.add_sub_cancel_left
abbrev cq:=@Nat.lt_or_ge
abbrev cr:=@List.length_nil
abbrev ct:=@Nat.mul_le_mul_right
abbrev cu:=@List.eq_nil_of_length_eq_zero
abbrev cv:=@List.take_of_length_le
abbrev cw:=@List.getElem?_take
abbrev cz:=@List.set_cons_zero
abbrev da:=@Nat.add_assoc
abbrev db:=@List.getElem?_cons_succ
abbrev de:=@List.mem_map
abbrev dg:=@List.find?_eq_none
abbrev dh:=@List.getElem_of_mem
abbrev dj:=@List.set_cons_succ
abbrev dl:=@List.getElem?_drop
abbrev dn:=@Option.map_some
abbrev dp:=@List.drop_zero
abbrev dq:=@Bool.not_true
abbrev dr:=@List.mem_of_mem_take
abbrev dt:=@Bool.true_and
abbrev dw:=@beq_self_eq_true
abbrev dx:=@List.mem_cons
abbrev dy:=@List.getElem?_cons_zero
abbrev ea:=@List.all_cons
abbrev ec:=@List.length_set
abbrev ee:=@Nat.le_trans
abbrev eh:=@List.size_toArray
abbrev ek:=@List.ext_getElem?
abbrev eo:=@List.all_nil
abbrev ep:=@Bool.and_true
abbrev eq:=@List.take_zero
abbrev eu:=@Bool.not_false
abbrev ew:=@List.take_succ_cons
abbrev ey:=@List.mem_iff_getElem?
abbrev ez:=@Array.getElem?_append_right
abbrev fa:=@List.length_singleton
abbrev fc:=@beq_eq_false_iff_ne
abbrev fd:=@List.mem_of_mem_drop
abbrev fe:=@Bool.and_self
abbrev fg:=@List.getElem?_nil
abbrev fh:=@List.drop_succ_cons
abbrev fi:=@List.take_nil
abbrev fj:=@List.drop_nil
abbrev fk:=@Bool.true_beq
abbrev fo:=@Bool.false_beq
abbrev fp:=@List.length_drop
abbrev fq:=@Array.extract_size
abbrev ft:=@Array.size_extract
abbrev fu:=@Nat.lt_of_lt_of_le
abbrev fw:=@Array.getElem?_extract
abbrev fx:=@Option.some.inj
abbrev fy:=@of_decide_eq_true
abbrev fz:=@Nat.sub_self
abbrev ga:=@List.any_eq_true
abbrev gb:=@Nat.add_sub_cancel
abbrev ge:=@List.mem_of_find?_eq_some
abbrev gg:=@List.find?_some
abbrev gh:=@Array.length_toList
abbrev gi:=@Nat.sub_zero
abbrev gj:=@Array.toList_inj
abbrev gp:=@Option.getD_some
abbrev gq:=@List.take_append_drop
abbrev gr:=@Nat.not_lt_zero
abbrev gu:=@List.take_add_one
abbrev gv:=@Array.getElem?_eq_getElem
abbrev gx:=@List.map_take
abbrev gy:=@List.all_eq_false
abbrev gz:=@List.any_eq_false
abbrev hU:=@List.find?_append
abbrev ia:=@Nat.min_def
abbrev ib:=@Nat.min_self
abbrev ic:=@Array.toList_extract
abbrev ie:=@List.map_set
abbrev ig:=@List.range_succ
abbrev ii:=@Int.le_refl
abbrev ij:=@List.filter_append
abbrev ik:=@Array.replicate_succ
abbrev il:=@Array.replicate_zero
abbrev im:=@List.push_toArray
abbrev io:=@List.append_toArray
abbrev ip:=@Nat.zero_mul
abbrev iq:=@of_decide_eq_false
abbrev ir:=@Nat.add_comm
abbrev iu:=@List.getElem?_toArray
abbrev iw:=@Nat.mul_one
abbrev iy:=@Bool.or_eq_true
abbrev iz:=@List.Sublist.refl
abbrev ja:=@List.pairwise_append
abbrev jb:=@List.map_drop
abbrev jc:=@Nat.lt_succ_iff_lt_or_eq
abbrev jd:=@Bool.eq_iff_iff
abbrev je:=@Nat.sub_mul
abbrev jf:=@List.take_length
abbrev jg:=@List.mem_replicate
abbrev jh:=@Array.getElem?_setIfInBounds_ne
abbrev ji:=@Array.eq_empty_of_size_eq_zero
abbrev jk:=@Array.toArray_toList
abbrev jl:=@List.getElem?_replicate
abbrev jm:=@Nat.le_succ
abbrev jn:=@List.set_set
abbrev jo:=@List.nodup_append
abbrev jp:=@List.getElem?_set
abbrev jq:=@Nat.mod_lt
abbrev jr:=@Bool.false_or
abbrev jt:=@List.filter_cons
abbrev ju:=@List.not_mem_nil
abbrev jv:=@List.getElem?_range
abbrev jx:=@List.map_congr_left
abbrev jy:=@List.length_range
abbrev jz:=@Nat.lt_trichotomy
abbrev ka:=@Nat.succ_mul
abbrev kb:=@Bool.or_eq_false_iff
abbrev kc:=@Array.getElem?_setIfInBounds
abbrev ke:=@List.set_append_right
abbrev kg:=@Nat.eq_zero_or_pos
abbrev kh:=@Option.some.injEq
abbrev ki:=@List.Sublist.append
abbrev kj:=@List.nodup_cons
abbrev km:=@List.mem_filter
abbrev ko:=@List.append_of_mem
abbrev kp:=@Bool.true_or
abbrev kq:=@Nat.lt_succ_of_lt
abbrev kr:=@Nat.lt_succ_self
abbrev ku:=@Prod.mk.injEq
abbrev kw:=@List.flatMap_append
abbrev kx:=@List.range_add
abbrev ky:=@Bool.not_not
abbrev kz:=@Bool.not_eq_true
abbrev la:=@Bool.not_eq_true'
abbrev lf:=@List.map_id'
abbrev lh:=@List.take_succ_eq_append_getElem
abbrev li:=@List.map_toArray
abbrev lj:=@Array.getElem?_push
abbrev lk:=@List.foldl_cons
abbrev lm:=@List.extract_eq_take_drop
abbrev ln:=@Array.getElem?_eq_none
abbrev lq:=@List.length_replicate
abbrev lu:=@List.forIn_cons
abbrev lw:=@List.mem_cons_of_mem
abbrev lx:=@List.sublist_cons_self
abbrev ly:=@Array.size_setIfInBounds
abbrev lz:=@List.mem_flatMap
abbrev ma:=@List.ext_getElem
abbrev mb:=@List.drop_eq_nil_of_le
abbrev mc:=@List.range_succ_eq_map
abbrev md:=@List.isEmpty_iff
abbrev me:=@Int.fdiv_eq_ediv_of_nonneg
abbrev mf:=@decide_eq_false_iff_not
abbrev mh:=@List.forall_mem_cons
abbrev mi:=@List.getElem_map
abbrev mj:=@List.drop_eq_getElem_cons
abbrev ml:=@Array.mem_of_getElem?
abbrev mn:=@Array.getElem?_setIfInBounds_self_of_lt
theorem oM {p:Prop} (h:p:=by omega):p:=h
theorem aS {p:Prop} (h:p:=by assumption):p:=h
theorem kS {p:Prop} (h:p:=by simp):p:=h
theorem kE {p:Prop} (h:p:=by decide):p:=h
theorem kT {p:Prop} (h:p:=by simp;omega):p:=h
theorem kK {p:Prop} (h:p:=by kernel_rfl):p:=h
theorem kH {p:Prop} (h:p:=by (repeat' (first|exact trivial|refine And.intro ?_ ?_))<;>(first|rfl|(congr 2;omega))):p:=h
theorem kA {p:Prop} (h:p:=by (try (first|simp (disch:=decide) only[hA,aC,NI,IQ,hg4,hg5,hg6,go_sem]|simp (disch:=decide) only[hA,aC,NI,IQ,hg4,hg5,go_sem]|simp (disch:=decide) only[hA,aC,NI,IQ,hg4,go_sem]|simp (disch:=decide) only[hA,aC,NI,IQ,go_sem]|simp (disch:=decide) only[hA,aC,NI,go_sem]|simp (disch:=decide) only[hA,aC,go_sem]|simp (disch:=decide) only[hA,go_sem]))<;>exact kH):p:=h
theorem kR {p:Prop} (h:p:=by first|simp (disch:=first|decide|omega) only[resVs,resV,hA,aC,NI,IQ,hg4,hg5,hg6,go_sem]|simp (disch:=first|decide|omega) only[resVs,resV,hA,aC,NI,IQ,hg4,hg5,go_sem]|simp (disch:=first|decide|omega) only[resVs,resV,hA,aC,NI,IQ,hg4,go_sem]|simp (disch:=first|decide|omega) only[resVs,resV,hA,aC,NI,IQ,go_sem]|simp (disch:=first|decide|omega) only[resVs,resV,hA,aC,NI,go_sem]|simp (disch:=first|decide|omega) only[resVs,resV,hA,aC,go_sem]|simp (disch:=first|decide|omega) only[resVs,resV,hA,go_sem]):p:=h
theorem kM {p:Prop} (h:p:=by repeat (first|exact KLt.mono aS oM|refine KLt.up ?_ kL)):p:=h
theorem kQ {p:Prop} (h:p:=by repeat (first|with_reducible assumption|refine (kAny_up rfl).trans ?_|refine (kAny_sub aS (kIn_sub rfl)).trans ?_)):p:=h
set_option linter.unusedVariables false

inductive IV where
 |int (k:IntKind) (n:Int)
 |bool (b:Bool)
 |str (s:ByteArray)
 |zsl
 |isl (sz:Nat) (rows:List (List IV))
 |iptr (row:List IV) (j:Nat)
 |nilp
 |nilm
 |nilf
 |yl (l:Nat)

inductive AV where
 |any
 |v (x:IV)
 |agg (cs:List AV)
 |tup (cs:List AV)
 |sl (id ver off len:Nat)
 |ptr (id ver k j:Nat)
 |fn (f:Nat) (caps:List AV)
 |mp (id ver:Nat)

inductive Row where
 |live (ver sz:Nat) (els:List (List AV))
 |dead (ver:Nat)

def Row.ver:Row→Nat
 |.live v _ _=>v
 |.dead v=>v

inductive Loc where
 |nil
 |pl (blk off sz cap:Nat)
 |mp (blk:Nat)

def Loc.on:Loc→Nat→Prop
 |.nil,_=>False
 |.pl b _ _ _,k=>b=k
 |.mp b,k=>b=k

abbrev LMap:=Nat→Nat→Option Loc

def AV.cell:AV→Bool
 |.v _=>true
 |.sl .. => true
 |.ptr .. => true
 |.fn .. => true
 |.mp .. => true
 |_=>false

inductive RepI (w:World) (F:Nat→Prop):IV→Value→Prop where
 |int (k:IntKind) (n:Int):RepI w F (.int k n) (.int k n)
 |bool (b:Bool):RepI w F (.bool b) (.bool b)
 |str (s:ByteArray):RepI w F (.str s) (.string s)
 |zsl (a:Option Addr):RepI w F .zsl (.slice a 0 0)
 |isl0 (sz:Nat) (a:Option Addr) (c:Nat) (hm:c≤maxLen):RepI w F (.isl sz []) (.slice a 0 c)
 |isl (rows:List (List IV)) (b off sz c:Nat) (val:Nat→Nat→Value) (hF:F b) (hc:rows.length≤c) (hm:c≤maxLen)
   (NN:∀(k:Nat) (row:List IV),rows[k]? = some row→row.length=sz)
   (RG:∀(k:Nat) (row:List IV) (j:Nat) (a:IV),rows[k]? = some row→row[j]? = some a→w.cell? ⟨b,off+k*sz+j,none⟩=some (val k j))
   (rV:∀(k:Nat) (row:List IV) (j:Nat) (a:IV),rows[k]? = some row→row[j]? = some a→RepI w F a (val k j)):RepI w F (.isl sz rows) (.slice (some ⟨b,off,none⟩) rows.length c)
 |iptr (row:List IV) (j b off:Nat) (val:Nat→Value) (hF:F b)
   (RG:∀(j:Nat) (a:IV),row[j]? = some a→w.cell? ⟨b,off+j,none⟩=some (val j))
   (rV:∀(j:Nat) (a:IV),row[j]? = some a→RepI w F a (val j)):RepI w F (.iptr row j) (.pointer (some ⟨b,off+j,none⟩))
 |nilp:RepI w F .nilp (.pointer none)
 |nilm:RepI w F .nilm (.map none)
 |nilf:RepI w F .nilf .nilFunc
 |yl (l:Nat):RepI w F (.yl l) (.func (.yield l) #[] #[])

inductive RepA (w:World) (F:Nat→Prop) (L:LMap):AV→Value→Prop where
 |any (v:Value):RepA w F L .any v
 |v (x:IV) (v:Value) (h:RepI w F x v):RepA w F L (.v x) v
 |agg (cs:List AV) (vs:Array Value) (hl:cs.length=vs.size) (h:∀(i:Nat) (a:AV) (v:Value),cs[i]? = some a→vs[i]? = some v→RepA w F L a v):RepA w F L (.agg cs) (.agg vs)
 |tup (cs:List AV) (vs:Array Value) (hl:cs.length=vs.size) (h:∀(i:Nat) (a:AV) (v:Value),cs[i]? = some a→vs[i]? = some v→RepA w F L a v):RepA w F L (.tup cs) (.tuple vs)
 |sl (id ver off len b o sz cap:Nat) (hL:L id ver=some (.pl b o sz cap)) (h:off+len≤cap) (hm:cap≤maxLen):RepA w F L (.sl id ver off len) (.slice (some ⟨b,o+off*sz,none⟩) len (cap-off))
 |slz (id ver off b o sz cap x:Nat) (hL:L id ver=some (.pl b o sz cap)) (h:off=cap):RepA w F L (.sl id ver off 0) (.slice (some ⟨b,x,none⟩) 0 0)
 |sln (id ver:Nat) (ad:Option Addr) (hL:L id ver=some .nil):RepA w F L (.sl id ver 0 0) (.slice ad 0 0)
 |ptr (id ver k j b o sz cap:Nat) (hL:L id ver=some (.pl b o sz cap)):RepA w F L (.ptr id ver k j) (.pointer (some ⟨b,o+k*sz+j,none⟩))
 |fn (f:Nat) (cs:List AV) (vs:Array Value) (hl:cs.length=vs.size) (h:∀(i:Nat) (a:AV) (v:Value),cs[i]? = some a→vs[i]? = some v→RepA w F L a v):RepA w F L (.fn f cs) (.func (.func f) #[] vs)
 |mp (id ver b:Nat) (hL:L id ver=some (.mp b)):RepA w F L (.mp id ver) (.map (some b))

theorem RepI.mono {w w':World} {F F':Nat→Prop} {x:IV} {v:Value} (h:RepI w F x v) (hF:∀b,F b→F' b)
  (hw:∀b,F b→w'.heap[b]? = w.heap[b]?):RepI w' F' x v:=by
 induction h with
 |int k n=>exact .int k n
 |bool b=>exact .bool b
 |str s=>exact .str s
 |zsl a=>exact .zsl a
 |isl0 sz a c hm=>exact .isl0 sz a c hm
 |isl rows b off sz c val h1 h2 h3 h4 h5 h6 ih =>
   exact .isl rows b off sz c val (hF b h1) h2 h3 h4 (fun k row j a hk hj=>by rw[←h5 k row j a hk hj];exact World.cell?_of_block (hw b h1)) ih
 |iptr row j b off val h1 h2 h3 ih =>
   exact .iptr row j b off val (hF b h1) (fun j a hj=>by rw[←h2 j a hj];exact World.cell?_of_block (hw b h1)) ih
 |nilp=>exact .nilp
 |nilm=>exact .nilm
 |nilf=>exact .nilf
 |yl l=>exact .yl l

theorem RepA.mono {w w':World} {F F':Nat→Prop} {L L':LMap} {x:AV} {v:Value} (h:RepA w F L x v) (hF:∀b,F b→F' b)
  (hw:∀b,F b→w'.heap[b]? = w.heap[b]?) (hL:∀id ver l,L id ver=some l→L' id ver=some l):RepA w' F' L' x v:=by
 induction h with
 |any v=>exact .any v
 |v x v h=>exact .v x v (h.mono hF hw)
 |agg cs vs hl _ ih=>exact .agg cs vs hl ih
 |tup cs vs hl _ ih=>exact .tup cs vs hl ih
 |sl id ver off len b o sz cap h1 h2 h3=>exact .sl id ver off len b o sz cap (hL _ _ _ h1) h2 h3
 |slz id ver off b o sz cap x h1 h2=>exact .slz id ver off b o sz cap x (hL _ _ _ h1) h2
 |sln id ver ad h1=>exact .sln id ver ad (hL _ _ _ h1)
 |ptr id ver k j b o sz cap h1=>exact .ptr id ver k j b o sz cap (hL _ _ _ h1)
 |fn f cs vs hl _ ih=>exact .fn f cs vs hl ih
 |mp id ver b h1=>exact .mp id ver b (hL _ _ _ h1)

def OQ (w:World) (F:Nat→Prop) (L:LMap) (sz:Nat) (els:List (List AV)):Loc→Prop
 |.nil=>els=[]
 |.pl b o z cap=>z=sz∧els.length≤cap∧cap≤maxLen∧∃cur T,w.heap[b]? = some (.cells cur T (0,0))∧o+cap*sz≤cur.size ∧
   (∀(k:Nat) (row:List AV),els[k]? = some row→row.length=sz) ∧
   ∀(k:Nat) (row:List AV) (j:Nat) (a:AV),els[k]? = some row→row[j]? = some a→a.cell=true∧∃v,cur[o+k*sz+j]? = some v∧RepA w F L a v
 |.mp b=>∃es clk,w.heap[b]? = some (.map es clk)∧es.size=els.length∧∀(k:Nat) (row:List AV) (e:MapEntry),els[k]? = some row→es[k]? = some e→∃x y,row=[x,y]∧RepA w F L x e.key∧RepA w F L y e.val

theorem OQ.lt {w:World} {F:Nat→Prop} {L:LMap} {sz:Nat} {els:List (List AV)} {q:Loc} {b:Nat} (h:OQ w F L sz els q) (hb:q.on b):b<w.heap.size:=by
 cases q with
 |nil=>exact hb.elim
 |pl b' o z c =>
   cases hb
   obtain⟨_,_,_,cur,T,h4,_⟩:=h
   exact (bp.1 h4).1
 |mp b' =>
   cases hb
   obtain⟨es,clk,h4,_⟩:=h
   exact (bp.1 h4).1
theorem OQ.mono {w w':World} {F F':Nat→Prop} {L L':LMap} {sz:Nat} {els:List (List AV)} {q:Loc} (h:OQ w F L sz els q) (hw:∀b,q.on b→w'.heap[b]? = w.heap[b]?)
  (m:∀(x:AV) (v:Value),RepA w F L x v→RepA w' F' L' x v):OQ w' F' L' sz els q:=by
 cases q with
 |nil=>exact h
 |pl b o z c =>
   obtain⟨h1,h2,h3,cur,T,h4,h5,h6,h7⟩:=h
   refine⟨h1,h2,h3,cur,T,by rw[hw b rfl];exact h4,h5,h6,fun k row i a hk hi=>?_⟩
   obtain⟨h8,u,h9,h10⟩:=h7 k row i a hk hi
   exact⟨h8,u,h9,m _ _ h10⟩
 |mp b =>
   obtain⟨es,clk,h4,h5,h6⟩:=h
   refine⟨es,clk,by rw[hw b rfl];exact h4,h5,fun k row e hk he=>?_⟩
   obtain⟨x,y,h7,h8,h9⟩:=h6 k row e hk he
   exact⟨x,y,h7,m _ _ h8,m _ _ h9⟩

def gD (L:LMap) (h:List Row) (b:Nat):Prop:=∃id ver s els q,h[id]? = some (.live ver s els)∧L id ver=some q∧q.on b

def gtab:Option (Nat×List Nat):=none
def ZAo (w:World) (F:Nat→Prop):Prop:=∀g tab,gtab=some (g,tab)→F g∧∀j,j<tab.length→w.cell? ⟨g,j,none⟩=some (.int .u8 (tab.getD j 0))
theorem ZAo.mono {w w':World} {F F':Nat→Prop} (h:ZAo w F) (hF:∀b,F b→F' b) (hw:∀b,F b→w'.heap[b]? = w.heap[b]?):ZAo w' F':=by
 intro g tab e
 obtain⟨h1,h2⟩:=h g tab e
 exact⟨hF g h1,fun j hj=>by rw[←h2 j hj];exact World.cell?_of_block (hw g h1)⟩

structure Sim (F:Nat→Prop) (L:LMap) (h:List Row) (w:World):Prop where
 row:∀id ver sz els,h[id]? = some (.live ver sz els)→∃l,L id ver=some l∧OQ w F L sz els l
 born:∀id ver l,L id ver=some l→∃r,h[id]? = some r∧ver≤r.ver
 apart:∀id id' ver ver' s s' els els' b q q',h[id]? = some (.live ver s els)→h[id']? = some (.live ver' s' els') →
  L id ver=some q→L id' ver'=some q'→q.on b→q'.on b→id=id'
 imm:∀b,F b→b<w.heap.size∧¬gD L h b
 glob:ZAo w F

structure Step (nb:Nat) (F:Nat→Prop) (L:LMap) (h:List Row) (w:World) (F':Nat→Prop) (L':LMap) (h':List Row) (w':World):Prop where
 imm:∀b,F b→F' b
 loc:∀id ver l,id<nb→L id ver=some l→L' id ver=some l
 os:w'.os=w.os
 tape:w'.tape=w.tape
 output:w'.output=w.output
 size:w.heap.size≤w'.heap.size
 block:∀b,b<w.heap.size→¬gD L h b→w'.heap[b]? = w.heap[b]?
 own:∀b,b<w.heap.size→gD L' h' b→gD L h b
 base:∀(id:Nat),id<nb→∀(v:Nat),h[id]? = some (Row.dead v)→h'[id]? = some (Row.dead v)
 fnew:∀b,b<w.heap.size→F' b→F b∨gD L h b

theorem Step.refl (nb:Nat) (F:Nat→Prop) (L:LMap) (h:List Row) (w:World):Step nb F L h w F L h w:=
 ⟨fun _ h=>h,fun _ _ _ _ h=>h,rfl,rfl,rfl,ah _,fun _ _ _=>rfl,fun _ _ h=>h,fun _ _ _ h=>h,fun _ _ h=>.inl h⟩

theorem Step.trans {nb:Nat} {F F1 F2:Nat→Prop} {L L1 L2:LMap} {h h1 h2:List Row} {w w1 w2:World}
  (a:Step nb F L h w F1 L1 h1 w1) (b:Step nb F1 L1 h1 w1 F2 L2 h2 w2):Step nb F L h w F2 L2 h2 w2:=
 ⟨fun k hk=>b.imm k (a.imm k hk),fun id ver l hn hl=>b.loc id ver l hn (a.loc id ver l hn hl),b.os.trans a.os,b.tape.trans a.tape,b.output.trans a.output,
  ee a.size b.size,
  fun k hk ho=>(b.block k (fu hk a.size) (fun h=>ho (a.own k hk h))).trans (a.block k hk ho),
  fun k hk ho=>a.own k hk (b.own k (fu hk a.size) ho),fun id hn v hv=>b.base id hn v (a.base id hn v hv),fun k hk hf=>(b.fnew k (fu hk a.size) hf).elim (fun h=>a.fnew k hk h) (fun h=>.inr (a.own k hk h))⟩

theorem Step.weaken {nb nb':Nat} {F F1:Nat→Prop} {L L1:LMap} {h h1:List Row} {w w1:World}
  (a:Step nb F L h w F1 L1 h1 w1) (hn:nb'≤nb):Step nb' F L h w F1 L1 h1 w1:=
 ⟨a.imm,fun id ver l hi=>a.loc id ver l (fu hi hn),a.os,a.tape,a.output,a.size,a.block,a.own,fun id hi=>a.base id (fu hi hn),a.fnew⟩

def PC (w:World) (F:Nat→Prop) (L:LMap) (e:List AV) (a:Act):Prop:=
 a.defers=[]∧a.tmps.size=e.length∧∀(i:Nat) (x:AV) (v:Value),e[i]? = some x→a.tmps[i]? = some v→RepA w F L x v

theorem Sim.lt {F:Nat→Prop} {L:LMap} {h:List Row} {w:World} (s:Sim F L h w) {id ver:Nat} {l:Loc} (hl:L id ver=some l):id<h.length:=by
 obtain⟨r,hr,_⟩:=s.born id ver l hl
 exact (aj.1 hr).1

theorem PC.mono {w w':World} {F F':Nat→Prop} {L L':LMap} {e:List AV} {a:Act} (h:PC w F L e a) (hF:∀b,F b→F' b)
  (hw:∀b,F b→w'.heap[b]? = w.heap[b]?) (hL:∀id ver l,L id ver=some l→L' id ver=some l):PC w' F' L' e a:=
 ⟨h.1,h.2.1,fun i x v hx hv=>(h.2.2 i x v hx hv).mono hF hw hL⟩

theorem Step.immEq {nb:Nat} {F F1:Nat→Prop} {L L1:LMap} {h h1:List Row} {w w1:World} (a:Step nb F L h w F1 L1 h1 w1) (s:Sim F L h w) :
  ∀b,F b→w1.heap[b]? = w.heap[b]?:=fun b hb=>a.block b (s.imm b hb).1 (s.imm b hb).2

theorem Step.locAll {F F1:Nat→Prop} {L L1:LMap} {h h1:List Row} {w w1:World} (a:Step h.length F L h w F1 L1 h1 w1) (s:Sim F L h w) :
  ∀id ver l,L id ver=some l→L1 id ver=some l:=fun id ver l hl=>a.loc id ver l (s.lt hl) hl

theorem PC.step {w w':World} {F F':Nat→Prop} {L L':LMap} {h h':List Row} {e:List AV} {a:Act} (he:PC w F L e a) (s:Sim F L h w)
  (st:Step h.length F L h w F' L' h' w'):PC w' F' L' e a:=he.mono st.imm (st.immEq s) (st.locAll s)

theorem RepA.step {w w':World} {F F':Nat→Prop} {L L':LMap} {h h':List Row} {x:AV} {v:Value} (hx:RepA w F L x v) (s:Sim F L h w)
  (st:Step h.length F L h w F' L' h' w'):RepA w' F' L' x v:=hx.mono st.imm (st.immEq s) (st.locAll s)

def nth:List AV→Nat→AV
 |[],_=>.tup []
 |a::_,0=>a
 |_::l,n+1=>nth l n
def upd:List AV→Nat→AV→List AV
 |[],_,_=>[]
 |_::l,0,x=>x::l
 |a::l,n+1,x=>a::upd l n x

theorem LN (l:List AV) (n:Nat):nth l n=(l[n]?).getD (.tup []):=by
 induction l generalizing n with
 |nil=>simp[nth]
 |cons a l ih=>cases n with
   |zero=>simp[nth]
   |succ n=>simp[nth,ih]
theorem IJ (l:List AV) (n:Nat) (x:AV):upd l n x=l.set n x:=by
 induction l generalizing n with
 |nil=>simp[upd]
 |cons a l ih=>cases n with
   |zero=>simp[upd]
   |succ n=>simp[upd,ih]

theorem RepA.undef (w:World) (F:Nat→Prop) (L:LMap):RepA w F L (.tup []) undef:=.tup [] #[] rfl kS

theorem PC.nth {w:World} {F:Nat→Prop} {L:LMap} {e:List AV} {a:Act} (h:PC w F L e a) (n:Nat):RepA w F L (nth e n) (a.tmps.getD n Go.undef):=by
 rw[LN]
 rcases cq n e.length with hn|hn
 ·have hn':n<a.tmps.size:=by rw[h.2.1];exact hn
  rw[ae hn]
  have:=h.2.2 n e[n] a.tmps[n] (ae hn) (gv hn')
  simpa [Array.getD,hn'] using this
 ·have hn':¬n<a.tmps.size:=by rw[h.2.1];omega
  rw[ce hn]
  simp only[Array.getD,hn',dif_neg,not_false_eq_true,Option.getD_none]
  exact RepA.undef w F L

theorem PC.upd {w:World} {F:Nat→Prop} {L:LMap} {e:List AV} {a:Act} (h:PC w F L e a) (n:Nat) {x:AV} {v:Value} (hx:RepA w F L x v) :
  PC w F L (upd e n x) (a.put (some n) v):=by
 rw[IJ]
 refine⟨h.1,by simp[Act.put,h.2.1],fun i y u hy hu=>?_⟩
 simp only[Act.put]at hu
 by_cases hi:n=i
 ·subst hi
  rw[jp]at hy
  rw[kc]at hu
  simp only[if_true]at hy hu
  split at hy
  ·split at hu
   ·cases hy;cases hu;exact hx
   ·cases hu
  ·cases hy
 ·rw[bq hi]at hy
  rw[jh hi]at hu
  exact h.2.2 i y u hy hu

def put (e:List AV) (d:Option Nat) (x:AV):List AV:=
 match d with
 |some n=>upd e n x
 |none=>e

theorem PC.put {w:World} {F:Nat→Prop} {L:LMap} {e:List AV} {a:Act} (h:PC w F L e a) (d:Option Nat) {x:AV} {v:Value} (hx:RepA w F L x v) :
  PC w F L (put e d x) (a.put d v):=by
 cases d with
 |none=>exact h
 |some n=>exact h.upd n hx

def hget (b l:List Row) (id:Nat):Option Row:=if id<b.length then b[id]? else l[id-b.length]?

theorem MD (b l:List Row) (id:Nat):hget b l id=(b++l)[id]?:=by
 unfold hget
 split
 ·rename_i h;rw[aw h]
 ·rename_i h;rw[au oM]

def pE (b:List Row) (id:Nat) (r:Row):List Row:=if id<b.length then b.set id r else b
def IE (b l:List Row) (id:Nat) (r:Row):List Row:=if id<b.length then l else l.set (id-b.length) r

theorem bE (b l:List Row) (id:Nat) (r:Row):pE b id r++IE b l id r=(b++l).set id r:=by
 unfold pE IE
 split
 ·rename_i h;rw[List.set_append_left _ _ h]
 ·rename_i h;rw[ke _ _ oM]

theorem aF (b:List Row) (id:Nat) (r:Row):(pE b id r).length=b.length:=by unfold pE;split<;>simp


inductive Opd where
 |t (n:Nat)
 |c (x:AV)

inductive FK where
 |i
 |b
 |s

inductive KK where
 |one (k:FK)
 |many (ks:List FK)

inductive AOp where
 |mv (x:Opd)
 |nilck (x:Opd)
 |pick (c a b:Opd)
 |bin (o:BinOp) (x y:Opd)
 |binB (o:BinOp) (x y:Opd)
 |binS (o:BinOp) (x y:Opd)
 |eqs (neg:Bool) (ks:List FK) (x y:Opd)
 |not (x:Opd)
 |neg (x:Opd)
 |conv (k:IntKind) (x:Opd)
 |alloc (zs:List AV)
 |box (x:Opd)
 |build (zs:List AV) (ps:List (Nat×Nat×Opd))
 |bslice (sz:Nat) (zs:List AV) (len:Nat) (ps:List (Nat×Opd))
 |islb (sz:Nat) (zs:List AV) (len:Nat) (ps:List (Nat×Opd))
 |load (n:Option Nat) (x:Opd)
 |store (n:Nat) (x y:Opd)
 |faddr (d:Nat) (x:Opd)
 |iaddr (sz:Nat) (x i:Opd)
 |iaddrA (len sz:Nat) (x i:Opd)
 |field (off:Nat) (n:Option Nat) (x:Opd)
 |indexS (x i:Opd)
 |indexA (len sz:Nat) (n:Option Nat) (x i:Opd)
 |slice (sz:Nat) (x:Opd) (lo hi:Option Opd)
 |slice0 (x:Opd)
 |sliceS (x:Opd) (lo hi:Option Opd)
 |len (x:Opd)
 |lenS (x:Opd)
 |append (sz bytes:Nat) (s x:Opd)
 |mkslice (sz:Nat) (zs:List AV) (bytes:Nat) (l c:Opd)
 |mkfn (f:Nat) (caps:List Opd)
 |extract (i:Nat) (x:Opd)
 |call (f:Opd) (args:List Opd)
 |mm (isMax:Bool) (x y:Opd)
 |copy (sz:Nat) (x y:Opd)
 |isnil (neg:Bool) (x:Opd)
 |mkmap
 |lookup (kk:KK) (zero:AV) (comma:Bool) (m x:Opd)
 |mupdate (kk:KK) (m x y:Opd)
 |lenM (x:Opd)
 |tostr (x:Opd)
 |capz (x:Opd)
 |appz (sz bytes:Nat) (zs:List AV) (s n:Opd)

structure AOper where
 dst:Option Nat
 op:AOp
 guard:Option (Nat×Bool)

structure DOper where
 i:Nat
 o:AOper
 re:List AOper

inductive ACode where
 |skip
 |region (ops:List AOper)
 |draw (ds:List DOper)
 |both (a b:ACode)
 |seq (a b:ACode)
 |cond (c:Opd) (x y:ACode)
 |block (id:Nat) (c:ACode)
 |loop (c:ACode)
 |exit (id:Nat)
 |ret

inductive AExit where
 |normal
 |exit (id:Nat)
 |ret

inductive ARes where
 |tmp (t:Nat)
 |cell (t:Nat) (n:Option Nat)

structure AFunc where
 nargs:Nat
 ntmps:Nat
 res:List ARes
 body:ACode

abbrev oA (a b : Nat) (g : Option (Nat×Bool):=none):AOper:=⟨some a, .mv (.t b), g⟩
abbrev oB (a b c : Nat) (g : Option (Nat×Bool):=none):AOper:=⟨some a, .faddr b (.t c), g⟩
abbrev oC (a b : Nat) (g : Option (Nat×Bool):=none):AOper:=⟨some a, .load none (.t b), g⟩
abbrev oD (a b c : Nat) (g : Option (Nat×Bool):=none):AOper:=⟨some a, .bin .neq (.t b) (.t c), g⟩
abbrev oE (a b c d : Nat) (g : Option (Nat×Bool):=none):AOper:=⟨some a, .iaddr b (.t c) (.t d), g⟩
abbrev oF (a b : Nat) (g : Option (Nat×Bool):=none):AOper:=⟨some a, .len (.t b), g⟩
def AOp.quiet:AOp→Bool
 |.alloc _=>false
 |.box _=>false
 |.bslice .. => false
 |.store .. => false
 |.append .. => false
 |.appz .. => false
 |.mkslice .. => false
 |.call .. => false
 |.copy .. => false
 |.isnil .. => false
 |.mkmap=>false
 |.mupdate .. => false
 |_=>true

def AOp.isAlloc:AOp→Bool
 |.alloc _=>true
 |_=>false

def Opd.slot:Opd→List Nat
 |.t n=>[n]
 |.c _=>[]
def rJ:List Opd→List Nat
 |[]=>[]
 |x::xs=>x.slot++rJ xs
def BZ:Option Opd→List Nat
 |some x=>x.slot
 |none=>[]
def AOp.looks:AOp→List Nat
 |.mv x=>x.slot
 |.nilck x=>x.slot
 |.pick c x y=>c.slot++x.slot++y.slot
 |.bin _ x y=>x.slot++y.slot
 |.binB _ x y=>x.slot++y.slot
 |.binS _ x y=>x.slot++y.slot
 |.eqs _ _ x y=>x.slot++y.slot
 |.not x=>x.slot
 |.neg x=>x.slot
 |.conv _ x=>x.slot
 |.alloc _=>[]
 |.box x=>x.slot
 |.build _ ps=>rJ (ps.map (·.2.2))
 |.bslice _ _ _ ps=>rJ (ps.map (·.2))
 |.islb _ _ _ ps=>rJ (ps.map (·.2))
 |.load _ x=>x.slot
 |.store _ x y=>x.slot++y.slot
 |.faddr _ x=>x.slot
 |.iaddr _ x y=>x.slot++y.slot
 |.iaddrA _ _ x y=>x.slot++y.slot
 |.field _ _ x=>x.slot
 |.indexS x y=>x.slot++y.slot
 |.indexA _ _ _ x y=>x.slot++y.slot
 |.slice _ x lo hi=>x.slot++BZ lo++BZ hi
 |.slice0 x=>x.slot
 |.sliceS x lo hi=>x.slot++BZ lo++BZ hi
 |.len x=>x.slot
 |.lenS x=>x.slot
 |.append _ _ x y=>x.slot++y.slot
 |.mkslice _ _ _ x y=>x.slot++y.slot
 |.mkfn _ cs=>rJ cs
 |.extract _ x=>x.slot
 |.call f az=>f.slot++rJ az
 |.mm _ x y=>x.slot++y.slot
 |.copy _ x y=>x.slot++y.slot
 |.isnil _ x=>x.slot
 |.mkmap=>[]
 |.lookup _ _ _ m x=>m.slot++x.slot
 |.mupdate _ m x y=>m.slot++x.slot++y.slot
 |.lenM x=>x.slot
 |.tostr x=>x.slot
 |.capz x=>x.slot
 |.appz _ _ _ x y=>x.slot++y.slot
def AOper.looks (o:AOper):List Nat:=o.op.looks++(match o.guard with
 |some (g,_)=>[g]
 |none=>[])

def ev (e:List AV):Opd→AV
 |.t n=>nth e n
 |.c x=>x
def evs (e:List AV):List Opd→List AV
 |[]=>[]
 |x::xs=>ev e x::evs e xs

inductive OpR where
 |val (x:AV) (b l:List Row)
 |two (c:Bool) (x y:AV)
 |call (f:Nat) (args:List AV)
 |bad

def DD (o:BinOp) (k:IntKind) (a b:Int):Option IV:=
 match o with
 |.add=>some (.int k (k.wrap (a+b)))
 |.sub=>some (.int k (k.wrap (a-b)))
 |.mul=>some (.int k (k.wrap (a*b)))
 |.quo=>if b=0 then none else some (.int k (k.wrap (a.tdiv b)))
 |.rem=>if b=0 then none else some (.int k (a.tmod b))
 |.and=>some (.int k (k.wrap ((BitVec.ofInt k.bits a &&& BitVec.ofInt k.bits b).toNat)))
 |.or=>some (.int k (k.wrap ((BitVec.ofInt k.bits a ||| BitVec.ofInt k.bits b).toNat)))
 |.xor=>some (.int k (k.wrap ((BitVec.ofInt k.bits a ^^^ BitVec.ofInt k.bits b).toNat)))
 |.andNot=>some (.int k (k.wrap ((BitVec.ofInt k.bits a &&& ~~~(BitVec.ofInt k.bits b)).toNat)))
 |.eql=>some (.bool (a==b))
 |.neq=>some (.bool (a != b))
 |.lss=>some (.bool (decide (a<b)))
 |.leq=>some (.bool (decide (a≤b)))
 |.gtr=>some (.bool (decide (a>b)))
 |.geq=>some (.bool (decide (a≥b)))
 |.shl=>none
 |.shr=>none

def RF (o:BinOp) (k:IntKind) (a b:Int):Option IV:=
 if b<0 then none else
 match o with
 |.shl=>some (.int k (k.wrap (a*2 ^ (min b.toNat k.bits))))
 |.shr=>some (.int k (a.fdiv (2 ^ (min b.toNat k.bits))))
 |_=>none

def SF:BinOp→Bool
 |.shl=>true
 |.shr=>true
 |_=>false

def GD (o:BinOp) (a b:ByteArray):Option IV:=
 match o with
 |.add=>if a.size+b.size≤9223372036854775807 then some (.str (a++b)) else none
 |.eql=>some (.bool (a==b))
 |.neq=>some (.bool (!(a==b)))
 |.lss=>some (.bool (Op.bytesLess a.toList b.toList))
 |.geq=>some (.bool (!(Op.bytesLess a.toList b.toList)))
 |_=>none

def eC (o:BinOp) (a b:Bool):Option IV:=
 match o with
 |.eql=>some (.bool (a==b))
 |.neq=>some (.bool (!(a==b)))
 |_=>none

def QG (o:BinOp):AV→AV→Option IV
 |.v (.int k a),.v (.int k' b)=>if SF o=true then RF o k a b else if k=k' then DD o k a b else none
 |_,_=>none
def QE (o:BinOp):AV→AV→Option IV
 |.v (.bool a),.v (.bool b)=>eC o a b
 |_,_=>none
def ZE (o:BinOp):AV→AV→Option IV
 |.v (.str a),.v (.str b)=>GD o a b
 |_,_=>none

def DE:Option Bool→Option Bool→Option Bool
 |some r,some s=>some (r&&s)
 |_,_=>none

def eqF:FK→AV→AV→Option Bool
 |.i,.v (.int k a),.v (.int k' b)=>if k=k' then some (a==b) else none
 |.b,.v (.bool a),.v (.bool b)=>some (a==b)
 |.s,.v (.str a),.v (.str b)=>some (a==b)
 |_,_,_=>none

def eqC:List FK→List AV→List AV→Option Bool
 |[],[],[]=>some true
 |k::ks,x::xs,y::ys=>DE (eqF k x y) (eqC ks xs ys)
 |_,_,_=>none

def nC:KK→AV→AV→Option Bool
 |.one k,x,y=>eqF k x y
 |.many ks,.agg xs,.agg ys=>eqC ks xs ys
 |_,_,_=>none
def RP (kk:KK) (x:AV):List (List AV)→Option (Option AV)
 |[]=>some none
 |[y,v]::r=>match nC kk x y with
   |some true=>some (some v)
   |some false=>RP kk x r
   |none=>none
 |_::_=>none
def J6 (kk:KK) (x v:AV):List (List AV)→Option (List (List AV))
 |[]=>some [[x,v]]
 |[y,u]::r=>match nC kk x y with
   |some true=>some ([x,v]::r)
   |some false=>(J6 kk x v r).map ([y,u]::·)
   |none=>none
 |_::_=>none

def cellsOf:AV→Option (List AV)
 |.v x=>some [.v x]
 |.agg cs=>some cs
 |.sl a b c d=>some [.sl a b c d]
 |.ptr a b c d=>some [.ptr a b c d]
 |.fn f cs=>some [.fn f cs]
 |.mp a b=>some [.mp a b]
 |_=>none

def JB (row:List AV) (j:Nat):List AV→List AV
 |[]=>row
 |c::cs=>JB (row.set j c) (j+1) cs

def yD (e:List AV) (row:List AV):List (Nat×Nat×Opd)→Option (List AV)
 |[]=>some row
 |(off,size,x)::ps =>
   match cellsOf (ev e x) with
   |some cs=>if cs.length=size∧off+size≤row.length then yD e (JB row off cs) ps else none
   |none=>none

def KD (e:List AV) (sz:Nat) (els:List (List AV)):List (Nat×Opd)→Option (List (List AV))
 |[]=>some els
 |(i,x)::ps =>
   match cellsOf (ev e x) with
   |some cs=>if cs.length=sz∧i<els.length∧cs.all AV.cell=true then KD e sz (els.set i cs) ps else none
   |none=>none

def dF:List AV→Option (List IV)
 |[]=>some []
 |.v x::r=>match dF r with
   |some ys=>some (x::ys)
   |none=>none
 |_::_=>none
def ID:List (List AV)→Option (List (List IV))
 |[]=>some []
 |r::rs=>match dF r,ID rs with
   |some x,some xs=>some (x::xs)
   |_,_=>none

def rd (row:List AV) (j:Nat):Option Nat→Option AV
 |none=>row[j]?
 |some n=>if j+n≤row.length then some (.agg ((row.drop j).take n)) else none
def rdI (row:List IV) (j:Nat):Option Nat→Option AV
 |none=>(row[j]?).map .v
 |some n=>if j+n≤row.length then some (.agg (((row.drop j).take n).map .v)) else none

def UJ (x:Option AV) (b l:List Row):OpR:=
 match x with
 |some x=>.val x b l
 |none=>.bad

def wD (b l:List Row) (sz:Nat):AV→Option (List (List AV))
 |.v .zsl=>some []
 |.v (.isl s rows)=>if s=sz then some (rows.map (·.map .v)) else none
 |.sl id ver off len =>
   match hget b l id with
   |some (.live v s els)=>if v=ver∧s=sz∧off+len≤els.length then some ((els.drop off).take len) else none
   |_=>none
 |.v (.str s)=>if sz=1 then some (s.data.toList.map fun c=>[.v (.int .u8 c.toNat)]) else none
 |_=>none

def mk (b l:List Row) (sz:Nat) (els:List (List AV)) (x:Nat→AV):OpR:=.val (x (b.length+l.length)) b (l++[.live 0 sz els])

def iC (n:Nat) (lo hi:Option AV):Option (Nat×Nat):=
 match lo,hi with
 |none,none=>some (0,n)
 |some (.v (.int _ a)),none=>if 0≤a∧a≤(n:Int) then some (a.toNat,n) else none
 |none,some (.v (.int _ c))=>if 0≤c∧c≤(n:Int) then some (0,c.toNat) else none
 |some (.v (.int _ a)),some (.v (.int _ c))=>if 0≤a∧a≤c∧c≤(n:Int) then some (a.toNat,c.toNat) else none
 |_,_=>none

def room:Nat:=140737488355328

def rC (b l:List Row) (sz:Nat) (x:AV) (lo hi:Option AV):OpR:=
 match x with
 |.v .zsl=>match iC 0 lo hi with
   |some _=>.val (.v .zsl) b l
   |none=>.bad
 |.v (.isl s rows) =>
   if s=sz then match iC rows.length lo hi with
    |some (p,q)=>.val (.v (.isl s ((rows.take q).drop p))) b l
    |none=>.bad
   else .bad
 |.sl id ver off len =>
   match hget b l id with
   |some (.live v s els)=>if v=ver∧s=sz then match iC len lo hi with
     |some (p,q)=>.val (.sl id ver (off+p) (q-p)) b l
     |none=>.bad
    else .bad
   |_=>.bad
 |_=>.bad

def SB (b l:List Row) (sz bytes:Nat) (s x:AV):OpR:=
 match wD b l sz x with
 |none=>.bad
 |some xs =>
   match s with
   |.v .zsl=>if xs=[] then .val (.v .zsl) b l else if xs.length*bytes≤room∧xs.length≤room then mk b l sz xs (fun i=>.sl i 0 0 xs.length) else .bad
   |.sl id ver off len =>
     match hget b l id with
     |some (.live v s' els) =>
       if v=ver∧s'=sz∧off+len≤els.length∧(len+xs.length)*bytes≤room∧len+xs.length≤room then
        .val (.sl id (ver+1) 0 (len+xs.length)) (pE b id (.live (ver+1) sz ((els.drop off).take len++xs))) (IE b l id (.live (ver+1) sz ((els.drop off).take len++xs)))
       else .bad
     |_=>.bad
   |_=>.bad

def ED (b l:List Row) (sz bytes:Nat) (zs:List AV) (s n:AV):OpR:=
 match s,n with
 |.v .zsl,.v (.int .i64 n)=>if n=0 then .val (.v .zsl) b l else if 0<n∧n.toNat*bytes≤room∧n.toNat≤room then mk b l sz (List.replicate n.toNat zs) (fun i=>.sl i 0 0 n.toNat) else .bad
 |_,_=>.bad

def sD (b l:List Row) (n:Option Nat):AV→OpR
 |.v (.iptr row j)=>UJ (rdI row j n) b l
 |.ptr id ver k j =>
   match hget b l id with
   |some (.live v _ els)=>if v=ver then match els[k]? with
     |some row=>UJ (rd row j n) b l
     |none=>.bad
    else .bad
   |_=>.bad
 |_=>.bad

def pC (b l:List Row) (n:Nat) (x y:AV):OpR:=
 match x,cellsOf y with
 |.ptr id ver k j,some cs =>
   match hget b l id with
   |some (.live v s els)=>if v=ver∧cs.length=n∧cs.all AV.cell=true then match els[k]? with
     |some row=>if j+n≤row.length then .val (.tup []) (pE b id (.live ver s (els.set k (JB row j cs)))) (IE b l id (.live ver s (els.set k (JB row j cs)))) else .bad
     |none=>.bad
    else .bad
   |_=>.bad
 |_,_=>.bad

def sC (b l:List Row) (sz:Nat) (x i:AV):OpR:=
 match x,i with
 |.v (.isl s rows),.v (.int _ n)=>if s=sz∧0≤n then match rows[n.toNat]? with
   |some row=>.val (.v (.iptr row 0)) b l
   |none=>.bad
  else .bad
 |.sl id ver off len,.v (.int _ n)=>match hget b l id with
   |some (.live v s els)=>if v=ver∧s=sz∧0≤n∧n<(len:Int) then .val (.ptr id ver (off+n.toNat) 0) b l else .bad
   |_=>.bad
 |_,_=>.bad

def DB (b l:List Row) (len sz:Nat) (x i:AV):OpR:=
 match x,i with
 |.v (.iptr row j),.v (.int _ n)=>if 0≤n∧n<(len:Int) then .val (.v (.iptr row (j+n.toNat*sz))) b l else .bad
 |.ptr id ver k j,.v (.int _ n)=>if 0≤n∧n<(len:Int) then .val (.ptr id ver k (j+n.toNat*sz)) b l else .bad
 |_,_=>.bad

def tC (b l:List Row) (d:Nat):AV→OpR
 |.v (.iptr row j)=>.val (.v (.iptr row (j+d))) b l
 |.ptr id ver k j=>.val (.ptr id ver k (j+d)) b l
 |_=>.bad

def YE:AV→Option AV
 |.v (.str s)=>some (.v (.int .i64 s.size))
 |_=>none
def YG:AV→Option AV
 |.v .zsl=>some (.v (.int .i64 0))
 |.v (.isl _ rows)=>some (.v (.int .i64 rows.length))
 |.sl _ _ _ n=>some (.v (.int .i64 n))
 |_=>none

def LD (b l:List Row) (sz:Nat) (x y:AV):OpR:=
 match wD b l sz y with
 |none=>.bad
 |some xs =>
   match x with
   |.sl id ver off len =>
     match hget b l id with
     |some (.live v s els) =>
       if v=ver∧s=sz∧off+len≤els.length then
        .val (.v (.int .i64 ((min xs.length len:Nat):Int))) (pE b id (.live ver s (els.take off++xs.take len++els.drop (off+min xs.length len)))) (IE b l id (.live ver s (els.take off++xs.take len++els.drop (off+min xs.length len))))
       else .bad
     |_=>.bad
   |_=>.bad

def comma (c:Bool) (v:AV) (ok:Bool):AV:=if c then .tup [v,.v (.bool ok)] else v
def IB (b l:List Row) (kk:KK) (zero:AV) (c:Bool) (m x:AV):OpR:=
 if nC kk x x=some true then match m with
  |.v .nilm=>.val (comma c zero false) b l
  |.mp id ver=>match hget b l id with
    |some (.live v _ els)=>if v=ver then match RP kk x els with
      |some (some y)=>.val (comma c y true) b l
      |some none=>.val (comma c zero false) b l
      |none=>.bad
     else .bad
    |_=>.bad
  |_=>.bad
 else .bad
def QB (b l:List Row) (kk:KK) (m x y:AV):OpR:=
 if nC kk x x=some true then match m with
  |.mp id ver=>match hget b l id with
    |some (.live v s els)=>if v=ver then match J6 kk x y els with
      |some els'=>.val (.tup []) (pE b id (.live ver s els')) (IE b l id (.live ver s els'))
      |none=>.bad
     else .bad
    |_=>.bad
  |_=>.bad
 else .bad
def jT:List (List AV)→Option (List Int)
 |[]=>some []
 |[.v (.int .u8 n)]::rs=>(jT rs).map (n::·)
 |_=>none
def CZ (ns:List Int):ByteArray:=⟨(ns.map fun n=>UInt8.ofNat n.toNat).toArray⟩
def dC (b l:List Row) (x:AV):OpR:=
 match x with
 |.v (.str _)=>.bad
 |x=>match wD b l 1 x with
   |some xs=>match jT xs with
     |some ns=>.val (.v (.str (CZ ns))) b l
     |none=>.bad
   |none=>.bad
def SD (b l:List Row):AV→OpR
 |.v .nilm=>.val (.v (.int .i64 0)) b l
 |.mp id ver=>match hget b l id with
   |some (.live v _ els)=>if v=ver then .val (.v (.int .i64 els.length)) b l else .bad
   |_=>.bad
 |_=>.bad

def amm (isMax:Bool):AV→AV→Option AV
 |.v (.int k x),.v (.int _ y)=>some (.v (.int k (if isMax then (if y>x then y else x) else (if y<x then y else x))))
 |_,_=>none

def evo (e:List AV):Option Opd→Option AV
 |some x=>some (ev e x)
 |none=>none

def tD:AV→List AV→OpR
 |.fn f caps,args=>.call f (args++caps)
 |_,_=>.bad

def XE:AV→AV→AV→Option AV
 |.v (.bool t),.v (.bool a),.v (.bool c)=>some (.v (.bool (if t then a else c)))
 |.v (.bool t),a,c=>some (if t then a else c)
 |_,_,_=>none

def aop (e:List AV) (b l:List Row):AOp→OpR
 |.mv x=>.val (ev e x) b l
 |.nilck x=>match ev e x with
   |.v (.iptr row j)=>.val (.v (.iptr row j)) b l
   |.ptr id ver k j=>.val (.ptr id ver k j) b l
   |.fn f cs=>.val (.fn f cs) b l
   |_=>.bad
 |.pick c x y=>UJ (XE (ev e c) (ev e x) (ev e y)) b l
 |.bin o x y=>UJ ((QG o (ev e x) (ev e y)).map .v) b l
 |.binB o x y=>UJ ((QE o (ev e x) (ev e y)).map .v) b l
 |.binS o x y=>UJ ((ZE o (ev e x) (ev e y)).map .v) b l
 |.eqs neg ks x y=>match ev e x,ev e y with
   |.agg xs,.agg ys=>match eqC ks xs ys with
     |some t=>.val (.v (.bool (if neg then !t else t))) b l
     |none=>.bad
   |_,_=>.bad
 |.not x=>match ev e x with
   |.v (.bool t)=>.val (.v (.bool (!t))) b l
   |_=>.bad
 |.neg x=>match ev e x with
   |.v (.int k n)=>.val (.v (.int k (k.wrap (0-n)))) b l
   |_=>.bad
 |.conv k x=>match ev e x with
   |.v (.int _ n)=>.val (.v (.int k (k.wrap n))) b l
   |_=>.bad
 |.alloc zs=>mk b l zs.length [zs] (fun i=>.ptr i 0 0 0)
 |.box x=>match cellsOf (ev e x) with
   |some cs=>if cs.all AV.cell=true then mk b l cs.length [cs] (fun i=>.ptr i 0 0 0) else .bad
   |none=>.bad
 |.build zs ps=>match yD e zs ps with
   |some cs=>.val (.agg cs) b l
   |none=>.bad
 |.bslice sz zs len ps=>match KD e sz (List.replicate len zs) ps with
   |some els=>mk b l sz els (fun i=>.sl i 0 0 len)
   |none=>.bad
 |.islb sz zs len ps=>match KD e sz (List.replicate len zs) ps with
   |some els=>match ID els with
     |some rows=>.val (.v (.isl sz rows)) b l
     |none=>.bad
   |none=>.bad
 |.load n x=>sD b l n (ev e x)
 |.store n x y=>pC b l n (ev e x) (ev e y)
 |.faddr d x=>tC b l d (ev e x)
 |.iaddr sz x i=>sC b l sz (ev e x) (ev e i)
 |.iaddrA len sz x i=>DB b l len sz (ev e x) (ev e i)
 |.field off n x=>match ev e x with
   |.agg cs=>UJ (rd cs off n) b l
   |_=>.bad
 |.indexS x i=>match ev e x,ev e i with
   |.v (.str s),.v (.int _ n)=>if h:0≤n∧n.toNat<s.size then .val (.v (.int .u8 (s[n.toNat]'h.2).toNat)) b l else .bad
   |_,_=>.bad
 |.indexA len sz n x i=>match ev e x,ev e i with
   |.agg cs,.v (.int _ k)=>if 0≤k∧k<(len:Int) then UJ (rd cs (k.toNat*sz) n) b l else .bad
   |_,_=>.bad
 |.slice sz x lo hi=>rC b l sz (ev e x) (evo e lo) (evo e hi)
 |.slice0 x=>match ev e x with
   |.v .zsl=>.val (.v .zsl) b l
   |.v (.isl _ _)=>.val (.v .zsl) b l
   |.sl .. => .val (.v .zsl) b l
   |_=>.bad
 |.sliceS x lo hi=>match ev e x with
   |.v (.str s)=>match iC s.size (evo e lo) (evo e hi) with
     |some (p,q)=>.val (.v (.str (s.extract p q))) b l
     |none=>.bad
   |_=>.bad
 |.len x=>UJ (YG (ev e x)) b l
 |.capz x=>match ev e x with
   |.v .zsl=>.val (.v (.int .i64 0)) b l
   |_=>.bad
 |.lenS x=>UJ (YE (ev e x)) b l
 |.append sz bytes s x=>SB b l sz bytes (ev e s) (ev e x)
 |.appz sz bytes zs s n=>ED b l sz bytes zs (ev e s) (ev e n)
 |.mkslice sz zs bytes n c=>match ev e n,ev e c with
   |.v (.int _ n),.v (.int _ c)=>if 0≤n∧n≤c∧c.toNat*bytes≤room∧c.toNat≤room then mk b l sz (List.replicate n.toNat zs) (fun i=>.sl i 0 0 n.toNat) else .bad
   |_,_=>.bad
 |.mkfn f caps=>.val (.fn f (evs e caps)) b l
 |.extract i x=>match ev e x with
   |.tup cs=>UJ (cs[i]?) b l
   |_=>.bad
 |.call f args=>tD (ev e f) (evs e args)
 |.mm t x y=>UJ (amm t (ev e x) (ev e y)) b l
 |.copy sz x y=>LD b l sz (ev e x) (ev e y)
 |.isnil neg x=>match ev e x with
   |.v .zsl=>.two true (.v (.bool (!neg))) (.v (.bool neg))
   |.v (.isl _ rows)=>.two rows.isEmpty (.v (.bool (!neg))) (.v (.bool neg))
   |.sl _ _ _ n=>.two (n==0) (.v (.bool (!neg))) (.v (.bool neg))
   |_=>.bad
 |.mkmap=>mk b l 0 [] (fun i=>.mp i 0)
 |.lookup kk zero c m x=>IB b l kk zero c (ev e m) (ev e x)
 |.mupdate kk m x y=>QB b l kk (ev e m) (ev e x) (ev e y)
 |.lenM x=>SD b l (ev e x)
 |.tostr x=>dC b l (ev e x)

def gd (e:List AV):Option (Nat×Bool)→Option Bool
 |none=>some true
 |some (s,want)=>match nth e s with
   |.v (.bool t)=>some (t==want)
   |.tup []=>some false
   |_=>none

def ZF (t:Option Bool) (A B:Prop):Prop:=
 match t with
 |some t=>if t=true then A else B
 |none=>False

abbrev CallP:=Nat→List AV→List Row→List Row→(AV→List Row→List Row→Prop)→Prop

def YK (C:CallP) (b l:List Row) (K:AV→List Row→List Row→Prop):OpR→Prop
 |.val x b' l'=>K x b' l'
 |.two c x y=>(c=true→K x b l)∧K y b l
 |.call f args=>C f args b l K
 |.bad=>False

def GF (C:CallP):List AOper→List AV→List Row→List Row→(List AV→List Row→List Row→Prop)→Prop
 |[],e,b,l,K=>K e b l
 |o::os,e,b,l,K =>
   ZF (gd e o.guard)
    (YK C b l (fun x b' l'=>GF C os (put e o.dst x) b' l' K) (aop e b l o.op))
    (GF C os (put e o.dst (.tup [])) b l K)

def QD (e:List AV) (b l:List Row) (r:AOper):Prop:=
 ZF (gd e r.guard) (∃v,aop e b l r.op=.val v b l∧(match r.dst with
  |some d=>nth e d=v∨e.length≤d
  |none=>True)) True
def JH (e:List AV) (b l:List Row):List AOper→Prop
 |[]=>True
 |r::rs=>QD e b l r∧JH e b l rs

def zH (C:CallP):List DOper→List AV→List Row→List Row→(List AV→List Row→List Row→Prop)→Prop
 |[],e,b,l,K=>K e b l
 |d::ds,e,b,l,K =>
   ZF (gd e d.o.guard)
    (YK C b l (fun x b' l'=>JH e b' l' d.re∧zH C ds (put e d.o.dst x) b' l' K) (aop e b l d.o.op))
    (zH C ds (put e d.o.dst (.tup [])) b l K)

abbrev WeakP:=List AV→List Row→List Row→List AV→List Row→List Row→Prop

def OT (R:List AV→List Row→List Row→Prop) (Q:AExit→List AV→List Row→List Row→Prop):AExit→List AV→List Row→List Row→Prop
 |.normal,e,b,l=>R e b l
 |.exit i,e,b,l=>Q (.exit i) e b l
 |.ret,e,b,l=>Q .ret e b l
def yX (id:Nat) (Q:AExit→List AV→List Row→List Row→Prop):AExit→List AV→List Row→List Row→Prop
 |.normal,e,b,l=>Q .normal e b l
 |.exit i,e,b,l=>if i=id then Q .normal e b l else Q (.exit i) e b l
 |.ret,e,b,l=>Q .ret e b l

def run (C:CallP) (W:WeakP):ACode→List AV→List Row→List Row→(AExit→List AV→List Row→List Row→Prop)→Prop
 |.skip,e,b,l,Q=>Q .normal e b l
 |.region ops,e,b,l,Q=>GF C ops e b l (Q .normal)
 |.draw ds,e,b,l,Q=>zH C ds e b l (Q .normal)
 |.both x y,e,b,l,Q=>run C W x e b l Q∧run C W y e b l Q
 |.seq x y,e,b,l,Q=>run C W x e b l (OT (fun e b l=>run C W y e b l Q) Q)
 |.cond c x y,e,b,l,Q =>
   match ev e c with
   |.v (.bool t)=>if t=true then run C W x e b l Q else run C W y e b l Q
   |_=>False
 |.block id c,e,b,l,Q=>run C W c e b l (yX id Q)
 |.loop c,e,b,l,Q =>
   ∃I:List AV→List Row→List Row→Nat→Prop,(∃e' b' l' m,W e b l e' b' l'∧I e' b' l' m) ∧
    ∀e b l m,I e b l m→run C W c e b l (OT (fun e b l=>∃e' b' l' m',W e b l e' b' l'∧I e' b' l' m'∧m'<m) Q)
 |.exit i,e,b,l,Q=>Q (.exit i) e b l
 |.ret,e,b,l,Q=>Q .ret e b l

def resV (e:List AV) (b l:List Row):ARes→Option AV
 |.tmp t=>some (nth e t)
 |.cell t n=>match sD b l n (nth e t) with
   |.val x _ _=>some x
   |_=>none
def resVs (e:List AV) (b l:List Row):List ARes→Option (List AV)
 |[]=>some []
 |r::rs=>match resV e b l r,resVs e b l rs with
   |some x,some xs=>some (x::xs)
   |_,_=>none
def one:List AV→AV
 |[x]=>x
 |xs=>.tup xs

def cvI:Value→Option IV
 |.int k n=>some (.int k n)
 |.bool b=>some (.bool b)
 |.string s=>some (.str s)
 |.pointer none=>some .nilp
 |.slice none 0 0=>some .zsl
 |.map none=>some .nilm
 |.nilFunc=>some .nilf
 |_=>none
def cvL:List Value→Option (List AV)
 |[]=>some []
 |v::vs=>match cvI v,cvL vs with
   |some x,some xs=>some (.v x::xs)
   |_,_=>none
def cvA:Value→Option AV
 |.agg cs=>(cvL cs.toList).map .agg
 |.tuple vs=>if vs.size=0 then some (.tup []) else none
 |.func (.func f) first caps=>if first.size=0∧caps.size=0 then some (.fn f []) else none
 |v=>(cvI v).map .v

def eB:Operand→Option Opd
 |.tmp t=>some (.t t)
 |.const v=>(cvA v).map .c
 |.func f=>some (.c (.fn f []))
 |.global _=>none
def EQ:List Operand→Option (List Opd)
 |[]=>some []
 |x::xs=>match eB x,EQ xs with
   |some y,some ys=>some (y::ys)
   |_,_=>none
def VM:Option Operand→Option (Option Opd)
 |none=>some none
 |some x=>(eB x).map some

section
variable (P:Program)
def ZAm (t:TypeId):Option Bool:=
 match P.underlying t with
 |some (.struct _)=>some true
 |some (.array _ _)=>some true
 |some _=>some false
 |none=>none
def jE (t:TypeId):Option Nat:=(P.info? t).map (·.size)
def OO (t:TypeId):Option Nat:=(P.info? t).map (·.bytes)
def JK (t:TypeId):Option (Option Nat):=
 match ZAm P t,jE P t with
 |some true,some n=>some (some n)
 |some false,some _=>some none
 |_,_=>none
def vG (t:TypeId):Option (List AV):=
 match P.info? t with
 |some i=>match i.zero with
   |some z=>cvL z.cells.toList
   |none=>none
 |none=>none
def KJ (t:TypeId):Option FK:=
 match P.underlying t with
 |some (.int _)=>some .i
 |some .bool=>some .b
 |some .string=>some .s
 |_=>none
def yL:Nat→List Field→Option (List FK)
 |_,[]=>some []
 |n,f::fs=>if f.offset=n∧f.name≠ "_" then
   match KJ P f.type,yL (n+1) fs with
   |some k,some ks=>some (k::ks)
   |_,_=>none
  else none
def aQ (fs:Array Field):List (Nat×Operand)→Option (List (Nat×Nat×Opd))
 |[]=>some []
 |(i,x)::ps=>match fs[i]?,eB x,aQ fs ps with
   |some f,some y,some ys=>match jE P f.type with
     |some n=>some ((f.offset,n,y)::ys)
     |none=>none
   |_,_,_=>none
def ZN (n:Nat):List (Nat×Operand)→Option (List (Nat×Nat×Opd))
 |[]=>some []
 |(i,x)::ps=>match eB x,ZN n ps with
   |some y,some ys=>some ((i*n,n,y)::ys)
   |_,_=>none
def aJ:List (Nat×Operand)→Option (List (Nat×Opd))
 |[]=>some []
 |(i,x)::ps=>match eB x,aJ ps with
   |some y,some ys=>some ((i,y)::ys)
   |_,_=>none
def S5:Operand→Bool
 |.const (.slice none 0 0)=>true
 |_=>false
def cQ:Option Operand→Bool
 |some (.const (.int _ 0))=>true
 |_=>false

def kkT (t:TypeId):Option KK:=
 match P.underlying t with
 |some (.struct fs)=>if P.stoodInHeld t=false then (yL P 0 fs.toList).map .many else none
 |some (.array n el)=>match KJ P el,jE P el with
   |some k,some 1=>some (.many (List.replicate n k))
   |_,_=>none
 |some _=>(KJ P t).map .one
 |none=>none
def ZA4 (t:TypeId):Option AV:=
 match P.info? t with
 |some i=>match i.zero with
   |some z=>cvA z
   |none=>none
 |none=>none
def M5:Option Operand→Bool
 |none=>true
 |some (.const (.int _ _))=>true
 |_=>false
def P5:Option TypeDesc→Bool
 |some (.map _ _)=>true
 |_=>false

def ZDi:Option TypeDesc→Bool
 |some (.int .i64)=>true
 |_=>false
def EN:Option TypeDesc→Bool
 |some (.slice _)=>true
 |some .string=>true
 |_=>false

def cOp (o:Op):Option AOp:=
 match o with
 |.move x=>(eB x).map .mv
 |.assign x=>(eB x).map .mv
 |.nilCheck x=>(eB x).map .nilck
 |.pick c a b=>do let c ←eB c;let a ←eB a;let b ←eB b;pure (.pick c a b)
 |.binOp o t x y _ =>
   match P.underlying t with
   |some (.struct fs)=>match yL P 0 fs.toList with
     |some ks=>if P.stoodInHeld t=false∧P.eqGuardType P.depth t=false∧(o=.eql∨o=.neq) then
       do let x ←eB x;let y ←eB y;pure (.eqs (o==.neq) ks x y) else none
     |none=>none
   |some (.array n el)=>match KJ P el,jE P el with
     |some k,some 1=>if P.eqGuardType P.depth t=false∧(o=.eql∨o=.neq) then
       do let x ←eB x;let y ←eB y;pure (.eqs (o==.neq) (List.replicate n k) x y) else none
     |_,_=>none
   |some (.int _)=>do let x ←eB x;let y ←eB y;pure (.bin o x y)
   |some .bool=>do let x ←eB x;let y ←eB y;pure (.binB o x y)
   |some .string=>do let x ←eB x;let y ←eB y;pure (.binS o x y)
   |some (.slice _)=>if (o=.eql∨o=.neq)∧S5 y=true then (eB x).map (.isnil (o==.neq)) else none
   |_=>none
 |.unOp .not _ x=>(eB x).map .not
 |.unOp .neg _ x=>(eB x).map .neg
 |.convert s d x=>match P.underlying s,P.underlying d with
   |some (.int _),some (.int k)=>(eB x).map (.conv k)
   |some (.slice el),some .string=>match P.underlying el with
     |some (.int .u8)=>(eB x).map .tostr
     |_=>none
   |_,_=>none
 |.alloc t=>(vG P t).map .alloc
 |.box _ x=>(eB x).map .box
 |.build t ps=>match P.underlying t,vG P t with
   |some (.struct fs),some zs=>if fs.toList.all (fun f=>(jE P f.type).isSome)=true then (aQ P fs ps.toList).map (.build zs) else none
   |some (.array _ el),some zs=>match jE P el with
     |some n=>(ZN n ps.toList).map (.build zs)
     |none=>none
   |_,_=>none
 |.buildSlice t len ps=>match P.underlying t with
   |some (.slice el)=>match jE P el,vG P el with
     |some n,some zs=>if 0<n∧len*n≤16777216∧zs.length=n then (aJ ps.toList).map (.bslice n zs len) else none
     |_,_=>none
   |_=>none
 |.load t x=>match JK P t with
   |some n=>(eB x).map (.load n)
   |none=>none
 |.store t a v=>match jE P t with
   |some n=>do let a ←eB a;let v ←eB v;pure (.store n a v)
   |none=>none
 |.fieldAddr t x i=>match P.underlying t with
   |some (.struct fs)=>match fs[i]? with
     |some f=>match jE P f.type with
       |some n=>if 0<n then (eB x).map (.faddr f.offset) else none
       |none=>none
     |none=>none
   |_=>none
 |.field t x i=>match P.underlying t with
   |some (.struct fs)=>match fs[i]? with
     |some f=>match JK P f.type with
       |some n=>(eB x).map (.field f.offset n)
       |none=>none
     |none=>none
   |_=>none
 |.indexAddr t x i=>match P.underlying t with
   |some (.slice el)=>match jE P el with
     |some n=>do let x ←eB x;let i ←eB i;pure (.iaddr n x i)
     |none=>none
   |some (.array len el)=>match jE P el with
     |some n=>do let x ←eB x;let i ←eB i;pure (.iaddrA len n x i)
     |none=>none
   |_=>none
 |.index t x i=>match P.underlying t with
   |some .string=>do let x ←eB x;let i ←eB i;pure (.indexS x i)
   |some (.array len el)=>match jE P el,JK P el with
     |some n,some s=>do let x ←eB x;let i ←eB i;pure (.indexA len n s x i)
     |_,_=>none
   |_=>none
 |.slice t x lo hi mx=>match P.underlying t with
   |some (.slice el)=>match mx with
     |none=>match jE P el with
       |some n=>do let x ←eB x;let lo ←VM lo;let hi ←VM hi;pure (.slice n x lo hi)
       |none=>none
     |some _=>if cQ mx&&cQ hi&&lo.isNone&&(jE P el).isSome then (eB x).map .slice0 else none
   |some .string=>match mx with
     |none=>do let x ←eB x;let lo ←VM lo;let hi ←VM hi;pure (.sliceS x lo hi)
     |some _=>none
   |_=>none
 |.makeSlice t n c=>match P.underlying t with
   |some (.slice el)=>match jE P el,vG P el,OO P el with
     |some s,some zs,some bytes=>if zs.length=s∧0<s then do let n ←eB n;let c ←eB c;pure (.mkslice s zs bytes n c) else none
     |_,_,_=>none
   |_=>none
 |.makeMap t r=>if P5 (P.underlying t)=true∧M5 r=true then some .mkmap else none
 |.lookup t x i c=>match P.underlying t with
   |some (.map k el)=>match kkT P k,ZA4 P el with
     |some kk,some z=>do let x ←eB x;let i ←eB i;pure (.lookup kk z c x i)
     |_,_=>none
   |_=>none
 |.mapUpdate t m x y=>match P.underlying t with
   |some (.map k _)=>match kkT P k with
     |some kk=>do let m ←eB m;let x ←eB x;let y ←eB y;pure (.mupdate kk m x y)
     |none=>none
   |_=>none
 |.makeFunc (.func f) first caps=>if first.size=0 then (EQ caps.toList).map (.mkfn f) else none
 |.extract x i=>(eB x).map (.extract i)
 |.call c=>match c.callee with
   |.value f=>do let f ←eB f;let args ←EQ c.args.toList;pure (.call f args)
   |.builtin .len=>match c.args.toList,c.argTypes.toList with
     |[x],[t]=>match P.underlying t with
       |some .string=>(eB x).map .lenS
       |some (.slice _)=>(eB x).map .len
       |some (.array n _)=>some (.mv (.c (.v (.int .i64 n))))
       |some (.map _ _)=>(eB x).map .lenM
       |_=>none
     |_,_=>none
   |.builtin .append=>match c.args.toList,c.argTypes.toList with
     |[s,x],[t,u]=>match P.underlying t with
       |some (.slice el)=>match jE P el,OO P el,vG P el with
         |some n,some bytes,some zs=>if 0<n∧0<bytes∧zs.length=n∧EN (P.underlying u)=true then do let s ←eB s;let x ←eB x;pure (.append n bytes s x)
           else if 0<n∧0<bytes∧zs.length=n∧ZDi (P.underlying u)=true then do let s ←eB s;let x ←eB x;pure (.appz n bytes zs s x) else none
         |_,_,_=>none
       |_=>none
     |_,_=>none
   |.builtin .copy=>match c.args.toList,c.argTypes.toList with
     |[x,y],[t,_]=>match P.underlying t with
       |some (.slice el)=>match jE P el with
         |some n=>if 0<n then do let x ←eB x;let y ←eB y;pure (.copy n x y) else none
         |none=>none
       |_=>none
     |_,_=>none
   |.builtin .max=>match c.args.toList with
     |[x,y]=>do let x ←eB x;let y ←eB y;pure (.mm true x y)
     |_=>none
   |.builtin .min=>match c.args.toList with
     |[x,y]=>do let x ←eB x;let y ←eB y;pure (.mm false x y)
     |_=>none
   |.builtin .cap=>match c.args.toList,c.argTypes.toList with
     |[x],[t]=>match P.underlying t with
       |some (.slice _)=>(eB x).map .capz
       |_=>none
     |_,_=>none
   |_=>none
 |_=>none

def ZDj:AOp→AOp
 |.bslice sz zs len ps=>.islb sz zs len ps
 |o=>o
def uV (imm:Bool) (o:Op):Option AOp:=if imm=true then (cOp P o).map ZDj else cOp P o
def GQ (ops:Array Oper):Option (Nat×Bool)→Option (Option (Nat×Bool))
 |none=>some none
 |some (j,want)=>match (ops[j]?).bind (·.dst) with
   |some d=>some (some (d,want))
   |none=>none
def AO (imm:Bool) (ops:Array Oper):List Oper→Option (List AOper)
 |[]=>some []
 |o::os=>match uV P imm o.op,GQ ops o.guard,AO imm ops os with
   |some x,some g,some xs=>some (⟨o.dst,x,g⟩::xs)
   |_,_,_=>none
def anc (ops:Array Oper) (x:Nat):Nat→Nat→Bool
 |0,_=>false
 |n+1,i=>match ops[i]? with
   |some o=>o.after.toList.any fun ed=>Region.binds .any ed&&(ed.on==x||anc ops x n ed.on)
   |none=>false
def y5 (ops:Array Oper) (done:List Nat) (i:Nat):Bool:=match ops[i]? with
 |some o=>o.after.toList.all fun ed=>!Region.binds .any ed||done.contains ed.on
 |none=>false
def eQ (ops:Array Oper) (qs als:List Bool):Nat→List Nat→List Nat→List Nat
 |0,_,_=>[]
 |n+1,left,done =>
   match left.find? (fun i=>y5 ops done i&&qs.getD i false) with
   |some i=>i::eQ ops qs als n (left.erase i) (i::done)
   |none=>match left.find? (fun i=>y5 ops done i&&!als.getD i false) with
     |some i=>i::eQ ops qs als n (left.erase i) (i::done)
     |none=>match left.find? (fun i=>y5 ops done i) with
       |some i=>i::eQ ops qs als n (left.erase i) (i::done)
       |none=>[]
def ZB2 (ops:Array Oper) (aos:List AOper) (i:Nat):List Nat→List AOper
 |[]=>[]
 |j::js=>match aos[j]? with
   |some r=>if r.op.quiet&&!anc ops j ops.size i then r::ZB2 ops aos i js else ZB2 ops aos i js
   |none=>ZB2 ops aos i js
def mkD (ops:Array Oper) (aos:List AOper):List Nat→List Nat→List DOper
 |_,[]=>[]
 |done,i::is=>match aos[i]? with
   |some o=>⟨i,o,if o.op.quiet then [] else ZB2 ops aos i done⟩::mkD ops aos (done++[i]) is
   |none=>[]
def zT (ops:Array Oper) (fin:List Nat) (a c:DOper):Bool:=
 (!fin.contains a.i||anc ops a.i ops.size c.i)&&(match c.o.dst with
  |some d=>(!(a.o.op.quiet||c.o.op.isAlloc)||(fin.contains c.i&&!c.o.op.isAlloc&&anc ops a.i ops.size c.i)||!a.o.looks.contains d)&&a.o.dst != some d&&(!c.o.op.isAlloc||a.re.all (fun r=>!r.looks.contains d&&r.dst != some d))
  |none=>true) &&
 (anc ops a.i ops.size c.i||((a.o.op.quiet||c.o.op.isAlloc)&&(match a.o.dst with
  |some d=>!c.o.looks.contains d
  |none=>true)))
def tR (o:AOper):Bool:=!o.op.isAlloc||(o.guard.isNone&&o.dst.isSome)
def fQ (a:DOper):Bool:=match a.o.dst with
 |some d=>!(a.o.op.quiet||a.o.op.isAlloc)||(!a.o.looks.contains d&&a.re.all (fun r=>!r.looks.contains d&&r.dst != some d))
 |none=>true
def jR (ops:Array Oper) (fin:List Nat):List DOper→Bool
 |[]=>true
 |a::ds=>fQ a&&ds.all (zT ops fin a)&&jR ops fin ds
def KW (ops:Array Oper):List DOper→List Nat
 |[]=>[]
 |d::ds=>if ds.all (fun c=>anc ops d.i ops.size c.i) then d.i::KW ops ds else KW ops ds
def SM (is:List Nat) (i:Nat):Nat:=is.findIdx (· == i)
def nW (ops:Array Oper) (is:List Nat):Bool:=(List.range ops.size).all fun i=>match ops[i]? with
 |some o=>o.after.toList.all fun ed=>!Region.binds .any ed||decide (SM is ed.on<SM is i)
 |none=>true
def yO (imm:Bool) (ops:Array Oper):Option (List DOper):=
 match AO P imm ops ops.toList with
 |some aos =>
   let ds:=mkD ops aos [] (eQ ops (aos.map (·.op.quiet)) (aos.map (·.op.isAlloc)) ops.size (List.range ops.size) [])
   if P.follows .mixedOrders=true∧nW ops (ds.map (·.i))=true∧aos.all tR=true∧jR ops (KW ops ds) ds=true∧(ds.map (·.i)).length=ops.size∧(ds.map (·.i)).Nodup∧(List.range ops.size).all (fun i=>(ds.map (·.i)).contains i)=true then some ds else none
 |none=>none
def zD (ops:Array Oper) (k i:Nat):Array Oper:=match ops[k]? with
 |some o=>ops.setIfInBounds k {o with after:=o.after.push ⟨i,.data⟩}
 |none=>ops
def ZEc (ops:Array Oper) (aos:List AOper):Option (Nat×Nat):=
 let ms:=(List.range ops.size).filter fun i=>match aos[i]? with
  |some o=>!o.op.quiet&&!o.op.isAlloc
  |none=>false
 ms.findSome? fun i=>(ms.find? fun k=>decide (i<k)&&!anc ops i ops.size k&&!anc ops k ops.size i).map fun k=>(i,k)
def PG (imm:Bool):Nat→Array Oper→Option ACode
 |0,ops=>(yO P imm ops).map .draw
 |n+1,ops=>match yO P imm ops with
   |some ds=>some (.draw ds)
   |none=>match AO P imm ops ops.toList with
     |some aos=>match ZEc ops aos with
       |some (i,k)=>if i≠k∧i<ops.size∧k<ops.size then match PG imm n (zD ops k i),PG imm n (zD ops i k) with
         |some x,some y=>some (.both x y)
         |_,_=>none else none
       |none=>none
     |none=>none
def PW:ACode:=.region [⟨none,.extract 0 (.c .any),none⟩]
def ZEt:Option ACode→ACode
 |some c=>c
 |none=>PW
def ZAl (ops:Array Oper) (draw:Bool):Option ACode:=if draw then (match PG P false 6 ops with
 |some c=>some c
 |none=>PG P true 6 ops) else (AO P false ops ops.toList).map .region
def DG:Code→Option ACode
 |.skip=>some .skip
 |.region _ ops draw=>some (ZEt (ZAl P ops draw))
 |.seq a b=>match DG a,DG b with
   |some x,some y=>some (.seq x y)
   |_,_=>none
 |.cond c a b=>match eB c,DG a,DG b with
   |some c,some x,some y=>some (.cond c x y)
   |_,_,_=>none
 |.block id c=>(DG c).map (.block id)
 |.loop c=>(DG c).map .loop
 |.exit id=>some (.exit id)
 |.ret=>some .ret
 |_=>some PW
def ZAk:List ResultVar→Option (List ARes)
 |[]=>some []
 |.tmp t::rs=>(ZAk rs).map (ARes.tmp t::·)
 |.cell a t::rs=>match JK P t,ZAk rs with
   |some n,some xs=>some (.cell a n::xs)
   |_,_=>none
def CA (f:FuncId):Option AFunc:=
 match P.funcs[f]? with
 |some fn=>if fn.name == "runtime.NumGoroutine" then none else
   match fn.body with
   |some c=>match DG P c,ZAk P fn.results.toList with
     |some c,some rs=>some ⟨fn.params.size+fn.nfree,fn.ntmps,rs,c⟩
     |_,_=>none
   |none=>none
 |none=>none
end

theorem RepI.one {w:World} {F:Nat→Prop} {x:IV} {v:Value} (h:RepI w F x v):v.oneCell'=true:=by cases h<;>rfl

theorem RepA.one {w:World} {F:Nat→Prop} {L:LMap} {x:AV} {v:Value} (h:RepA w F L x v) (hx:x.cell=true):v.oneCell'=true:=by
 cases h<;>first|rfl|(simp[AV.cell]at hx;done)|skip
 case v h=>exact h.one

theorem UV {v:Value} (h:v.oneCell'=true):v.cells=#[v]:=by cases v<;>first|rfl|cases h

theorem Sim.putLoc {F:Nat→Prop} {L:LMap} {h h':List Row} {w w':World} (s:Sim F L h w) (id ver sz blk:Nat) (q:Loc) (els:List (List AV)) (hq:∀k,q.on k→k=blk)
  (hos:w'.os=w.os) (htp:w'.tape=w.tape) (RH:w'.output=w.output) (ZA9:w.heap.size≤w'.heap.size)
  (hb:∀k,k<w.heap.size→k≠blk→w'.heap[k]? = w.heap[k]?)
  (pH:w.heap.size≤blk∨∃v z els0 q0,h[id]? = some (.live v z els0)∧L id v=some q0∧q0.on blk)
  (hh:h'[id]? = some (.live ver sz els)) (kJ:∀j,j≠id→h'[j]? = h[j]?)
  (ZGA:∀r,h[id]? = some r→r.ver≤ver∧∃v z els0,r=.live v z els0)
  (QO:L id ver=none∨L id ver=some q)
  (RE:∀L':LMap,(∀(x:AV) (v:Value),RepA w F L x v→RepA w' F L' x v)→OQ w' F L' sz els q) :
  ∃L':LMap,Sim F L' h' w'∧Step h.length F L h w F L' h' w'∧L' id ver=some q∧∀i v l,L i v=some l→L' i v=some l:=by
 have hL':∃L':LMap,L' id ver=some q∧(∀i v l,L i v=some l→L' i v=some l)∧∀i v,(i≠id∨v≠ver)→L' i v=L i v:=by
  refine⟨fun i v=>if i=id∧v=ver then some q else L i v,by simp,?_,?_⟩
  ·intro i v l hl
   by_cases hi:i=id∧v=ver
   ·obtain⟨rfl,rfl⟩:=hi
    rcases QO with h0|h0
    ·rw[h0]at hl;cases hl
    ·rw[h0]at hl;simpa using hl
   ·simp[hi,hl]
  ·intro i v hi
   have:¬(i=id∧v=ver):=fun ⟨a,b⟩=>hi.elim (fun h=>h a) (fun h=>h b)
   simp[this]
 obtain⟨L',JT,IW,DT⟩:=hL'
 have notF:¬F blk:=fun hF=>by
  obtain⟨bB,DO⟩:=s.imm blk hF
  rcases pH with h0|⟨v,z,els0,q0,h1,h2,h3⟩
  ·omega
  ·exact DO ⟨id,v,z,els0,q0,h1,h2,h3⟩
 have hF:∀k,F k→w'.heap[k]? = w.heap[k]?:=fun k hk=>hb k (s.imm k hk).1 (fun e=>notF (e▸hk))
 have mono:∀(x:AV) (v:Value),RepA w F L x v→RepA w' F L' x v:=fun _ _ hx=>hx.mono (fun _ h=>h) hF IW
 have liveO:∀j v z els0 b q1,j≠id→h[j]? = some (.live v z els0)→L j v=some q1→q1.on b→b≠blk:=by
  intro j v z els0 b q1 hj h1 h2 h5 e
  subst e
  rcases pH with h0|⟨v',z',els',q',h3,h4,h6⟩
  ·obtain⟨l,g1,g2⟩:=s.row j v z els0 h1
   rw[h2]at g1;cases g1
   have:=g2.lt h5
   omega
  ·exact hj (s.apart j id v v' z z' els0 els' b q1 q' h1 h3 h2 h4 h5 h6)
 refine⟨L',⟨?_,?_,?_,?_,s.glob.mono (fun _ h=>h) hF⟩,⟨fun _ h=>h,fun i v l _ hl=>IW i v l hl,hos,htp,RH,ZA9,?_,?_,?_,fun _ _ h=>.inl h⟩,JT,IW⟩
 ·intro j v z e1 hj
  by_cases PI:j=id
  ·subst PI
   rw[hh]at hj
   cases hj
   exact⟨_,JT,RE L' mono⟩
  ·rw[kJ j PI]at hj
   obtain⟨l,sQ,uT⟩:=s.row j v z e1 hj
   exact⟨l,IW _ _ _ sQ,uT.mono (fun b hbo=>hb b (uT.lt hbo) (liveO j v z e1 b l PI hj sQ hbo)) mono⟩
 ·intro i v l sQ
  by_cases hi:i=id
  ·subst hi
   refine⟨_,hh,?_⟩
   by_cases hv:v=ver
   ·subst hv;exact ah _
   ·rw[DT i v (.inr hv)]at sQ
    obtain⟨r,h1,h2⟩:=s.born _ _ _ sQ
    exact ee h2 (ZGA r h1).1
  ·rw[DT i v (.inl hi)]at sQ
   obtain⟨r,h1,h2⟩:=s.born _ _ _ sQ
   exact⟨r,by rw[kJ i hi];exact h1,h2⟩
 ·intro i i' v v' z z' e1 e2 b q1 q2 h1 h2 h3 h4 h5 h6
  by_cases hi:i=id
  ·by_cases hi':i'=id
   ·rw[hi,hi']
   ·subst hi
    rw[hh]at h1;cases h1
    rw[kJ i' hi']at h2
    rw[JT]at h3;cases h3
    rw[DT i' v' (.inl hi')]at h4
    exact absurd (hq b h5) (liveO i' v' z' e2 b q2 hi' h2 h4 h6)
  ·by_cases hi':i'=id
   ·subst hi'
    rw[hh]at h2;cases h2
    rw[kJ i hi]at h1
    rw[JT]at h4;cases h4
    rw[DT i v (.inl hi)]at h3
    exact absurd (hq b h6) (liveO i v z e1 b q1 hi h1 h3 h5)
   ·rw[kJ i hi]at h1
    rw[kJ i' hi']at h2
    rw[DT i v (.inl hi)]at h3
    rw[DT i' v' (.inl hi')]at h4
    exact s.apart i i' v v' z z' e1 e2 b q1 q2 h1 h2 h3 h4 h5 h6
 ·intro k hk
  refine⟨fu (s.imm k hk).1 ZA9,?_⟩
  rintro⟨i,v,z,e1,q1,h1,h2,h3⟩
  by_cases hi:i=id
  ·subst hi
   rw[hh]at h1;cases h1
   rw[JT]at h2;cases h2
   exact notF (hq k h3▸hk)
  ·rw[kJ i hi]at h1
   rw[DT i v (.inl hi)]at h2
   exact (s.imm k hk).2 ⟨i,v,z,e1,q1,h1,h2,h3⟩
 ·intro k hk DO
  refine hb k hk fun e=>?_
  subst e
  rcases pH with h0|⟨v',z',els',q',h3,h4,h5⟩
  ·omega
  ·exact DO ⟨id,v',z',els',q',h3,h4,h5⟩
 ·rintro k hk ⟨i,v,z,e1,q1,h1,h2,h3⟩
  by_cases hi:i=id
  ·subst hi
   rw[hh]at h1;cases h1
   rw[JT]at h2;cases h2
   obtain rfl:=hq k h3
   rcases pH with h0|⟨v',z',els',q',h3,h4,h5⟩
   ·omega
   ·exact⟨i,v',z',els',q',h3,h4,h5⟩
  ·rw[kJ i hi]at h1
   rw[DT i v (.inl hi)]at h2
   exact⟨i,v,z,e1,q1,h1,h2,h3⟩
 ·intro i hi v hv
  by_cases hii:i=id
  ·subst hii
   obtain⟨_,v',z',e',he⟩:=ZGA _ hv
   cases he
  ·rw[kJ i hii];exact hv

theorem Sim.putRow {F:Nat→Prop} {L:LMap} {h h':List Row} {w w':World} (s:Sim F L h w) (id ver sz blk o cap:Nat) (els:List (List AV))
  (hos:w'.os=w.os) (htp:w'.tape=w.tape) (RH:w'.output=w.output) (ZA9:w.heap.size≤w'.heap.size)
  (hb:∀k,k<w.heap.size→k≠blk→w'.heap[k]? = w.heap[k]?)
  (pH:w.heap.size≤blk∨∃v z els0 o0 z0 cap0,h[id]? = some (.live v z els0)∧L id v=some (.pl blk o0 z0 cap0))
  (hh:h'[id]? = some (.live ver sz els)) (kJ:∀j,j≠id→h'[j]? = h[j]?)
  (ZGA:∀r,h[id]? = some r→r.ver≤ver∧∃v z els0,r=.live v z els0)
  (QO:L id ver=none∨L id ver=some (.pl blk o sz cap))
  (hl:els.length≤cap) (sM:cap≤maxLen) (cur:Array Value) (T:TypeId) (PZ:w'.heap[blk]? = some (.cells cur T (0,0))) (cI:o+cap*sz≤cur.size)
  (NN:∀(k:Nat) (row:List AV),els[k]? = some row→row.length=sz)
  (RG:∀(k:Nat) (row:List AV) (j:Nat) (a:AV),els[k]? = some row→row[j]? = some a→a.cell=true∧∃v,cur[o+k*sz+j]? = some v∧RepA w F L a v) :
  ∃L':LMap,Sim F L' h' w'∧Step h.length F L h w F L' h' w'∧L' id ver=some (.pl blk o sz cap)∧∀i v l,L i v=some l→L' i v=some l:=by
 refine s.putLoc id ver sz blk (.pl blk o sz cap) els (fun k hk=>hk.symm) hos htp RH ZA9 hb (pH.imp (fun h=>h) fun ⟨v,z,e,o0,z0,c0,h1,h2⟩=>⟨v,z,e,_,h1,h2,rfl⟩) hh kJ ZGA QO ?_
 intro L' mono
 exact⟨rfl,hl,sM,cur,T,PZ,cI,NN,fun k row i a hk hi=>by
  obtain⟨h1,v,h2,h3⟩:=RG k row i a hk hi
  exact⟨h1,v,h2,mono _ _ h3⟩⟩

theorem Sim.same {F:Nat→Prop} {L:LMap} {h:List Row} {w w':World} (s:Sim F L h w) (hh:w'.heap=w.heap):Sim F L h w':=by
 have m:∀{x:AV} {v:Value},RepA w F L x v→RepA w' F L x v:=fun hx=>hx.mono (fun _ h=>h) (fun _ _=>by rw[hh]) (fun _ _ _ h=>h)
 refine⟨fun id ver sz els hr=>?_,s.born,s.apart,fun b hb=>⟨by rw[hh];exact (s.imm b hb).1,(s.imm b hb).2⟩,s.glob.mono (fun _ h=>h) (fun _ _=>by rw[hh])⟩
 obtain⟨l,h1,h2⟩:=s.row id ver sz els hr
 exact⟨l,h1,h2.mono (fun _ _=>by rw[hh]) (fun _ _=>m)⟩

theorem Step.same {nb:Nat} {F:Nat→Prop} {L:LMap} {h:List Row} {w w':World} (hh:w'.heap=w.heap) (hos:w'.os=w.os) (htp:w'.tape=w.tape) (RH:w'.output=w.output) :
  Step nb F L h w F L h w':=⟨fun _ h=>h,fun _ _ _ _ h=>h,hos,htp,RH,by rw[hh];exact ah _,fun _ _ _=>by rw[hh],fun _ _ h=>h,fun _ _ _ h=>h,fun _ _ h=>.inl h⟩

theorem Sim.cell {F:Nat→Prop} {L:LMap} {h:List Row} {w:World} (s:Sim F L h w) {id ver sz b o z cap k j:Nat} {els:List (List AV)} {row:List AV} {a:AV}
  (hr:h[id]? = some (.live ver sz els)) (hL:L id ver=some (.pl b o z cap)) (hk:els[k]? = some row) (hj:row[j]? = some a) :
  z=sz∧a.cell=true∧∃v,w.cell? ⟨b,o+k*z+j,none⟩=some v∧RepA w F L a v:=by
 obtain⟨l,h1,h2⟩:=s.row id ver sz els hr
 rw[hL]at h1;cases h1
 obtain⟨a1,a2,a3,cur,T,a4,a5,a6,a7⟩:=h2
 subst a1
 obtain⟨b1,v,b2,b3⟩:=a7 k row j a hk hj
 exact⟨rfl,b1,v,by simp[World.cell?,a4,b2],b3⟩


def Ends (P:Program) (o:Oper) (a:Act) (w:World) (v:Value) (w':World):Prop:=
 (execOp a.eval o).run P w=.ok (.value v) w'∨((execOp a.eval o).run P w=.ok .skip w'∧v=undef)

def LB (P:Program) (o:Oper) (a:Act) (w:World) (F:Nat→Prop) (L:LMap) (b l:List Row) (x:AV) (b' l':List Row):Prop:=
 ∃v w' L',Ends P o a w v w'∧RepA w' F L' x v∧Sim F L' (b'++l') w'∧Step (b++l).length F L (b++l) w F L' (b'++l') w'∧b'.length=b.length

def TP (P:Program) (o:Oper) (a:Act) (w:World) (F:Nat→Prop) (L:LMap) (b l:List Row) (x:AV) (b' l':List Row):Prop:=
 ∃v w' F' L',Ends P o a w v w'∧RepA w' F' L' x v∧Sim F' L' (b'++l') w'∧Step (b++l).length F L (b++l) w F' L' (b'++l') w'∧b'.length=b.length
theorem LB.toF {P:Program} {o:Oper} {a:Act} {w:World} {F:Nat→Prop} {L:LMap} {b l:List Row} {x:AV} {b' l':List Row} (h:LB P o a w F L b l x b' l'):TP P o a w F L b l x b' l':=by
 obtain⟨v,w',L',h1,h2,h3,h4,h5⟩:=h
 exact⟨v,w',F,L',h1,h2,h3,h4,h5⟩

theorem LB.pure {P:Program} {o:Oper} {a:Act} {w:World} {F:Nat→Prop} {L:LMap} {b l:List Row} {x:AV} {v:Value} (s:Sim F L (b++l) w)
  (h:(execOp a.eval o).run P w=.ok (.value v) w) (hx:RepA w F L x v):LB P o a w F L b l x b l:=
 ⟨v,w,L,.inl h,hx,s,Step.refl _ _ _ _ _,rfl⟩

section
variable {P:Program} {w:World} {F:Nat→Prop} {L:LMap}

theorem A7 {v:Value} {x:IV} (h:cvI v=some x):RepI w F x v:=by
 unfold cvI at h
 split at h<;>first|(cases h;constructor)|cases h

def bA (w:World) (F:Nat→Prop) (L:LMap) (cs:List AV) (vs:List Value):Prop:=
 cs.length=vs.length∧∀(i:Nat) (a:AV) (v:Value),cs[i]? = some a→vs[i]? = some v→RepA w F L a v

theorem bA.nil:bA w F L [] []:=⟨rfl,by simp⟩
theorem bA.cons {a:AV} {v:Value} {cs:List AV} {vs:List Value} (h:RepA w F L a v) (t:bA w F L cs vs):bA w F L (a::cs) (v::vs):=by
 refine⟨by simp[t.1],fun i x u hx hu=>?_⟩
 cases i with
 |zero=>simp at hx hu;subst hx;subst hu;exact h
 |succ i=>simp at hx hu;exact t.2 i x u hx hu

theorem tF:∀{vs:List Value} {xs:List AV},cvL vs=some xs→bA w F L xs vs∧xs.all AV.cell=true
 |[],xs,h=>by simp[cvL]at h;subst h;exact⟨bA.nil,rfl⟩
 |v::vs,xs,h=>by
   unfold cvL at h
   split at h
   ·rename_i x ys h1 h2
    cases h
    obtain⟨h3,h4⟩:=tF h2
    exact⟨bA.cons (.v _ _ (A7 h1)) h3,by simp[AV.cell,h4]⟩
   ·cases h

theorem bA.agg {cs:List AV} {vs:Array Value} (h:bA w F L cs vs.toList):RepA w F L (.agg cs) (.agg vs):=
 .agg cs vs (by simpa using h.1) (fun i a v hi hv=>h.2 i a v hi (by simpa using hv))
theorem bA.tup {cs:List AV} {vs:Array Value} (h:bA w F L cs vs.toList):RepA w F L (.tup cs) (.tuple vs):=
 .tup cs vs (by simpa using h.1) (fun i a v hi hv=>h.2 i a v hi (by simpa using hv))
theorem bA.fn {f:Nat} {cs:List AV} {vs:Array Value} (h:bA w F L cs vs.toList):RepA w F L (.fn f cs) (.func (.func f) #[] vs):=
 .fn f cs vs (by simpa using h.1) (fun i a v hi hv=>h.2 i a v hi (by simpa using hv))

theorem RepA.aggL {cs:List AV} {v:Value} (h:RepA w F L (.agg cs) v):∃vs:Array Value,v=.agg vs∧bA w F L cs vs.toList:=by
 cases h with
 |agg _ vs hl h=>exact⟨vs,rfl,by simpa using hl,fun i a v hi hv=>h i a v hi (by simpa using hv)⟩
theorem RepA.tupL {cs:List AV} {v:Value} (h:RepA w F L (.tup cs) v):∃vs:Array Value,v=.tuple vs∧bA w F L cs vs.toList:=by
 cases h with
 |tup _ vs hl h=>exact⟨vs,rfl,by simpa using hl,fun i a v hi hv=>h i a v hi (by simpa using hv)⟩
theorem RepA.fnL {f:Nat} {cs:List AV} {v:Value} (h:RepA w F L (.fn f cs) v):∃vs:Array Value,v=.func (.func f) #[] vs∧bA w F L cs vs.toList:=by
 cases h with
 |fn _ _ vs hl h=>exact⟨vs,rfl,by simpa using hl,fun i a v hi hv=>h i a v hi (by simpa using hv)⟩
theorem RepA.vI {x:IV} {v:Value} (h:RepA w F L (.v x) v):RepI w F x v:=by cases h;assumption

theorem O7 {v:Value} {x:AV} (h:cvA v=some x):RepA w F L x v:=by
 unfold cvA at h
 split at h
 ·rename_i cs
  cases hc:cvL cs.toList with
  |none=>simp[hc]at h
  |some xs=>simp[hc]at h;subst h;exact (tF hc).1.agg
 ·split at h
  ·rename_i vs hv
   cases h
   have:vs=#[]:=ji hv
   subst this
   exact bA.tup bA.nil
  ·cases h
 ·rename_i f first caps
  split at h
  ·rename_i hv
   cases h
   have h1:first=#[]:=ji hv.1
   have h2:caps=#[]:=ji hv.2
   subst h1;subst h2
   exact bA.fn bA.nil
  ·cases h
 ·cases hc:cvI v with
  |none=>simp[hc]at h
  |some y=>simp[hc]at h;subst h;exact .v _ _ (A7 hc)

theorem jB {e:List AV} {a:Act} (he:PC w F L e a) {x:Operand} {y:Opd} (h:eB x=some y):RepA w F L (ev e y) (a.eval x):=by
 unfold eB at h
 split at h
 ·cases h;exact he.nth _
 ·rename_i v
  cases hc:cvA v with
  |none=>simp[hc]at h
  |some z=>simp[hc]at h;subst h;exact O7 hc
 ·cases h;exact bA.fn bA.nil
 ·cases h

theorem dW {e:List AV} {a:Act} (he:PC w F L e a):∀{xs:List Operand} {ys:List Opd},EQ xs=some ys→bA w F L (evs e ys) (xs.map a.eval)
 |[],ys,h=>by simp[EQ]at h;subst h;exact bA.nil
 |x::xs,ys,h=>by
   unfold EQ at h
   split at h
   ·rename_i y zs h1 h2
    cases h
    exact bA.cons (jB he h1) (dW he h2)
   ·cases h

theorem bF {t:TypeId} {c:Bool} (h:ZAm P t=some c):(isAgg t).run P w=.ok c w:=by
 unfold ZAm at h
 unfold isAgg
 split at h
 ·rename_i hu;cases h;simp[run_underlying hu]
 ·rename_i hu;cases h;simp[run_underlying hu]
 ·rename_i d h1 h2 hu
  cases h
  simp only[Sem.run_bind,run_underlying hu,Result.andThen_ok]
  rfl
 ·cases h

theorem aB {t:TypeId} {n:Nat} (h:jE P t=some n):(sizeOf t).run P w=.ok n w:=by
 unfold jE at h
 cases hi:P.info? t with
 |none=>simp[hi]at h
 |some i=>simp[hi]at h;simp[sizeOf,typeInfo,hi,h]

theorem GR {t:TypeId} {n:Nat} (h:JK P t=some (some n)):ZAm P t=some true∧jE P t=some n:=by
 unfold JK at h
 split at h<;>first|(cases h;exact⟨by assumption,by assumption⟩)|cases h
theorem IR {t:TypeId} (h:JK P t=some none):ZAm P t=some false:=by
 unfold JK at h
 split at h<;>first|(cases h;assumption)|cases h

theorem ZBt {cs:List AV} {vs:List Value} (h:bA w F L cs vs) (j n:Nat):bA w F L ((cs.drop j).take n) ((vs.drop j).take n):=by
 refine⟨by simp[h.1],fun i a v ha hv=>?_⟩
 rw[cw]at ha hv
 split at ha
 ·rename_i hi
  simp only[hi,if_true]at hv
  rw[dl]at ha hv
  exact h.2 _ a v ha hv
 ·cases ha

theorem bA.get {cs:List AV} {vs:List Value} (h:bA w F L cs vs) {j:Nat} {a:AV} (ha:cs[j]? = some a):∃v,vs[j]? = some v∧RepA w F L a v:=by
 have hj:j<vs.length:=by rw[←h.1];exact (aj.1 ha).1
 exact⟨vs[j],ae hj,h.2 j a _ ha (ae hj)⟩

theorem bA.append {cs ds:List AV} {vs us:List Value} (h:bA w F L cs vs) (k:bA w F L ds us):bA w F L (cs++ds) (vs++us):=by
 refine⟨by simp[h.1,k.1],fun i a v ha hv=>?_⟩
 by_cases hi:i<cs.length
 ·rw[aw hi]at ha
  rw[aw (by rw[←h.1];exact hi)]at hv
  exact h.2 i a v ha hv
 ·rw[au oM]at ha
  rw[au (by have:=h.1;omega),←h.1]at hv
  exact k.2 _ a v ha hv

theorem V7 {cs:List AV} {vs:Array Value} (h:bA w F L cs vs.toList) {t:TypeId} {n:Option Nat} (ht:JK P t=some n) {off:Nat} {x:AV} (hx:rd cs off n=some x) :
  ∃v,(part t vs off).run P w=.ok v w∧RepA w F L x v:=by
 cases n with
 |none =>
   simp only[rd]at hx
   obtain⟨v,hv,hr⟩:=h.get hx
   refine⟨v,?_,hr⟩
   have:vs[off]? = some v:=by simpa using hv
   simp[part,bF (IR ht),this]
 |some n =>
   simp only[rd]at hx
   split at hx
   ·rename_i nL
    cases hx
    obtain⟨h1,h2⟩:=GR ht
    refine⟨.agg (vs.extract off (off+n)),?_,?_⟩
    ·simp[part,bF h1,aB h2]
    ·refine bA.agg ?_
     have:=ZBt h off n
     simpa [List.take_drop,ir] using this
   ·cases hx

theorem ZS {t:TypeId} {n:Option Nat} (ht:JK P t=some n) {b o:Nat} {vals:List AV} (hc:∀(i:Nat) (x:AV),vals[i]? = some x→∃v,w.cell? ⟨b,o+i,none⟩=some v∧RepA w F L x v) {x:AV}
  (hx:(match n with|none=>vals[0]?|some n=>if n≤vals.length then some (.agg (vals.take n)) else none)=some x) :
  ∃v,(loadVar t ⟨b,o,none⟩).run P w=.ok v w∧RepA w F L x v:=by
 cases n with
 |none =>
   obtain⟨v,hv,hr⟩:=hc 0 x hx
   exact⟨v,by simp[loadVar,bF (IR ht),show w.cell? ⟨b,o,none⟩=some v from hv],hr⟩
 |some n =>
   simp only at hx
   split at hx
   ·rename_i nL
    cases hx
    obtain⟨h1,h2⟩:=GR ht
    have jD:∀m,m≤vals.length→∃vs:List Value,vs.length=m∧(∀j v,vs[j]? = some v→w.cell? ⟨b,o+j,none⟩=some v)∧bA w F L (vals.take m) vs:=by
     intro m
     induction m with
     |zero=>intro _;exact⟨[],rfl,by simp,by simpa using bA.nil⟩
     |succ m ih =>
       intro hm
       obtain⟨vs,e1,e2,e3⟩:=ih oM
       obtain⟨v,hv,hr⟩:=hc m vals[m] (ae oM)
       refine⟨vs++[v],by simp[e1],?_,?_⟩
       ·intro j u hu
        by_cases hj:j<vs.length
        ·rw[aw hj]at hu;exact e2 j u hu
        ·have hj2:j=vs.length:=by
          have:=(aj.1 hu).1
          simp at this;omega
         subst hj2
         simp at hu
         subst hu
         rw[e1];exact hv
       ·rw[lh oM]
        exact e3.append (bA.cons hr bA.nil)
    obtain⟨vs,e1,e2,e3⟩:=jD n nL
    have hl:=run_loadCells_list (P:=P) w ⟨b,o,none⟩ vs (fun j v hv=>by rw[Addr.add_lit];exact e2 j v hv)
    rw[e1]at hl
    refine⟨.agg vs.toArray,?_,bA.agg (by simpa using e3)⟩
    simp[loadVar,bF h1,aB h2,hl]
   ·cases hx
end

section
variable {P:Program} {w:World} {F:Nat→Prop} {L:LMap} {o:Oper} {a:Act} {e:List AV} {b l b' l':List Row} {x:AV}

theorem dL {t:Bool} {v:Value} (h:RepA w F L (.v (.bool t)) v):v=.bool t:=by cases h.vI;rfl
theorem rI {k:IntKind} {n:Int} {v:Value} (h:RepA w F L (.v (.int k n)) v):v=.int k n:=by cases h.vI;rfl
theorem rQ {s:ByteArray} {v:Value} (h:RepA w F L (.v (.str s)) v):v=.string s:=by cases h.vI;rfl
theorem jV (t:Bool):RepA w F L (.v (.bool t)) (.bool t):=.v _ _ (.bool t)
theorem toN (k:IntKind) (n:Int):RepA w F L (.v (.int k n)) (.int k n):=.v _ _ (.int k n)
theorem toS (s:ByteArray):RepA w F L (.v (.str s)) (.string s):=.v _ _ (.str s)

theorem eE {y:Option AV} (h:UJ y b l=.val x b' l'):y=some x∧b'=b∧l'=l:=by
 cases y with
 |none=>cases h
 |some y=>cases h;exact⟨rfl,rfl,rfl⟩

theorem ZGN (s:Sim F L (b++l) w) (he:PC w F L e a) {y:Operand} {z:Opd} (ho:o.op=.move y∨o.op=.assign y) (hy:eB y=some z) :
  LB P o a w F L b l (ev e z) b l:=by
 refine LB.pure s (v:=a.eval y) ?_ (jB he hy)
 rcases ho with ho|ho<;>simp[execOp,ho]

theorem ZCA (s:Sim F L (b++l) w) (he:PC w F L e a) {y:Operand} {z:Opd} (ho:o.op=.nilCheck y) (hy:eB y=some z)
  (h:aop e b l (.nilck z)=.val x b' l'):LB P o a w F L b l x b' l':=by
 have hr:=jB he hy
 simp only[aop]at h
 generalize ev e z=q at *
 split at h
 ·cases h
  obtain⟨u,hu⟩:∃u,a.eval y=.pointer (some u):=by
   generalize a.eval y=q at hr
   cases hr.vI;exact⟨_,rfl⟩
  exact LB.pure s (v:=a.eval y) (by simp[execOp,ho,hu]) hr
 ·cases h
  obtain⟨u,hu⟩:∃u,a.eval y=.pointer (some u):=by
   generalize a.eval y=q at hr
   cases hr;exact⟨_,rfl⟩
  exact LB.pure s (v:=a.eval y) (by simp[execOp,ho,hu]) hr
 ·cases h
  obtain⟨vs,hu,_⟩:=hr.fnL
  exact LB.pure s (v:=a.eval y) (by simp[execOp,ho,hu]) hr
 ·cases h

theorem ZEv (s:Sim F L (b++l) w) (he:PC w F L e a) {c y z:Operand} {c' y' z':Opd} (ho:o.op=.pick c y z) (hc:eB c=some c') (hy:eB y=some y') (hz:eB z=some z')
  (h:aop e b l (.pick c' y' z')=.val x b' l'):LB P o a w F L b l x b' l':=by
 have h1:=jB he hc
 have h2:=jB he hy
 have h3:=jB he hz
 simp only[aop]at h
 replace h:=eE h
 obtain⟨h,rfl,rfl⟩:=h
 generalize ev e c'=p at *
 generalize ev e y'=q at *
 generalize ev e z'=r at *
 unfold XE at h
 split at h
 ·rename_i t t1 t2
  cases h
  have e1:=dL h1
  have e2:=dL h2
  have e3:=dL h3
  refine LB.pure s (v:=.bool (if t then t1 else t2)) ?_ (jV _)
  cases t<;>simp[execOp,ho,e1,e2,e3,asBool]
 ·rename_i t DO
  cases h
  have e1:=dL h1
  cases t
  ·exact LB.pure s (v:=a.eval z) (by simp[execOp,ho,e1,asBool]) h3
  ·exact LB.pure s (v:=a.eval y) (by simp[execOp,ho,e1,asBool]) h2
 ·cases h

theorem DK {op:BinOp} {t:TypeId} {y z:Operand} {k k':IntKind} {m n:Int}:(eqGuard op t y z (.int k m) (.int k' n)).run P w=.ok () w:=by
 cases op<;>simp[eqGuard]
theorem GJ {op:BinOp} {t:TypeId} {y z:Operand} {m n:Bool}:(eqGuard op t y z (.bool m) (.bool n)).run P w=.ok () w:=by
 cases op<;>simp[eqGuard]
theorem nQ {op:BinOp} {t:TypeId} {y z:Operand} {m n:ByteArray}:(eqGuard op t y z (.string m) (.string n)).run P w=.ok () w:=by
 cases op<;>simp[eqGuard]

theorem ZH6 (s:Sim F L (b++l) w) (he:PC w F L e a) {op:BinOp} {t u:TypeId} {y z:Operand} {y' z':Opd} (ho:o.op=.binOp op t y z u) (hy:eB y=some y') (hz:eB z=some z')
  (h:aop e b l (.bin op y' z')=.val x b' l'):LB P o a w F L b l x b' l':=by
 have h2:=jB he hy
 have h3:=jB he hz
 simp only[aop]at h
 replace h:=eE h
 obtain⟨h,rfl,rfl⟩:=h
 generalize ev e y'=q at *
 generalize ev e z'=r at *
 unfold QG at h
 split at h
 case h_2=>cases h
 rename_i k m k' n
 have e2:=rI h2
 have e3:=rI h3
 cases dY:SF op
 ·simp only[dY,bx,if_false]at h
  by_cases hk:k=k'
  ·subst hk
   simp only[if_true]at h
   have key:∀iv,DD op k m n=some iv→∃v,(binOp op t (.int k m) (.int k n)).run P w=.ok v w∧RepI w F iv v:=by
    intro iv ZW
    cases op<;>simp only[DD,SF]at ZW dY<;>first|(cases dY;done)|skip
    all_goals first
     |(cases ZW;refine⟨_,by simp[binOp,Op.intArith,Op.intBits,Op.intCmp];rfl,?_⟩;constructor)
     |(cases ZW;refine⟨_,by simp only[binOp,ne_eq,not_true_eq_false,if_false,Op.intBits];rfl,?_⟩;constructor)
     | (split at ZW
        ·cases ZW
        ·rename_i hn
         cases ZW
         refine⟨_,by simp[binOp,Op.intDiv,hn];rfl,?_⟩
         constructor)
   cases hi:DD op k m n with
   |none=>simp[hi]at h
   |some iv =>
     simp[hi]at h
     subst h
     obtain⟨v,hv,hr⟩:=key iv hi
     refine LB.pure s (v:=v) ?_ (.v _ _ hr)
     simp[execOp,ho,e2,e3,DK,hv]
  ·simp[hk]at h
 ·simp only[dY,if_true]at h
  cases hi:RF op k m n with
  |none=>simp[hi]at h
  |some iv =>
    simp[hi]at h
    subst h
    unfold RF at hi
    split at hi
    ·cases hi
    ·rename_i hn
     cases op<;>simp only[SF]at dY<;>first|(cases dY;done)|skip
     all_goals
      cases hi
      refine LB.pure s (v:=.int k _) ?_ (toN _ _)
      simp[execOp,ho,e2,e3,DK,binOp,Op.shift,hn]

theorem eL {t:TypeId} (ht:P.underlying t=some .bool) (m n:Bool):(Op.equal t (.bool m) (.bool n)).run P w=.ok (m==n) w:=run_equalIn_bool w 9999 t m n ht

theorem ZFI (s:Sim F L (b++l) w) (he:PC w F L e a) {op:BinOp} {t u:TypeId} (ht:P.underlying t=some .bool) {y z:Operand} {y' z':Opd} (ho:o.op=.binOp op t y z u) (hy:eB y=some y') (hz:eB z=some z')
  (h:aop e b l (.binB op y' z')=.val x b' l'):LB P o a w F L b l x b' l':=by
 have h2:=jB he hy
 have h3:=jB he hz
 simp only[aop]at h
 replace h:=eE h
 obtain⟨h,rfl,rfl⟩:=h
 generalize ev e y'=q at *
 generalize ev e z'=r at *
 unfold QE at h
 split at h
 case h_2=>cases h
 rename_i m n
 have e2:=dL h2
 have e3:=dL h3
 cases op<;>simp[eC]at h<;>subst h
 ·exact LB.pure s (v:=.bool (m==n)) (by simp[execOp,ho,e2,e3,GJ,binOp,eL ht]) (jV _)
 ·exact LB.pure s (v:=.bool (!(m==n))) (by simp[execOp,ho,e2,e3,GJ,binOp,eL ht]) (jV _)

theorem ZFH (s:Sim F L (b++l) w) (he:PC w F L e a) {op:BinOp} {t u:TypeId} {y z:Operand} {y' z':Opd} (ho:o.op=.binOp op t y z u) (hy:eB y=some y') (hz:eB z=some z')
  (h:aop e b l (.binS op y' z')=.val x b' l'):LB P o a w F L b l x b' l':=by
 have h2:=jB he hy
 have h3:=jB he hz
 simp only[aop]at h
 replace h:=eE h
 obtain⟨h,rfl,rfl⟩:=h
 generalize ev e y'=q at *
 generalize ev e z'=r at *
 unfold ZE at h
 split at h
 case h_2=>cases h
 rename_i m n
 have e2:=rQ h2
 have e3:=rQ h3
 have key:∀iv,GD op m n=some iv→∃v,(binOp op t (.string m) (.string n)).run P w=.ok v w∧RepI w F iv v:=by
  intro iv ZW
  cases op<;>simp only[GD]at ZW<;>first|(cases ZW;done)|skip
  ·split at ZW
   ·rename_i nL
    cases ZW
    exact⟨_,run_string_add_sum w m n nL,.str _⟩
   ·cases ZW
  all_goals (cases ZW;refine⟨_,?_,.bool _⟩;simp[binOp,Op.stringOp,beq_toListBytes])
 cases hi:GD op m n with
 |none=>simp[hi]at h
 |some iv =>
   simp[hi]at h
   subst h
   obtain⟨v,hv,hr⟩:=key iv hi
   exact LB.pure s (v:=v) (by simp[execOp,ho,e2,e3,nQ,hv]) (.v _ _ hr)

theorem ZH1 (s:Sim F L (b++l) w) (he:PC w F L e a) {t:TypeId} {y:Operand} {z:Opd} (ho:o.op=.unOp .not t y) (hy:eB y=some z)
  (h:aop e b l (.not z)=.val x b' l'):LB P o a w F L b l x b' l':=by
 have hr:=jB he hy
 simp only[aop]at h
 generalize ev e z=q at *
 split at h<;>cases h
 have e1:=dL hr
 exact LB.pure s (v:=.bool _) (by simp[execOp,ho,e1,Op.unary]) (jV _)

theorem ZH2 (s:Sim F L (b++l) w) (he:PC w F L e a) {t:TypeId} {y:Operand} {z:Opd} (ho:o.op=.unOp .neg t y) (hy:eB y=some z)
  (h:aop e b l (.neg z)=.val x b' l'):LB P o a w F L b l x b' l':=by
 have hr:=jB he hy
 simp only[aop]at h
 generalize ev e z=q at *
 split at h<;>cases h
 have e1:=rI hr
 exact LB.pure s (v:=.int _ _) (by simp[execOp,ho,e1,Op.unary,Op.intArith]) (toN _ _)

theorem ZFE (s:Sim F L (b++l) w) (he:PC w F L e a) {t u:TypeId} {k k':IntKind} (ht:P.underlying t=some (.int k')) (hu:P.underlying u=some (.int k)) {y:Operand} {z:Opd} (ho:o.op=.convert t u y) (hy:eB y=some z)
  (h:aop e b l (.conv k z)=.val x b' l'):LB P o a w F L b l x b' l':=by
 have hr:=jB he hy
 simp only[aop]at h
 generalize ev e z=q at *
 split at h<;>cases h
 have e1:=rI hr
 exact LB.pure s (v:=.int _ _) (by simp[execOp,ho,e1,convert,run_underlying ht,run_underlying hu,Conv.intToInt]) (toN _ _)

theorem ZCE (s:Sim F L (b++l) w) (he:PC w F L e a) {t:TypeId} {i:Nat} {fs:Array Field} {f:Field} (ht:P.underlying t=some (.struct fs)) (hf:fs[i]? = some f) {n:Option Nat} (hn:JK P f.type=some n)
  {y:Operand} {z:Opd} (ho:o.op=.field t y i) (hy:eB y=some z)
  (h:aop e b l (.field f.offset n z)=.val x b' l'):LB P o a w F L b l x b' l':=by
 have hr:=jB he hy
 simp only[aop]at h
 generalize ev e z=q at *
 split at h
 case h_2=>cases h
 replace h:=eE h
 obtain⟨h,rfl,rfl⟩:=h
 obtain⟨vs,hv,hl⟩:=hr.aggL
 obtain⟨v,h1,h2⟩:=V7 (P:=P) hl hn h
 exact LB.pure s (v:=v) (by simp[execOp,ho,hv,Instr.field,run_underlying ht,hf,asAgg,h1]) h2

theorem K1 (s:Sim F L (b++l) w) (he:PC w F L e a) {i:Nat} {y:Operand} {z:Opd} (ho:o.op=.extract y i) (hy:eB y=some z)
  (h:aop e b l (.extract i z)=.val x b' l'):LB P o a w F L b l x b' l':=by
 have hr:=jB he hy
 simp only[aop]at h
 generalize ev e z=q at *
 split at h
 case h_2=>cases h
 replace h:=eE h
 obtain⟨h,rfl,rfl⟩:=h
 obtain⟨vs,hv,hl⟩:=hr.tupL
 obtain⟨v,h1,h2⟩:=hl.get h
 have h1':vs[i]? = some v:=by simpa using h1
 exact LB.pure s (v:=v) (by simp[execOp,ho,hv,Instr.extract,h1']) h2

theorem ZEw (s:Sim F L (b++l) w) (he:PC w F L e a) {f:FuncId} {first caps:Array Operand} {cs:List Opd} (h0:first.size=0) (ho:o.op=.makeFunc (.func f) first caps) (hc:EQ caps.toList=some cs)
  : LB P o a w F L b l (.fn f (evs e cs)) b l:=by
 have hr:=dW he hc
 have:first=#[]:=ji h0
 subst this
 exact LB.pure s (v:=.func (.func f) #[] (caps.map a.eval)) (by simp[execOp,ho,Instr.makeFunc]) (bA.fn (by simpa using hr))

theorem j9 (s:Sim F L (b++l) w) (he:PC w F L e a) {t:TypeId} (ht:P.underlying t=some .string) {y i:Operand} {y' i':Opd} (ho:o.op=.index t y i) (hy:eB y=some y') (hi:eB i=some i')
  (h:aop e b l (.indexS y' i')=.val x b' l'):LB P o a w F L b l x b' l':=by
 have h1:=jB he hy
 have h2:=jB he hi
 simp only[aop]at h
 generalize ev e y'=q at *
 generalize ev e i'=r at *
 split at h
 case h_2=>cases h
 rename_i str k n
 split at h
 case isFalse=>cases h
 rename_i hb
 cases h
 have e1:=rQ h1
 have e2:=rI h2
 exact LB.pure s (v:=.int .u8 (str[n.toNat]'hb.2).toNat) (by simp[execOp,ho,e1,e2,Instr.index,asIntOf,run_underlying ht,hb.1,hb.2]) (toN _ _)

theorem y9 (s:Sim F L (b++l) w) (he:PC w F L e a) {t el:TypeId} {len sz:Nat} {n:Option Nat} (ht:P.underlying t=some (.array len el)) (hz:jE P el=some sz) (hn:JK P el=some n)
  {y i:Operand} {y' i':Opd} (ho:o.op=.index t y i) (hy:eB y=some y') (hi:eB i=some i')
  (h:aop e b l (.indexA len sz n y' i')=.val x b' l'):LB P o a w F L b l x b' l':=by
 have h1:=jB he hy
 have h2:=jB he hi
 simp only[aop]at h
 generalize ev e y'=q at *
 generalize ev e i'=r at *
 split at h
 case h_2=>cases h
 rename_i cs k m
 split at h
 case isFalse=>cases h
 rename_i hb
 replace h:=eE h
 obtain⟨h,rfl,rfl⟩:=h
 obtain⟨vs,hv,hl⟩:=h1.aggL
 have e2:=rI h2
 obtain⟨v,h3,h4⟩:=V7 (P:=P) hl hn h
 exact LB.pure s (v:=v) (by simp[execOp,ho,hv,e2,Instr.index,asIntOf,run_underlying ht,hb.1,hb.2,aB hz,h3]) h4

theorem ZGO (s:Sim F L (b++l) w) (he:PC w F L e a) {t:Bool} {c:Call} (hc:c.callee=.builtin (if t then .max else .min)) {y z:Operand} {y' z':Opd} (ha:c.args.toList=[y,z]) (ho:o.op=.call c) (hy:eB y=some y') (hz:eB z=some z')
  (h:aop e b l (.mm t y' z')=.val x b' l'):LB P o a w F L b l x b' l':=by
 have h1:=jB he hy
 have h2:=jB he hz
 simp only[aop]at h
 replace h:=eE h
 obtain⟨h,rfl,rfl⟩:=h
 generalize ev e y'=q at *
 generalize ev e z'=r at *
 unfold amm at h
 split at h
 case h_2=>cases h
 rename_i k m k' n
 cases h
 have e1:=rI h1
 have e2:=rI h2
 have ha':c.args=#[y,z]:=by rw[←jk (xs:=c.args),ha]
 cases t
 ·exact LB.pure s (v:=.int k _) (by simp[execOp,ho,resolve,hc,ha',invoke,builtin,e1,e2,Builtin.min_,Builtin.min2]) (toN _ _)
 ·exact LB.pure s (v:=.int k _) (by simp[execOp,ho,resolve,hc,ha',invoke,builtin,e1,e2,Builtin.max_,Builtin.max2]) (toN _ _)
end

theorem EI {α:Type} (xs ys:List α) (p i:Nat) (h:p+ys.length≤xs.length) :
  (xs.take p++ys++xs.drop (p+ys.length))[i]? = if p≤i∧i<p+ys.length then ys[i-p]? else xs[i]?:=by
 have h1:(xs.take p).length=p:=by simp;omega
 by_cases hi:i<p
 ·rw[ay,aw oM,cw,if_pos hi,if_neg oM]
 ·by_cases hj:i<p+ys.length
  ·rw[ay,au oM,h1,aw oM,if_pos oM]
  ·rw[au kT,if_neg oM,dl]
   congr 1
   simp;omega

theorem QQ (cs:List AV):∀(row:List AV) (j:Nat),(JB row j cs).length=row.length:=by
 induction cs with
 |nil=>intro row j;rfl
 |cons c cs ih=>intro row j;simp[JB,ih]
theorem XQ (cs:List AV):∀(row:List AV) (j i:Nat),j+cs.length≤row.length→(JB row j cs)[i]? = if j≤i∧i<j+cs.length then cs[i-j]? else row[i]?:=by
 induction cs with
 |nil=>intro row j i _;simp only[JB,cr];rw[if_neg oM]
 |cons c cs ih =>
   intro row j i h
   simp only[ck]at h
   simp only[JB]
   rw[ih _ _ _ kT]
   by_cases h1:i=j
   ·subst h1
    rw[if_neg oM,if_pos kS,bf oM]
    simp
   ·by_cases h2:j+1≤i∧i<j+1+cs.length
    ·rw[if_pos h2,if_pos kT,show i-j=(i-(j+1))+1 by omega]
     simp
    ·rw[if_neg h2,if_neg kT,bq oM]

theorem L7 {sz k k' j j' n:Nat} (hk:k≠k') (hj:j'<sz) (hn:j+n≤sz):¬(k*sz+j≤k'*sz+j'∧k'*sz+j'<k*sz+j+n):=by
 rintro⟨h1,h2⟩
 rcases Nat.lt_or_gt_of_ne hk with h|h
 ·have:=ct sz (show k+1≤k' by omega)
  rw[ca]at this
  omega
 ·have:=ct sz (show k'+1≤k by omega)
  rw[ca]at this
  omega
theorem sH {sz k j n cap:Nat} (hk:k<cap) (hn:j+n≤sz):k*sz+j+n≤cap*sz:=by
 have:=ct sz (show k+1≤cap by omega)
 rw[ca]at this
 omega

section
variable {P:Program} {w:World} {F:Nat→Prop} {L:LMap} {o:Oper} {a:Act} {e:List AV} {b l b' l':List Row} {x:AV}

theorem QM {x:AV} {v:Value} {cs:List AV} (h:RepA w F L x v) (hc:cellsOf x=some cs) (ha:cs.all AV.cell=true) :
  bA w F L cs v.cells.toList∧∀u∈v.cells.toList,u.oneCell'=true:=by
 cases x with
 |any=>cases hc
 |tup cs=>cases hc
 |agg ds =>
   cases hc
   obtain⟨vs,rfl,hl⟩:=h.aggL
   refine⟨hl,fun u hu=>?_⟩
   obtain⟨i,hi⟩:=ey.1 hu
   simp only[Value.cells]at hi
   have V8:i<cs.length:=by rw[hl.1];exact (aj.1 hi).1
   exact (hl.2 i cs[i] u (ae V8) hi).one (by simpa using bo.1 ha cs[i] (ap V8))
 |_ =>
   cases hc
   have h1:=h.one rfl
   rw[UV h1]
   exact⟨by simpa using bA.cons h bA.nil,by simpa using h1⟩

theorem ZCF (s:Sim F L (b++l) w) (he:PC w F L e a) {t:TypeId} {i n:Nat} {fs:Array Field} {f:Field} (ht:P.underlying t=some (.struct fs)) (hf:fs[i]? = some f) (hn:jE P f.type=some n) (h0:0<n)
  {y:Operand} {z:Opd} (ho:o.op=.fieldAddr t y i) (hy:eB y=some z)
  (h:aop e b l (.faddr f.offset z)=.val x b' l'):LB P o a w F L b l x b' l':=by
 have hr:=jB he hy
 simp only[aop]at h
 generalize ev e z=q at *
 have key:∀blk p,a.eval y=.pointer (some ⟨blk,p,none⟩)→(execOp a.eval o).run P w=.ok (.value (.pointer (some ⟨blk,p+f.offset,none⟩))) w:=by
  intro blk p hp
  simp[execOp,ho,hp,Instr.fieldAt,run_underlying ht,hf,Instr.sureAddr,fieldPlace,aB hn,show n≠0 by omega,Addr.add_lit]
 unfold tC at h
 split at h
 ·rename_i row j
  cases h
  generalize hp:a.eval y=u at *
  cases hr.vI with
  |iptr _ _ b1 off val h1 h2 h3 =>
    exact LB.pure s (key _ _ rfl) (.v _ _ (by rw[da];exact .iptr row _ b1 off val h1 h2 h3))
 ·rename_i id ver k j
  cases h
  generalize hp:a.eval y=u at *
  cases hr with
  |ptr _ _ _ _ b1 o1 sz cap hL =>
    exact LB.pure s (key _ _ rfl) (by rw[da];exact .ptr id ver k _ b1 o1 sz cap hL)
 ·cases h

theorem ZCD (s:Sim F L (b++l) w) (he:PC w F L e a) {t el:TypeId} {sz:Nat} (ht:P.underlying t=some (.slice el)) (hz:jE P el=some sz)
  {y i:Operand} {y' i':Opd} (ho:o.op=.indexAddr t y i) (hy:eB y=some y') (hi:eB i=some i')
  (h:aop e b l (.iaddr sz y' i')=.val x b' l'):LB P o a w F L b l x b' l':=by
 have h1:=jB he hy
 have h2:=jB he hi
 simp only[aop]at h
 generalize ev e y'=q at *
 generalize ev e i'=r at *
 have key:∀(blk p len cap:Nat) (k:IntKind) (n:Int),a.eval y=.slice (some ⟨blk,p,none⟩) len cap→a.eval i=.int k n→0≤n→n<(len:Int)→(execOp a.eval o).run P w=.ok (.value (.pointer (some ⟨blk,p+n.toNat*sz,none⟩))) w:=by
  intro blk p len cap k n e1 e2 h0 hn
  simp[execOp,ho,e1,e2,Instr.indexAt,asIntOf,run_underlying ht,aB hz,h0,hn,Addr.add_lit]
 unfold sC at h
 split at h
 ·rename_i s0 rows k n
  split at h
  case isFalse=>cases h
  rename_i hb
  obtain⟨rfl,h0⟩:=hb
  split at h
  case h_2=>cases h
  rename_i row RE
  cases h
  have e2:=rI h2
  have bB:n.toNat<rows.length:=(aj.1 RE).1
  generalize hp:a.eval y=u at *
  cases h1.vI with
  |isl0=>simp at RE
  |isl _ b1 off _ c val g1 g2 g3 g4 g5 g6 =>
    refine LB.pure s (key _ _ _ _ _ _ rfl e2 h0 oM) (.v _ _ ?_)
    have:=RepI.iptr (w:=w) (F:=F) row 0 b1 (off+n.toNat*s0) (val n.toNat) g1 (fun j a hj=>g5 _ row j a RE hj) (fun j a hj=>g6 _ row j a RE hj)
    simpa using this
 ·rename_i id ver off len k n
  split at h
  case h_2=>cases h
  rename_i v s0 els hg
  split at h
  case isFalse=>cases h
  rename_i hb
  obtain⟨rfl,rfl,h0,hn⟩:=hb
  cases h
  rw[MD]at hg
  have e2:=rI h2
  generalize hp:a.eval y=u at *
  cases h1 with
  |sl _ _ _ _ b1 o1 sz1 cap1 g1 g2 g3 =>
    obtain⟨lc,k1,k2⟩:=s.row _ _ _ _ hg
    rw[g1]at k1;cases k1
    obtain⟨rfl,_⟩:=k2
    refine LB.pure s (key _ _ _ _ _ _ rfl e2 h0 hn) ?_
    have:=RepA.ptr (w:=w) (F:=F) id v (off+n.toNat) 0 b1 o1 sz1 cap1 g1
    rw[ca]at this
    simpa [da] using this
  |slz=>simp at hn;omega
  |sln=>simp at hn;omega
 ·cases h

theorem g9 (s:Sim F L (b++l) w) (he:PC w F L e a) {t el:TypeId} {len sz:Nat} (ht:P.underlying t=some (.array len el)) (hz:jE P el=some sz)
  {y i:Operand} {y' i':Opd} (ho:o.op=.indexAddr t y i) (hy:eB y=some y') (hi:eB i=some i')
  (h:aop e b l (.iaddrA len sz y' i')=.val x b' l'):LB P o a w F L b l x b' l':=by
 have h1:=jB he hy
 have h2:=jB he hi
 simp only[aop]at h
 generalize ev e y'=q at *
 generalize ev e i'=r at *
 have key:∀(blk p:Nat) (k:IntKind) (n:Int),a.eval y=.pointer (some ⟨blk,p,none⟩)→a.eval i=.int k n→0≤n→n<(len:Int)→(execOp a.eval o).run P w=.ok (.value (.pointer (some ⟨blk,p+n.toNat*sz,none⟩))) w:=by
  intro blk p k n e1 e2 h0 hn
  simp[execOp,ho,e1,e2,Instr.indexAt,asIntOf,run_underlying ht,aB hz,h0,hn,Addr.add_lit,Instr.sureAddr]
 unfold DB at h
 split at h
 ·rename_i row j k n
  split at h
  case isFalse=>cases h
  rename_i hb
  cases h
  have e2:=rI h2
  generalize hp:a.eval y=u at *
  cases h1.vI with
  |iptr _ _ b1 off val g1 g2 g3 =>
    exact LB.pure s (key _ _ _ _ rfl e2 hb.1 hb.2) (.v _ _ (by rw[da];exact .iptr row _ b1 off val g1 g2 g3))
 ·rename_i id ver k j kk n
  split at h
  case isFalse=>cases h
  rename_i hb
  cases h
  have e2:=rI h2
  generalize hp:a.eval y=u at *
  cases h1 with
  |ptr _ _ _ _ b1 o1 sz1 cap hL =>
    exact LB.pure s (key _ _ _ _ rfl e2 hb.1 hb.2) (by rw[da];exact .ptr id ver k _ b1 o1 sz1 cap hL)
 ·cases h

theorem nZ (s:Sim F L (b++l) w) {t:TypeId} {n:Option Nat} (hn:JK P t=some n) {q:AV} {v:Value} (hr:RepA w F L q v)
  (h:sD b l n q=.val x b' l'):∃blk p u,v=.pointer (some ⟨blk,p,none⟩)∧(loadVar t ⟨blk,p,none⟩).run P w=.ok u w∧RepA w F L x u∧b'=b∧l'=l:=by
 unfold sD at h
 split at h
 ·rename_i row j
  replace h:=eE h
  obtain⟨h,rfl,rfl⟩:=h
  cases hr.vI with
  |iptr _ _ b1 off val g1 g2 g3 =>
    have:=ZS (P:=P) (w:=w) (F:=F) (L:=L) hn (b:=b1) (o:=off+j) (vals:=(row.drop j).map .v) (x:=x) (by
     intro i y hy
     rw[ai]at hy
     cases hq:(row.drop j)[i]? with
     |none=>simp[hq]at hy
     |some z =>
       simp[hq]at hy
       subst hy
       rw[dl]at hq
       exact⟨_,by rw[da];exact g2 _ _ hq,.v _ _ (g3 _ _ hq)⟩) (by
     cases n with
     |none=>simp only[rdI]at h;simpa using h
     |some n =>
       simp only[rdI]at h
       split at h
       ·rename_i nL
        cases h
        simp only
        rw[if_pos kT,gx]
       ·cases h)
    obtain⟨u,h1,h2⟩:=this
    exact⟨b1,off+j,u,rfl,h1,h2,rfl,rfl⟩
 ·rename_i id ver k j
  split at h
  case h_2=>cases h
  rename_i v0 s0 els hg
  split at h
  case isFalse=>cases h
  rename_i hv
  subst hv
  split at h
  case h_2=>cases h
  rename_i row RE
  replace h:=eE h
  obtain⟨h,rfl,rfl⟩:=h
  rw[MD]at hg
  cases hr with
  |ptr _ _ _ _ b1 o1 sz1 cap hL =>
    have:=ZS (P:=P) (w:=w) (F:=F) (L:=L) hn (b:=b1) (o:=o1+k*sz1+j) (vals:=row.drop j) (x:=x) (by
     intro i y hy
     rw[dl]at hy
     obtain⟨_,_,u,h1,h2⟩:=s.cell hg hL RE hy
     exact⟨u,by rw[da];exact h1,h2⟩) (by
     cases n with
     |none=>simp only[rd]at h;simpa using h
     |some n =>
       simp only[rd]at h
       split at h
       ·rename_i nL
        cases h
        simp only
        rw[if_pos kT]
       ·cases h)
    obtain⟨u,h1,h2⟩:=this
    exact⟨b1,o1+k*sz1+j,u,rfl,h1,h2,rfl,rfl⟩
 ·cases h

theorem ZEx (s:Sim F L (b++l) w) (he:PC w F L e a) {t:TypeId} {n:Option Nat} (hn:JK P t=some n) {y:Operand} {z:Opd} (ho:o.op=.load t y) (hy:eB y=some z)
  (h:aop e b l (.load n z)=.val x b' l'):LB P o a w F L b l x b' l':=by
 have hr:=jB he hy
 simp only[aop]at h
 obtain⟨blk,p,u,h1,h2,h3,rfl,rfl⟩:=nZ (P:=P) s hn hr h
 exact LB.pure s (v:=u) (by simp[execOp,ho,h1,Instr.loadAt,Instr.sureAddr,h2]) h3

theorem ZBy (s:Sim F L (b++l) w) (he:PC w F L e a) {t:TypeId} {n:Nat} (hn:jE P t=some n) {y z:Operand} {y' z':Opd} (ho:o.op=.store t y z) (hy:eB y=some y') (hz:eB z=some z')
  (h:aop e b l (.store n y' z')=.val x b' l'):LB P o a w F L b l x b' l':=by
 have h1:=jB he hy
 have h2:=jB he hz
 simp only[aop]at h
 generalize ev e y'=q at *
 generalize ev e z'=r at *
 unfold pC at h
 split at h
 case h_2=>cases h
 rename_i id ver k j cs PN
 split at h
 case h_2=>cases h
 rename_i v0 s0 els hg
 split at h
 case isFalse=>cases h
 rename_i hb
 obtain⟨rfl,jD,uH⟩:=hb
 split at h
 case h_2=>cases h
 rename_i row RE
 split at h
 case isFalse=>cases h
 rename_i cI
 cases h
 rw[MD]at hg
 obtain⟨c1,c2⟩:=QM h2 PN uH
 generalize hvs:a.eval z=v at *
 generalize hp:a.eval y=u at *
 cases h1 with
 |ptr _ _ _ _ b1 o1 sz1 cap hL =>
   obtain⟨lc,k1,k2⟩:=s.row _ _ _ _ hg
   rw[hL]at k1;cases k1
   obtain⟨rfl,k3,k4,cur,T,k5,k6,k7,k8⟩:=k2
   have hk:k<els.length:=(aj.1 RE).1
   have rY:=k7 k row RE
   have QW:v.cells.toList.length=n:=by rw[←c1.1,jD]
   have hvz:v.cells.size=n:=by simpa using QW
   have nL:k*sz1+j+n≤cap*sz1:=sH oM oM
   have tH:=run_storeCells_at P b1 (o1+k*sz1+j) T v.cells.toList 0 cur w k5 oM c2
   have TD:(execOp a.eval o).run P w=.ok .skip (w.setRow b1 (cur.toList.take (o1+k*sz1+j)++v.cells.toList++cur.toList.drop (o1+k*sz1+j+v.cells.toList.length)).toArray):=by
    simp only[cm]at tH
    have NN:v.cells.size=n:=by simpa using QW
    simp[execOp,ho,hp,hvs,Instr.storeAt,Instr.sureAddr,storeVar,aB hn,NN,tH]
   have CO:(cur.toList.take (o1+k*sz1+j)++v.cells.toList++cur.toList.drop (o1+k*sz1+j+v.cells.toList.length)).toArray.size=cur.size:=by
    simp only[eh,am,bu,fp,gh]
    omega
   have hget:∀i,(cur.toList.take (o1+k*sz1+j)++v.cells.toList++cur.toList.drop (o1+k*sz1+j+v.cells.toList.length)).toArray[i]? = if o1+k*sz1+j≤i∧i<o1+k*sz1+j+n then v.cells.toList[i-(o1+k*sz1+j)]? else cur[i]?:=by
    intro i
    have:=EI cur.toList v.cells.toList (o1+k*sz1+j) i (by simp only[gh];omega)
    rw[QW]at this
    simp only[iu]
    rw[QW,this]
    simp
   obtain⟨L',r1,r2,r3,r4⟩:=s.putRow (h':=(b++l).set id (.live v0 sz1 (els.set k (JB row j cs)))) (w':=w.setRow b1 (cur.toList.take (o1+k*sz1+j)++v.cells.toList++cur.toList.drop (o1+k*sz1+j+v.cells.toList.length)).toArray)
    id v0 sz1 b1 o1 cap (els.set k (JB row j cs)) rfl rfl rfl kS (fun i _ hi=>setRow_other w b1 i _ hi) (.inr ⟨_,_,_,_,_,_,hg,hL⟩)
    (bf (aj.1 hg).1) (fun i hi=>bq (Ne.symm hi)) (fun r hr=>by rw[hg]at hr;cases hr;exact⟨ah _,_,_,_,rfl⟩) (.inr hL)
    (by simpa using k3) k4 _ T (setRow_heap w b1 cur _ T _ k5) (by rw[CO];exact k6)
    (fun k' row' hk'=>by
     by_cases VP:k=k'
     ·subst VP
      rw[bf hk]at hk';cases hk'
      rw[QQ];exact rY
     ·rw[bq VP]at hk';exact k7 _ _ hk')
    (fun k' row' j' a' hk' hj'=>by
     by_cases VP:k=k'
     ·subst VP
      rw[bf hk]at hk';cases hk'
      rw[XQ cs row j j' oM]at hj'
      rw[hget]
      by_cases yF:j≤j'∧j'<j+cs.length
      ·rw[if_pos yF]at hj'
       rw[if_pos oM]
       obtain⟨u,hu,hru⟩:=c1.get hj'
       refine⟨?_,u,by rw[show o1+k*sz1+j'-(o1+k*sz1+j)=j'-j by omega];exact hu,hru⟩
       exact bo.1 uH _ (cd hj')
      ·rw[if_neg yF]at hj'
       rw[if_neg oM]
       exact k8 k row j' a' RE hj'
     ·rw[bq VP]at hk'
      have hj2:j'<sz1:=by rw[←k7 _ _ hk'];exact (aj.1 hj').1
      rw[hget,if_neg (by have:=L7 (n:=n) (j:=j) VP hj2 oM;omega)]
      exact k8 k' row' j' a' hk' hj')
   refine⟨undef,_,L',.inr ⟨TD,rfl⟩,RepA.undef _ _ _,by rw[bE];exact r1,by rw[bE];exact r2,aF _ _ _⟩
end

section
variable {P:Program} {w:World} {F:Nat→Prop} {L:LMap} {o:Oper} {a:Act} {e:List AV} {b l b' l':List Row} {x:AV}

theorem pX {t ty el:TypeId} (ht:P.underlying t=some (.slice el)) (ad:Option Addr) (n c:Nat):(Builtin.len_ #[t] ty #[.slice ad n c]).run P w=.ok (goInt n) w:=by
 simp[Builtin.len_,run_underlying ht]

theorem dE {c:Call} {bi:Builtin} {xs:List Operand} {ts:List TypeId} (ho:o.op=.call c) (hc:c.callee=.builtin bi) (ha:c.args.toList=xs) (XW:c.argTypes.toList=ts) :
  execOp a.eval o=(do let d ←(Pure.pure {target:=.builtin bi ts.toArray o.type (xs.toArray.map fun|.const _=>true|_=>false),args:=(xs.map a.eval).toArray}:Sem Deferred);invoke d.target d.args):=by
 have h1:c.args=xs.toArray:=by rw[←ha]
 have h2:c.argTypes=ts.toArray:=by rw[←XW]
 simp only[execOp,ho,resolve,hc,h1,h2,li]
 rfl

theorem ZH3 (s:Sim F L (b++l) w) (he:PC w F L e a) {c:Call} {t el:TypeId} (ht:P.underlying t=some (.slice el)) {y:Operand} {z:Opd} (hc:c.callee=.builtin .len) (ha:c.args.toList=[y]) (XW:c.argTypes.toList=[t]) (ho:o.op=.call c) (hy:eB y=some z)
  (h:aop e b l (.len z)=.val x b' l'):LB P o a w F L b l x b' l':=by
 have hr:=jB he hy
 simp only[aop]at h
 replace h:=eE h
 obtain⟨h,rfl,rfl⟩:=h
 generalize ev e z=q at *
 have key:∀ad n cp,a.eval y=.slice ad n cp→LB P o a w F L b' l' (.v (.int .i64 n)) b' l':=by
  intro ad n cp hv
  refine LB.pure s (v:=goInt n) ?_ (toN _ _)
  rw[dE ho hc ha XW]
  simp[invoke,builtin,hv,pX ht]
 unfold YG at h
 split at h
 ·cases h
  generalize hv:a.eval y=v at hr
  cases hr.vI
  exact key _ _ _ hv
 ·cases h
  generalize hv:a.eval y=v at hr
  cases hr.vI
  ·exact key _ _ _ hv
  ·exact key _ _ _ hv
 ·cases h
  generalize hv:a.eval y=v at hr
  cases hr
  ·exact key _ _ _ hv
  ·exact key _ _ _ hv
  ·exact key _ _ _ hv
 ·cases h

theorem mX {t ty el:TypeId} (ht:P.underlying t=some (.slice el)) (ad:Option Addr) (n c:Nat):(Builtin.cap_ #[t] ty #[.slice ad n c]).run P w=.ok (goInt c) w:=by
 simp[Builtin.cap_,run_underlying ht]

theorem ZFF (s:Sim F L (b++l) w) (he:PC w F L e a) {c:Call} {t el:TypeId} (ht:P.underlying t=some (.slice el)) {y:Operand} {z:Opd} (hc:c.callee=.builtin .cap) (ha:c.args.toList=[y]) (XW:c.argTypes.toList=[t]) (ho:o.op=.call c) (hy:eB y=some z)
  (h:aop e b l (.capz z)=.val x b' l'):LB P o a w F L b l x b' l':=by
 have hr:=jB he hy
 simp only[aop]at h
 generalize ev e z=q at *
 split at h
 case h_2=>cases h
 cases h
 generalize hv:a.eval y=v at hr
 cases hr.vI
 refine LB.pure s (v:=goInt 0) ?_ (toN _ _)
 rw[dE ho hc ha XW]
 simp[invoke,builtin,hv,mX ht]

theorem ZEy (s:Sim F L (b++l) w) (he:PC w F L e a) {c:Call} {t:TypeId} (ht:P.underlying t=some .string) {y:Operand} {z:Opd} (hc:c.callee=.builtin .len) (ha:c.args.toList=[y]) (XW:c.argTypes.toList=[t]) (ho:o.op=.call c) (hy:eB y=some z)
  (h:aop e b l (.lenS z)=.val x b' l'):LB P o a w F L b l x b' l':=by
 have hr:=jB he hy
 simp only[aop]at h
 replace h:=eE h
 obtain⟨h,rfl,rfl⟩:=h
 generalize ev e z=q at *
 unfold YE at h
 split at h
 ·cases h
  have hv:=rQ hr
  refine LB.pure s (v:=goInt _) ?_ (toN _ _)
  rw[dE ho hc ha XW]
  simp[invoke,builtin,hv,Builtin.len_,run_underlying ht]
 ·cases h

theorem ZFA (s:Sim F L (b++l) w) {c:Call} {t el:TypeId} {n:Nat} (ht:P.underlying t=some (.array n el)) {y:Operand} (hc:c.callee=.builtin .len) (ha:c.args.toList=[y]) (XW:c.argTypes.toList=[t]) (ho:o.op=.call c) :
  LB P o a w F L b l (.v (.int .i64 n)) b l:=by
 refine LB.pure s (v:=goInt n) ?_ (toN _ _)
 rw[dE ho hc ha XW]
 simp[invoke,builtin,Builtin.len_,run_underlying ht]

theorem sG {n m p q:Nat} {lo hi:Option AV} {vlo vhi:Option Value} (h:iC n lo hi=some (p,q)) (hm:n≤m) (isS:Bool)
  (h1:∀y,lo=some y→∃v,vlo=some v∧RepA w F L y v) (h1n:lo=none→vlo=none)
  (h2:∀y,hi=some y→∃v,vhi=some v∧RepA w F L y v) (h2n:hi=none→vhi=none) :
  (Instr.sliceBounds isS n m vlo vhi none).run P w=.ok (p,q,m) w∧p≤q∧q≤n:=by
 unfold iC at h
 split at h
 ·cases h
  rw[h1n rfl,h2n rfl]
  exact⟨by simp[Instr.sliceBounds],an _,ah _⟩
 ·rename_i k i
  split at h
  ·rename_i hb
   cases h
   obtain⟨v,e1,e2⟩:=h1 _ rfl
   rw[e1,h2n rfl,rI e2]
   exact⟨by simp[Instr.sliceBounds,Instr.sliceBound,asIntOf,hb.1,hb.2],by omega,ah _⟩
  ·cases h
 ·rename_i k i
  split at h
  ·rename_i hb
   cases h
   obtain⟨v,e1,e2⟩:=h2 _ rfl
   rw[e1,h1n rfl,rI e2]
   have:i≤(m:Int):=by omega
   exact⟨by simp[Instr.sliceBounds,Instr.sliceBound,asIntOf,hb.1,this],by omega,by omega⟩
  ·cases h
 ·rename_i k i k' i'
  split at h
  ·rename_i hb
   cases h
   obtain⟨v,e1,e2⟩:=h1 _ rfl
   obtain⟨u,e3,e4⟩:=h2 _ rfl
   rw[e1,e3,rI e2,rI e4]
   have h0:0≤i':=by omega
   have h3:i'≤(m:Int):=by omega
   have h4:i≤((i'.toNat:Nat):Int):=by omega
   have h5:¬(max i' 0<i):=by omega
   exact⟨by simp[Instr.sliceBounds,Instr.sliceBound,asIntOf,hb.1,h0,h3,h5],by omega,by omega⟩
  ·cases h
 ·cases h

theorem iR (he:PC w F L e a) {y:Option Operand} {z:Option Opd} (h:VM y=some z) :
  (∀u,evo e z=some u→∃v,y.map a.eval=some v∧RepA w F L u v)∧(evo e z=none→y.map a.eval=none):=by
 cases y with
 |none=>simp[VM]at h;subst h;exact⟨fun u hu=>by simp[evo]at hu,fun _=>rfl⟩
 |some y =>
   cases hc:eB y with
   |none=>simp[VM,hc]at h
   |some q =>
     simp[VM,hc]at h
     subst h
     exact⟨fun u hu=>by simp[evo]at hu;subst hu;exact⟨_,rfl,jB he hc⟩,fun h=>by simp[evo]at h⟩

theorem zI {t el:TypeId} {sz:Nat} (ht:P.underlying t=some (.slice el)) (hz:jE P el=some sz) {ad:Option Addr} {n m p q:Nat} {vlo vhi:Option Value} (hb:(Instr.sliceBounds true n m vlo vhi none).run P w=.ok (p,q,m) w) :
  (Instr.sliceAt t (.slice ad n m) vlo vhi none).run P w=.ok (.slice (if m=p then ad else ad.map (·.add (p*sz))) (q-p) (m-p)) w:=by
 simp only[Instr.sliceAt,Sem.run_bind,run_underlying ht,Result.andThen_ok,Instr.slice,hb,aB hz,Sem.run_pure]

theorem ZBz (s:Sim F L (b++l) w) (he:PC w F L e a) {t el:TypeId} {sz:Nat} (ht:P.underlying t=some (.slice el)) (hz:jE P el=some sz)
  {y:Operand} {y':Opd} {lo hi:Option Operand} {lo' hi':Option Opd} (ho:o.op=.slice t y lo hi none) (hy:eB y=some y') (hlo:VM lo=some lo') (hhi:VM hi=some hi')
  (h:aop e b l (.slice sz y' lo' hi')=.val x b' l'):LB P o a w F L b l x b' l':=by
 have hr:=jB he hy
 obtain⟨g1,g2⟩:=iR he hlo
 obtain⟨g3,g4⟩:=iR he hhi
 simp only[aop]at h
 generalize ev e y'=q at *
 unfold rC at h
 split at h
 ·split at h
  case h_2=>cases h
  rename_i pq hb
  obtain⟨p,q⟩:=pq
  cases h
  generalize hv:a.eval y=v at hr
  cases hr.vI with
  |zsl ad =>
    obtain⟨k1,k2,k3⟩:=sG (P:=P) hb (ah _) true g1 g2 g3 g4
    have hq:q=0:=by omega
    subst hq
    have hp:p=0:=by omega
    subst hp
    refine LB.pure s (v:=.slice ad 0 0) ?_ (.v _ _ (.zsl _))
    simp[execOp,ho,hv,zI ht hz k1]
 ·rename_i s0 rows
  split at h
  case isFalse=>cases h
  rename_i hs
  subst hs
  split at h
  case h_2=>cases h
  rename_i p q hb
  cases h
  have ZO:∀ad m,rows.length≤m→a.eval y=.slice ad rows.length m→RepA w F L (.v (.isl s0 ((rows.take q).drop p))) (.slice (if m=p then ad else ad.map (·.add (p*s0))) (q-p) (m-p))→LB P o a w F L b l (.v (.isl s0 ((rows.take q).drop p))) b l:=by
   intro ad m hm hv hx
   obtain⟨k1,_,_⟩:=sG (P:=P) hb hm true g1 g2 g3 g4
   refine LB.pure s (v:=_) ?_ hx
   simp[execOp,ho,hv,zI ht hz k1]
  generalize hv:a.eval y=v at hr
  cases hr.vI with
  |isl0 _ ad m hm =>
    refine ZO _ _ (an _) hv (.v _ _ ?_)
    obtain⟨_,k2,k3⟩:=sG (P:=P) hb (ah _) true g1 g2 g3 g4
    simp at k3
    subst k3
    simp
    exact .isl0 s0 _ _ oM
  |isl _ b1 off _ m val h1 h2 h3 h4 h5 h6 =>
    refine ZO _ _ h2 hv (.v _ _ ?_)
    obtain⟨_,k2,k3⟩:=sG (P:=P) hb h2 true g1 g2 g3 g4
    by_cases hpq:p=q
    ·subst hpq
     have:(rows.take p).drop p=[]:=by simp
     rw[this,fz]
     exact .isl0 s0 _ _ oM
    ·rw[if_neg oM]
     have jD:((rows.take q).drop p).length=q-p:=by simp;omega
     have:=RepI.isl (w:=w) (F:=F) ((rows.take q).drop p) b1 (off+p*s0) s0 (m-p) (fun k j=>val (p+k) j) h1 oM oM
      (fun k row hk=>by
       rw[dl,cw]at hk
       split at hk
       ·exact h4 _ _ hk
       ·cases hk)
      (fun k row j a hk hj=>by
       rw[dl,cw]at hk
       split at hk
       ·have:=h5 _ row j a hk hj
        rw[ca]at this
        simpa [da] using this
       ·cases hk)
      (fun k row j a hk hj=>by
       rw[dl,cw]at hk
       split at hk
       ·exact h6 _ row j a hk hj
       ·cases hk)
     rw[jD]at this
     simpa [Addr.add_lit] using this
 ·rename_i id ver off len
  split at h
  case h_2=>cases h
  rename_i v0 s0 els hg
  split at h
  case isFalse=>cases h
  rename_i hs
  obtain⟨rfl,rfl⟩:=hs
  split at h
  case h_2=>cases h
  rename_i p q hb
  cases h
  rw[MD]at hg
  have ZO:∀ad m,len≤m→a.eval y=.slice ad len m→RepA w F L (.sl id v0 (off+p) (q-p)) (.slice (if m=p then ad else ad.map (·.add (p*s0))) (q-p) (m-p))→LB P o a w F L b l (.sl id v0 (off+p) (q-p)) b l:=by
   intro ad m hm hv hx
   obtain⟨k1,_,_⟩:=sG (P:=P) hb hm true g1 g2 g3 g4
   refine LB.pure s (v:=_) ?_ hx
   simp[execOp,ho,hv,zI ht hz k1]
  generalize hv:a.eval y=v at hr
  cases hr with
  |sl _ _ _ _ b1 o1 z1 c1 hL h1 h2 =>
    obtain⟨lc,k1,k2⟩:=s.row _ _ _ _ hg
    rw[hL]at k1;cases k1
    obtain⟨rfl,_⟩:=k2
    refine ZO _ _ oM hv ?_
    obtain⟨_,k2,k3⟩:=sG (P:=P) hb (show len≤c1-off by omega) true g1 g2 g3 g4
    by_cases hp:c1-off=p
    ·rw[if_pos hp,hp,fz]
     have:q-p=0:=by omega
     rw[this]
     exact .slz id v0 (off+p) b1 o1 z1 c1 _ hL oM
    ·rw[if_neg hp]
     have:=RepA.sl (w:=w) (F:=F) id v0 (off+p) (q-p) b1 o1 z1 c1 hL oM h2
     rw[ca]at this
     simpa [Addr.add_lit,da,Nat.sub_sub] using this
  |slz _ _ _ b1 o1 z1 cap1 x1 hL jU =>
    refine ZO _ _ (ah _) hv ?_
    obtain⟨_,k2,k3⟩:=sG (P:=P) hb (ah _) true g1 g2 g3 g4
    have hq:q=0:=by omega
    subst hq
    have hp:p=0:=by omega
    subst hp
    simp
    exact .slz id v0 _ b1 o1 z1 _ _ hL jU
  |sln _ _ ad hL =>
    refine ZO _ _ (ah _) hv ?_
    obtain⟨_,k2,k3⟩:=sG (P:=P) hb (ah _) true g1 g2 g3 g4
    have hq:q=0:=by omega
    subst hq
    have hp:p=0:=by omega
    subst hp
    simp
    exact .sln id v0 _ hL
 ·cases h

theorem LU {y:Option Operand} (h:cQ y=true):∃k,y=some (.const (.int k 0)):=by
 unfold cQ at h
 split at h
 ·exact⟨_,rfl⟩
 ·cases h

theorem z9 (s:Sim F L (b++l) w) (he:PC w F L e a) {t el:TypeId} {sz:Nat} (ht:P.underlying t=some (.slice el)) (hz:jE P el=some sz)
  {y:Operand} {y':Opd} {hi mx:Option Operand} (ho:o.op=.slice t y none hi mx) (hhi:cQ hi=true) (hmx:cQ mx=true) (hy:eB y=some y')
  (h:aop e b l (.slice0 y')=.val x b' l'):LB P o a w F L b l x b' l':=by
 have hr:=jB he hy
 obtain⟨k,rfl⟩:=LU hhi
 obtain⟨k',rfl⟩:=LU hmx
 simp only[aop]at h
 generalize ev e y'=q at *
 have ZO:∀ad n m,a.eval y=.slice ad n m→LB P o a w F L b l (.v .zsl) b l:=by
  intro ad n m hv
  have:(execOp a.eval o).run P w=.ok (.value (.slice ad 0 0)) w:=by
   have c1:a.eval (.const (.int k 0))=.int k 0:=rfl
   have c2:a.eval (.const (.int k' 0))=.int k' 0:=rfl
   have hb:(Instr.sliceBounds true n m none (some (.int k 0)) (some (.int k' 0))).run P w=.ok (0,0,0) w:=by simp[Instr.sliceBounds,Instr.sliceBound,asIntOf]
   simp[execOp,ho,hv,c1,c2,Instr.sliceAt,run_underlying ht,Instr.slice,hb,aB hz]
  exact LB.pure s this (.v _ _ (.zsl ad))
 split at h<;>cases h
 ·generalize hv:a.eval y=v at hr
  cases hr.vI
  exact ZO _ _ _ hv
 ·generalize hv:a.eval y=v at hr
  cases hr.vI
  ·exact ZO _ _ _ hv
  ·exact ZO _ _ _ hv
 ·generalize hv:a.eval y=v at hr
  cases hr
  ·exact ZO _ _ _ hv
  ·exact ZO _ _ _ hv
  ·exact ZO _ _ _ hv

theorem K9 (s:Sim F L (b++l) w) (he:PC w F L e a) {t:TypeId} (ht:P.underlying t=some .string)
  {y:Operand} {y':Opd} {lo hi:Option Operand} {lo' hi':Option Opd} (ho:o.op=.slice t y lo hi none) (hy:eB y=some y') (hlo:VM lo=some lo') (hhi:VM hi=some hi')
  (h:aop e b l (.sliceS y' lo' hi')=.val x b' l'):LB P o a w F L b l x b' l':=by
 have hr:=jB he hy
 obtain⟨g1,g2⟩:=iR he hlo
 obtain⟨g3,g4⟩:=iR he hhi
 simp only[aop]at h
 generalize ev e y'=q at *
 split at h
 case h_2=>cases h
 rename_i str
 split at h
 case h_2=>cases h
 rename_i p q hb
 cases h
 have hv:=rQ hr
 obtain⟨k1,_,_⟩:=sG (P:=P) hb (ah _) false g1 g2 g3 g4
 refine LB.pure s (v:=.string (str.extract p q)) ?_ (toS _)
 simp[execOp,ho,hv,Instr.sliceAt,run_underlying ht,Instr.slice,k1]
end

section
variable {P:Program} {w:World} {F:Nat→Prop} {L:LMap} {o:Oper} {a:Act} {e:List AV} {b l b' l':List Row} {x:AV}

theorem bW (s:Sim F L (b++l) w) {w':World} {sz cap:Nat} {els:List (List AV)} {g:Nat→AV} {cur:Array Value} {T:TypeId} {v:Value}
  (TD:Ends P o a w v w') (ZDm:w'.heap=w.heap.push (.cells cur T (0,0))) (hos:w'.os=w.os) (htp:w'.tape=w.tape) (RH:w'.output=w.output)
  (hl:els.length≤cap) (sM:cap≤maxLen) (cI:cap*sz≤cur.size)
  (NN:∀(k:Nat) (row:List AV),els[k]? = some row→row.length=sz)
  (RG:∀(k:Nat) (row:List AV) (j:Nat) (c:AV),els[k]? = some row→row[j]? = some c→c.cell=true∧∃u,cur[k*sz+j]? = some u∧RepA w F L c u)
  (hg:∀(L':LMap),L' (b.length+l.length) 0=some (.pl w.heap.size 0 sz cap)→RepA w' F L' (g (b.length+l.length)) v)
  (h:mk b l sz els g=.val x b' l'):LB P o a w F L b l x b' l':=by
 unfold mk at h
 cases h
 have jD:(b++l).length=b.length+l.length:=by simp
 obtain⟨L',r1,r2,r3,r4⟩:=s.putRow (h':=b++(l++[.live 0 sz els])) (w':=w') (b.length+l.length) 0 sz w.heap.size 0 cap els hos htp RH (by rw[ZDm];simp)
  (fun k hk _=>by rw[ZDm,lj,if_neg oM]) (.inl (ah _))
  (by rw[←ay,au oM];simp)
  (fun j hj=>by
   rw[←ay]
   by_cases fG:j<(b++l).length
   ·rw[aw fG]
   ·rw[ce kT,ce oM])
  (fun r hr=>by rw[ce oM]at hr;cases hr)
  (.inl (by
   cases hq:L (b.length+l.length) 0 with
   |none=>rfl
   |some q=>exact absurd (s.lt hq) oM))
  hl sM cur T (by rw[ZDm];simp) (by simpa using cI) NN (fun k row j c hk hj=>by simpa using RG k row j c hk hj)
 exact⟨v,w',L',TD,hg L' r3,r1,r2,rfl⟩

theorem ZCH (s:Sim F L (b++l) w) {t:TypeId} {zs:List AV} (ho:o.op=.alloc t) (hz:vG P t=some zs)
  (h:aop e b l (.alloc zs)=.val x b' l'):LB P o a w F L b l x b' l':=by
 simp only[aop]at h
 unfold vG at hz
 split at hz
 case h_2=>cases hz
 rename_i i hi
 split at hz
 case h_2=>cases hz
 rename_i z YW
 obtain⟨c1,c2⟩:=tF (w:=w) (F:=F) (L:=L) hz
 have z6:zs.length=z.cells.size:=by simpa using c1.1
 refine bW s (w':=w.alloc (.cells z.cells t)) (cur:=z.cells) (T:=t) (cap:=1) (v:=.pointer (some ⟨w.heap.size,0,none⟩)) (.inl ?_) rfl rfl rfl rfl kS kE oM ?_ ?_ ?_ h
 ·simp[execOp,ho,Instr.alloc,zeroValue,typeInfo,hi,YW,newVar,newRow]
 ·intro k row hk
  cases k with
  |zero=>simp at hk;subst hk;rfl
  |succ k=>simp at hk
 ·intro k row j c hk hj
  cases k with
  |zero =>
    simp at hk;subst hk
    obtain⟨u,hu,hr⟩:=c1.get hj
    exact⟨bo.1 c2 _ (cd hj),u,by simpa using hu,hr⟩
  |succ k=>simp at hk
 ·intro L' hL'
  have:=RepA.ptr (w:=w.alloc (.cells z.cells t)) (F:=F) (b.length+l.length) 0 0 0 _ _ _ _ hL'
  simpa using this

theorem ZH5 (s:Sim F L (b++l) w) (he:PC w F L e a) {t:TypeId} {y:Operand} {z:Opd} (ho:o.op=.box t y) (hy:eB y=some z)
  (h:aop e b l (.box z)=.val x b' l'):LB P o a w F L b l x b' l':=by
 have hr:=jB he hy
 simp only[aop]at h
 generalize ev e z=q at *
 split at h
 case h_2=>cases h
 rename_i cs PN
 split at h
 case isFalse=>cases h
 rename_i uH
 obtain⟨c1,c2⟩:=QM hr PN uH
 have z6:cs.length=(a.eval y).cells.size:=by simpa using c1.1
 refine bW s (w':=w.alloc (.cells (a.eval y).cells t)) (cur:=(a.eval y).cells) (T:=t) (cap:=1) (v:=.pointer (some ⟨w.heap.size,0,none⟩)) (.inl ?_) rfl rfl rfl rfl kS kE oM ?_ ?_ ?_ h
 ·simp[execOp,ho,Instr.box,newVar,newRow]
 ·intro k row hk
  cases k with
  |zero=>simp at hk;subst hk;rfl
  |succ k=>simp at hk
 ·intro k row j c hk hj
  cases k with
  |zero =>
    simp at hk;subst hk
    obtain⟨u,hu,hr⟩:=c1.get hj
    exact⟨bo.1 uH _ (cd hj),u,by simpa using hu,hr⟩
  |succ k=>simp at hk
 ·intro L' hL'
  have:=RepA.ptr (w:=w.alloc (.cells (a.eval y).cells t)) (F:=F) (b.length+l.length) 0 0 0 _ _ _ _ hL'
  simpa using this

theorem KN (vs:List Value):∀(cs:Array Value) (off n:Nat) (i:Nat),off+n+vs.length≤cs.size →
  ((vs.zipIdx n).foldl (fun cs (p:Value×Nat)=>cs.setIfInBounds (off+p.2) p.1) cs).size=cs.size ∧
  ((vs.zipIdx n).foldl (fun cs (p:Value×Nat)=>cs.setIfInBounds (off+p.2) p.1) cs)[i]? = if off+n≤i∧i<off+n+vs.length then vs[i-(off+n)]? else cs[i]?:=by
 induction vs with
 |nil=>intro cs off n i _;simp;intro h1 h2;omega
 |cons v vs ih =>
   intro cs off n i h
   simp only[ck]at h
   simp only[List.zipIdx_cons,lk]
   obtain⟨h1,h2⟩:=ih (cs.setIfInBounds (off+n) v) off (n+1) i kT
   refine⟨by rw[h1];simp,?_⟩
   rw[h2]
   by_cases hi:i=off+n
   ·subst hi
    rw[if_neg oM,if_pos kS,mn oM]
    simp
   ·by_cases hj:off+(n+1)≤i∧i<off+(n+1)+vs.length
    ·rw[if_pos hj,if_pos kT,show i-(off+n)=(i-(off+(n+1)))+1 by omega]
     simp
    ·rw[if_neg hj,if_neg kT,jh oM]

theorem yI (vs cs:Array Value) (off:Nat):vs.zipIdx.foldl (fun cs (p:Value×Nat)=>cs.setIfInBounds (off+p.2) p.1) cs=(vs.toList.zipIdx 0).foldl (fun cs (p:Value×Nat)=>cs.setIfInBounds (off+p.2) p.1) cs:=by
 rw[←Array.foldl_toList];simp

theorem ZCO {row ds:List AV} {cs vs:Array Value} (h:bA w F L row cs.toList) (k:bA w F L ds vs.toList) {off:Nat} (nL:off+ds.length≤row.length) :
  bA w F L (JB row off ds) (vs.zipIdx.foldl (fun cs (p:Value×Nat)=>cs.setIfInBounds (off+p.2) p.1) cs).toList:=by
 have hl:cs.size=row.length:=by simpa using h.1.symm
 have hk:vs.toList.length=ds.length:=k.1.symm
 rw[yI]
 have key:=fun i=>KN vs.toList cs off 0 i oM
 refine⟨?_,fun i c u hc hu=>?_⟩
 ·rw[QQ,gh]
  exact (hl.symm.trans (key 0).1.symm)
 ·rw[XQ ds row off i nL]at hc
  rw[Array.getElem?_toList,(key i).2]at hu
  simp only[cm,hk]at hu
  split at hc
  ·rename_i yF
   rw[if_pos yF]at hu
   exact k.2 _ c u hc hu
  ·rename_i yF
   rw[if_neg yF]at hu
   exact h.2 i c u hc (by simpa using hu)

theorem iW (he:PC w F L e a) {place:Nat→Option (Nat×Nat)}:∀{ps:List (Nat×Operand)} {qs:List (Nat×Nat×Opd)} {row:List AV} {cs:Array Value} {out:List AV},
  (∀(i:Nat) (p:Nat×Operand),ps[i]? = some p→∃(off n:Nat) (z:Opd),qs[i]? = some (off,n,z)∧place p.1=some (off,n)∧eB p.2=some z)→qs.length=ps.length →
  bA w F L row cs.toList→yD e row qs=some out→∃vs,Instr.fill place cs (ps.map fun p=>(p.1,a.eval p.2))=some vs∧bA w F L out vs.toList
 |[],qs,row,cs,out,_,hl,hr,hf=>by
   have:qs=[]:=cu (by simpa using hl)
   subst this
   simp[yD]at hf
   subst hf
   exact⟨cs,rfl,hr⟩
 |p::ps,[],row,cs,out,_,hl,hr,hf=>by simp at hl
 |p::ps,q::qs,row,cs,out,hp,hl,hr,hf=>by
   obtain⟨off,n,z,e1,e2,e3⟩:=hp 0 p rfl
   simp at e1
   subst e1
   unfold yD at hf
   split at hf
   case h_2=>cases hf
   rename_i ds RN
   split at hf
   case isFalse=>cases hf
   rename_i hb
   have hz:=jB he e3
   have RG:bA w F L ds (a.eval p.2).cells.toList:=by
    generalize ev e z=q at *
    cases q with
    |any=>cases RN
    |tup cs=>cases RN
    |agg ds =>
      cases RN
      obtain⟨vs,hv,hl⟩:=hz.aggL
      rw[hv];exact hl
    |_=>cases RN;rw[UV (hz.one rfl)];simpa using bA.cons hz bA.nil
   have NN:(a.eval p.2).cells.size=n:=by have:=RG.1;simp at this;omega
   have ZLA:=ZCO hr RG (off:=off) oM
   obtain⟨vs,h1,h2⟩:=iW he (place:=place) (ps:=ps) (qs:=qs) (fun i p' hi=>hp (i+1) p' (by simpa using hi)) (by simpa using hl) ZLA hf
   refine⟨vs,?_,h2⟩
   simp only[ba,Instr.fill,e2,NN]
   have rY:row.length=cs.size:=by simpa using hr.1
   rw[if_neg kT]
   exact h1

theorem uQ {fs:Array Field}:∀{ps:List (Nat×Operand)} {qs:List (Nat×Nat×Opd)},aQ P fs ps=some qs→qs.length=ps.length ∧
  ∀(i:Nat) (p:Nat×Operand),ps[i]? = some p→∃(off n:Nat) (z:Opd) (f:Field),qs[i]? = some (off,n,z)∧fs[p.1]? = some f∧f.offset=off∧jE P f.type=some n∧eB p.2=some z
 |[],qs,h=>by simp[aQ]at h;subst h;simp
 |(i,y)::ps,qs,h=>by
   unfold aQ at h
   split at h
   case h_2=>cases h
   rename_i f z ys h1 h2 h3
   split at h
   case h_2=>cases h
   rename_i n h4
   cases h
   obtain⟨h5,h6⟩:=uQ h3
   refine⟨by simp[h5],fun j p hj=>?_⟩
   cases j with
   |zero=>simp at hj;subst hj;exact⟨_,_,_,f,rfl,h1,rfl,h4,h2⟩
   |succ j=>simp at hj;simpa using h6 j p hj

theorem qO {n:Nat}:∀{ps:List (Nat×Operand)} {qs:List (Nat×Nat×Opd)},ZN n ps=some qs→qs.length=ps.length ∧
  ∀(i:Nat) (p:Nat×Operand),ps[i]? = some p→∃(z:Opd),qs[i]? = some (p.1*n,n,z)∧eB p.2=some z
 |[],qs,h=>by simp[ZN]at h;subst h;simp
 |(i,y)::ps,qs,h=>by
   unfold ZN at h
   split at h
   case h_2=>cases h
   rename_i z ys h1 h2
   cases h
   obtain⟨h5,h6⟩:=qO h2
   refine⟨by simp[h5],fun j p hj=>?_⟩
   cases j with
   |zero=>simp at hj;subst hj;exact⟨_,rfl,h1⟩
   |succ j=>simp at hj;simpa using h6 j p hj

theorem UN {α β:Type} (f:α→Sem β) (g:α→β):∀(xs:List α),(∀x∈xs,(f x).run P w=.ok (g x) w)→(xs.mapM f).run P w=.ok (xs.map g) w
 |[],_=>by simp
 |x::xs,h=>by
   have ih:=UN f g xs (fun y hy=>h y (by simp[hy]))
   rw[List.mapM_cons]
   simp[h x kS,ih]
end

section
variable {P:Program} {w:World} {F:Nat→Prop} {L:LMap} {o:Oper} {a:Act} {e:List AV} {b l b' l':List Row} {x:AV}

theorem aE {t:TypeId} {zs:List AV} (hz:vG P t=some zs):∃i z,P.info? t=some i∧i.zero=some z∧cvL z.cells.toList=some zs:=by
 unfold vG at hz
 split at hz
 case h_2=>cases hz
 rename_i i hi
 split at hz
 case h_2=>cases hz
 rename_i z YW
 exact⟨i,z,hi,YW,hz⟩

theorem bH {t:TypeId} {i:TypeInfo} {z:Value} (hi:P.info? t=some i) (hz:i.zero=some z):(zeroValue t).run P w=.ok z w:=by
 simp[zeroValue,typeInfo,hi,hz]

theorem C0 (fs:Array Field) (h:fs.toList.all (fun f=>(jE P f.type).isSome)=true) :
  (fs.mapM fun f=>(do pure (f.offset,←sizeOf f.type):Sem (Nat×Nat))).run P w=.ok (fs.map fun f=>(f.offset,(jE P f.type).getD 0)) w:=by
 rw[Array.mapM_eq_mapM_toList]
 have:=UN (P:=P) (w:=w) (fun f:Field=>(do pure (f.offset,←sizeOf f.type):Sem (Nat×Nat))) (fun f=>(f.offset,(jE P f.type).getD 0)) fs.toList (fun f hf=>by
  have h1:=bo.1 h f hf
  cases hn:jE P f.type with
  |none=>simp[hn]at h1
  |some n=>simp[aB hn])
 simp only[map_eq_pure_bind,Sem.run_bind,this,Result.andThen_ok,Sem.run_pure]
 congr 1
 apply Array.ext'
 simp

theorem ZCG (s:Sim F L (b++l) w) (he:PC w F L e a) {t:TypeId} {fs:Array Field} {zs:List AV} {parts:Array (Nat×Operand)} {qs:List (Nat×Nat×Opd)} (ht:P.underlying t=some (.struct fs)) (hz:vG P t=some zs)
  (uH:fs.toList.all (fun f=>(jE P f.type).isSome)=true) (hq:aQ P fs parts.toList=some qs) (ho:o.op=.build t parts)
  (h:aop e b l (.build zs qs)=.val x b' l'):LB P o a w F L b l x b' l':=by
 obtain⟨i,z,hi,YW,eZ⟩:=aE hz
 obtain⟨c1,c2⟩:=tF (w:=w) (F:=F) (L:=L) eZ
 obtain⟨q1,q2⟩:=uQ hq
 simp only[aop]at h
 split at h
 case h_2=>cases h
 rename_i cs PN
 cases h
 obtain⟨vs,h1,h2⟩:=iW he (place:=fun j=>(fs.map fun f=>(f.offset,(jE P f.type).getD 0))[j]?) (ps:=parts.toList) (qs:=qs) (fun j p hj=>by
  obtain⟨off,n,y,f,e1,e2,e3,e4,e5⟩:=q2 j p hj
  exact⟨off,n,y,e1,by simp[e2,e3,e4],e5⟩) q1 c1 PN
 refine LB.pure s (v:=.agg vs) ?_ h2.agg
 have hm:(parts.map fun (j,y)=>(j,a.eval y)).toList=parts.toList.map fun p=>(p.1,a.eval p.2):=by simp
 simp only[execOp,ho,Instr.build,Sem.run_bind,bH hi YW,Result.andThen_ok,run_underlying ht,C0 fs uH,hm,h1,Sem.run_pure]

theorem x9 (s:Sim F L (b++l) w) (he:PC w F L e a) {t el:TypeId} {m n:Nat} {zs:List AV} {parts:Array (Nat×Operand)} {qs:List (Nat×Nat×Opd)} (ht:P.underlying t=some (.array m el)) (hn:jE P el=some n) (hz:vG P t=some zs)
  (hq:ZN n parts.toList=some qs) (ho:o.op=.build t parts)
  (h:aop e b l (.build zs qs)=.val x b' l'):LB P o a w F L b l x b' l':=by
 obtain⟨i,z,hi,YW,eZ⟩:=aE hz
 obtain⟨c1,c2⟩:=tF (w:=w) (F:=F) (L:=L) eZ
 obtain⟨q1,q2⟩:=qO hq
 simp only[aop]at h
 split at h
 case h_2=>cases h
 rename_i cs PN
 cases h
 obtain⟨vs,h1,h2⟩:=iW he (place:=fun j=>some (j*n,n)) (ps:=parts.toList) (qs:=qs) (fun j p hj=>by
  obtain⟨y,e1,e2⟩:=q2 j p hj
  exact⟨_,_,y,e1,rfl,e2⟩) q1 c1 PN
 refine LB.pure s (v:=.agg vs) ?_ h2.agg
 have hm:(parts.map fun (j,y)=>(j,a.eval y)).toList=parts.toList.map fun p=>(p.1,a.eval p.2):=by simp
 simp only[execOp,ho,Instr.build,Sem.run_bind,bH hi YW,Result.andThen_ok,run_underlying ht,aB hn,hm,h1,Sem.run_pure]

theorem iK:∀{ps:List (Nat×Operand)} {qs:List (Nat×Opd)},aJ ps=some qs→qs.length=ps.length ∧
  ∀(i:Nat) (p:Nat×Operand),ps[i]? = some p→∃(z:Opd),qs[i]? = some (p.1,z)∧eB p.2=some z
 |[],qs,h=>by simp[aJ]at h;subst h;simp
 |(i,y)::ps,qs,h=>by
   unfold aJ at h
   split at h
   case h_2=>cases h
   rename_i z ys h1 h2
   cases h
   obtain⟨h5,h6⟩:=iK h2
   refine⟨by simp[h5],fun j p hj=>?_⟩
   cases j with
   |zero=>simp at hj;subst hj;exact⟨_,rfl,h1⟩
   |succ j=>simp at hj;simpa using h6 j p hj

def JN (w:World) (F:Nat→Prop) (L:LMap) (sz:Nat) (els:List (List AV)) (cur:Array Value):Prop:=
 (∀(k:Nat) (row:List AV),els[k]? = some row→row.length=sz) ∧
 ∀(k:Nat) (row:List AV) (j:Nat) (c:AV),els[k]? = some row→row[j]? = some c→c.cell=true∧∃u,cur[k*sz+j]? = some u∧RepA w F L c u

theorem ES (he:PC w F L e a) {sz:Nat}:∀{ps:List (Nat×Operand)} {qs:List (Nat×Opd)} {els out:List (List AV)} {cur:Array Value},
  (∀(i:Nat) (p:Nat×Operand),ps[i]? = some p→∃(z:Opd),qs[i]? = some (p.1,z)∧eB p.2=some z)→qs.length=ps.length →
  cur.size=els.length*sz→JN w F L sz els cur→KD e sz els qs=some out →
  ∃vs,Instr.fill (fun i=>some (i*sz,sz)) cur (ps.map fun p=>(p.1,a.eval p.2))=some vs∧vs.size=cur.size∧out.length=els.length∧JN w F L sz out vs
 |[],qs,els,out,cur,_,hl,hs,hr,hf=>by
   have:qs=[]:=cu (by simpa using hl)
   subst this
   simp[KD]at hf
   subst hf
   exact⟨cur,rfl,rfl,rfl,hr⟩
 |p::ps,[],els,out,cur,_,hl,hs,hr,hf=>by simp at hl
 |p::ps,q::qs,els,out,cur,hp,hl,hs,hr,hf=>by
   obtain⟨z,e1,e3⟩:=hp 0 p rfl
   simp at e1
   subst e1
   unfold KD at hf
   split at hf
   case h_2=>cases hf
   rename_i ds RN
   split at hf
   case isFalse=>cases hf
   rename_i hb
   obtain⟨uI,RO,hb3⟩:=hb
   obtain⟨d1,d2⟩:=QM (jB he e3) RN hb3
   have NN:(a.eval p.2).cells.size=sz:=by have:=d1.1;simp at this;omega
   have ZJq:(a.eval p.2).cells.toList.length=sz:=by simpa using NN
   have cI:p.1*sz+sz≤cur.size:=by
    rw[hs];have:=sH (sz:=sz) (j:=0) (n:=sz) RO oM;omega
   have key:=fun i=>KN (a.eval p.2).cells.toList cur (p.1*sz) 0 i oM
   have pH:JN w F L sz (els.set p.1 ds) ((a.eval p.2).cells.zipIdx.foldl (fun cs (q:Value×Nat)=>cs.setIfInBounds (p.1*sz+q.2) q.1) cur):=by
    rw[yI]
    refine⟨fun k row hk=>?_,fun k row j c hk hj=>?_⟩
    ·by_cases VP:p.1=k
     ·subst VP
      rw[bf RO]at hk;cases hk;exact uI
     ·rw[bq VP]at hk;exact hr.1 k row hk
    ·rw[(key _).2]
     simp only[cm,ZJq]
     by_cases VP:p.1=k
     ·subst VP
      rw[bf RO]at hk;cases hk
      have fG:j<sz:=by have:=(aj.1 hj).1;omega
      rw[if_pos oM,co]
      obtain⟨u,hu,hru⟩:=d1.get hj
      exact⟨bo.1 hb3 _ (cd hj),u,hu,hru⟩
     ·rw[bq VP]at hk
      have fG:j<sz:=by rw[←hr.1 k row hk];exact (aj.1 hj).1
      rw[if_neg (by have:=L7 (sz:=sz) (j:=0) (n:=sz) VP fG oM;omega)]
      exact hr.2 k row j c hk hj
   have ZJr:((a.eval p.2).cells.zipIdx.foldl (fun cs (q:Value×Nat)=>cs.setIfInBounds (p.1*sz+q.2) q.1) cur).size=cur.size:=by rw[yI];exact (key 0).1
   obtain⟨vs,h1,h2,h3,h4⟩:=ES he (ps:=ps) (qs:=qs) (fun i p' hi=>hp (i+1) p' (by simpa using hi)) (by simpa using hl) (by rw[ZJr];simpa using hs) pH hf
   refine⟨vs,?_,by rw[h2,ZJr],by simpa using h3,h4⟩
   simp only[ba,Instr.fill,NN]
   rw[if_neg kT]
   exact h1

theorem iO {sz n:Nat} {z:Value} {zs:List AV} (c1:bA w F L zs z.cells.toList) (c2:zs.all AV.cell=true) (hl:zs.length=sz) (m:Nat) (hm:n*sz≤m) :
  JN w F L sz (List.replicate n zs) (madeCells z.cells m):=by
 have hzs:z.cells.size=sz:=by have:=c1.1;simp at this;omega
 refine⟨fun k row hk=>?_,fun k row j c hk hj=>?_⟩
 ·rw[jl]at hk
  split at hk
  ·cases hk;exact hl
  ·cases hk
 ·rw[jl]at hk
  split at hk
  ·rename_i hkn
   cases hk
   have fG:j<sz:=by have:=(aj.1 hj).1;omega
   obtain⟨u,hu,hru⟩:=c1.get hj
   refine⟨bo.1 c2 _ (cd hj),u,?_,hru⟩
   have bB:k*sz+j<m:=by have:=sH (sz:=sz) (j:=j) (n:=1) hkn oM;omega
   have ZLB:(k*sz+j) % sz=j:=by rw[Nat.mul_comm,Nat.mul_add_mod,Nat.mod_eq_of_lt fG]
   have hu':z.cells[j]? = some u:=by simpa using hu
   have hj2:j<z.cells.size:=by omega
   simp only[madeCells,Array.getElem?_map,Array.getElem?_range,bB,if_true,dn,hzs,ZLB]
   rw[getElem!_pos z.cells j hj2]
   rw[gv hj2]at hu'
   exact hu'
  ·cases hk

theorem i9 (s:Sim F L (b++l) w) (he:PC w F L e a) {t el:TypeId} {n len:Nat} {zs:List AV} {parts:Array (Nat×Operand)} {qs:List (Nat×Opd)} (ht:P.underlying t=some (.slice el)) (hn:jE P el=some n) (hz:vG P el=some zs)
  (h0:0<n) (nL:len*n≤16777216) (z6:zs.length=n) (hq:aJ parts.toList=some qs) (ho:o.op=.buildSlice t len parts)
  (h:aop e b l (.bslice n zs len qs)=.val x b' l'):LB P o a w F L b l x b' l':=by
 obtain⟨i,z,hi,YW,eZ⟩:=aE hz
 obtain⟨c1,c2⟩:=tF (w:=w) (F:=F) (L:=L) eZ
 obtain⟨q1,q2⟩:=iK hq
 simp only[aop]at h
 split at h
 case h_2=>cases h
 rename_i els sV
 obtain⟨vs,h1,h2,h3,h4⟩:=ES he (ps:=parts.toList) (qs:=qs) q2 q1 (cur:=madeCells z.cells (len*n)) (by simp[size_madeCells]) (iO c1 c2 z6 _ (ah _)) sV
 have jD:els.length=len:=by simpa using h3
 have hm:(parts.map fun (j,y)=>(j,a.eval y)).toList=parts.toList.map fun p=>(p.1,a.eval p.2):=by simp
 have hlm:len≤16777216:=by
  rcases kg len with h|h
  ·omega
  ·have:=Nat.le_mul_of_pos_right len h0;omega
 refine bW s (w':=w.alloc (.cells vs el)) (cur:=vs) (T:=el) (cap:=len) (v:=.slice (some ⟨w.heap.size,0,none⟩) len len) (.inl ?_) rfl rfl rfl rfl oM (by unfold maxLen;omega) (by rw[h2,size_madeCells];exact ah _) h4.1 h4.2 ?_ h
 ·have bB:¬(len*n>2 ^ 24):=by omega
  by_cases h00:len*n=0
  ·have hmc:madeCells z.cells (len*n)=#[]:=by rw[h00];simp[madeCells,Array.range_zero']
   rw[hmc]at h1
   have hmd:(Array.range (len*n)).map (((#[]:Array Value)[· % (#[]:Array Value).size]!))=#[]:=by rw[h00];simp[Array.range_zero']
   have hlt':¬(len*n>16777216):=by omega
   simp only[execOp,ho,Instr.buildSlice,Sem.run_bind,run_underlying ht,Result.andThen_ok,aB hn,Sem.run_ite,h00,if_true,Sem.run_pure,hm]
   rw[h00]at hmd
   simp only[hmd,h1,newRow,Sem.run_bind]
   simp
  ·simp only[execOp,ho,Instr.buildSlice,Sem.run_bind,run_underlying ht,Result.andThen_ok,aB hn,Sem.run_ite,bB,if_false,h00,Sem.run_pure,hm,bH hi YW]
   have h1':=h1
   unfold madeCells at h1'
   simp only[h1',newRow,Sem.run_bind]
   simp
 ·intro L' hL'
  have:=RepA.sl (w:=w.alloc (.cells vs el)) (F:=F) (b.length+l.length) 0 0 len _ _ _ _ hL' oM (by unfold maxLen;omega)
  simpa using this

theorem U1 (s:Sim F L (b++l) w) (he:PC w F L e a) {t el:TypeId} {sz bytes:Nat} {zs:List AV} (ht:P.underlying t=some (.slice el)) (hn:jE P el=some sz) (gO:OO P el=some bytes) (hz:vG P el=some zs) (z6:zs.length=sz)
  {y z:Operand} {y' z':Opd} (ho:o.op=.makeSlice t y z) (hy:eB y=some y') (hzz':eB z=some z')
  (h:aop e b l (.mkslice sz zs bytes y' z')=.val x b' l'):LB P o a w F L b l x b' l':=by
 obtain⟨i,zv,hi,YW,eZ⟩:=aE hz
 obtain⟨c1,c2⟩:=tF (w:=w) (F:=F) (L:=L) eZ
 have h1:=jB he hy
 have h2:=jB he hzz'
 simp only[aop]at h
 generalize ev e y'=q at *
 generalize ev e z'=r at *
 split at h
 case h_2=>cases h
 rename_i k n k' c
 split at h
 case isFalse=>cases h
 rename_i hb
 obtain⟨uI,RO,hb3,hb4⟩:=hb
 have e1:=rI h1
 have e2:=rI h2
 have NN:i.size=sz:=by simp[jE,hi]at hn;exact hn
 have hbz:i.bytes=bytes:=by simp[OO,hi]at gO;exact gO
 have sM:c.toNat≤maxLen:=by unfold maxLen;unfold room at hb4;omega
 have hbb:(i.bytes:Int)*c≤281474976710656:=by
  unfold room at hb3
  have h0:c=(c.toNat:Int):=by omega
  rw[h0,hbz]
  have:((bytes*c.toNat:Nat):Int)≤281474976710656:=by rw[Nat.mul_comm];omega
  rwa [Int.natCast_mul]at this
 have TD:=run_make (P:=P) w t el i zv ht hi YW k k' n c uI RO hbb (by unfold room at hb4;omega)
 have cI:n.toNat*sz≤c.toNat*sz:=ct _ oM
 rw[NN]at TD
 have WW:=iO (n:=n.toNat) c1 c2 z6 (c.toNat*sz) cI
 refine bW s (w':=w.alloc (.cells (madeCells zv.cells (c.toNat*sz)) el)) (cur:=madeCells zv.cells (c.toNat*sz)) (T:=el) (cap:=c.toNat) (v:=.slice (some ⟨w.heap.size,0,none⟩) n.toNat c.toNat) (.inl ?_) rfl rfl rfl rfl kT sM (by rw[size_madeCells];exact ah _) WW.1 WW.2 ?_ h
 ·simp[execOp,ho,e1,e2,TD]
 ·intro L' hL'
  have:=RepA.sl (w:=w.alloc (.cells (madeCells zv.cells (c.toNat*sz)) el)) (F:=F) (b.length+l.length) 0 0 n.toNat _ _ _ _ hL' oM sM
  simpa using this

theorem L5 {d:Nat} {t:TypeId} {k:FK} (hk:KJ P t=some k) {x y:AV} {v u:Value} (hx:RepA w F L x v) (hy:RepA w F L y u) {r:Bool} (h:eqF k x y=some r) :
  (Op.equalIn (d+1) t v u).run P w=.ok r w:=by
 unfold KJ at hk
 unfold eqF at h
 split at h
 ·split at h
  ·rename_i VP
   cases h
   subst VP
   rw[rI hx,rI hy]
   split at hk<;>cases hk
   rename_i hd
   exact run_equalIn_int w d t _ _ _ _ hd
  ·cases h
 ·cases h
  rw[dL hx,dL hy]
  split at hk<;>cases hk
  rename_i hd
  exact run_equalIn_bool w d t _ _ hd
 ·cases h
  rw[rQ hx,rQ hy]
  split at hk<;>cases hk
  rename_i hd
  rw[beq_toListBytes]
  exact run_equalIn_string w d t _ _ hd
 ·cases h

theorem fM {t:TypeId} {k:FK} (hk:KJ P t=some k):ZAm P t=some false:=by
 unfold KJ at hk
 unfold ZAm
 split at hk<;>first|(cases hk;done)|skip
 all_goals (rename_i hd;rw[hd])

theorem F5 {d:Nat}:∀{n:Nat} {fs:List Field} {ks:List FK} {xs ys:List AV} {vs us:Array Value} {r:Bool},yL P n fs=some ks →
  bA w F L xs (vs.toList.drop n)→bA w F L ys (us.toList.drop n)→eqC ks xs ys=some r→(Op.eqFields (d+1) vs us fs).run P w=.ok r w
 |n,[],ks,xs,ys,vs,us,r,hp,hx,hy,he=>by
   simp[yL]at hp
   subst hp
   cases xs<;>cases ys<;>simp[eqC]at he
   subst he
   simp[Op.eqFields]
 |n,f::fs,ks,xs,ys,vs,us,r,hp,hx,hy,he=>by
   unfold yL at hp
   split at hp
   case isFalse=>cases hp
   rename_i hb
   obtain⟨jU,wU⟩:=hb
   split at hp
   case h_2=>cases hp
   rename_i k ks' hk hks
   cases hp
   cases xs with
   |nil=>simp[eqC]at he
   |cons x xs0 =>
   cases ys with
   |nil=>simp[eqC]at he
   |cons y ys0 =>
   simp only[eqC]at he
   cases hq:eqF k x y with
   |none=>simp[hq,DE]at he
   |some r1 =>
     cases MN:eqC ks' xs0 ys0 with
     |none=>simp[hq,MN,DE]at he
     |some r2 =>
       simp[hq,MN,DE]at he
       obtain⟨v,hv,hrv⟩:=hx.get (j:=0) (a:=x) rfl
       obtain⟨u,hu,hru⟩:=hy.get (j:=0) (a:=y) rfl
       have hv':vs[n]? = some v:=by simpa using hv
       have hu':us[n]? = some u:=by simpa using hu
       have MZ:=fM hk
       have hpv:(part f.type vs f.offset).run P w=.ok v w:=by simp[part,bF MZ,jU,hv']
       have hpu:(part f.type us f.offset).run P w=.ok u w:=by simp[part,bF MZ,jU,hu']
       have tail:∀{cs:List AV} {c:AV} {zs:Array Value},bA w F L (c::cs) (zs.toList.drop n)→bA w F L cs (zs.toList.drop (n+1)):=by
        intro cs c zs hz
        refine⟨by have:=hz.1;simp at this⊢;omega,fun i c' z' hc hz'=>?_⟩
        exact hz.2 (i+1) c' z' (by simpa using hc) (by
         rw[dl]at hz'⊢
         rw[show n+(i+1)=n+1+i by omega];exact hz')
       have ZIS:=L5 (P:=P) (d:=d) hk hrv hru hq
       have ih:=F5 (d:=d) hks (tail hx) (tail hy) MN
       simp only[Op.eqFields,wU,ne_eq,not_false_eq_true,if_true,Sem.run_bind,hpv,hpu,Result.andThen_ok,ZIS,Sem.run_ite,ih,Sem.run_pure]
       subst he
       cases r1<;>simp

theorem ZH4 (s:Sim F L (b++l) w) (he:PC w F L e a) {op:BinOp} {t u:TypeId} {fs:Array Field} {ks:List FK} (ht:P.underlying t=some (.struct fs)) (hks:yL P 0 fs.toList=some ks)
  (tH:P.stoodInHeld t=false) (hg:P.eqGuardType P.depth t=false) (hop:op=.eql∨op=.neq) {y z:Operand} {y' z':Opd} (ho:o.op=.binOp op t y z u) (hy:eB y=some y') (hz:eB z=some z')
  (h:aop e b l (.eqs (op==.neq) ks y' z')=.val x b' l'):LB P o a w F L b l x b' l':=by
 have h1:=jB he hy
 have h2:=jB he hz
 simp only[aop]at h
 generalize ev e y'=q at *
 generalize ev e z'=r at *
 split at h
 case h_2=>cases h
 rename_i xs ys
 split at h
 case h_2=>cases h
 rename_i r hr
 cases h
 obtain⟨vs,e1,l1⟩:=h1.aggL
 obtain⟨us,e2,l2⟩:=h2.aggL
 have hf:P.fieldsOf t=fs:=by simp[Program.fieldsOf,ht]
 have TD:=F5 (P:=P) (d:=9998) hks (vs:=vs) (us:=us) (by simpa using l1) (by simpa using l2) hr
 have wX:=run_equalIn_struct w 9999 t vs us (by rw[hf];exact ht) tH
 rw[hf,TD]at wX
 rcases hop with rfl|rfl
 ·refine LB.pure s (v:=.bool r) ?_ (jV _)
  simp[execOp,ho,e1,e2,run_eqGuard_agg w _ t _ _ _ _ hg,run_eql_struct,wX]
 ·refine LB.pure s (v:=.bool (!r)) ?_ (jV _)
  simp[execOp,ho,e1,e2,run_eqGuard_agg w _ t _ _ _ _ hg,run_neq_struct,wX]
end

section
variable {P:Program} {w:World} {F:Nat→Prop} {L:LMap} {o:Oper} {a:Act} {e:List AV} {b l b' l':List Row} {x:AV}

theorem eJ {xs:List (List AV)} {sz blk p:Nat} (hz:0<sz) (h1:∀(k:Nat) (row:List AV),xs[k]? = some row→row.length=sz)
  (h2:∀(k:Nat) (row:List AV) (j:Nat) (c:AV),xs[k]? = some row→row[j]? = some c→c.cell=true∧∃u,w.cell? ⟨blk,p+k*sz+j,none⟩=some u∧RepA w F L c u) :
  ∃news:Array Value,news.size=xs.length*sz∧JN w F L sz xs news∧(∀u∈news.toList,u.oneCell'=true)∧∀j u,news[j]? = some u→w.cell? ⟨blk,p+j,none⟩=some u:=by
 have hq:∀q,q<xs.length*sz→∃c u,w.cell? ⟨blk,p+q,none⟩=some u∧RepA w F L c u∧c.cell=true:=by
  intro q hq
  have hk:q / sz<xs.length:=by rw[Nat.div_lt_iff_lt_mul hz];exact hq
  have RE:=ae hk
  have jD:=h1 _ _ RE
  have hj:q % sz<xs[q / sz].length:=by rw[jD];exact jq _ hz
  obtain⟨c1,u,hu,hr⟩:=h2 _ _ _ _ RE (ae hj)
  have hqe:q / sz*sz+q % sz=q:=Nat.div_add_mod' q sz
  exact⟨_,u,by rw[←hqe,←da];exact hu,hr,c1⟩
 refine⟨(Array.range (xs.length*sz)).map fun q=>(w.cell? ⟨blk,p+q,none⟩).getD undef,by simp,⟨h1,fun k row j c hk hj=>?_⟩,fun u hu=>?_,fun j u hju=>?_⟩
 ·obtain⟨c1,u,hu,hr⟩:=h2 k row j c hk hj
  have YM:k<xs.length:=(aj.1 hk).1
  have fG:j<sz:=by rw[←h1 k row hk];exact (aj.1 hj).1
  have bB:k*sz+j<xs.length*sz:=by have:=sH (sz:=sz) (j:=j) (n:=1) YM oM;omega
  refine⟨c1,u,?_,hr⟩
  rw[da]at hu
  simp[bB,hu]
 ·simp at hu
  obtain⟨q,j6,rfl⟩:=hu
  obtain⟨c,u,h3,h4,h5⟩:=hq q j6
  rw[h3]
  exact h4.one h5
 ·simp at hju
  obtain⟨fG,rfl⟩:j<xs.length*sz∧(w.cell? ⟨blk,p+j,none⟩).getD undef=u:=by
   rw[Array.getElem?_range]at hju
   split at hju
   ·rename_i bB;exact⟨bB,by simpa using hju⟩
   ·simp at hju
  obtain⟨c,u,h3,h4,h5⟩:=hq j fG
  rw[h3];rfl

theorem fB {sz n:Nat} {blk p len cap:Nat} {news:Array Value} (h:∀j u,news[j]? = some u→w.cell? ⟨blk,p+j,none⟩=some u) (hn:n*sz≤news.size) {w2:World} (hw:w2.heap=w.heap) :
  (Builtin.firstCells sz n (.slice (some ⟨blk,p,none⟩) len cap)).run P w2=.ok (news.extract 0 (n*sz)) w2:=by
 have:=run_loadCells_list (P:=P) w2 ⟨blk,p,none⟩ (news.extract 0 (n*sz)).toList (fun j u hu=>by
  rw[Addr.add_lit]
  have hc:w2.cell? ⟨blk,p+j,none⟩=w.cell? ⟨blk,p+j,none⟩:=World.cell?_of_block (by rw[hw])
  rw[hc]
  refine h j u ?_
  simp only[ic,lm,gi,dp,cw]at hu
  split at hu
  ·simpa using hu
  ·cases hu)
 have hl:(news.extract 0 (n*sz)).toList.length=n*sz:=by simp;omega
 rw[hl,jk]at this
 exact this

theorem cO (s:Sim F L (b++l) w) {sz:Nat} (hz:0<sz) {q:AV} {v:Value} {xs:List (List AV)} (h:wD b l sz q=some xs) (hr:RepA w F L q v) :
  (∀w2,(Builtin.lenOf v).run P w2=.ok xs.length w2)∧∃news:Array Value,news.size=xs.length*sz∧JN w F L sz xs news∧(∀u∈news.toList,u.oneCell'=true) ∧
   ∀n w2,n≤xs.length→w2.heap=w.heap→(Builtin.firstCells sz n v).run P w2=.ok (news.extract 0 (n*sz)) w2:=by
 have empty:∀(ad:Option Addr) (c:Nat),v=.slice ad 0 c→xs=[]→(∀w2,(Builtin.lenOf v).run P w2=.ok xs.length w2)∧∃news:Array Value,news.size=xs.length*sz∧JN w F L sz xs news∧(∀u∈news.toList,u.oneCell'=true) ∧
   ∀n w2,n≤xs.length→w2.heap=w.heap→(Builtin.firstCells sz n v).run P w2=.ok (news.extract 0 (n*sz)) w2:=by
  intro ad c hv hx
  subst hv;subst hx
  refine⟨fun w2=>by simp[Builtin.lenOf],#[],by simp,⟨by simp,by simp⟩,by simp,fun n w2 hn _=>?_⟩
  have:n=0:=by simpa using hn
  subst this
  cases ad<;>simp[Builtin.firstCells,loadCells,loadCellsFrom]
 unfold wD at h
 split at h
 ·cases h
  cases hr.vI
  exact empty _ _ rfl rfl
 ·rename_i s0 rows
  split at h
  case isFalse=>cases h
  rename_i hs
  subst hs
  cases h
  cases hr.vI with
  |isl0 _ ad c=>exact empty _ _ rfl rfl
  |isl _ b1 off _ c val h1 h2 h3 h4 h5 h6 =>
    obtain⟨news,n1,n2,n3,n4⟩:=eJ (w:=w) (F:=F) (L:=L) (xs:=rows.map (·.map .v)) (blk:=b1) (p:=off) hz (fun k row hk=>by
     rw[ai]at hk
     cases hq:rows[k]? with
     |none=>simp[hq]at hk
     |some r0=>simp[hq]at hk;subst hk;simpa using h4 k r0 hq) (fun k row j c hk hj=>by
     rw[ai]at hk
     cases hq:rows[k]? with
     |none=>simp[hq]at hk
     |some r0 =>
       simp[hq]at hk
       subst hk
       rw[ai]at hj
       cases MN:r0[j]? with
       |none=>simp[MN]at hj
       |some y =>
         simp[MN]at hj
         subst hj
         exact⟨rfl,_,h5 k r0 j y hq MN,.v _ _ (h6 k r0 j y hq MN)⟩)
    refine⟨fun w2=>by simp[Builtin.lenOf],news,n1,n2,n3,fun n w2 hn hw=>fB n4 (by rw[n1];exact ct _ hn) hw⟩
 ·rename_i id ver off len
  split at h
  case h_2=>cases h
  rename_i v0 s0 els hg
  split at h
  case isFalse=>cases h
  rename_i hs
  obtain⟨rfl,rfl,nL⟩:=hs
  cases h
  rw[MD]at hg
  cases hr with
  |sl _ _ _ _ b1 o1 z1 c1 hL h1 h2 =>
    obtain⟨lc,k1,k2⟩:=s.row _ _ _ _ hg
    rw[hL]at k1;cases k1
    obtain⟨rfl,k3,k4,cur,T,k5,k6,k7,k8⟩:=k2
    have vJ:∀(k:Nat) (row:List AV),((els.drop off).take len)[k]? = some row→els[off+k]? = some row:=by
     intro k row hk
     rw[cw]at hk
     split at hk
     ·rwa [dl]at hk
     ·cases hk
    obtain⟨news,n1,n2,n3,n4⟩:=eJ (w:=w) (F:=F) (L:=L) (xs:=(els.drop off).take len) (blk:=b1) (p:=o1+off*z1) hz (fun k row hk=>k7 _ _ (vJ k row hk)) (fun k row j c hk hj=>by
     obtain⟨c1,u,hu,hru⟩:=k8 _ _ j c (vJ k row hk) hj
     refine⟨c1,u,?_,hru⟩
     rw[ca]at hu
     simp[World.cell?,k5,←da]at hu⊢
     exact hu)
    have jD:((els.drop off).take len).length=len:=by simp;omega
    refine⟨fun w2=>by rw[jD];simp[Builtin.lenOf],news,n1,n2,n3,fun n w2 hn hw=>fB n4 (by rw[n1];exact ct _ hn) hw⟩
  |slz _ _ _ b1 o1 z1 c1 x1 hL jU=>exact empty _ _ rfl kS
  |sln _ _ ad hL=>exact empty _ _ rfl kS
 ·rename_i str
  split at h
  case isFalse=>cases h
  rename_i hs
  subst hs
  cases h
  have hv:=rQ hr
  subst hv
  have NN:str.data.size=str.size:=rfl
  refine⟨fun w2=>by simp[Builtin.lenOf,NN],str.data.map fun c=>.int .u8 c.toNat,by simp,⟨fun k row hk=>?_,fun k row j c hk hj=>?_⟩,fun u hu=>?_,fun n w2 hn hw=>?_⟩
  ·rw[ai]at hk
   cases hq:str.data.toList[k]? with
   |none=>simp[hq]at hk
   |some c=>simp[hq]at hk;subst hk;rfl
  ·rw[ai]at hk
   cases hq:str.data.toList[k]? with
   |none=>simp[hq]at hk
   |some ch =>
     simp[hq]at hk
     subst hk
     cases j with
     |succ j=>simp at hj
     |zero =>
       simp at hj
       subst hj
       refine⟨rfl,.int .u8 ch.toNat,?_,toN _ _⟩
       have:str.data[k]? = some ch:=by simpa using hq
       simp[this]
  ·simp at hu
   obtain⟨c,_,rfl⟩:=hu
   rfl
  ·simp[Builtin.firstCells]
 ·cases h

theorem aX {xs:List (List AV)} {ns:List Int} (h:jT xs=some ns) {news:Array Value} (hs:news.size=xs.length*1) (hr:JN w F L 1 xs news):news=(ns.map (Value.int .u8)).toArray:=by
 have key:∀(xs:List (List AV)) (ns:List Int),jT xs=some ns→xs.length=ns.length∧∀(k:Nat) (n:Int),ns[k]? = some n→xs[k]? = some [.v (.int .u8 n)]:=by
  intro xs
  induction xs with
  |nil=>intro ns h;cases h;exact⟨rfl,by simp⟩
  |cons x xs ih =>
    intro ns h
    unfold jT at h
    split at h
    ·rename_i h0;cases h0
    ·rename_i n rs h0
     cases h0
     obtain⟨ms,h1,h2⟩:=Option.map_eq_some_iff.1 h
     subst h2
     obtain⟨i1,i2⟩:=ih ms h1
     refine⟨by simp[i1],fun k m hk=>?_⟩
     cases k with
     |zero=>simp at hk⊢;exact hk
     |succ k=>simp at hk⊢;exact i2 k m hk
    ·cases h
 obtain⟨k1,k2⟩:=key xs ns h
 apply Array.ext_getElem?
 intro j
 by_cases hj:j<ns.length
 ·have hn:=k2 j ns[j] (ae hj)
  obtain⟨_,u,g1,g2⟩:=hr.2 j _ 0 _ hn rfl
  rw[rI g2]at g1
  simp only[iw,cm]at g1
  rw[g1]
  simp[hj]
 ·rw[ln oM,ln kT]
theorem ZBx (s:Sim F L (b++l) w) (he:PC w F L e a) {t u el:TypeId} (ht:P.underlying t=some (.slice el)) (vJ:P.underlying el=some (.int .u8)) (hu:P.underlying u=some .string) {y:Operand} {z:Opd} (ho:o.op=.convert t u y) (hy:eB y=some z)
  (h:aop e b l (.tostr z)=.val x b' l'):LB P o a w F L b l x b' l':=by
 have hr:=jB he hy
 simp only[aop]at h
 generalize ev e z=q at *
 generalize hv:a.eval y=v at hr
 unfold dC at h
 split at h
 ·cases h
 rename_i hns
 split at h
 case h_2=>cases h
 rename_i xs sY
 split at h
 case h_2=>cases h
 rename_i ns DW
 cases h
 obtain⟨h1,news,n1,n2,_,n4⟩:=cO s (P:=P) (sz:=1) kE sY hr
 obtain⟨ad,len,cap,rfl⟩:∃ad len cap,v=.slice ad len cap:=by
  unfold wD at sY
  split at sY
  ·cases hr.vI;exact⟨_,_,_,rfl⟩
  ·split at sY
   ·cases hr.vI<;>exact⟨_,_,_,rfl⟩
   ·cases sY
  ·cases hr<;>exact⟨_,_,_,rfl⟩
  ·exact absurd rfl (hns _)
  ·cases sY
 have jD:len=xs.length:=by
  have:=h1 w
  simp[Builtin.lenOf]at this
  exact this
 have hnw:=aX DW n1 n2
 have hf:=n4 len w oM rfl
 have NN:news.size=len:=by omega
 have uH:news.extract 0 (len*1)=news:=by
  apply Array.ext_getElem?
  intro j
  rw[fw]
  by_cases hj:j<news.size
  ·rw[if_pos oM,br]
  ·rw[if_neg oM,ln oM]
 rw[uH,hnw]at hf
 refine LB.pure s (v:=.string (CZ ns)) ?_ (toS _)
 have hc:(convert t u (.slice ad len cap)).run P w=.ok (.string (CZ ns)) w:=by
  rw[run_convert_bytes_string w t u el ad len cap ht vJ hu]
  cases ad with
  |none =>
    have h0:(ns.map (Value.int .u8)).toArray=#[]:=by
     simp[Builtin.firstCells]at hf
     simp[hf]
    have:ns=[]:=by simpa using h0
    subst this
    simp[Conv.bytesToString,CZ]
    rfl
  |some ad =>
    have hl:(loadCells ad len).run P w=.ok (ns.map (Value.int .u8)).toArray w:=by
     simpa [Builtin.firstCells] using hf
    rw[run_bytesToString w ad len cap ns hl]
    have key:∀(ns:List Int) (s:ByteArray),ns.foldl (fun r n=>r.push (UInt8.ofNat n.toNat)) s=⟨s.data++(ns.map fun n=>UInt8.ofNat n.toNat).toArray⟩:=by
     intro ns
     induction ns with
     |nil=>intro s;simp
     |cons n ns ih=>intro s;rw[lk,ih];simp[ByteArray.push]
    rw[key]
    simp[CZ,ByteArray.empty,ByteArray.emptyWithCapacity]
    try rfl
 simp[execOp,ho,hv,hc]

theorem notInt_or {d:TypeDesc} (h:EN (some d)=true):(∃el,d=.slice el)∨d=.string:=by
 cases d<;>first|(cases h;done)|exact .inl ⟨_,rfl⟩|exact .inr rfl

theorem aG {t u el ty:TypeId} {du:TypeDesc} {sz:Nat} (ht:P.underlying t=some (.slice el)) (hu:P.underlying u=some du) (hd:EN (some du)=true) (hs:jE P el=some sz)
  {blk p len cap m:Nat} {vx:Value} {news cur:Array Value} {T:TypeId} (hl:(Builtin.lenOf vx).run P w=.ok m w) (hf:(Builtin.firstCells sz m vx).run P w=.ok news w) (hn:news.size=m*sz)
  (qD:len+m≤cap) (PZ:w.heap[blk]? = some (.cells cur T (0,0))) (cI:p+len*sz+m*sz≤cur.size) (h1:∀u∈news.toList,u.oneCell'=true) :
  (Builtin.append_ #[t,u] ty #[.slice (some ⟨blk,p,none⟩) len cap,vx]).run P w=.ok (.slice (some ⟨blk,p,none⟩) (len+m) cap) (w.setRow blk (cur.toList.take (p+len*sz)++news.toList++cur.toList.drop (p+len*sz+news.toList.length)).toArray):=by
 have tH:=run_storeCells_at P blk (p+len*sz) T news.toList 0 cur w PZ kT h1
 simp only[cm]at tH
 rcases notInt_or hd with ⟨el',rfl⟩|rfl<;>simp[Builtin.append_,run_underlying ht,run_underlying hu,aB hs,hl,qD,hf,Addr.add_lit,tH]

theorem QH {t u el ty:TypeId} {du:TypeDesc} {sz bytes:Nat} {i:TypeInfo} {z:Value} (ht:P.underlying t=some (.slice el)) (hu:P.underlying u=some du) (hd:EN (some du)=true) (hs:jE P el=some sz)
  (hi:P.info? el=some i) (hz:i.zero=some z) (gO:i.bytes=bytes)
  {base:Option Addr} {len cap m:Nat} {vx:Value} {olds news:Array Value} (hl:(Builtin.lenOf vx).run P w=.ok m w)
  (hf:(Builtin.firstCells sz m vx).run P w.drew=.ok news w.drew) (ho:(Builtin.firstCells sz len (.slice base len cap)).run P w.drew=.ok olds w.drew)
  (qD:cap<len+m) (xL:(len+m)*bytes≤140737488355328) (hm:len+m≤140737488355328) (h0:0<bytes) :
  (Builtin.append_ #[t,u] ty #[.slice base len cap,vx]).run P w=.ok (.slice (some ⟨w.heap.size,0,none⟩) (len+m) (grownCap w (len+m) cap el))
    (w.drew.alloc (.cells (olds++news++Builtin.zeroCells z.cells (grownCap w (len+m) cap el-(len+m))) el)):=by
 have hn:¬(len+m≤cap):=by omega
 have h63:¬(9223372036854775807<((len:Int)+(m:Int))):=by omega
 have ZJR:=growslice_fits (need:=len+m) (old:=cap) (bytes:=bytes) qD xL
 have h48:¬(281474976710656<Builtin.nextslicecap (len+m) cap*i.bytes):=by rw[gO];omega
 rcases notInt_or hd with ⟨el',rfl⟩|rfl<;>simp[Builtin.append_,run_underlying ht,run_underlying hu,aB hs,typeInfo,zeroValue,hi,hz,hl,hn,h63,h48,Question.forced,ho,hf,newRow,grownCap]
end

section
variable {P:Program} {w:World} {F:Nat→Prop} {L:LMap} {o:Oper} {a:Act} {e:List AV} {b l b' l':List Row} {x:AV}

theorem JN.append {sz:Nat} {xs ys:List (List AV)} {us vs zs:Array Value} (h:JN w F L sz xs us) (k:JN w F L sz ys vs) (hu:us.size=xs.length*sz) (hv:vs.size=ys.length*sz):JN w F L sz (xs++ys) (us++vs++zs):=by
 refine⟨fun i row hi=>?_,fun i row j c hi hj=>?_⟩
 ·by_cases bB:i<xs.length
  ·rw[aw bB]at hi;exact h.1 i row hi
  ·rw[au oM]at hi;exact k.1 _ row hi
 ·by_cases bB:i<xs.length
  ·rw[aw bB]at hi
   obtain⟨h1,u,h2,h3⟩:=h.2 i row j c hi hj
   have:i*sz+j<us.size:=(bp.1 h2).1
   exact⟨h1,u,by rw[Array.append_assoc,cn this];exact h2,h3⟩
  ·rw[au oM]at hi
   obtain⟨h1,u,h2,h3⟩:=k.2 _ row j c hi hj
   have h4:(i-xs.length)*sz+j<vs.size:=(bp.1 h2).1
   have h5:i*sz=xs.length*sz+(i-xs.length)*sz:=by rw[←ca];congr 1;omega
   refine⟨h1,u,?_,h3⟩
   rw[cn kT,ez oM]
   rw[show i*sz+j-us.size=(i-xs.length)*sz+j by omega]
   exact h2

theorem qI {t u el ty:TypeId} {du:TypeDesc} {sz:Nat} (ht:P.underlying t=some (.slice el)) (hu:P.underlying u=some du) (hd:EN (some du)=true) (hs:jE P el=some sz)
  {base:Option Addr} {len cap:Nat} {vx:Value} (hl:(Builtin.lenOf vx).run P w=.ok 0 w) (hf:(Builtin.firstCells sz 0 vx).run P w=.ok #[] w) (nL:len≤cap) :
  (Builtin.append_ #[t,u] ty #[.slice base len cap,vx]).run P w=.ok (.slice base len cap) w:=by
 rcases notInt_or hd with ⟨el',rfl⟩|rfl<;>cases base<;>simp[Builtin.append_,run_underlying ht,run_underlying hu,aB hs,hl,hf,nL,storeCells]

theorem Sim.bumpNil {h:List Row} (s:Sim F L h w) {id ver sz:Nat} {els:List (List AV)} (hr:h[id]? = some (.live ver sz els)) (hL:L id ver=some .nil) :
  ∃L':LMap,Sim F L' (h.set id (.live (ver+1) sz [])) w∧Step h.length F L h w F L' (h.set id (.live (ver+1) sz [])) w∧L' id (ver+1)=some .nil∧∀i v l,L i v=some l→L' i v=some l:=by
 have hid:id<h.length:=(aj.1 hr).1
 have QO:L id (ver+1)=none:=by
  cases hq:L id (ver+1) with
  |none=>rfl
  |some q =>
    obtain⟨r,h1,h2⟩:=s.born _ _ _ hq
    rw[hr]at h1;cases h1
    simp[Row.ver]at h2
    omega
 obtain⟨L',JT,IW,DT⟩:∃L':LMap,L' id (ver+1)=some .nil∧(∀i v l,L i v=some l→L' i v=some l)∧∀i v,(i≠id∨v≠ver+1)→L' i v=L i v:=by
  refine⟨fun i v=>if i=id∧v=ver+1 then some .nil else L i v,by simp,?_,?_⟩
  ·intro i v q hl
   by_cases hi:i=id∧v=ver+1
   ·obtain⟨rfl,rfl⟩:=hi
    rw[QO]at hl;cases hl
   ·simp[hi,hl]
  ·intro i v hi
   have:¬(i=id∧v=ver+1):=fun ⟨a,b⟩=>hi.elim (fun h=>h a) (fun h=>h b)
   simp[this]
 have mono:∀{x:AV} {v:Value},RepA w F L x v→RepA w F L' x v:=fun hx=>hx.mono (fun _ h=>h) (fun _ _=>rfl) IW
 have own:∀k,gD L' (h.set id (.live (ver+1) sz [])) k→gD L h k:=by
  rintro k ⟨i,v,z,e1,q1,h1,h2,h3⟩
  by_cases hi:i=id
  ·subst hi
   rw[bf hid]at h1;cases h1
   rw[JT]at h2;cases h2
   exact h3.elim
  ·rw[bq (Ne.symm hi)]at h1
   rw[DT i v (.inl hi)]at h2
   exact⟨i,v,z,e1,q1,h1,h2,h3⟩
 refine⟨L',⟨?_,?_,?_,fun k hk=>⟨(s.imm k hk).1,fun ho=>(s.imm k hk).2 (own k ho)⟩,s.glob⟩,⟨fun _ h=>h,fun i v l _ hl=>IW i v l hl,rfl,rfl,rfl,ah _,fun _ _ _=>rfl,fun k _ ho=>own k ho,?_,fun _ _ h=>.inl h⟩,JT,IW⟩
 ·intro j v z e1 hj
  by_cases PI:j=id
  ·subst PI
   rw[bf hid]at hj
   cases hj
   exact⟨.nil,JT,rfl⟩
  ·rw[bq (Ne.symm PI)]at hj
   obtain⟨l,sQ,uT⟩:=s.row j v z e1 hj
   exact⟨l,IW _ _ _ sQ,uT.mono (fun _ _=>rfl) (fun _ _=>mono)⟩
 ·intro i v l sQ
  by_cases hi:i=id
  ·subst hi
   refine⟨_,bf hid,?_⟩
   by_cases hv:v=ver+1
   ·subst hv;exact ah _
   ·rw[DT i v (.inr hv)]at sQ
    obtain⟨r,h1,h2⟩:=s.born _ _ _ sQ
    rw[hr]at h1;cases h1
    exact ee h2 (jm _)
  ·rw[DT i v (.inl hi)]at sQ
   obtain⟨r,h1,h2⟩:=s.born _ _ _ sQ
   exact⟨r,by rw[bq (Ne.symm hi)];exact h1,h2⟩
 ·intro i i' v v' z z' e1 e2 b q1 q2 h1 h2 h3 h4 h5 h6
  by_cases hi:i=id
  ·subst hi
   rw[bf hid]at h1;cases h1
   rw[JT]at h3;cases h3
   exact h5.elim
  ·by_cases hi':i'=id
   ·subst hi'
    rw[bf hid]at h2;cases h2
    rw[JT]at h4;cases h4
    exact h6.elim
   ·rw[bq (Ne.symm hi)]at h1
    rw[bq (Ne.symm hi')]at h2
    rw[DT i v (.inl hi)]at h3
    rw[DT i' v' (.inl hi')]at h4
    exact s.apart i i' v v' z z' e1 e2 b q1 q2 h1 h2 h3 h4 h5 h6
 ·intro i hi v hv
  by_cases hii:i=id
  ·subst hii;rw[hr]at hv;cases hv
  ·rw[bq (Ne.symm hii)];exact hv

theorem bN {h:List Row} (s:Sim F L h w) {id ver sz:Nat} {els:List (List AV)} (hr:h[id]? = some (.live ver sz els)):L id (ver+1)=none:=by
 cases hq:L id (ver+1) with
 |none=>rfl
 |some q =>
   obtain⟨r,h1,h2⟩:=s.born _ _ _ hq
   rw[hr]at h1;cases h1
   simp[Row.ver]at h2
   omega

theorem d9 (s:Sim F L (b++l) w) (he:PC w F L e a) {c:Call} {t u el:TypeId} {sz bytes:Nat} {zs:List AV} (ht:P.underlying t=some (.slice el)) (hu:EN (P.underlying u)=true)
  (hs:jE P el=some sz) (gO:OO P el=some bytes) (hz:vG P el=some zs) (z6:zs.length=sz) (h0:0<sz) (hb0:0<bytes)
  {y z:Operand} {y' z':Opd} (hc:c.callee=.builtin .append) (ha:c.args.toList=[y,z]) (XW:c.argTypes.toList=[t,u]) (ho:o.op=.call c) (hy:eB y=some y') (hz':eB z=some z')
  (h:aop e b l (.append sz bytes y' z')=.val x b' l'):LB P o a w F L b l x b' l':=by
 obtain⟨i,zv,hi,YW,eZ⟩:=aE hz
 obtain⟨c1,c2⟩:=tF (w:=w) (F:=F) (L:=L) eZ
 have hzv:zv.cells.size=sz:=by have:=c1.1;simp at this;omega
 have hbz:i.bytes=bytes:=by simp[OO,hi]at gO;exact gO
 obtain⟨du,hdu,hd⟩:∃du,P.underlying u=some du∧EN (some du)=true:=by
  cases hq:P.underlying u with
  |none=>rw[hq]at hu;cases hu
  |some du=>rw[hq]at hu;exact⟨du,rfl,hu⟩
 have h1:=jB he hy
 have h2:=jB he hz'
 simp only[aop]at h
 generalize ev e y'=q at *
 generalize ev e z'=r at *
 have zM:∀v w',(Builtin.append_ #[t,u] o.type #[a.eval y,a.eval z]).run P w=.ok v w'→(execOp a.eval o).run P w=.ok (.value v) w':=by
  intro v w' hr
  rw[dE ho hc ha XW]
  simp[invoke,builtin,hr]
 unfold SB at h
 split at h
 case h_1=>cases h
 rename_i xs sY
 obtain⟨jD,news,n1,n2,n3,n4⟩:=cO (P:=P) s h0 sY h2
 have ZDn:xs.length=0→(Builtin.firstCells sz 0 (a.eval z)).run P w=.ok #[] w:=by
  intro hx
  have:=n4 0 w (an _) rfl
  simpa using this
 have ZJS:news.extract 0 (xs.length*sz)=news:=by rw[←n1];simp
 have hf:∀w2,w2.heap=w.heap→(Builtin.firstCells sz xs.length (a.eval z)).run P w2=.ok news w2:=by
  intro w2 hw
  have:=n4 xs.length w2 (ah _) hw
  rwa [ZJS]at this
 split at h
 ·split at h
  ·rename_i hx0
   cases h
   obtain⟨ad,hv⟩:∃ad,a.eval y=.slice ad 0 0:=by
    generalize a.eval y=v at h1
    cases h1.vI;exact⟨_,rfl⟩
   refine LB.pure s (v:=a.eval y) (zM _ _ ?_) h1
   rw[hv]
   have hl0:=jD w
   rw[hx0]at hl0
   exact qI ht hdu hd hs hl0 (ZDn (by rw[hx0];rfl)) (ah _)
  ·rename_i hx0
   split at h
   case isFalse=>cases h
   rename_i hb
   unfold room at hb
   obtain⟨ad,hv⟩:∃ad,a.eval y=.slice ad 0 0:=by
    generalize a.eval y=v at h1
    cases h1.vI;exact⟨_,rfl⟩
   have vU:0<xs.length:=by cases xs with
    |nil=>exact absurd rfl hx0
    |cons _ _=>simp
   have JG:(Builtin.firstCells sz 0 (.slice ad 0 0)).run P w.drew=.ok #[] w.drew:=by
    cases ad<;>simp[Builtin.firstCells,loadCells,loadCellsFrom]
   have TD:=QH (P:=P) (w:=w) (ty:=o.type) ht hdu hd hs hi YW hbz (base:=ad) (len:=0) (cap:=0) (jD w) (hf _ rfl) JG oM (by simpa using hb.1) (by simpa using hb.2) hb0
   rw[←hv]at TD
   simp only[br,Array.empty_append]at TD
   have TK:=grownCap_ge w xs.length 0 el
   have sM:grownCap w xs.length 0 el≤maxLen:=grownCap_le_maxLen w _ 0 el (by unfold maxLen;omega)
   refine bW s (w':=w.drew.alloc (.cells (news++Builtin.zeroCells zv.cells (grownCap w xs.length 0 el-xs.length)) el)) (cur:=news++Builtin.zeroCells zv.cells (grownCap w xs.length 0 el-xs.length)) (T:=el) (cap:=grownCap w xs.length 0 el)
    (v:=.slice (some ⟨w.heap.size,0,none⟩) xs.length (grownCap w xs.length 0 el)) (.inl (zM _ _ TD)) rfl rfl rfl rfl TK sM ?_ n2.1 ?_ ?_ h
   ·rw[cf,size_zeroCells,n1,hzv,←ca]
    exact ct _ oM
   ·intro k row j cc hk hj
    obtain⟨g1,v,g2,g3⟩:=n2.2 k row j cc hk hj
    exact⟨g1,v,by rw[cn (bp.1 g2).1];exact g2,g3⟩
   ·intro L' hL'
    have:=RepA.sl (w:=w.drew.alloc (.cells (news++Builtin.zeroCells zv.cells (grownCap w xs.length 0 el-xs.length)) el)) (F:=F) (b.length+l.length) 0 0 xs.length _ _ _ _ hL' oM sM
    simpa using this
 ·rename_i id ver off len
  split at h
  case h_2=>cases h
  rename_i v0 s0 els hg
  split at h
  case isFalse=>cases h
  rename_i hb
  obtain⟨rfl,rfl,nL,xL,qD⟩:=hb
  unfold room at xL qD
  cases h
  have hg':(b++l)[id]? = some (.live v0 s0 els):=by rw[←MD];exact hg
  have hid:id<(b++l).length:=(aj.1 hg').1
  have bZ:=bN s hg'
  have vJ:wD b l s0 (.sl id v0 off len)=some ((els.drop off).take len):=by simp[wD,hg,nL]
  obtain⟨klen,olds,m1,m2,m3,m4⟩:=cO (P:=P) s h0 vJ h1
  have GW:((els.drop off).take len).length=len:=by simp;omega
  rw[GW]at m1 m4 klen
  have holds:olds.extract 0 (len*s0)=olds:=by rw[←m1];simp
  have grow:∀base cap,a.eval y=.slice base len cap→cap<len+xs.length→LB P o a w F L b l (.sl id (v0+1) 0 (len+xs.length)) (pE b id (.live (v0+1) s0 ((els.drop off).take len++xs))) (IE b l id (.live (v0+1) s0 ((els.drop off).take len++xs))):=by
   intro base cap hv bB
   have ho2:=m4 len w.drew (ah _) rfl
   rw[hv,holds]at ho2
   have TD:=QH (P:=P) (w:=w) (ty:=o.type) ht hdu hd hs hi YW hbz (jD w) (hf _ rfl) ho2 bB xL qD hb0
   rw[←hv]at TD
   have TK:=grownCap_ge w (len+xs.length) cap el
   have sM:grownCap w (len+xs.length) cap el≤maxLen:=grownCap_le_maxLen w _ cap el (by unfold maxLen;omega)
   obtain⟨L',r1,r2,r3,r4⟩:=s.putRow (h':=(b++l).set id (.live (v0+1) s0 ((els.drop off).take len++xs))) (w':=w.drew.alloc (.cells (olds++news++Builtin.zeroCells zv.cells (grownCap w (len+xs.length) cap el-(len+xs.length))) el))
    id (v0+1) s0 w.heap.size 0 (grownCap w (len+xs.length) cap el) ((els.drop off).take len++xs) rfl rfl rfl kS (fun k hk _=>heap_alloc_old w.drew _ k hk) (.inl (ah _))
    (bf hid) (fun j hj=>bq (Ne.symm hj)) (fun r hr=>by rw[hg']at hr;cases hr;exact⟨jm _,_,_,_,rfl⟩) (.inl bZ)
    (by rw[am,GW];exact TK) sM (olds++news++Builtin.zeroCells zv.cells (grownCap w (len+xs.length) cap el-(len+xs.length))) el (heap_alloc_new w.drew _)
    (by
     rw[cf,cf,size_zeroCells,n1,m1,hzv,←ca,←ca,br]
     exact ct _ oM)
    (JN.append m2 n2 (by rw[GW];exact m1) n1 (zs:=Builtin.zeroCells zv.cells (grownCap w (len+xs.length) cap el-(len+xs.length)))).1
    (fun k row j cc hk hj=>by simpa using (JN.append m2 n2 (by rw[GW];exact m1) n1 (zs:=Builtin.zeroCells zv.cells (grownCap w (len+xs.length) cap el-(len+xs.length)))).2 k row j cc hk hj)
   refine⟨_,_,L',.inl (zM _ _ TD),?_,by rw[bE];exact r1,by rw[bE];exact r2,aF _ _ _⟩
   have:=RepA.sl (w:=w.drew.alloc (.cells (olds++news++Builtin.zeroCells zv.cells (grownCap w (len+xs.length) cap el-(len+xs.length))) el)) (F:=F) id (v0+1) 0 (len+xs.length) _ _ _ _ r3 oM sM
   simpa using this
  generalize hv:a.eval y=vy at h1
  cases h1 with
  |sl _ _ _ _ b1 o1 z1 cap1 hL g1 g2 =>
    by_cases cI:len+xs.length≤cap1-off
    ·obtain⟨lc,k1,k2⟩:=s.row _ _ _ _ hg'
     rw[hL]at k1;cases k1
     obtain⟨rfl,k3,k4,cur,T,k5,k6,k7,k8⟩:=k2
     have ZIT:(off+(len+xs.length))*z1≤cap1*z1:=ct _ oM
     rw[ca,ca]at ZIT
     have TD:=aG (P:=P) (w:=w) (ty:=o.type) (p:=o1+off*z1) ht hdu hd hs (jD w) (hf _ rfl) n1 cI k5 oM n3
     rw[←hv]at TD
     have hnl:news.toList.length=xs.length*z1:=by simpa using n1
     have EP:cur.toList.length=cur.size:=by simp
     have CO:(cur.toList.take (o1+off*z1+len*z1)++news.toList++cur.toList.drop (o1+off*z1+len*z1+news.toList.length)).toArray.size=cur.size:=by
      simp only[eh,am,bu,fp,hnl,EP]
      omega
     have hget:∀i,(cur.toList.take (o1+off*z1+len*z1)++news.toList++cur.toList.drop (o1+off*z1+len*z1+news.toList.length)).toArray[i]? = if o1+off*z1+len*z1≤i∧i<o1+off*z1+len*z1+xs.length*z1 then news[i-(o1+off*z1+len*z1)]? else cur[i]?:=by
      intro i
      have:=EI cur.toList news.toList (o1+off*z1+len*z1) i (by rw[hnl,EP];omega)
      simp only[iu]
      rw[this,hnl]
      simp
     obtain⟨L',r1,r2,r3,r4⟩:=s.putRow (h':=(b++l).set id (.live (v0+1) z1 ((els.drop off).take len++xs))) (w':=w.setRow b1 (cur.toList.take (o1+off*z1+len*z1)++news.toList++cur.toList.drop (o1+off*z1+len*z1+news.toList.length)).toArray)
      id (v0+1) z1 b1 (o1+off*z1) (cap1-off) ((els.drop off).take len++xs) rfl rfl rfl kS (fun i _ hi=>setRow_other w b1 i _ hi) (.inr ⟨_,_,_,_,_,_,hg',hL⟩)
      (bf hid) (fun j hj=>bq (Ne.symm hj)) (fun r hr=>by rw[hg']at hr;cases hr;exact⟨jm _,_,_,_,rfl⟩) (.inl bZ)
      (by rw[am,GW];exact cI) oM _ T (setRow_heap w b1 cur _ T _ k5)
      (by
       rw[CO]
       have:off*z1+(cap1-off)*z1=cap1*z1:=by rw[←ca];congr 1;omega
       omega)
      (fun k row hk=>by
       by_cases YM:k<len
       ·rw[aw oM]at hk;exact m2.1 k row hk
       ·rw[au oM]at hk;exact n2.1 _ row hk)
      (fun k row j cc hk hj=>by
       rw[hget]
       by_cases YM:k<len
       ·rw[aw oM]at hk
        rw[cw,if_pos YM,dl]at hk
        obtain⟨q1,u,q2,q3⟩:=k8 _ row j cc hk hj
        have fG:j<z1:=by rw[←k7 _ _ hk];exact (aj.1 hj).1
        have:=sH (sz:=z1) (j:=j) (n:=1) YM oM
        refine⟨q1,u,?_,q3⟩
        rw[if_neg oM]
        rw[ca]at q2
        rw[←q2];congr 1;omega
       ·rw[au oM,GW]at hk
        obtain⟨q1,u,q2,q3⟩:=n2.2 _ row j cc hk hj
        have hq:=(bp.1 q2).1
        have h5:k*z1=len*z1+(k-len)*z1:=by rw[←ca];congr 1;omega
        refine⟨q1,u,?_,q3⟩
        rw[if_pos oM,show o1+off*z1+k*z1+j-(o1+off*z1+len*z1)=(k-len)*z1+j by omega]
        exact q2)
     refine⟨_,_,L',.inl (zM _ _ TD),?_,by rw[bE];exact r1,by rw[bE];exact r2,aF _ _ _⟩
     have:=RepA.sl (w:=w.setRow b1 (cur.toList.take (o1+off*z1+len*z1)++news.toList++cur.toList.drop (o1+off*z1+len*z1+news.toList.length)).toArray) (F:=F) id (v0+1) 0 (len+xs.length) _ _ _ _ r3 oM oM
     simpa using this
    ·exact grow _ _ hv oM
  |slz _ _ _ b1 o1 z1 cap1 x1 hL jU =>
    by_cases hx:xs.length=0
    ·obtain⟨lc,k1,k2⟩:=s.row _ _ _ _ hg'
     rw[hL]at k1;cases k1
     obtain⟨rfl,k3,k4,cur,T,k5,k6,k7,k8⟩:=k2
     have hxn:xs=[]:=cu hx
     subst hxn
     have hl0:=jD w
     have TD:=qI (P:=P) (w:=w) (ty:=o.type) (base:=some ⟨b1,x1,none⟩) (len:=0) (cap:=0) ht hdu hd hs hl0 (ZDn rfl) (ah _)
     rw[←hv]at TD
     obtain⟨L',r1,r2,r3,r4⟩:=s.putRow (h':=(b++l).set id (.live (v0+1) z1 ((els.drop off).take 0++[]))) (w':=w)
      id (v0+1) z1 b1 (o1+off*z1) 0 ((els.drop off).take 0++[]) rfl rfl rfl (ah _) (fun i _ hi=>rfl) (.inr ⟨_,_,_,_,_,_,hg',hL⟩)
      (bf hid) (fun j hj=>bq (Ne.symm hj)) (fun r hr=>by rw[hg']at hr;cases hr;exact⟨jm _,_,_,_,rfl⟩) (.inl bZ)
      kS kE cur T k5 (by rw[←jU]at k6;omega) kS kS
     refine⟨a.eval y,w,L',.inl (zM _ _ (by rw[TD,hv])),?_,by rw[bE];exact r1,by rw[bE];exact r2,aF _ _ _⟩
     rw[hv]
     exact .slz id (v0+1) 0 _ _ _ _ x1 r3 rfl
    ·exact grow _ _ hv oM
  |sln _ _ ad hL =>
    by_cases hx:xs.length=0
    ·have hxn:xs=[]:=cu hx
     subst hxn
     obtain⟨lc,k1,k2⟩:=s.row _ _ _ _ hg'
     rw[hL]at k1;cases k1
     have sV:els=[]:=k2
     subst sV
     have hl0:=jD w
     have TD:=qI (P:=P) (w:=w) (ty:=o.type) (base:=ad) (len:=0) (cap:=0) ht hdu hd hs hl0 (ZDn rfl) (ah _)
     rw[←hv]at TD
     obtain⟨L',r1,r2,r3,r4⟩:=s.bumpNil hg' hL
     refine⟨a.eval y,w,L',.inl (zM _ _ (by rw[TD,hv])),?_,by rw[bE];exact r1,by rw[bE];exact r2,aF _ _ _⟩
     rw[hv]
     exact .sln id (v0+1) ad r3
    ·exact grow _ _ hv oM
 ·cases h

theorem pQ {t u el ty:TypeId} {sz bytes:Nat} {i:TypeInfo} {z:Value} (ht:P.underlying t=some (.slice el)) (hu:P.underlying u=some (.int .i64)) (hs:jE P el=some sz)
  (hi:P.info? el=some i) (hz:i.zero=some z) (gO:i.bytes=bytes) {base:Option Addr} {m:Nat} (hm0:0<m) (NN:0<sz) (xL:m*bytes≤140737488355328) (hm:m≤140737488355328) (h0:0<bytes) :
  (Builtin.append_ #[t,u] ty #[.slice base 0 0,.int .i64 (m:Int)]).run P w=.ok (.slice (some ⟨w.heap.size,0,none⟩) m (grownCap w m 0 el))
    (w.drew.alloc (.cells (Builtin.zeroCells z.cells m++Builtin.zeroCells z.cells (grownCap w m 0 el-m)) el)):=by
 have ZJR:=growslice_fits (need:=m) (old:=0) (bytes:=bytes) hm0 xL
 have h48:¬(281474976710656<Builtin.nextslicecap m 0*i.bytes):=by rw[gO];omega
 have hw:IntKind.i64.wrap (m:Int)=(m:Int):=by rw[IntKind.wrap_i64];omega
 have h1:¬((m:Int)<0):=by omega
 have h2:¬(281474976710656<(m:Int)*(i.bytes:Int)):=by
  rw[gO]
  have:(m:Int)*(bytes:Int)=((m*bytes:Nat):Int):=by rw[Int.natCast_mul]
  omega
 have h3:¬(m*sz=0):=by
  have:0<m*sz:=Nat.mul_pos hm0 NN
  omega
 have h5:¬(9223372036854775807<(m:Int)):=by omega
 have h6:m≠0:=by omega
 cases base<;>simp[Builtin.append_,run_underlying ht,run_underlying hu,aB hs,typeInfo,zeroValue,hi,hz,asInt,asIntOf,hw,h1,h2,h3,h5,h6,h48,Question.forced,newRow,grownCap,Builtin.firstCells,loadCells,loadCellsFrom]

theorem XP {t u el ty:TypeId} {sz:Nat} {i:TypeInfo} (ht:P.underlying t=some (.slice el)) (hu:P.underlying u=some (.int .i64)) (hs:jE P el=some sz) (hi:P.info? el=some i) {base:Option Addr} :
  (Builtin.append_ #[t,u] ty #[.slice base 0 0,.int .i64 0]).run P w=.ok (.slice base 0 0) w:=by
 have hw:IntKind.i64.wrap 0=0:=by rw[IntKind.wrap_i64];omega
 cases base<;>simp[Builtin.append_,run_underlying ht,run_underlying hu,aB hs,typeInfo,hi,asInt,asIntOf,hw,storeCells]

theorem ZFJ (s:Sim F L (b++l) w) (he:PC w F L e a) {c:Call} {t u el:TypeId} {sz bytes:Nat} {zs:List AV} (ht:P.underlying t=some (.slice el)) (hu:ZDi (P.underlying u)=true)
  (hs:jE P el=some sz) (gO:OO P el=some bytes) (hz:vG P el=some zs) (z6:zs.length=sz) (h0:0<sz) (hb0:0<bytes)
  {y z:Operand} {y' z':Opd} (hc:c.callee=.builtin .append) (ha:c.args.toList=[y,z]) (XW:c.argTypes.toList=[t,u]) (ho:o.op=.call c) (hy:eB y=some y') (hz':eB z=some z')
  (h:aop e b l (.appz sz bytes zs y' z')=.val x b' l'):LB P o a w F L b l x b' l':=by
 obtain⟨i,zv,hi,YW,eZ⟩:=aE hz
 obtain⟨c1,c2⟩:=tF (w:=w) (F:=F) (L:=L) eZ
 have hzv:zv.cells.size=sz:=by have:=c1.1;simp at this;omega
 have hbz:i.bytes=bytes:=by simp[OO,hi]at gO;exact gO
 have hdu:P.underlying u=some (.int .i64):=by
  unfold ZDi at hu
  split at hu
  ·rename_i h;exact h
  ·cases hu
 have h1:=jB he hy
 have h2:=jB he hz'
 simp only[aop]at h
 generalize ev e y'=q at *
 generalize ev e z'=r at *
 have zM:∀v w',(Builtin.append_ #[t,u] o.type #[a.eval y,a.eval z]).run P w=.ok v w'→(execOp a.eval o).run P w=.ok (.value v) w':=by
  intro v w' hr
  rw[dE ho hc ha XW]
  simp[invoke,builtin,hr]
 unfold ED at h
 split at h
 case h_2=>cases h
 rename_i n
 obtain⟨ad,hv⟩:∃ad,a.eval y=.slice ad 0 0:=by
  generalize a.eval y=v at h1
  cases h1.vI;exact⟨_,rfl⟩
 have hn:=rI h2
 split at h
 ·rename_i hn0
  subst hn0
  cases h
  refine LB.pure s (v:=a.eval y) (zM _ _ ?_) h1
  rw[hv,hn]
  exact XP ht hdu hs hi
 ·split at h
  case isFalse=>cases h
  rename_i hn0 hb
  obtain⟨g1,g2,g3⟩:=hb
  unfold room at g2 g3
  obtain⟨m,rfl⟩:∃m:Nat,n=m:=⟨n.toNat,by omega⟩
  simp only[bs]at *
  have hm0:0<m:=by omega
  have TD:=pQ (P:=P) (w:=w) (ty:=o.type) ht hdu hs hi YW hbz (base:=ad) hm0 h0 g2 g3 hb0
  rw[←hv,←hn]at TD
  have TK:=grownCap_ge w m 0 el
  have sM:grownCap w m 0 el≤maxLen:=grownCap_le_maxLen w _ 0 el (by unfold maxLen;omega)
  have WW:=iO (w:=w) (F:=F) (L:=L) (n:=m) c1 c2 z6 (m*sz) (ah _)
  have hmz:madeCells zv.cells (m*sz)=Builtin.zeroCells zv.cells m:=by unfold madeCells Builtin.zeroCells;rw[hzv]
  rw[hmz]at WW
  refine bW s (w':=w.drew.alloc (.cells (Builtin.zeroCells zv.cells m++Builtin.zeroCells zv.cells (grownCap w m 0 el-m)) el)) (cur:=Builtin.zeroCells zv.cells m++Builtin.zeroCells zv.cells (grownCap w m 0 el-m)) (T:=el) (cap:=grownCap w m 0 el)
   (v:=.slice (some ⟨w.heap.size,0,none⟩) m (grownCap w m 0 el)) (.inl (zM _ _ TD)) rfl rfl rfl rfl (by rw[lq];exact TK) sM ?_ WW.1 ?_ ?_ h
  ·rw[cf,size_zeroCells,size_zeroCells,hzv,←ca]
   exact ct _ oM
  ·intro k row j cc hk hj
   obtain⟨g1,v,g2,g3⟩:=WW.2 k row j cc hk hj
   exact⟨g1,v,by rw[cn (bp.1 g2).1];exact g2,g3⟩
  ·intro L' hL'
   have:=RepA.sl (w:=w.drew.alloc (.cells (Builtin.zeroCells zv.cells m++Builtin.zeroCells zv.cells (grownCap w m 0 el-m)) el)) (F:=F) (b.length+l.length) 0 0 m _ _ _ _ hL' oM sM
   simpa using this

theorem ZFD (s:Sim F L (b++l) w) (he:PC w F L e a) {c:Call} {t u el:TypeId} {sz:Nat} (ht:P.underlying t=some (.slice el)) (hs:jE P el=some sz) (h0:0<sz)
  {y z:Operand} {y' z':Opd} (hc:c.callee=.builtin .copy) (ha:c.args.toList=[y,z]) (XW:c.argTypes.toList=[t,u]) (ho:o.op=.call c) (hy:eB y=some y') (hz':eB z=some z')
  (h:aop e b l (.copy sz y' z')=.val x b' l'):LB P o a w F L b l x b' l':=by
 have h1:=jB he hy
 have h2:=jB he hz'
 simp only[aop]at h
 generalize ev e y'=q at *
 generalize ev e z'=r at *
 have zM:∀v w',(Builtin.copy_ #[t,u] o.type #[a.eval y,a.eval z]).run P w=.ok v w'→(execOp a.eval o).run P w=.ok (.value v) w':=by
  intro v w' hr
  rw[dE ho hc ha XW]
  simp[invoke,builtin,hr]
 unfold LD at h
 split at h
 case h_1=>cases h
 rename_i xs sY
 obtain⟨jD,news,n1,n2,n3,n4⟩:=cO (P:=P) s h0 sY h2
 split at h
 case h_2=>cases h
 rename_i id ver off len
 split at h
 case h_2=>cases h
 rename_i v0 s0 els hg
 split at h
 case isFalse=>cases h
 rename_i hb
 obtain⟨rfl,rfl,nL⟩:=hb
 cases h
 have hg':(b++l)[id]? = some (.live v0 s0 els):=by rw[←MD];exact hg
 have hid:id<(b++l).length:=(aj.1 hg').1
 have hfn:=n4 (min xs.length len) w (Nat.min_le_left _ _) rfl
 have none_:∀base c0,a.eval y=.slice base 0 c0→len=0→LB P o a w F L b l (.v (.int .i64 (min xs.length len:Nat))) (pE b id (.live v0 s0 (els.take off++xs.take len++els.drop (off+min xs.length len)))) (IE b l id (.live v0 s0 (els.take off++xs.take len++els.drop (off+min xs.length len)))):=by
  intro base c0 hv hl0
  subst hl0
  have sV:els.take off++xs.take 0++els.drop (off+min xs.length 0)=els:=by simp
  rw[sV]
  have tV:(b++l).set id (.live v0 s0 els)=b++l:=by
   apply ek
   intro j
   by_cases hj:id=j
   ·subst hj;rw[bf hid,hg']
   ·rw[bq hj]
  have TD:(Builtin.copy_ #[t,u] o.type #[a.eval y,a.eval z]).run P w=.ok (goInt 0) w:=by
   simp at hfn
   cases base<;>simp[Builtin.copy_,run_underlying ht,aB hs,jD w,hv,hfn,storeCells]
  refine⟨goInt 0,w,L,.inl (zM _ _ TD),by simp[goInt];exact toN .i64 0,by rw[bE,tV];exact s,by rw[bE,tV];exact Step.refl _ _ _ _ _,aF _ _ _⟩
 generalize hv:a.eval y=vy at h1
 cases h1 with
 |slz _ _ _ b1 o1 z1 cap1 x1 hL jU=>exact none_ _ _ hv rfl
 |sln _ _ ad hL=>exact none_ _ _ hv rfl
 |sl _ _ _ _ b1 o1 z1 cap1 hL g1 g2 =>
   obtain⟨lc,k1,k2⟩:=s.row _ _ _ _ hg'
   rw[hL]at k1;cases k1
   obtain⟨rfl,k3,k4,cur,T,k5,k6,k7,k8⟩:=k2
   have EP:cur.toList.length=cur.size:=by simp
   have hmn:min xs.length len≤len:=Nat.min_le_right _ _
   have hmx:min xs.length len≤xs.length:=Nat.min_le_left _ _
   have ZIT:(off+min xs.length len)*z1≤cap1*z1:=ct _ oM
   rw[ca]at ZIT
   have yU:min xs.length len*z1≤xs.length*z1:=ct _ hmx
   have hnl:(news.extract 0 (min xs.length len*z1)).toList.length=min xs.length len*z1:=by simp;omega
   have ZAp:∀v∈(news.extract 0 (min xs.length len*z1)).toList,v.oneCell'=true:=fun v hv2=>n3 v (by
    simp only[ic,lm,gi,dp]at hv2
    exact dr hv2)
   have tH:=run_storeCells_at P b1 (o1+off*z1) T (news.extract 0 (min xs.length len*z1)).toList 0 cur w k5 (by rw[hnl];omega) ZAp
   simp only[cm]at tH
   have TD:(Builtin.copy_ #[t,u] o.type #[a.eval y,a.eval z]).run P w=.ok (goInt (min xs.length len:Nat)) (w.setRow b1 (cur.toList.take (o1+off*z1)++(news.extract 0 (min xs.length len*z1)).toList++cur.toList.drop (o1+off*z1+(news.extract 0 (min xs.length len*z1)).toList.length)).toArray):=by
    have ZIU:Nat.min xs.length len=min xs.length len:=rfl
    simp only[Builtin.copy_,run_underlying ht,aB hs,jD w,hv,Sem.run_bind,Result.andThen_ok,ZIU,hfn,tH,Sem.run_pure,iu,dy,db]
   have CO:(cur.toList.take (o1+off*z1)++(news.extract 0 (min xs.length len*z1)).toList++cur.toList.drop (o1+off*z1+(news.extract 0 (min xs.length len*z1)).toList.length)).toArray.size=cur.size:=by
    simp only[eh,am,bu,fp,hnl,EP]
    omega
   have hget:∀i,(cur.toList.take (o1+off*z1)++(news.extract 0 (min xs.length len*z1)).toList++cur.toList.drop (o1+off*z1+(news.extract 0 (min xs.length len*z1)).toList.length)).toArray[i]? = if o1+off*z1≤i∧i<o1+off*z1+min xs.length len*z1 then news[i-(o1+off*z1)]? else cur[i]?:=by
    intro i
    have:=EI cur.toList (news.extract 0 (min xs.length len*z1)).toList (o1+off*z1) i (by rw[hnl,EP];omega)
    simp only[iu]
    rw[this,hnl]
    split
    ·rename_i yF
     simp only[ic,lm,gi,dp,cw]
     rw[if_pos oM]
     simp
    ·simp
   have htk:(els.take off).length=off:=by simp;omega
   have ZIV:(xs.take len).length=min xs.length len:=by simp[Nat.min_comm]
   have pH:∀k,(els.take off++xs.take len++els.drop (off+min xs.length len))[k]? = if off≤k∧k<off+min xs.length len then xs[k-off]? else els[k]?:=by
    intro k
    have:=EI els (xs.take len) off k (by rw[ZIV];omega)
    rw[ZIV]at this
    rw[this]
    split
    ·rename_i yF
     rw[cw,if_pos oM]
    ·rfl
   obtain⟨L',r1,r2,r3,r4⟩:=s.putRow (h':=(b++l).set id (.live v0 z1 (els.take off++xs.take len++els.drop (off+min xs.length len)))) (w':=w.setRow b1 (cur.toList.take (o1+off*z1)++(news.extract 0 (min xs.length len*z1)).toList++cur.toList.drop (o1+off*z1+(news.extract 0 (min xs.length len*z1)).toList.length)).toArray)
    id v0 z1 b1 o1 cap1 (els.take off++xs.take len++els.drop (off+min xs.length len)) rfl rfl rfl kS (fun i _ hi=>setRow_other w b1 i _ hi) (.inr ⟨_,_,_,_,_,_,hg',hL⟩)
    (bf hid) (fun j hj=>bq (Ne.symm hj)) (fun r hr=>by rw[hg']at hr;cases hr;exact⟨ah _,_,_,_,rfl⟩) (.inr hL)
    (by simp only[am,htk,ZIV,fp];omega) k4 _ T (setRow_heap w b1 cur _ T _ k5) (by rw[CO];exact k6)
    (fun k row hk=>by
     rw[pH]at hk
     split at hk
     ·exact n2.1 _ row hk
     ·exact k7 _ row hk)
    (fun k row j cc hk hj=>by
     rw[pH]at hk
     rw[hget]
     split at hk
     ·rename_i yF
      obtain⟨q1,u,q2,q3⟩:=n2.2 _ row j cc hk hj
      have fG:j<z1:=by rw[←n2.1 _ _ hk];exact (aj.1 hj).1
      have h5:k*z1=off*z1+(k-off)*z1:=by rw[←ca];congr 1;omega
      have:=sH (sz:=z1) (j:=j) (n:=1) (show k-off<min xs.length len by omega) oM
      refine⟨q1,u,?_,q3⟩
      rw[if_pos oM,show o1+k*z1+j-(o1+off*z1)=(k-off)*z1+j by omega]
      exact q2
     ·rename_i yF
      have fG:j<z1:=by rw[←k7 _ _ hk];exact (aj.1 hj).1
      rw[if_neg ?_]
      ·exact k8 k row j cc hk hj
      ·rintro⟨p1,p2⟩
       by_cases hko:k<off
       ·have:=sH (sz:=z1) (j:=j) (n:=1) hko oM;omega
       ·have h5:k*z1=off*z1+(k-off)*z1:=by rw[←ca];congr 1;omega
        have:=ct z1 (show min xs.length len≤k-off by omega)
        omega)
   exact⟨_,_,L',.inl (zM _ _ TD),toN _ _,by rw[bE];exact r1,by rw[bE];exact r2,aF _ _ _⟩
end

section
variable {P:Program} {w:World} {F:Nat→Prop} {L:LMap} {o:Oper} {a:Act} {e:List AV} {b l b' l':List Row} {x:AV}

theorem TJ {α β:Type} {f:α→β} {y:Option α} {z:β} (h:y.map f=some z):∃q,y=some q∧z=f q:=by
 cases y with
 |none=>cases h
 |some q=>cases h;exact⟨q,rfl,rfl⟩
theorem uW {r:Nat} {es:Array MapEntry} {clk:Nat} (hb:w.heap[r]? = some (.map es clk)):(getObj r).run P w=.ok (.map es clk) w:=by
 simp[getObj,Sem.run,hb]
theorem R6 {r:Nat} {es:Array MapEntry} {clk:Nat} (o:Obj) (hb:w.heap[r]? = some (.map es clk)):(setObj r o).run P w=.ok () {w with heap:=w.heap.setIfInBounds r o}:=by
 simp[setObj,Sem.run,hb]
theorem QT {a b:ByteArray} (h:(a==b)=true):a=b:=by
 rw[beq_toListBytes]at h
 have:=eq_of_beq h
 rw[ByteArray.toList_eq,ByteArray.toList_eq]at this
 obtain⟨x⟩:=a
 obtain⟨y⟩:=b
 simp at this
 rw[this]
theorem aK (a:ByteArray):(a==a)=true:=by rw[beq_toListBytes];simp
def kOk:FK→AV→Bool
 |.i,.v (.int _ _)=>true
 |.b,.v (.bool _)=>true
 |.s,.v (.str _)=>true
 |_,_=>false
theorem sW {k:FK} {x y:AV} {r:Bool} (h:eqF k x y=some r):kOk k x=true:=by
 unfold eqF at h
 split at h<;>first|rfl|cases h

theorem mH {em:Bool} {n:Nat} {t:TypeId} {k:FK} (hk:KJ P t=some k) {x:AV} {v:Value} (hx:RepA w F L x v) (ho:kOk k x=true):(Instr.checkKey em (n+1) t v).run P w=.ok () w:=by
 unfold KJ at hk
 unfold kOk at ho
 split at ho
 ·rename_i kk m
  split at hk<;>first|(cases hk;done)|skip
  rename_i hd
  rw[rI hx]
  simp[Instr.checkKey,run_underlying hd]
 ·rename_i t
  split at hk<;>first|(cases hk;done)|skip
  rename_i hd
  rw[dL hx]
  simp[Instr.checkKey,run_underlying hd]
 ·rename_i t
  split at hk<;>first|(cases hk;done)|skip
  rename_i hd
  rw[rQ hx]
  simp[Instr.checkKey,run_underlying hd]
 ·cases ho

theorem xI {em:Bool} {d:Nat}:∀{fs:List Field} {n:Nat} {ks:List FK} {xs ys:List AV} {vs:Array Value} {r:Bool},yL P n fs=some ks →
  bA w F L xs (vs.toList.drop n)→eqC ks xs ys=some r→(forIn fs PUnit.unit (fun f (_:PUnit)=>(if f.name≠ "_" then do
    let x ←part f.type vs f.offset
    Instr.checkKey em (d+1) f.type x
    pure (ForInStep.yield PUnit.unit)
   else pure (ForInStep.yield PUnit.unit):Sem (ForInStep PUnit)))).run P w=.ok PUnit.unit w
 |[],n,ks,xs,ys,vs,r,hp,hx,he=>by simp
 |f::fs,n,ks,xs,ys,vs,r,hp,hx,he=>by
   unfold yL at hp
   split at hp
   case isFalse=>cases hp
   rename_i hb
   obtain⟨jU,wU⟩:=hb
   split at hp
   case h_2=>cases hp
   rename_i k ks' hk hks
   cases hp
   cases xs with
   |nil=>simp[eqC]at he
   |cons x xs0 =>
   cases ys with
   |nil=>simp[eqC]at he
   |cons y ys0 =>
   simp only[eqC]at he
   cases hq:eqF k x y with
   |none=>simp[hq,DE]at he
   |some r1 =>
     cases MN:eqC ks' xs0 ys0 with
     |none=>simp[hq,MN,DE]at he
     |some r2 =>
       obtain⟨v,hv,hrv⟩:=hx.get (j:=0) (a:=x) rfl
       have hv':vs[n]? = some v:=by simpa using hv
       have MZ:=fM hk
       have hpv:(part f.type vs f.offset).run P w=.ok v w:=by simp[part,bF MZ,jU,hv']
       have hck:=mH (em:=em) (n:=d) hk hrv (sW hq)
       have tail:bA w F L xs0 (vs.toList.drop (n+1)):=by
        refine⟨by have:=hx.1;simp at this⊢;omega,fun i c' z' hc hz'=>?_⟩
        exact hx.2 (i+1) c' z' (by simpa using hc) (by
         rw[dl]at hz'⊢
         rw[show n+(i+1)=n+1+i by omega];exact hz')
       have ih:=xI (em:=em) (d:=d) hks tail MN
       rw[lu]
       simp only[wU,ne_eq,not_false_eq_true,if_true,Sem.run_bind,hpv,Result.andThen_ok,hck,Sem.run_pure]
       exact ih

theorem lI {em:Bool} {d:Nat} {el:TypeId} {k:FK} (hk:KJ P el=some k):∀{m n:Nat} {xs ys:List AV} {vs:Array Value} {r:Bool},
  bA w F L xs (vs.toList.drop n)→eqC (List.replicate m k) xs ys=some r→(hs:jE P el=some 1)→(forIn (List.range' n m) PUnit.unit (fun i (_:PUnit)=>(do
   let s ←sizeOf el
   let x ←part el vs (i*s)
   Instr.checkKey em (d+1) el x
   pure (ForInStep.yield PUnit.unit):Sem (ForInStep PUnit)))).run P w=.ok PUnit.unit w
 |0,n,xs,ys,vs,r,hx,he,hs=>by simp
 |m+1,n,xs,ys,vs,r,hx,he,hs=>by
   rw[bg]at he
   cases xs with
   |nil=>simp[eqC]at he
   |cons x xs0 =>
   cases ys with
   |nil=>simp[eqC]at he
   |cons y ys0 =>
   simp only[eqC]at he
   cases hq:eqF k x y with
   |none=>simp[hq,DE]at he
   |some r1 =>
     cases MN:eqC (List.replicate m k) xs0 ys0 with
     |none=>simp[hq,MN,DE]at he
     |some r2 =>
       obtain⟨v,hv,hrv⟩:=hx.get (j:=0) (a:=x) rfl
       have hv':vs[n]? = some v:=by simpa using hv
       have MZ:=fM hk
       have hpv:(part el vs n).run P w=.ok v w:=by simp[part,bF MZ,hv']
       have hck:=mH (em:=em) (n:=d) hk hrv (sW hq)
       have tail:bA w F L xs0 (vs.toList.drop (n+1)):=by
        refine⟨by have:=hx.1;simp at this⊢;omega,fun i c' z' hc hz'=>?_⟩
        exact hx.2 (i+1) c' z' (by simpa using hc) (by
         rw[dl]at hz'⊢
         rw[show n+(i+1)=n+1+i by omega];exact hz')
       have ih:=lI (em:=em) (d:=d) hk tail MN hs
       rw[List.range'_succ,lu]
       simp only[Sem.run_bind,aB hs,iw,hpv,Result.andThen_ok,hck,Sem.run_pure]
       exact ih

theorem RK {em:Bool} {n:Nat} {t:TypeId} {kk:KK} (hk:kkT P t=some kk) {x y:AV} {v:Value} {r:Bool} (hx:RepA w F L x v) (he:nC kk x y=some r):(Instr.checkKey em (n+2) t v).run P w=.ok () w:=by
 unfold kkT at hk
 split at hk
 ·rename_i fs ht
  split at hk
  case isFalse=>cases hk
  obtain⟨ks,hks,rfl⟩:=TJ hk
  unfold nC at he
  split at he<;>first|(cases he;done)|skip
  ·rename_i h;cases h
  ·rename_i xs ys h
   cases h
   obtain⟨vs,rfl,hl⟩:=hx.aggL
   have:=xI (em:=em) (d:=n) hks (vs:=vs) (by simpa using hl) he
   unfold Instr.checkKey
   simp only[Sem.run_bind,run_underlying ht,Result.andThen_ok]
   rw[←Array.forIn_toList]
   rw[this]
   simp
 ·rename_i m el ht
  split at hk
  case h_2=>cases hk
  rename_i k VP hs
  cases hk
  unfold nC at he
  split at he<;>first|(cases he;done)|skip
  ·rename_i h;cases h
  ·rename_i xs ys h
   cases h
   obtain⟨vs,rfl,hl⟩:=hx.aggL
   have:=lI (em:=em) (d:=n) VP (n:=0) (vs:=vs) (by simpa using hl) he hs
   unfold Instr.checkKey
   simp only[Sem.run_bind,run_underlying ht,Result.andThen_ok]
   rw[Std.Legacy.Range.forIn_eq_forIn_range']
   simp only[Std.Legacy.Range.size,gi,gb,Nat.div_one]
   rw[this]
   simp
 ·obtain⟨k,dV,rfl⟩:=TJ hk
  refine mH (n:=n+1) dV hx ?_
  simp only[nC]at he
  exact sW he
 ·cases hk

def OK (d:Nat) (el:TypeId) (xs ys:Array Value):List Nat→Sem Bool
 |[]=>pure true
 |i::is=>do
   let x ←part el xs (i*1)
   let y ←part el ys (i*1)
   let r ←Op.equalIn d el x y
   if r then OK d el xs ys is else pure false

theorem zJ {d:Nat} {t el:TypeId} {m:Nat} {xs ys:Array Value} (ht:P.underlying t=some (.array m el)) (hs:jE P el=some 1) :
  (Op.equalIn (d+1) t (.agg xs) (.agg ys)).run P w=(OK d el xs ys (List.range' 0 m)).run P w:=by
 unfold Op.equalIn
 simp only[Sem.run_bind,run_underlying ht,Result.andThen_ok,aB hs]
 rw[Std.Legacy.Range.forIn_eq_forIn_range']
 simp only[Std.Legacy.Range.size,gi,gb,Nat.div_one]
 generalize List.range' 0 m=is
 clear ht
 induction is generalizing w with
 |nil=>simp[OK]
 |cons i is ih =>
   simp only[lu,OK,Sem.run_bind,Sem.run_ite]
   generalize (part el xs (i*1)).run P w=r1
   cases r1 with
   |ok a w1 =>
     simp only[Result.andThen_ok]
     generalize (part el ys (i*1)).run P w1=r2
     cases r2 with
     |ok b w2 =>
       simp only[Result.andThen_ok]
       generalize (Op.equalIn d el a b).run P w2=r3
       cases r3 with
       |ok r w3 =>
         cases r
         ·simp only[Result.andThen_ok,eu,if_true,Sem.run_pure,bx,if_false]
         ·simp only[Result.andThen_ok,dq,bx,if_false,Sem.run_pure,if_true]
          exact ih
       |halt x w3=>simp[Result.andThen]
     |halt x w2=>simp[Result.andThen]
   |halt x w1=>simp[Result.andThen]

theorem WN {d:Nat} {el:TypeId} {k:FK} (hk:KJ P el=some k):∀{m n:Nat} {xs ys:List AV} {vs us:Array Value} {r:Bool},
  bA w F L xs (vs.toList.drop n)→bA w F L ys (us.toList.drop n)→eqC (List.replicate m k) xs ys=some r→(OK (d+1) el vs us (List.range' n m)).run P w=.ok r w
 |0,n,xs,ys,vs,us,r,hx,hy,he=>by
   cases xs<;>cases ys<;>simp[eqC]at he
   subst he
   simp[OK]
 |m+1,n,xs,ys,vs,us,r,hx,hy,he=>by
   rw[bg]at he
   cases xs with
   |nil=>simp[eqC]at he
   |cons x xs0 =>
   cases ys with
   |nil=>simp[eqC]at he
   |cons y ys0 =>
   simp only[eqC]at he
   cases hq:eqF k x y with
   |none=>simp[hq,DE]at he
   |some r1 =>
     cases MN:eqC (List.replicate m k) xs0 ys0 with
     |none=>simp[hq,MN,DE]at he
     |some r2 =>
       simp[hq,MN,DE]at he
       obtain⟨v,hv,hrv⟩:=hx.get (j:=0) (a:=x) rfl
       obtain⟨u,hu,hru⟩:=hy.get (j:=0) (a:=y) rfl
       have hv':vs[n]? = some v:=by simpa using hv
       have hu':us[n]? = some u:=by simpa using hu
       have MZ:=fM hk
       have hpv:(part el vs n).run P w=.ok v w:=by simp[part,bF MZ,hv']
       have hpu:(part el us n).run P w=.ok u w:=by simp[part,bF MZ,hu']
       have tail:∀{cs:List AV} {c:AV} {zs:Array Value},bA w F L (c::cs) (zs.toList.drop n)→bA w F L cs (zs.toList.drop (n+1)):=by
        intro cs c zs hz
        refine⟨by have:=hz.1;simp at this⊢;omega,fun i c' z' hc hz'=>?_⟩
        exact hz.2 (i+1) c' z' (by simpa using hc) (by
         rw[dl]at hz'⊢
         rw[show n+(i+1)=n+1+i by omega];exact hz')
       have ZIS:=L5 (P:=P) (d:=d) hk hrv hru hq
       have ih:=WN (d:=d) hk (tail hx) (tail hy) MN
       rw[List.range'_succ]
       simp only[OK,Sem.run_bind,iw,hpv,hpu,Result.andThen_ok,ZIS,Sem.run_ite,ih,Sem.run_pure]
       subst he
       cases r1<;>simp

theorem ZFC (s:Sim F L (b++l) w) (he:PC w F L e a) {op:BinOp} {t u el:TypeId} {m:Nat} {k:FK} (ht:P.underlying t=some (.array m el)) (hk:KJ P el=some k) (hs:jE P el=some 1)
  (hg:P.eqGuardType P.depth t=false) (hop:op=.eql∨op=.neq) {y z:Operand} {y' z':Opd} (ho:o.op=.binOp op t y z u) (hy:eB y=some y') (hz:eB z=some z')
  (h:aop e b l (.eqs (op==.neq) (List.replicate m k) y' z')=.val x b' l'):LB P o a w F L b l x b' l':=by
 have h1:=jB he hy
 have h2:=jB he hz
 simp only[aop]at h
 generalize ev e y'=q at *
 generalize ev e z'=r at *
 split at h
 case h_2=>cases h
 rename_i xs ys
 split at h
 case h_2=>cases h
 rename_i r hr
 cases h
 obtain⟨vs,e1,l1⟩:=h1.aggL
 obtain⟨us,e2,l2⟩:=h2.aggL
 have TD:=WN (P:=P) (d:=9998) hk (n:=0) (vs:=vs) (us:=us) (by simpa using l1) (by simpa using l2) hr
 have wX:=zJ (P:=P) (w:=w) (d:=9999) (xs:=vs) (ys:=us) ht hs
 rw[TD]at wX
 rcases hop with rfl|rfl
 ·refine LB.pure s (v:=.bool r) ?_ (jV _)
  simp[execOp,ho,e1,e2,run_eqGuard_agg w _ t _ _ _ _ hg,run_eql_struct,wX]
 ·refine LB.pure s (v:=.bool (!r)) ?_ (jV _)
  simp[execOp,ho,e1,e2,run_eqGuard_agg w _ t _ _ _ _ hg,run_neq_struct,wX]

theorem dI {t:TypeId} {kk:KK} (hk:kkT P t=some kk) {x y:AV} {v u:Value} {r:Bool} (hx:RepA w F L x v) (hy:RepA w F L y u) (he:nC kk x y=some r):(Op.equal t v u).run P w=.ok r w:=by
 unfold Op.equal Op.maxDepth
 unfold kkT at hk
 split at hk
 ·rename_i fs ht
  split at hk
  case isFalse=>cases hk
  rename_i tH
  obtain⟨ks,hks,rfl⟩:=TJ hk
  unfold nC at he
  split at he<;>first|(cases he;done)|skip
  ·rename_i h;cases h
  ·rename_i xs ys h
   cases h
   obtain⟨vs,rfl,hl⟩:=hx.aggL
   obtain⟨us,rfl,uT⟩:=hy.aggL
   have hf:P.fieldsOf t=fs:=by simp[Program.fieldsOf,ht]
   have TD:=F5 (P:=P) (d:=9998) hks (vs:=vs) (us:=us) (by simpa using hl) (by simpa using uT) he
   have wX:=run_equalIn_struct w 9999 t vs us (by rw[hf];exact ht) tH
   rw[hf,TD]at wX
   exact wX
 ·rename_i m el ht
  split at hk
  case h_2=>cases hk
  rename_i k VP hs
  cases hk
  unfold nC at he
  split at he<;>first|(cases he;done)|skip
  ·rename_i h;cases h
  ·rename_i xs ys h
   cases h
   obtain⟨vs,rfl,hl⟩:=hx.aggL
   obtain⟨us,rfl,uT⟩:=hy.aggL
   rw[zJ (d:=9999) ht hs]
   exact WN (P:=P) (d:=9998) VP (n:=0) (vs:=vs) (us:=us) (by simpa using hl) (by simpa using uT) he
 ·obtain⟨k,dV,rfl⟩:=TJ hk
  simp only[nC]at he
  exact L5 (d:=9999) dV hx hy he
 ·cases hk

def vK (w:World) (F:Nat→Prop) (L:LMap):List (List AV)→List MapEntry→Prop
 |[],[]=>True
 |row::els,e::es=>(∃x y,row=[x,y]∧RepA w F L x e.key∧RepA w F L y e.val)∧vK w F L els es
 |_,_=>False
theorem tW:∀{els:List (List AV)} {es:List MapEntry},es.length=els.length→(∀(k:Nat) (row:List AV) (e:MapEntry),els[k]? = some row→es[k]? = some e→∃x y,row=[x,y]∧RepA w F L x e.key∧RepA w F L y e.val)→vK w F L els es
 |[],[],_,_=>trivial
 |[],e::es,h,_=>by simp at h
 |r::els,[],h,_=>by simp at h
 |row::els,e::es,h,g=>⟨g 0 row e rfl rfl,tW (by simpa using h) (fun k row e hr he=>g (k+1) row e (by simpa using hr) (by simpa using he))⟩
theorem vK.to:∀{els:List (List AV)} {es:List MapEntry},vK w F L els es→es.length=els.length∧∀(k:Nat) (row:List AV) (e:MapEntry),els[k]? = some row→es[k]? = some e→∃x y,row=[x,y]∧RepA w F L x e.key∧RepA w F L y e.val
 |[],[],_=>⟨rfl,by simp⟩
 |[],e::es,h=>h.elim
 |r::els,[],h=>h.elim
 |row::els,e::es,h=>by
   obtain⟨h1,h2⟩:=vK.to h.2
   refine⟨by simp[h1],fun k row' e' hr he=>?_⟩
   cases k with
   |zero=>simp at hr he;subst hr;subst he;exact h.1
   |succ k=>exact h2 k row' e' (by simpa using hr) (by simpa using he)

theorem vQ {t:TypeId} {kk:KK} (hk:kkT P t=some kk) {x:AV} {v:Value} (hx:RepA w F L x v):∀{els:List (List AV)} {es:List MapEntry} {i:Nat} {r:Option AV},vK w F L els es→RP kk x els=some r →
  ∃q,(Instr.findAsking t v es i).run P w=.ok q w∧(∀y,r=some y→∃j u,q=some (j,u)∧RepA w F L y u)∧(r=none→q=none)
 |[],[],i,r,_,h=>by
   simp[RP]at h
   subst h
   exact⟨none,rfl,by simp,fun _=>rfl⟩
 |[],e::es,i,r,h,_=>h.elim
 |row::els,[],i,r,h,_=>h.elim
 |row::els,e::es,i,r,h,hf=>by
   obtain⟨⟨y,u,rfl,h1,h2⟩,h3⟩:=h
   simp only[RP]at hf
   split at hf
   ·rename_i hq
    cases hf
    have:=dI hk hx h1 hq
    exact⟨some (i,e.val),by simp[Instr.findAsking,this],fun y hy=>by cases hy;exact⟨_,_,rfl,h2⟩,by simp⟩
   ·rename_i hq
    have:=dI hk hx h1 hq
    obtain⟨q,g1,g2⟩:=vQ hk hx (i:=i+1) h3 hf
    exact⟨q,by simp[Instr.findAsking,this,g1],g2⟩
   ·cases hf

theorem tK {t:TypeId} {d:TypeDesc} {kk:KK} (hd:P.underlying t=some d) (hk:kkT P t=some kk) {x y:AV} {v u:Value} {r c:Bool} (hx:RepA w F L x v) (hy:RepA w F L y u) (he:nC kk x y=some r) (hs:Instr.sameNow d v u=some c):c=r:=by
 unfold kkT at hk
 rw[hd]at hk
 unfold Instr.sameNow at hs
 split at hs
 ·simp only[KJ,hd,dn,kh]at hk
  subst hk
  simp only[nC]at he
  unfold eqF at he
  split at he<;>first|(cases he;done)|skip
  ·have e1:=rI hx;have e2:=rI hy;cases e1;cases e2
   split at hs<;>split at he<;>simp_all
  ·have e1:=dL hx;cases e1
  ·have e1:=rQ hx;cases e1
 ·simp only[KJ,hd,dn,kh]at hk
  subst hk
  simp only[nC]at he
  unfold eqF at he
  split at he<;>first|(cases he;done)|skip
  ·have e1:=rI hx;cases e1
  ·have e1:=dL hx;cases e1
  ·have e1:=rQ hx;have e2:=rQ hy;cases e1;cases e2;simp_all
 ·simp only[KJ,hd,dn,kh]at hk
  subst hk
  simp only[nC]at he
  unfold eqF at he
  split at he<;>first|(cases he;done)|skip
  ·have e1:=rI hx;cases e1
  ·have e1:=dL hx;have e2:=dL hy;cases e1;cases e2;simp_all
  ·have e1:=rQ hx;cases e1
 ·cases hs

theorem yZ {t:TypeId} {d:TypeDesc} {kk:KK} (hd:P.underlying t=some d) (hk:kkT P t=some kk) {x:AV} {v:Value} (hx:RepA w F L x v):∀{els:List (List AV)} {es:List MapEntry} {i:Nat} {r:Option AV} {q:Option (Nat×Value)},vK w F L els es→RP kk x els=some r→Instr.findNow d v es i=some q →
  (∀y,r=some y→∃j u,q=some (j,u)∧RepA w F L y u)∧(r=none→q=none)
 |[],[],i,r,q,_,h,hn=>by
   simp[RP]at h
   subst h
   simp[Instr.findNow]at hn
   subst hn
   exact⟨by simp,fun _=>rfl⟩
 |[],e::es,i,r,q,h,_,_=>h.elim
 |row::els,[],i,r,q,h,_,_=>h.elim
 |row::els,e::es,i,r,q,h,hf,hn=>by
   obtain⟨⟨y,u,rfl,h1,h2⟩,h3⟩:=h
   simp only[RP]at hf
   simp only[Instr.findNow]at hn
   split at hf
   ·rename_i hq
    cases hf
    split at hn
    ·cases hn;exact⟨fun y hy=>by cases hy;exact⟨_,_,rfl,h2⟩,by simp⟩
    ·rename_i hs;have:=tK hd hk hx h1 hq hs;cases this
    ·cases hn
   ·rename_i hq
    split at hn
    ·rename_i hs;have:=tK hd hk hx h1 hq hs;cases this
    ·exact yZ hd hk hx h3 hf hn
    ·cases hn
   ·cases hf

theorem KZ {t:TypeId} {kk:KK} (hk:kkT P t=some kk):∃d,P.underlying t=some d:=by
 unfold kkT at hk
 cases h:P.underlying t with
 |none=>rw[h]at hk;cases hk
 |some d=>exact⟨d,rfl⟩

theorem iP {t:TypeId} {kk:KK} (hk:kkT P t=some kk) {x:AV} {v:Value} (hx:RepA w F L x v) {els:List (List AV)} {es:List MapEntry} {r:Option AV} (h:vK w F L els es) (hf:RP kk x els=some r) :
  ∃q,(Instr.findKey t v es).run P w=.ok q w∧(∀y,r=some y→∃j u,q=some (j,u)∧RepA w F L y u)∧(r=none→q=none):=by
 obtain⟨d,hd⟩:=KZ hk
 obtain⟨q,g1,g2,g3⟩:=vQ hk hx (i:=0) h hf
 cases hn:Instr.findNow d v es 0 with
 |none=>exact⟨q,by simp[Instr.findKey,run_underlying hd,hn,g1],g2,g3⟩
 |some q' =>
   obtain⟨k1,k2⟩:=yZ hd hk hx h hf hn
   exact⟨q',by simp[Instr.findKey,run_underlying hd,hn],k1,k2⟩

theorem ZBc {t:TypeId} {z:AV} (hz:ZA4 P t=some z):∃u,(zeroValue t).run P w=.ok u w∧RepA w F L z u:=by
 unfold ZA4 at hz
 split at hz
 case h_2=>cases hz
 rename_i inf nV
 split at hz
 case h_2=>cases hz
 rename_i zz YW
 exact⟨zz,by simp[zeroValue,typeInfo,nV,YW],O7 hz⟩

theorem ZT (c:Bool) {y:AV} {u:Value} (k:Bool) (h:RepA w F L y u):RepA w F L (comma c y k) (if c then .tuple #[u,.bool k] else u):=by
 unfold comma
 cases c
 ·simpa using h
 ·simp only[if_true]
  exact bA.tup (bA.cons h (bA.cons (jV _) bA.nil))

theorem q9 (s:Sim F L (b++l) w) (he:PC w F L e a) {t kt el:TypeId} {kk:KK} {z:AV} {c:Bool} (ht:P.underlying t=some (.map kt el)) (hk:kkT P kt=some kk) (hz:ZA4 P el=some z)
  {m y:Operand} {m' y':Opd} (ho:o.op=.lookup t m y c) (hm:eB m=some m') (hy:eB y=some y') (h:aop e b l (.lookup kk z c m' y')=.val x b' l'):LB P o a w F L b l x b' l':=by
 have h1:=jB he hm
 have h2:=jB he hy
 simp only[aop,IB]at h
 generalize ev e m'=q at *
 generalize ev e y'=r at *
 generalize hv:a.eval m=vm at h1
 split at h
 case isFalse=>cases h
 rename_i ZO
 have hck:∀em,(Instr.checkKey em 10000 kt (a.eval y)).run P w=.ok () w:=fun em=>RK (em:=em) (n:=9998) hk h2 ZO
 obtain⟨u,hu,hru⟩:=ZBc (w:=w) (F:=F) (L:=L) hz
 split at h
 ·cases h
  obtain rfl:vm=.map none:=by cases h1.vI;rfl
  refine LB.pure s (v:=if c then .tuple #[u,.bool false] else u) ?_ (ZT c false hru)
  have hfk:(Instr.findKey kt (a.eval y) []).run P w=.ok none w:=by
   obtain⟨q,g1,_,g3⟩:=iP hk h2 (els:=[]) (es:=[]) (r:=none) (w:=w) (F:=F) (L:=L) trivial rfl
   rw[g1,g3 rfl]
  simp[execOp,ho,Instr.lookup,run_underlying ht,hv,hck,hfk,hu]
 ·rename_i id ver
  split at h
  case h_2=>cases h
  rename_i v sz els hg
  split at h
  case isFalse=>cases h
  rename_i hve
  subst hve
  cases h1 with
  |mp _ _ blk hL =>
  rw[MD]at hg
  obtain⟨lc,g1,g2⟩:=s.row _ _ _ _ hg
  rw[hL]at g1;cases g1
  obtain⟨es,clk,g3,g4,g5⟩:=g2
  have ZAq:vK w F L els es.toList:=tW (by simpa using g4) (fun k row e hr he=>g5 k row e hr (by simpa using he))
  have hgo:=uW (P:=P) g3
  have hck':=hck es.isEmpty
  split at h
  ·rename_i y1 hf
   cases h
   obtain⟨q,k1,k2,_⟩:=iP hk h2 ZAq hf
   obtain⟨j,u1,rfl,hu1⟩:=k2 _ rfl
   refine LB.pure s (v:=if c then .tuple #[u1,.bool true] else u1) ?_ (ZT c true hu1)
   simp[execOp,ho,Instr.lookup,run_underlying ht,hv,hgo,hck',k1]
  ·rename_i hf
   cases h
   obtain⟨q,k1,_,k3⟩:=iP hk h2 ZAq hf
   obtain rfl:=k3 rfl
   refine LB.pure s (v:=if c then .tuple #[u,.bool false] else u) ?_ (ZT c false hru)
   simp[execOp,ho,Instr.lookup,run_underlying ht,hv,hgo,hck',k1,hu]
  ·cases h
 ·cases h

theorem uZ {k:FK} {x y:AV} {v u:Value} (hx:RepA w F L x v) (hy:RepA w F L y u) (h:eqF k x y=some true):v=u∧∀n,Instr.sameBits n v v=true:=by
 unfold eqF at h
 split at h<;>first|(cases h;done)|skip
 ·split at h<;>simp at h
  rename_i hk
  subst hk;subst h
  rw[rI hx,rI hy]
  exact⟨rfl,fun n=>by cases n<;>simp[Instr.sameBits]⟩
 ·simp at h
  subst h
  rw[dL hx,dL hy]
  exact⟨rfl,fun n=>by cases n<;>simp[Instr.sameBits]⟩
 ·have h:=QT (by simpa using h)
  subst h
  rw[rQ hx,rQ hy]
  exact⟨rfl,fun n=>by cases n<;>simp[Instr.sameBits,aK]⟩
theorem iZ:∀{ks:List FK} {xs ys:List AV} {vs us:List Value},bA w F L xs vs→bA w F L ys us→eqC ks xs ys=some true→vs=us∧∀n,(vs.zip vs).all (fun p=>Instr.sameBits n p.1 p.2)=true
 |[],[],[],vs,us,hx,hy,h=>by
   have h1:vs=[]:=cu hx.1.symm
   have h2:us=[]:=cu hy.1.symm
   subst h1;subst h2
   exact⟨rfl,fun n=>rfl⟩
 |k::ks,x::xs,y::ys,vs,us,hx,hy,h=>by
   cases vs with
   |nil=>have:=hx.1;simp at this
   |cons v vs =>
   cases us with
   |nil=>have:=hy.1;simp at this
   |cons u us =>
   simp only[eqC]at h
   cases hq:eqF k x y with
   |none=>simp[hq,DE]at h
   |some r1 =>
     cases MN:eqC ks xs ys with
     |none=>simp[hq,MN,DE]at h
     |some r2 =>
       simp[hq,MN,DE]at h
       obtain⟨rfl,rfl⟩:=h
       have tl:∀{c:AV} {cs:List AV} {z:Value} {zs:List Value},bA w F L (c::cs) (z::zs)→bA w F L cs zs:=fun h=>⟨by simpa using h.1,fun i a v ha hv=>h.2 (i+1) a v (by simpa using ha) (by simpa using hv)⟩
       obtain⟨h1,h2⟩:=uZ (hx.2 0 _ _ rfl rfl) (hy.2 0 _ _ rfl rfl) hq
       obtain⟨h3,h4⟩:=iZ (tl hx) (tl hy) MN
       exact⟨by rw[h1,h3],fun n=>by simp[h2 n];simpa using h4 n⟩
 |[],_::_,_,_,_,_,_,h=>by simp[eqC]at h
 |[],[],_::_,_,_,_,_,h=>by simp[eqC]at h
 |_::_,[],_,_,_,_,_,h=>by simp[eqC]at h
 |_::_,_::_,[],_,_,_,_,h=>by simp[eqC]at h
theorem Q2 {kk:KK} {x y:AV} {v u:Value} (hx:RepA w F L x v) (hy:RepA w F L y u) (h:nC kk x y=some true):v=u∧Instr.sameBits 10000 v v=true:=by
 unfold nC at h
 split at h
 ·obtain⟨h1,h2⟩:=uZ hx hy h
  exact⟨h1,h2 _⟩
 ·obtain⟨vs,rfl,hl⟩:=hx.aggL
  obtain⟨us,rfl,uT⟩:=hy.aggL
  obtain⟨h1,h2⟩:=iZ hl uT h
  have:vs=us:=gj.1 h1
  subst this
  refine⟨rfl,?_⟩
  unfold Instr.sameBits
  simp only[dw,dt]
  exact h2 9999
 ·cases h

theorem vK.snoc {x y:AV} {e1:MapEntry} (h1:RepA w F L x e1.key) (h2:RepA w F L y e1.val):∀{els:List (List AV)} {es:List MapEntry},vK w F L els es→vK w F L (els++[[x,y]]) (es++[e1])
 |[],[],_=>⟨⟨x,y,rfl,h1,h2⟩,trivial⟩
 |[],e::es,h=>h.elim
 |r::els,[],h=>h.elim
 |row::els,e::es,h=>⟨h.1,vK.snoc h1 h2 h.2⟩
theorem vK.setAt {x y:AV} {e1:MapEntry} (h1:RepA w F L x e1.key) (h2:RepA w F L y e1.val):∀{els:List (List AV)} {es:List MapEntry} {j:Nat},vK w F L els es→vK w F L (els.set j [x,y]) (es.set j e1)
 |[],[],_,_=>trivial
 |[],e::es,_,h=>h.elim
 |r::els,[],_,h=>h.elim
 |row::els,e::es,0,h=>⟨⟨x,y,rfl,h1,h2⟩,h.2⟩
 |row::els,e::es,j+1,h=>⟨h.1,vK.setAt h1 h2 h.2⟩

def uS (kk:KK) (x:AV):List (List AV)→Nat→Option (Option Nat)
 |[],_=>some none
 |[y,v]::r,i=>match nC kk x y with
   |some true=>some (some i)
   |some false=>uS kk x r (i+1)
   |none=>none
 |_::_,_=>none
theorem G6 {kk:KK} {x v:AV}:∀{els els':List (List AV)} (i:Nat),J6 kk x v els=some els'→∃r,uS kk x els i=some r∧((r=none∧els'=els++[[x,v]])∨∃j,r=some (i+j)∧els'=els.set j [x,v])
 |[],els',i,h=>by simp[J6]at h;subst h;exact⟨none,rfl,.inl ⟨rfl,rfl⟩⟩
 |[]::_,_,_,h=>by simp[J6]at h
 |[_]::_,_,_,h=>by simp[J6]at h
 |(_::_::_::_)::_,_,_,h=>by simp[J6]at h
 |[y,u]::els,els',i,h=>by
   simp only[J6]at h
   simp only[uS]
   cases hq:nC kk x y with
   |none=>simp only[hq]at h;cases h
   |some c =>
     cases c with
     |true =>
       simp only[hq]at h⊢
       cases h
       exact⟨_,rfl,.inr ⟨0,rfl,rfl⟩⟩
     |false =>
       simp only[hq]at h⊢
       obtain⟨r,h1,rfl⟩:=TJ h
       obtain⟨q,g1,g2⟩:=G6 (i+1) h1
       refine⟨q,g1,?_⟩
       rcases g2 with ⟨rfl,rfl⟩|⟨j,rfl,rfl⟩
       ·exact .inl ⟨rfl,rfl⟩
       ·exact .inr ⟨j+1,by congr 1;omega,rfl⟩

theorem LR {t:TypeId} {kk:KK} (hk:kkT P t=some kk) {x:AV} {v:Value} (hx:RepA w F L x v):∀{els:List (List AV)} {es:List MapEntry} {i:Nat} {r:Option Nat},vK w F L els es→uS kk x els i=some r →
  ∃q,(Instr.findAsking t v es i).run P w=.ok q w∧(∀j,r=some j→∃u,q=some (j,u))∧(r=none→q=none)
 |[],[],i,r,_,h=>by
   simp[uS]at h
   subst h
   exact⟨none,rfl,by simp,fun _=>rfl⟩
 |[],e::es,i,r,h,_=>h.elim
 |row::els,[],i,r,h,_=>h.elim
 |row::els,e::es,i,r,h,hf=>by
   obtain⟨⟨y,u,rfl,h1,h2⟩,h3⟩:=h
   simp only[uS]at hf
   split at hf
   ·rename_i hq
    cases hf
    have:=dI hk hx h1 hq
    exact⟨some (i,e.val),by simp[Instr.findAsking,this],fun y hy=>by cases hy;exact⟨_,rfl⟩,by simp⟩
   ·rename_i hq
    have:=dI hk hx h1 hq
    obtain⟨q,g1,g2⟩:=LR hk hx (i:=i+1) h3 hf
    exact⟨q,by simp[Instr.findAsking,this,g1],g2⟩
   ·cases hf
theorem Y7 {t:TypeId} {d:TypeDesc} {kk:KK} (hd:P.underlying t=some d) (hk:kkT P t=some kk) {x:AV} {v:Value} (hx:RepA w F L x v):∀{els:List (List AV)} {es:List MapEntry} {i:Nat} {r:Option Nat} {q:Option (Nat×Value)},vK w F L els es→uS kk x els i=some r→Instr.findNow d v es i=some q →
  (∀j,r=some j→∃u,q=some (j,u))∧(r=none→q=none)
 |[],[],i,r,q,_,h,hn=>by
   simp[uS]at h
   subst h
   simp[Instr.findNow]at hn
   subst hn
   exact⟨by simp,fun _=>rfl⟩
 |[],e::es,i,r,q,h,_,_=>h.elim
 |row::els,[],i,r,q,h,_,_=>h.elim
 |row::els,e::es,i,r,q,h,hf,hn=>by
   obtain⟨⟨y,u,rfl,h1,h2⟩,h3⟩:=h
   simp only[uS]at hf
   simp only[Instr.findNow]at hn
   split at hf
   ·rename_i hq
    cases hf
    split at hn
    ·cases hn;exact⟨fun y hy=>by cases hy;exact⟨_,rfl⟩,by simp⟩
    ·rename_i hs;have:=tK hd hk hx h1 hq hs;cases this
    ·cases hn
   ·rename_i hq
    split at hn
    ·rename_i hs;have:=tK hd hk hx h1 hq hs;cases this
    ·exact Y7 hd hk hx h3 hf hn
    ·cases hn
   ·cases hf
theorem ZEs {t:TypeId} {kk:KK} (hk:kkT P t=some kk) {x:AV} {v:Value} (hx:RepA w F L x v) {els:List (List AV)} {es:List MapEntry} {r:Option Nat} (h:vK w F L els es) (hf:uS kk x els 0=some r) :
  ∃q,(Instr.findKey t v es).run P w=.ok q w∧(∀j,r=some j→∃u,q=some (j,u))∧(r=none→q=none):=by
 obtain⟨d,hd⟩:=KZ hk
 obtain⟨q,g1,g2,g3⟩:=LR hk hx (i:=0) h hf
 cases hn:Instr.findNow d v es 0 with
 |none=>exact⟨q,by simp[Instr.findKey,run_underlying hd,hn,g1],g2,g3⟩
 |some q' =>
   obtain⟨k1,k2⟩:=Y7 hd hk hx h hf hn
   exact⟨q',by simp[Instr.findKey,run_underlying hd,hn],k1,k2⟩
theorem ZDR {kk:KK} {x:AV}:∀{els:List (List AV)} {es:List MapEntry} {i j:Nat},vK w F L els es→uS kk x els i=some (some j)→∃k e0 x0,j=i+k∧es[k]? = some e0∧RepA w F L x0 e0.key∧nC kk x x0=some true
 |[],[],i,j,_,h=>by simp[uS]at h
 |[],e::es,i,j,h,_=>h.elim
 |row::els,[],i,j,h,_=>h.elim
 |row::els,e::es,i,j,h,hf=>by
   obtain⟨⟨y,u,rfl,h1,h2⟩,h3⟩:=h
   simp only[uS]at hf
   split at hf
   ·rename_i hq
    cases hf
    exact⟨0,e,y,rfl,rfl,h1,hq⟩
   ·obtain⟨k,e0,x0,g1,g2,g3⟩:=ZDR h3 hf
    exact⟨k+1,e0,x0,by omega,by simpa using g2,g3⟩
   ·cases hf

theorem V1 (s:Sim F L (b++l) w) (he:PC w F L e a) {t kt el:TypeId} {kk:KK} (ht:P.underlying t=some (.map kt el)) (hk:kkT P kt=some kk)
  {m y z:Operand} {m' y' z':Opd} (ho:o.op=.mapUpdate t m y z) (hm:eB m=some m') (hy:eB y=some y') (hz:eB z=some z') (h:aop e b l (.mupdate kk m' y' z')=.val x b' l'):LB P o a w F L b l x b' l':=by
 have h1:=jB he hm
 have h2:=jB he hy
 have h3:=jB he hz
 simp only[aop,QB]at h
 generalize ev e m'=q at *
 generalize ev e y'=r at *
 generalize ev e z'=z1 at *
 generalize hv:a.eval m=vm at h1
 split at h
 case isFalse=>cases h
 rename_i ZO
 have hck:(Instr.checkKey false 10000 kt (a.eval y)).run P w=.ok () w:=RK (n:=9998) hk h2 ZO
 split at h
 case h_2=>cases h
 rename_i id ver
 split at h
 case h_2=>cases h
 rename_i v sz els hg
 split at h
 case isFalse=>cases h
 rename_i hve
 subst hve
 split at h
 case h_2=>cases h
 rename_i els' hu
 cases h
 cases h1 with
 |mp _ _ blk hL =>
 rw[MD]at hg
 obtain⟨lc,g1,g2⟩:=s.row _ _ _ _ hg
 rw[hL]at g1;cases g1
 obtain⟨es,clk,g3,g4,g5⟩:=g2
 have ZAq:vK w F L els es.toList:=tW (by simpa using g4) (fun k row e hr he=>g5 k row e hr (by simpa using he))
 have hgo:=uW (P:=P) g3
 have tJ:blk<w.heap.size:=(bp.1 g3).1
 have hid:id<(b++l).length:=(aj.1 hg).1
 obtain⟨r0,p1,p2⟩:=G6 0 hu
 obtain⟨q,k1,k2,k3⟩:=ZEs hk h2 ZAq p1
 obtain⟨es',clk',TD,hent'⟩:∃(es':Array MapEntry) (clk':Nat),(execOp a.eval o).run P w=.ok .skip {w with heap:=w.heap.setIfInBounds blk (.map es' clk')}∧vK w F L els' es'.toList:=by
  rcases p2 with ⟨rfl,rfl⟩|⟨j,rfl,rfl⟩
  ·obtain rfl:=k3 rfl
   refine⟨es.push {key:=a.eval y,val:=a.eval z,born:=clk},clk+1,?_,?_⟩
   ·simp[execOp,ho,Instr.mapUpdate,run_underlying ht,hv,hgo,hck,k1,R6 _ g3]
   ·rw[Array.toList_push]
    exact ZAq.snoc h2 h3
  ·obtain⟨u,rfl⟩:=k2 _ rfl
   obtain⟨k,e0,x0,hjk,he0,hx0,hq0⟩:=ZDR ZAq p1
   have hjk:j=k:=by omega
   subst hjk
   obtain⟨LI,aZ⟩:=Q2 h2 hx0 hq0
   have he0':es[j]? = some e0:=by simpa using he0
   refine⟨es.modify j (fun e=>{e with key:=a.eval y,val:=a.eval z}),clk,?_,?_⟩
   ·have hks:(Instr.keyThatStays e0.key (a.eval y)).run P w=.ok (a.eval y) w:=by
     rw[←LI]
     simp[Instr.keyThatStays,aZ]
    simp[execOp,ho,Instr.mapUpdate,run_underlying ht,hv,hgo,hck,k1,he0',hks,R6 _ g3]
   ·have:(es.modify j (fun e=>{e with key:=a.eval y,val:=a.eval z})).toList=es.toList.set j {e0 with key:=a.eval y,val:=a.eval z}:=by
     have hj:j<es.size:=(bp.1 he0').1
     apply ek
     intro i
     rw[Array.getElem?_toList,Array.getElem?_modify,jp]
     by_cases hi:j=i
     ·subst hi;simp[hj,(bp.1 he0').2]
     ·simp[hi]
    rw[this]
    exact ZAq.setAt h2 h3
 obtain⟨L',r1,r2,r3,r4⟩:=s.putLoc (h':=(b++l).set id (.live v sz els')) (w':={w with heap:=w.heap.setIfInBounds blk (.map es' clk')}) id v sz blk (.mp blk) els' (fun k hk=>hk.symm) rfl rfl rfl kS
  (fun k hk YH=>by simp[jh (Ne.symm YH)]) (.inr ⟨v,sz,els,.mp blk,hg,hL,rfl⟩) (bf hid) (fun j hj=>bq (Ne.symm hj))
  (fun r hr=>by rw[hg]at hr;cases hr;exact⟨ah _,_,_,_,rfl⟩) (.inr hL)
  (fun L' mono=>by
   obtain⟨q1,q2⟩:=hent'.to
   refine⟨es',clk',by simp[tJ],by simpa using q1,fun k row e hr he=>?_⟩
   obtain⟨x1,y1,e1,e2,e3⟩:=q2 k row e hr (by simpa using he)
   exact⟨x1,y1,e1,mono _ _ e2,mono _ _ e3⟩)
 rw[←bE]at r1 r2
 exact⟨undef,_,L',.inr ⟨TD,rfl⟩,RepA.undef _ _ _,r1,r2,aF _ _ _⟩

theorem ZCB (s:Sim F L (b++l) w) {t:TypeId} {r:Option Operand} (ht:P5 (P.underlying t)=true) (hr:M5 r=true) (ho:o.op=.makeMap t r) (h:aop e b l .mkmap=.val x b' l'):LB P o a w F L b l x b' l':=by
 simp only[aop,mk]at h
 cases h
 have jD:(b++l).length=b.length+l.length:=by simp
 obtain⟨kt,el,hu⟩:∃kt el,P.underlying t=some (.map kt el):=by
  unfold P5 at ht
  split at ht
  ·rename_i h;exact⟨_,_,h⟩
  ·cases ht
 have TD:(execOp a.eval o).run P w=.ok (.value (.map (some w.heap.size))) (w.alloc (.map #[] 0)):=by
  unfold M5 at hr
  split at hr
  ·simp[execOp,ho,Instr.makeMap]
  ·simp[execOp,ho,Instr.makeMap,run_underlying hu,Act.eval,asInt,asIntOf]
  ·cases hr
 obtain⟨L',r1,r2,r3,r4⟩:=s.putLoc (h':=b++(l++[.live 0 0 []])) (w':=w.alloc (.map #[] 0)) (b.length+l.length) 0 0 w.heap.size (.mp w.heap.size) [] (fun k hk=>hk.symm) rfl rfl rfl (by show _≤(w.heap.push _).size;simp)
  (fun k hk _=>by show (w.heap.push _)[k]? = _;rw[lj,if_neg oM]) (.inl (ah _))
  (by rw[←ay,au oM];simp)
  (fun j hj=>by
   rw[←ay]
   by_cases fG:j<(b++l).length
   ·rw[aw fG]
   ·rw[ce kT,ce oM])
  (fun r hr=>by rw[ce oM]at hr;cases hr)
  (.inl (by
   cases hq:L (b.length+l.length) 0 with
   |none=>rfl
   |some q=>exact absurd (s.lt hq) oM))
  (fun L' mono=>⟨#[],0,by show (w.heap.push _)[w.heap.size]? = _;simp,rfl,by simp⟩)
 exact⟨_,_,L',.inl TD,.mp _ _ _ r3,r1,r2,rfl⟩

theorem ZEz (s:Sim F L (b++l) w) (he:PC w F L e a) {c:Call} {t kt el:TypeId} (ht:P.underlying t=some (.map kt el)) {y:Operand} {y':Opd} (hc:c.callee=.builtin .len) (ha:c.args.toList=[y]) (XW:c.argTypes.toList=[t]) (ho:o.op=.call c) (hy:eB y=some y')
  (h:aop e b l (.lenM y')=.val x b' l'):LB P o a w F L b l x b' l':=by
 have hr:=jB he hy
 simp only[aop]at h
 generalize ev e y'=q at *
 generalize hv:a.eval y=v at hr
 unfold SD at h
 split at h
 ·cases h
  obtain rfl:v=.map none:=by cases hr.vI;rfl
  refine LB.pure s (v:=goInt 0) ?_ (toN _ _)
  rw[dE ho hc ha XW]
  simp[invoke,builtin,hv,Builtin.len_,run_underlying ht]
 ·rename_i id ver
  split at h
  case h_2=>cases h
  rename_i v sz els hg
  split at h
  case isFalse=>cases h
  rename_i hve
  subst hve
  cases h
  cases hr with
  |mp _ _ blk hL =>
  rw[MD]at hg
  obtain⟨lc,g1,g2⟩:=s.row _ _ _ _ hg
  rw[hL]at g1;cases g1
  obtain⟨es,clk,g3,g4,g5⟩:=g2
  have hgo:=uW (P:=P) g3
  refine LB.pure s (v:=goInt es.size) ?_ (by rw[g4];exact toN _ _)
  rw[dE ho hc ha XW]
  simp[invoke,builtin,hv,Builtin.len_,run_underlying ht,hgo]
 ·cases h
end
theorem cfA {α:Type}:(Array.mk ([]:List α))=#[]:=rfl
theorem cfN (n:Nat):Int.negSucc n=-((n+1:Nat):Int):=rfl
structure CF (P:Program) (n:Nat) where
  c:AFunc
  h:CA P n=some c:=by
    conv=>lhs;(reduce;(try simp only[Int.ofNat_eq_natCast,Int.cast_ofNat_Int,Int.natCast_zero,Int.natCast_one,cfN,cfA,Nat.reduceAdd]))
end Go.Proofs.YtadnnjchehjbiaaGreatDoor
