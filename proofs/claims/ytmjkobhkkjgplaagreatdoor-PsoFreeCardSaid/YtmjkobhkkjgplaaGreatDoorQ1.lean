/- Part 1 of the texts. -/
import Derived.WalkKit
import Derived.WalkSpells
import Derived.WalkLawsBesides
import Derived.BigQuiet
import Derived.Deep.RegionWith
import Derived.Deep.DeepCutAuto
import Derived.Great.BuildSlice
import Derived.Test.YtmjkobhkkjgplaaGreatDoorRows
import Derived.Deep.QuietTactic
import Derived.Laws.Bits64
import Derived.Laws.IdiomCopy
namespace Go.Proofs.YtmjkobhkkjgplaaGreatDoor
open Go.RowKit
set_option linter.unusedSimpArgs false
set_option linter.unusedVariables false
theorem za{p:Prop}(h:p:=by omega):p:=h
theorem zc{p:Prop}(h:p:=by assumption):p:=h
theorem zb{p:Prop}(h:p:=by kernel_rfl):p:=h
theorem zf{p:Prop}(h:p:=by decide):p:=h
theorem V.{u}{α:Sort u}{a:α}:a=a:=Eq.refl a
theorem zy:type_of% @List.mem_of_getElem?:=@List.mem_of_getElem?
theorem qd:type_of% @List.not_mem_nil:=@List.not_mem_nil
theorem z6:type_of% @List.mem_cons:=@List.mem_cons
theorem qI:type_of% @Bool.and_eq_true:=@Bool.and_eq_true
theorem qA:type_of% @Option.some.inj:=@Option.some.inj
theorem y5:type_of% @Nat.le_of_ble_eq_true:=@Nat.le_of_ble_eq_true
theorem yX:type_of% @List.length_append:=@List.length_append
theorem jM:type_of% @Option.isNone_iff_eq_none:=@Option.isNone_iff_eq_none
theorem yQ:type_of% @Result.andThen_ok:=@Result.andThen_ok
theorem xx:type_of% @List.mem_cons_self:=@List.mem_cons_self
theorem x7:type_of% @Array.getD_eq_getD_getElem?:=@Array.getD_eq_getD_getElem?
theorem yi:type_of% @List.map_append:=@List.map_append
theorem xe:type_of% @List.mem_cons_of_mem:=@List.mem_cons_of_mem
theorem qO:type_of% @Prod.mk.injEq:=@Prod.mk.injEq
theorem yw:type_of% @List.length_map:=@List.length_map
theorem qC:type_of% @Nat.le_refl:=@Nat.le_refl
theorem qS:type_of% @Sem.run_bind:=@Sem.run_bind
theorem zU:type_of% @Eq.trans:=@Eq.trans
theorem yY:type_of% @List.length_cons:=@List.length_cons
theorem q5:type_of% @Sem.run_pure:=@Sem.run_pure
theorem xi:type_of% @List.append_assoc:=@List.append_assoc
theorem wG:type_of% @Array.getElem?_setIfInBounds:=@Array.getElem?_setIfInBounds
theorem yq:type_of% @Nat.lt_or_ge:=@Nat.lt_or_ge
theorem xY:type_of% @List.length_nil:=@List.length_nil
theorem xA:type_of% @List.map_cons:=@List.map_cons
theorem yV:type_of% @Nat.blt_eq:=@Nat.blt_eq
theorem kG:type_of% @List.getElem?_of_mem:=@List.getElem?_of_mem
theorem vU:type_of% @List.length_take:=@List.length_take
theorem wE:type_of% @Bool.not_eq_true':=@Bool.not_eq_true'
theorem v7:type_of% @List.length_drop:=@List.length_drop
theorem xa:type_of% @Below.refl:=@Below.refl
theorem QS:type_of% @List.getElem?_eq_getElem:=@List.getElem?_eq_getElem
theorem kF:type_of% @List.flatMap_cons:=@List.flatMap_cons
theorem QR:type_of% @List.take_of_length_le:=@List.take_of_length_le
theorem Xa:type_of% @Array.getElem?_eq_getElem:=@Array.getElem?_eq_getElem
theorem JW:type_of% @List.eq_nil_of_length_eq_zero:=@List.eq_nil_of_length_eq_zero
theorem k6:type_of% @List.append_nil:=@List.append_nil
theorem vZ:type_of% @Nat.le_trans:=@Nat.le_trans
theorem JV:type_of% @List.drop_eq_getElem_cons:=@List.drop_eq_getElem_cons
theorem wD:type_of% @Addr.add_lit:=@Addr.add_lit
theorem Qx:type_of% @Option.some.injEq:=@Option.some.injEq
theorem wY:type_of% @List.map_nil:=@List.map_nil
theorem JU:type_of% @Bool.eq_false_or_eq_true:=@Bool.eq_false_or_eq_true
theorem JT:type_of% @List.getElem?_cons_succ:=@List.getElem?_cons_succ
theorem XS:type_of% @Nat.eq_of_beq_eq_true:=@Nat.eq_of_beq_eq_true
theorem ZJ:type_of% @Option.map_some:=@Option.map_some
theorem wX:type_of% @Nat.zero_le:=@Nat.zero_le
theorem QQ:type_of% @List.cons_append:=@List.cons_append
theorem XR:type_of% @List.flatMap_append:=@List.flatMap_append
theorem XQ:type_of% @Bool.false_ne_true:=@Bool.false_ne_true
theorem YG:type_of% @List.range_succ:=@List.range_succ
theorem Y9:type_of% @List.take_length:=@List.take_length
theorem WX:type_of% @List.pairwise_singleton:=@List.pairwise_singleton
theorem JS:type_of% @Bool.not_eq_false':=@Bool.not_eq_false'
theorem Zw:type_of% @Below.alloc:=@Below.alloc
theorem WW:type_of% @List.mem_append_right:=@List.mem_append_right
theorem WV:type_of% @Nat.mul_le_mul_right:=@Nat.mul_le_mul_right
theorem VI:type_of% @List.getElem?_take:=@List.getElem?_take
theorem gJ:type_of% @Calls.mono:=@Calls.mono
theorem XP:type_of% @List.length_set:=@List.length_set
theorem JR:type_of% @List.flatMap_nil:=@List.flatMap_nil
theorem Zv:type_of% @Below.drew:=@Below.drew
theorem Y8:type_of% @List.cons.inj:=@List.cons.inj
theorem JQ:type_of% @Nat.min_eq_left:=@Nat.min_eq_left
theorem JP:type_of% @List.nil_append:=@List.nil_append
theorem JO:type_of% @List.cons.injEq:=@List.cons.injEq
theorem GU:type_of% @List.mem_append_left:=@List.mem_append_left
theorem Hw:type_of% @Nat.div_lt_iff_lt_mul:=@Nat.div_lt_iff_lt_mul
theorem WU:type_of% @List.getElem_mem:=@List.getElem_mem
theorem GS:type_of% @List.getElem?_drop:=@List.getElem?_drop
theorem Bq:type_of% @Array.getElem?_replicate:=@Array.getElem?_replicate
theorem Bp:type_of% @Array.getElem?_eq_none:=@Array.getElem?_eq_none
theorem Hu:type_of% @Nat.eq_zero_or_pos:=@Nat.eq_zero_or_pos
theorem Bo:type_of% @Array.getElem?_toList:=@Array.getElem?_toList
theorem GR:type_of% @Option.map_none:=@Option.map_none
theorem GQ:type_of% @List.mem_append:=@List.mem_append
theorem Ht:type_of% @List.getElem?_map:=@List.getElem?_map
theorem Hr:type_of% @List.ext_getElem?:=@List.ext_getElem?
theorem bL:type_of% @List.mem_of_mem_eraseIdx:=@List.mem_of_mem_eraseIdx
theorem Hq:type_of% @Option.getD_some:=@Option.getD_some
theorem bK:type_of% @List.getElem?_cons_zero:=@List.getElem?_cons_zero
theorem Hp:type_of% @Below.heap_alloc:=@Below.heap_alloc
theorem WS:type_of% @Nat.zero_add:=@Nat.zero_add
theorem Bn:type_of% @List.mem_singleton:=@List.mem_singleton
theorem bJ:type_of% @List.length_replicate:=@List.length_replicate
theorem bI:type_of% @List.length_filter_le:=@List.length_filter_le
theorem bH:type_of% @Array.getElem?_modify:=@Array.getElem?_modify
theorem Bm:type_of% @IntWalk.wrap64_in:=@IntWalk.wrap64_in
theorem VH:type_of% @Nat.mod_lt:=@Nat.mod_lt
theorem Bl:type_of% @List.map_toArray:=@List.map_toArray
theorem lS:type_of% @List.pairwise_iff_getElem:=@List.pairwise_iff_getElem
theorem bG:type_of% @List.map_congr_left:=@List.map_congr_left
theorem Bk:type_of% @Nat.div_add_mod:=@Nat.div_add_mod
theorem bF:type_of% @List.filter_append:=@List.filter_append
theorem GP:type_of% @Nat.add_mul:=@Nat.add_mul
theorem lR:type_of% @List.filter_cons_of_neg:=@List.filter_cons_of_neg
theorem Ho:type_of% @Nat.mul_comm:=@Nat.mul_comm
theorem bE:type_of% @List.size_toArray:=@List.size_toArray
theorem bD:type_of% @List.foldl_append:=@List.foldl_append
theorem lQ:type_of% @List.drop_eq_nil_of_le:=@List.drop_eq_nil_of_le
theorem UL:type_of% @Int.toNat_natCast:=@Int.toNat_natCast
theorem Bt:type_of% @List.take_append_drop:=@List.take_append_drop
theorem Br:type_of% @List.getElem?_eq_none:=@List.getElem?_eq_none
theorem Jy:type_of% @Nat.ble_eq:=@Nat.ble_eq
theorem UK:type_of% @List.all_eq_true:=@List.all_eq_true
theorem UJ:type_of% @IntKind.wrap_u64:=@IntKind.wrap_u64
theorem UI:type_of% @Bool.or_eq_true:=@Bool.or_eq_true
theorem Kz:type_of% @Nat.add_zero:=@Nat.add_zero
theorem Wm {p:Prop}(h:p):Hid p:=h
@[simp high] theorem Nu (w:World):w.drew.heap.size=w.heap.size:=by cases w;rfl
def nth {α:Type}[Inhabited α](l:List α)(i:Nat):α:=l.getD i default
theorem qq {α:Type}[Inhabited α](l:List α)(i:Nat)(h:i<l.length):nth l i=l[i]:=by simp [nth,h]
theorem Gv {α:Type}[Inhabited α](l:List α)(i:Nat)(h:i<l.length):l[i]? =some (nth l i):=by simp [nth,h]
theorem qb {α:Type}[Inhabited α](l:List α)(i:Nat)(h:i<l.length):nth l i∈l:=by rw [qq l i h];exact WU h
class zz (α:Type) extends Inhabited α where
 sz:Nat
 cell:α->Nat->Value
 whole:α->Value
 agg:Bool
 inner:α->World->Prop
 on:α->Nat->Prop
 one:agg=false->sz=1/\∀x,whole x=cell x 0
 many:agg=true->∀x,whole x= .agg ((List.range sz).map (cell x)).toArray
 yB:∀x (w w' :World),inner x w->(∀b,on x b->w'.heap[b]? =w.heap[b]?)->inner x w'
 lt:∀x (w:World),inner x w->∀b,on x b->b<w.heap.size
structure Sl (α:Type) where
 A:Option Addr
 cap:Nat
 l:List α
instance {α:Type} :Inhabited (Sl α):=⟨⟨none,0,[]⟩⟩
def Sl.dJ {α:Type}(s:Sl α)(sz i j:Nat):Addr:=⟨(s.A.getD default).block,(s.A.getD default).off+i*sz+j,none⟩
section
variable {α:Type}[zz α]
structure Sl.At (s:Sl α)(w:World):Prop where
 le:s.l.length<=s.cap
 max:s.cap<=maxLen
 len:s.l.length<=140737488355328
 some:0<s.l.length->∃a,s.A=some a/\a.spot=none
 Su:0<s.l.length->(s.A.getD default).block<w.heap.size
 cell:∀i j,i<s.l.length->j<zz.sz α->w.cell? (s.dJ (zz.sz α) i j)= .some (zz.cell (nth s.l i) j)
 inner:∀i,i<s.l.length->zz.inner (nth s.l i) w
def Sl.on (s:Sl α)(b:Nat):Prop:=(0<s.l.length/\(s.A.getD default).block=b)\/∃i,i<s.l.length/\zz.on (nth s.l i) b
theorem Sl.At.yB {s:Sl α}{w w' :World}(h:s.At w)(hb:∀b,s.on b->w'.heap[b]? =w.heap[b]?):s.At w' :=by
 refine ⟨h.le,h.max,h.len,h.some,λh0=>?_,λi j hi hj=>?_,λi hi=>zz.yB _ w w' (h.inner i hi) λb xl=>hb b (.inr ⟨i,hi,xl⟩)⟩
 ·have h1:=hb _ (.inl ⟨h0,V⟩)
  have h2:=h.Su h0
  rcases yq (s.A.getD default).block w'.heap.size with h3|h3
  ·exact h3
  ·rw [Bp h3,Xa h2] at h1
   cases h1
 ·exact (World.cell?_of_block (a:=s.dJ (zz.sz α) i j) (w:=w) (hb _ (.inl ⟨za,V⟩))).trans (h.cell i j hi hj)
theorem Sl.At.lt {s:Sl α}{w:World}(h:s.At w){b:Nat}(hb:s.on b):b<w.heap.size:=by
 rcases hb with ⟨h0,rfl⟩|⟨i,hi,hb⟩
 ·exact h.Su h0
 ·exact zz.lt _ w (h.inner i hi) b hb
theorem Sl.At.below {s:Sl α}{w w' :World}(h:s.At w){B:Nat}(hb:Below B w w')(hB:∀b,s.on b->b<B):s.At w' :=h.yB λb xl=>hb.block b (hB b xl)
theorem Sl.At.qa {s:Sl α}{w w' :World}(h:s.At w)(hb:Below w.heap.size w w'):s.At w' :=h.below hb λ_=>h.lt
theorem Sl.At.nn {s:Sl α}{w:World}(h:s.At w):¬s.on w.heap.size:=λhb=>Nat.lt_irrefl _ (h.lt hb)
theorem Sl.At.no {s:Sl α}{w:World}(h:s.At w)(b:Nat)(hb:w.heap.size<=b):¬s.on b:=λxl=>Nat.lt_irrefl _ (Nat.lt_of_lt_of_le (h.lt xl) hb)
@[go_sem] theorem Sl.At.alloc {s:Sl α} {w:World} (h:s.At w) (o:Obj):s.At (w.alloc o):=h.yB λb hb=>Hp w o b (h.lt hb)
@[go_sem] theorem Sl.At.drew {s:Sl α} {w:World} (h:s.At w):s.At w.drew:=h.yB λ_ _=>rfl
@[go_sem] theorem Sl.At.setCell {s:Sl α} {w:World} (h:s.At w) (p:Addr) (v:Value) (hp:¬s.on p.block):s.At (w.setCell p v):=
 h.yB λb hb=>Below.heap_setCell _ _ _ _ (by rintro rfl;exact hp hb)
variable {P:Program}(w:World)
@[go_sem high] theorem Sl.znc {β:Type} (s:Sl β) (z i j k:Nat):(s.dJ z i j).add k=s.dJ z i (j+k):=by
 simp [Sl.dJ,wD,Nat.add_assoc]
@[go_sem ↓] theorem CA (T:TypeId) (s:Sl α) (k:IntKind) (i:Int) (hT:P.underlying T=some (.slice (P.elem T))) (hz:(sizeOf (P.elem T)).run P w= .ok (zz.sz α) w)
  (h0:0<=i) (h1:i<s.l.length) (h:s.At w):
  (Instr.indexAt T (.slice s.A s.l.length s.cap) (.int k i)).run P w= .ok (.pointer (some (s.dJ (zz.sz α) i.toNat 0))) w:=by
 obtain ⟨a,ha,hs⟩:=h.some za
 rw [ha,run_indexAt_slice (h:=hT),if_pos ⟨h0,h1⟩]
 have e:a.add (i.toNat*zz.sz α)=s.dJ (zz.sz α) i.toNat 0:=by
  rcases a with ⟨b,o,sp⟩
  simp only at hs
  subst hs
  rw [wD]
  simp [Sl.dJ,ha]
 simp [hz,e]
@[go_sem] theorem Sl.zlB (s:Sl α) (z i j:Nat) (hz:z=zz.sz α) (hj:j<zz.sz α) (h1:i<s.l.length) (h:s.At w):w.cell? (s.dJ z i j)=some (zz.cell (nth s.l i) j):=by
 subst hz
 exact h.cell i j h1 hj
end
structure XW (W:World) where
 w:World
 h:Below W.heap.size W w
instance (W:World):Nonempty (XW W):=⟨⟨W,xa _ _⟩⟩
theorem gz {P:Program}{id:Nat}{Q:Exit->Act->World->Prop}{a:Act}{W:World}{l:List Oper}(hm:P.follows .mixedOrders=true)(hB:Region.lexB .any l.toArray=true)
  (h:wpQuiet P l.toArray (λw' =>∃x:XW W,w' =x.w) (λa' =>∀w',(∃x:XW W,w' =x.w)->Q .normal a' w') l a):(Code.region id l.toArray true).wp P Q a W:=
 wp_region_quiet (C:=λw' =>∃x:XW W,w' =x.w) hm hB ⟨⟨_,(xa _ _).drew⟩,V⟩ (by simpa using h)
theorem Calls.M0 {P:Program}{f:FuncId}{args:Array Value}{W:World}{x:XW W}{v:Value}(h:Calls P f args x.w λe w' =>e= .returned v/\Below x.w.heap.size x.w w'):
  Calls P f args x.w λe w'' =>e= .returned v/\∃y:XW W,w'' =y.w:=
 h.mono λ_ _ ⟨he,hb⟩=>⟨he,⟨_,x.h.trans (hb.mono x.h.size)⟩,V⟩
def xB (w:World)(g:Nat)(E:TypeId)(cs:Array Value):Prop:=w.heap[g]? =some (.cells cs E (0,0))
theorem xB.lt {w:World}{g:Nat}{E:TypeId}{cs:Array Value}(h:xB w g E cs):g<w.heap.size:=by
 rcases yq g w.heap.size with qU|Vs
 ·exact qU
 ·unfold xB at h;rw [Bp Vs] at h;cases h
theorem xB.cell {w:World}{g:Nat}{E:TypeId}{cs:Array Value}(h:xB w g E cs)(i:Nat):w.cell? ⟨g,i,none⟩=cs[i]? :=cell_of_row w g i cs E (0,0) h
theorem xB.frozen {w:World}{g:Nat}{E:TypeId}{cs:Array Value}(h:xB w g E cs)(i:Nat):w.frozen? ⟨g,i,none⟩=false:=by
 unfold xB at h
 simp [World.frozen?,h]
theorem xB.new (w:World)(E:TypeId)(cs:Array Value):xB (w.alloc (.cells cs E)) w.heap.size E cs:=Go.heap_alloc_new w _
theorem xB.alloc {w:World}{g:Nat}{E:TypeId}{cs:Array Value}(h:xB w g E cs)(o:Obj):xB (w.alloc o) g E cs:=(Hp w o g h.lt).trans h
theorem xB.drew {w:World}{g:Nat}{E:TypeId}{cs:Array Value}(h:xB w g E cs):xB w.drew g E cs:=h
theorem xB.zaU {w:World}{g:Nat}{E:TypeId}{cs:Array Value}(h:xB w g E cs)(i:Nat)(u:Value):xB (w.setCell ⟨g,i,none⟩ u) g E (cs.setIfInBounds i u):=by
 unfold xB at h⊢
 simp [World.setCell,bH,h]
theorem xB.below {w w' :World}{B g:Nat}{E:TypeId}{cs:Array Value}(h:xB w g E cs)(hb:Below B w w')(hg:g<B):xB w' g E cs:=(hb.block g hg).trans h
theorem xB.qa {w w' :World}{g:Nat}{E:TypeId}{cs:Array Value}(h:xB w g E cs)(hb:Below w.heap.size w w'):xB w' g E cs:=h.below hb h.lt
theorem xB.Bb {w:World}{g:Nat}{E:TypeId}{a b:Value}(h:xB w g E #[a,b]):w.cell? ⟨g,0,none⟩=some a/\w.cell? ⟨g,1,none⟩=some b:=⟨h.cell 0,h.cell 1⟩
theorem xB.Zu {w:World}{g:Nat}{E:TypeId}{a b c:Value}(h:xB w g E #[a,b,c]):w.cell? ⟨g,0,none⟩=some a/\w.cell? ⟨g,1,none⟩=some b/\w.cell? ⟨g,2,none⟩=some c:=⟨h.cell 0,h.cell 1,h.cell 2⟩
theorem xB.gx {w:World}{g:Nat}{E:TypeId}{a b c d:Value}(h:xB w g E #[a,b,c,d]):w.cell? ⟨g,0,none⟩=some a/\w.cell? ⟨g,1,none⟩=some b/\w.cell? ⟨g,2,none⟩=some c/\w.cell? ⟨g,3,none⟩=some d:=
 ⟨h.cell 0,h.cell 1,h.cell 2,h.cell 3⟩
theorem xB.Y2 {w:World}{g:Nat}{E:TypeId}{cs:Array Value}(h:xB w g E cs):w.frozen? ⟨g,0,none⟩=false/\w.frozen? ⟨g,1,none⟩=false/\w.frozen? ⟨g,2,none⟩=false:=⟨h.frozen 0,h.frozen 1,h.frozen 2⟩
theorem Jr {B:Nat}{a w:World}(h:Below B a w){b o:Nat}{sp:Option Nat}(hp:B<=b)(u:Value):Below B a (w.setCell ⟨b,o,sp⟩ u):=h.setCell (p:=⟨b,o,sp⟩) hp u
theorem wC {B C:Nat}{a w w' :World}(h:Below B a w)(h' :Below C w w')(hC:B<=C):Below B a w' :=h.trans (h'.mono hC)
theorem zlV {W w1:World}(hb:Below W.heap.size W w1):(∀b o,b<W.heap.size->w1.cell? ⟨b,o,none⟩=W.cell? ⟨b,o,none⟩)/\(∀b o,b<W.heap.size->w1.frozen? ⟨b,o,none⟩=W.frozen? ⟨b,o,none⟩):=
 ⟨λb o h=>hb.cell (p:=⟨b,o,none⟩) h,λb o h=>hb.frozen (p:=⟨b,o,none⟩) h⟩
section
variable {α:Type}[zz α]
def cellsOf (x:α):List Value:=(List.range (zz.sz α)).map (zz.cell x)
def qH (l:List α):List Value:=l.flatMap cellsOf
theorem jV (x:α):(cellsOf x).length=zz.sz α:=by simp [cellsOf]
theorem lH :qH ([]:List α)= []:=rfl
theorem vY (l m:List α):qH (l++m)=qH l++qH m:=by simp [qH]
theorem qe (l:List α):(qH l).length=l.length*zz.sz α:=by
 induction l with
 |nil=>simp [qH]
 |cons x l ih=>
  have:qH (x::l)=cellsOf x++qH l:=by simp [qH]
  rw [this,yX,ih,jV,yY,GP,Nat.one_mul,Nat.add_comm]
theorem Q5 (l:List α)(i j:Nat)(hi:i<l.length)(hj:j<zz.sz α):(qH l)[i*zz.sz α+j]? =some (zz.cell (nth l i) j):=by
 induction l generalizing i with
 |nil=>simp at hi
 |cons x l ih=>
  have e:qH (x::l)=cellsOf x++qH l:=by simp [qH]
  rw [e]
  cases i with
  |zero=>
   rw [List.getElem?_append_left (by rw [jV];omega)]
   simp [cellsOf,nth,hj]
  |succ i=>
   rw [List.getElem?_append_right (by rw [jV,GP];omega),jV]
   have:(i+1)*zz.sz α+j-zz.sz α=i*zz.sz α+j:=by rw [GP];omega
   rw [this,ih i (by simpa using hi)]
   simp [nth]
theorem Sl.Yl {w:World}{g:Nat}{cs:Array Value}{E:TypeId}{fr:Nat×Nat}{l:List α}{cap:Nat}(hg:w.heap[g]? =some (.cells cs E fr))(hc:cs.toList.take (l.length*zz.sz α)=qH l)
  (hl:l.length<=cap) (hm:cap<=maxLen) (hlen:l.length<=140737488355328) (BD:∀i,i<l.length->zz.inner (nth l i) w):(⟨some ⟨g,0,none⟩,cap,l⟩:Sl α).At w:=by
 refine ⟨hl,hm,hlen,λ_=>⟨_,V,V⟩,λ_=>(Array.getElem?_eq_some_iff.1 hg).1,λi j hi hj=>?_,BD⟩
 have h1:=Q5 l i j hi hj
 rw [<-hc,VI] at h1
 split at h1
 ·show w.cell? ⟨g,0+i*zz.sz α+j,none⟩=_
  rw [cell_of_row w g _ cs E fr hg,WS]
  simpa using h1
 ·cases h1
theorem Sl.zbo {w:World}{base:Nat}{E:TypeId}{v:Value}{l:List α}(h:w.ownsRow base E (zz.sz α) v l.length (qH l))(hlen:l.length<=140737488355328)
  (BD:∀i,i<l.length->zz.inner (nth l i) w):∃s:Sl α,s.l=l/\v= .slice s.A s.l.length s.cap/\s.At w/\∀b,s.on b->(base<=b/\v.ownBlock=some b)\/∃i,i<l.length/\zz.on (nth l i) b:=by
 rcases h.2 with ⟨rfl,h0⟩|⟨g,cap,cur,rfl,hb,hg,hn,hm,_,ht⟩
 ·refine ⟨⟨none,0,l⟩,V,by rw [h0],⟨by simp [h0],by simp,hlen,λhh=>absurd hh (by simp [h0]),λhh=>absurd hh (by simp [h0]),λi j hi=>absurd hi (by simp [h0]),λi hi=>absurd hi (by simp [h0])⟩,?_⟩
  rintro b (⟨hh,_⟩|⟨i,hi,_⟩)
  ·simp [h0] at hh
  ·simp [h0] at hi
 ·refine ⟨⟨some ⟨g,0,none⟩,cap,l⟩,V,V,Sl.Yl hg ht hn hm hlen BD,?_⟩
  rintro b (⟨_,rfl⟩|hi)
  ·exact .inl ⟨hb,V⟩
  ·exact .inr hi
end
instance : zz Int where
 sz:=1
 cell x _:= .int .i64 x
 whole x:= .int .i64 x
 agg:=false
 inner _ _:=True
 on _ _:=False
 one _:=⟨V,λ_=>rfl⟩
 many h:=by cases h
 yB _ _ _ h _:=h
 lt _ _ _ _ h:=h.elim
instance : zz Bool where
 sz:=1
 cell x _:= .bool x
 whole x:= .bool x
 agg:=false
 inner _ _:=True
 on _ _:=False
 one _:=⟨V,λ_=>rfl⟩
 many h:=by cases h
 yB _ _ _ h _:=h
 lt _ _ _ _ h:=h.elim
instance {α:Type}[zz α]:zz (Sl α) where
 sz:=1
 cell s _:= .slice s.A s.l.length s.cap
 whole s:= .slice s.A s.l.length s.cap
 agg:=false
 inner s w:=s.At w
 on s b:=s.on b
 one _:=⟨V,λ_=>rfl⟩
 many h:=by cases h
 yB _ _ _ h hb:=h.yB hb
 lt _ _ h _ hb:=h.lt hb
structure Ins where
 op:Int
 a:Int
 b:Int
 c:Int
 deriving DecidableEq
instance : Inhabited Ins:=⟨⟨0,0,0,0⟩⟩
def Ins.cell (x:Ins):Nat->Value
 |0=> .int .i64 x.op
 |1=> .int .i64 x.a
 |2=> .int .i64 x.b
 |_=> .int .i64 x.c
def Ins.val (x:Ins):Value:= .agg #[.int .i64 x.op,.int .i64 x.a,.int .i64 x.b,.int .i64 x.c]
instance : zz Ins where
 sz:=4
 cell:=Ins.cell
 whole:=Ins.val
 agg:=true
 inner _ _:=True
 on _ _:=False
 one h:=by cases h
 many _ _:=rfl
 yB _ _ _ h _:=h
 lt _ _ _ _ h:=h.elim
@[go_sem] theorem zn1:zz.sz Int=1:=rfl
@[go_sem] theorem zmq:zz.sz Bool=1:=rfl
@[go_sem] theorem ztu {α:Type} [zz α]:zz.sz (Sl α)=1:=rfl
@[go_sem] theorem zn2:zz.sz Ins=4:=rfl
@[go_sem] theorem znb:zz.agg Ins=true:=rfl
@[go_sem] theorem zlA (x:Int) (j:Nat):zz.cell x j= .int .i64 x:=rfl
@[go_sem] theorem zfw (x:Bool) (j:Nat):zz.cell x j= .bool x:=rfl
@[go_sem] theorem zm8 {α:Type} [zz α] (x:Sl α) (j:Nat):zz.cell x j= .slice x.A x.l.length x.cap:=rfl
@[go_sem] theorem zfv (x:Ins):zz.cell x 0= .int .i64 x.op:=rfl
@[go_sem] theorem zfu (x:Ins):zz.cell x 1= .int .i64 x.a:=rfl
@[go_sem] theorem zft (x:Ins):zz.cell x 2= .int .i64 x.b:=rfl
@[go_sem] theorem zfs (x:Ins):zz.cell x 3= .int .i64 x.c:=rfl
@[go_sem] theorem zeU (x:Ins):zz.whole x= .agg #[.int .i64 x.op,.int .i64 x.a,.int .i64 x.b,.int .i64 x.c]:=rfl
@[go_sem] theorem Sl.At.zvY {α:Type} [zz α] {s:Sl (Sl α)} {w:World} (h:s.At w) (i:Nat) (hi:i<s.l.length):(nth s.l i).At w:=h.inner i hi
structure PR where
 code:Sl (Sl Ins)
 words:Sl Int
 zm:Int
 ze:Int
def PR.val (p:PR):Value:= .agg #[.slice p.code.A p.code.l.length p.code.cap,.slice p.words.A p.words.l.length p.words.cap,.int .i64 p.zm,.int .i64 p.ze]
structure PR.At (p:PR)(w:World):Prop where
 code:p.code.At w
 words:p.words.At w
structure zZ where
 fp:Nat->Prop
 rd:Nat->Prop
 ok:World->Prop
 yB:∀w w',ok w->(∀b,fp b\/rd b->w'.heap[b]? =w.heap[b]?)->ok w'
 lt:∀w,ok w->∀b,fp b\/rd b->b<w.heap.size
structure j2 (X:Nat->Prop)(w w' :World):Prop where
 os:w'.os=w.os
 tape:w'.tape=w.tape
 output:w'.output=w.output
 size:w.heap.size<=w'.heap.size
 same:∀b,b<w.heap.size->¬X b->w'.heap[b]? =w.heap[b]?
theorem j2.refl (X:Nat->Prop)(w:World):j2 X w w:=⟨V,V,V,qC _,λ_ _ _=>rfl⟩
theorem j2.drew (X:Nat->Prop)(w:World):j2 X w w.drew:=⟨V,V,V,qC _,λ_ _ _=>rfl⟩
theorem j2.alloc (X:Nat->Prop)(w:World)(o:Obj):j2 X w (w.alloc o):=⟨V,V,V,by simp,λb hb _=>Hp w o b hb⟩
theorem j2.setCell {X:Nat->Prop}(w:World)(p:Addr)(hp:X p.block)(v:Value):j2 X w (w.setCell p v):=
 ⟨V,V,V,by simp,λb hb hx=>Below.heap_setCell w p v b (λe=>hx (e▸hp))⟩
theorem j2.below {w w' :World}(h:Below w.heap.size w w'):j2 (λ_=>False) w w' :=⟨h.os,h.tape,h.output,h.size,λb hb _=>h.block b hb⟩
theorem j2.KK {w w' :World}(h:j2 (λ_=>False) w w'):Below w.heap.size w w' :=⟨h.os,h.tape,h.output,h.size,λb hb=>h.same b hb (λh=>h)⟩
theorem j2.grown {X:Nat->Prop}{w w' :World}{row:Option Nat}(h:w.grownBy w' row)(hr:∀k,row=some k->X k):j2 X w w' :=
 ⟨h.os,h.tape,h.output,h.size,λb hb hx=>h.block b hb (λe=>hx (hr b e.symm))⟩
theorem j2.mono {X Y:Nat->Prop}{w w' :World}(h:j2 X w w')(EU:∀b,X b->Y b):j2 Y w w' :=⟨h.os,h.tape,h.output,h.size,λb hb hy=>h.same b hb λhx=>hy (EU b hx)⟩
theorem j2.trans {K X:Nat->Prop}{W w w' :World}(h:j2 K W w)(h' :j2 X w w')(hx:∀b,X b->K b\/W.heap.size<=b):j2 K W w' :=
 ⟨h'.os.trans h.os,h'.tape.trans h.tape,h'.output.trans h.output,vZ h.size h'.size,λb hb hk=>
  (h'.same b (Nat.lt_of_lt_of_le hb h.size) (λhxb=>(hx b hxb).elim hk (λhle=>za))).trans (h.same b hb hk)⟩
def zZ.QT (A B:zZ):Prop:=∀b,(A.fp b->¬B.fp b/\¬B.rd b)/\(B.fp b->¬A.rd b)
theorem zZ.QT.symm {A B:zZ}(h:A.QT B):B.QT A:=λb=>⟨λhb=>⟨λha=>((h b).1 ha).1 hb,(h b).2 hb⟩,λha=>((h b).1 ha).2⟩
theorem Q8 :∀ {L:List zZ},L.Pairwise zZ.QT->∀ {A B:zZ},A∈L->B∈L->A=B\/A.QT B
 | [],_,_,_,hA,_=>by cases hA
 |C::L,h,A,B,hA,hB=>by
  obtain ⟨h1,h2⟩:=List.pairwise_cons.1 h
  rcases List.mem_cons.1 hA with rfl|hA'
  ·rcases List.mem_cons.1 hB with rfl|T9
   ·exact .inl V
   ·exact .inr (h1 _ T9)
  ·rcases List.mem_cons.1 hB with rfl|T9
   ·exact .inr (h1 _ hA').symm
   ·exact Q8 h2 hA' T9
theorem ki {α:Type} :∀(l:List α) (i:Nat) (h:i<l.length),l.Perm (l[i]::l.eraseIdx i)
 |a::l,0,_=>List.Perm.refl _
 |a::l,i+1,h=>by
  have ih:=ki l i (by simpa using h)
  simp only [List.getElem_cons_succ,List.eraseIdx_cons_succ]
  exact (ih.cons a).trans (List.Perm.swap _ _ _)
theorem Zf {α:Type}(x:α):∀(l:List α) (i:Nat) (h:i<l.length),(l.set i x).Perm (x::l.eraseIdx i)
 |a::l,0,_=>List.Perm.refl _
 |a::l,i+1,h=>by
  have ih:=Zf x l i (by simpa using h)
  simp only [List.set_cons_succ,List.eraseIdx_cons_succ]
  exact (ih.cons a).trans (List.Perm.swap _ _ _)
structure Sh (K:Nat->Prop)(W w:World)(L:List zZ):Prop where
 J6:j2 K W w
 ok:∀A∈L,A.ok w
 Zj:∀A∈L,∀b,A.fp b->K b\/W.heap.size<=b
 self:∀A∈L,∀b,A.fp b->¬A.rd b
 apart:L.Pairwise zZ.QT
abbrev qM :=Sh (λ_=>False)
section
variable {K:Nat->Prop}{W w w' :World}{L:List zZ}
theorem Sh.lt (h:Sh K W w L){A:zZ}(hA:A∈L){b:Nat}(hb:A.fp b\/A.rd b):b<w.heap.size:=A.lt w (h.ok A hA) b hb
theorem Sh.step {Lp Lr L' :List zZ}(h:Sh K W w (Lp++Lr))(hc:j2 (λb=>∃A∈Lp,A.fp b) w w')
  (zR:∀A∈L',A.ok w')
  (J0:∀A∈L',∀b,A.fp b->(∃B∈Lp,B.fp b)\/w.heap.size<=b)
  (Ye:∀A∈L',∀b,A.rd b->(∃B∈Lp,B.fp b\/B.rd b)\/(∃B∈Lr,B.rd b)\/w.heap.size<=b)
  (gI:∀A∈L',∀b,A.fp b->¬A.rd b) (de:L'.Pairwise zZ.QT):Sh K W w' (L' ++Lr):=by
 have uK:∀A∈Lp,∀B∈Lr,A.QT B:=λA hA B hB=>(List.pairwise_append.1 h.apart).2.2 A hA B hB
 have Ox:Lr.Pairwise zZ.QT:=(List.pairwise_append.1 h.apart).2.1
 have Fo:∀B∈Lr,∀b,B.fp b\/B.rd b->¬∃A∈Lp,A.fp b:=by
  rintro B hB b hb ⟨A,hA,hAb⟩
  have:=uK A hA B hB b
  exact hb.elim (this.1 hAb).1 (this.1 hAb).2
 refine ⟨h.J6.trans hc ?_,?_,?_,?_,?_⟩
 ·rintro b ⟨A,hA,hb⟩
  exact h.Zj A (List.mem_append.2 (.inl hA)) b hb
 ·intro A hA
  rcases List.mem_append.1 hA with hA|hA
  ·exact zR A hA
  ·exact A.yB w w' (h.ok A (List.mem_append.2 (.inr hA))) λb hb=>hc.same b (h.lt (List.mem_append.2 (.inr hA)) hb) (Fo A hA b hb)
 ·intro A hA b hb
  rcases List.mem_append.1 hA with hA|hA
  ·rcases J0 A hA b hb with ⟨B,hB,hBb⟩|hle
   ·exact h.Zj B (List.mem_append.2 (.inl hB)) b hBb
   ·exact .inr (vZ h.J6.size hle)
  ·exact h.Zj A (List.mem_append.2 (.inr hA)) b hb
 ·intro A hA
  rcases List.mem_append.1 hA with hA|hA
  ·exact gI A hA
  ·exact h.self A (List.mem_append.2 (.inr hA))
 ·refine List.pairwise_append.2 ⟨de,Ox,λA hA B hB b=>⟨λha=>?_,λhb ha=>?_⟩⟩
  ·rcases J0 A hA b ha with ⟨C,hC,lr⟩|hle
   ·exact (uK C hC B hB b).1 lr
   ·exact ⟨λhb=>by have:=h.lt (List.mem_append.2 (.inr hB)) (.inl hb);omega,λhb=>by have:=h.lt (List.mem_append.2 (.inr hB)) (.inr hb);omega⟩
  ·rcases Ye A hA b ha with ⟨C,hC,lr⟩|⟨C,hC,lr⟩|hle
   ·exact lr.elim (λlr=>((uK C hC B hB b).1 lr).1 hb) ((uK C hC B hB b).2 hb)
   ·by_cases l8:C=B
    ·subst l8
     exact h.self C (List.mem_append.2 (.inr hC)) b hb lr
    ·rcases Q8 Ox hC hB with e|de
     ·exact l8 e
     ·exact (de b).2 hb lr
   ·have:=h.lt (List.mem_append.2 (.inr hB)) (.inl hb);omega
theorem Sh.drew (h:Sh K W w L):Sh K W w.drew L:=by
 have:=Sh.step (Lp:= []) (Lr:=L) (L' := []) (w' :=w.drew) h (j2.drew _ w) (by simp) (by simp) (by simp) (by simp) .nil
 simpa using this
def fb (L:List zZ):List Nat->List zZ->Prop
 | [],[]=>True
 |i::is,A::r=>L[i]? =some A/\fb L is r
 |_,_=>False
theorem Yk {L:List zZ} :∀ {is:List Nat} {L' :List zZ},fb L is L' ->∀(k:Nat) (A:zZ),L'[k]? =some A->∃i:Nat,is[k]? =some i/\L[i]? =some A
 | [],[],_,k,A,hk=>by simp at hk
 |i::is,B::r,h,0,A,hk=>⟨i,V,by simpa using hk▸h.1⟩
 |i::is,B::r,h,k+1,A,hk=>by
  obtain ⟨j,h1,h2⟩:=Yk (is:=is) (L' :=r) h.2 k A (by simpa using hk)
  exact ⟨j,by simpa using h1,h2⟩
 | [],_::_,h,_,_,_=>h.elim
 |_::_,[],h,_,_,_=>h.elim
def NW :List Nat->Bool
 | []=>true
 |i::r=> !(r.contains i)&&NW r
def rh (L:List zZ):List Nat->Option (List zZ)
 | []=>some []
 |i::r=>match L[i]?,rh L r with
  |some A,some l=>some (A::l)
  |_,_=>none
def fc (L:List zZ)(is:List Nat):Option (List zZ):=match NW is with
 |true=>rh L is
 |false=>none
theorem cB :∀ {is:List Nat},NW is=true->is.Nodup
 | [],_=>List.nodup_nil
 |i::r,h=>by
  simp only [NW,qI,wE] at h
  refine List.nodup_cons.2 ⟨λhi=>?_,cB h.2⟩
  have:=h.1
  rw [List.contains_iff_mem.2 hi] at this
  cases this
theorem RM {L:List zZ} :∀ {is:List Nat} {L' :List zZ},rh L is=some L' ->fb L is L'
 | [],L',h=>by cases h;trivial
 |i::r,L',h=>by
  unfold rh at h
  split at h
  ·rename_i A l h1 h2
   cases h
   exact ⟨h1,RM h2⟩
  ·cases h
theorem Sh.zY {L' :List zZ}(h:Sh K W w L)(is:List Nat)(cQ:fc L is=some L'):Sh K W w L' :=by
 obtain ⟨MO,hs⟩:is.Nodup/\fb L is L' :=by
  unfold fc at cQ
  split at cQ
  ·rename_i hn;exact ⟨cB hn,RM cQ⟩
  ·cases cQ
 have hm:∀A∈L',A∈L:=by
  intro A hA
  obtain ⟨k,hk⟩:=kG hA
  obtain ⟨i,_,hi⟩:=Yk hs k A hk
  exact zy hi
 refine ⟨h.J6,λA hA=>h.ok A (hm A hA),λA hA=>h.Zj A (hm A hA),λA hA=>h.self A (hm A hA),?_⟩
 rw [lS]
 intro p q hp hq hpq
 obtain ⟨i,uN,Dy⟩:=Yk hs p _ (QS hp)
 obtain ⟨j,hj1,Xg⟩:=Yk hs q _ (QS hq)
 have Tk:i≠j:=by
  intro e
  subst e
  obtain ⟨hpi,e1⟩:=List.getElem?_eq_some_iff.1 uN
  obtain ⟨OA,e2⟩:=List.getElem?_eq_some_iff.1 hj1
  exact List.pairwise_iff_getElem.1 MO p q hpi OA hpq (e1.trans e2.symm)
 obtain ⟨li,e1⟩:=List.getElem?_eq_some_iff.1 Dy
 obtain ⟨lj,e2⟩:=List.getElem?_eq_some_iff.1 Xg
 have dS:=List.pairwise_iff_getElem.1 h.apart
 rw [<-e1,<-e2]
 rcases Nat.lt_or_gt_of_ne Tk with qU|hgt
 ·exact dS i j li lj qU
 ·exact (dS j i lj li hgt).symm
theorem Sh.push (h:Sh K W w L){A:zZ}(hc:j2 (λ_=>False) w w')(zR:A.ok w')(J0:∀b,A.fp b->w.heap.size<=b)(Ye:∀b,A.rd b->(∃B∈L,B.rd b)\/w.heap.size<=b)(gI:∀b,A.fp b->¬A.rd b):Sh K W w' (A::L):=
 Sh.step (Lp:= []) (Lr:=L) (L' := [A]) h (hc.mono λ_ h=>h.elim) (by simpa using zR) (by simpa using λb hb=>J0 b hb) (by simpa using λb hb=>Ye b hb) (by simpa using gI) (WX _ _)
theorem Sh.put (h:Sh K W w L){i:Nat}{A A' :zZ}(hi:L[i]? =some A)(hc:j2 A.fp w w')(zR:A'.ok w')(J0:∀b,A'.fp b->A.fp b\/w.heap.size<=b)
  (Ye:∀b,A'.rd b->A.fp b\/A.rd b\/(∃B∈L,B.rd b)\/w.heap.size<=b) (gI:∀b,A'.fp b->¬A'.rd b):Sh K W w' (L.set i A'):=by
 obtain ⟨qU,rfl⟩:=List.getElem?_eq_some_iff.1 hi
 have h1:Sh K W w ([L[i]]++L.eraseIdx i):=by
  refine ⟨h.J6,λA hA=>h.ok A ?_,λA hA=>h.Zj A ?_,λA hA=>h.self A ?_,?_⟩
  ·simp only [List.singleton_append,z6] at hA;exact hA.elim (λe=>e▸WU _) bL
  ·simp only [List.singleton_append,z6] at hA;exact hA.elim (λe=>e▸WU _) bL
  ·simp only [List.singleton_append,z6] at hA;exact hA.elim (λe=>e▸WU _) bL
  ·refine (List.Perm.pairwise_iff (λ{x y} EU=>EU.symm) ?_).1 h.apart
   exact ki L i qU
 have h2:=Sh.step (L' := [A']) h1 (hc.mono λb hb=>⟨_,by simp,hb⟩) (by simpa using zR) (by simpa using J0) (by
  intro A hA b hb
  simp only [Bn] at hA
  subst hA
  rcases Ye b hb with hb|hb|⟨B,hB,hb⟩|hb
  ·exact .inl ⟨_,by simp,.inl hb⟩
  ·exact .inl ⟨_,by simp,.inr hb⟩
  ·by_cases e:B=L[i]
   ·subst e;exact .inl ⟨_,by simp,.inr hb⟩
   ·refine .inr (.inl ⟨B,?_,hb⟩)
    have:=(ki L i qU).mem_iff.1 hB
    simpa [e] using this
  ·exact .inr (.inr hb)) (by simpa using gI) (WX _ _)
 refine ⟨h2.J6,λA hA=>h2.ok A ?_,λA hA=>h2.Zj A ?_,λA hA=>h2.self A ?_,?_⟩
 all_goals try (have hp:=Zf A' L i qU;exact hp.mem_iff.1 hA)
 exact (List.Perm.pairwise_iff (λ{x y} EU=>EU.symm) (Zf A' L i qU).symm).1 h2.apart
end
def bU (v:Value):Nat:=match v with| .slice A _ _=>(A.getD default).block|_=>0
def A4 (v:Value):Nat:=match v with| .slice A _ _=>(A.getD default).off|_=>0
def ja (v:Value)(sz i j:Nat):Addr:=⟨bU v,A4 v+i*sz+j,none⟩
theorem fC (v:Value)(sz i j k:Nat):(ja v sz i j).add k=ja v sz i (j+k):=by
 simp [ja,wD,Nat.add_assoc]
structure Ls (α:Type) where
 v:Value
 l:List α
instance {α:Type} :Inhabited (Ls α):=⟨⟨.slice none 0 0,[]⟩⟩
section
variable {α:Type}[zz α]
def Ls.At (s:Ls α)(w:World):Prop:=∃A cap,s.v= .slice A s.l.length cap/\(⟨A,cap,s.l⟩:Sl α).At w
def Ls.on (s:Ls α)(b:Nat):Prop:=(0<s.l.length/\bU s.v=b)\/∃i,i<s.l.length/\zz.on (nth s.l i) b
theorem Ls.C7 {s:Ls α}{A:Option Addr}{cap:Nat}(h:s.v= .slice A s.l.length cap)(b:Nat):s.on b↔(⟨A,cap,s.l⟩:Sl α).on b:=by
 unfold Ls.on Sl.on
 rw [h]
 rfl
theorem Ls.At.yB {s:Ls α}{w w' :World}(h:s.At w)(hb:∀b,s.on b->w'.heap[b]? =w.heap[b]?):s.At w' :=by
 obtain ⟨A,cap,hv,h⟩:=h
 exact ⟨A,cap,hv,h.yB λb xl=>hb b ((Ls.C7 hv b).2 xl)⟩
theorem Ls.At.lt {s:Ls α}{w:World}(h:s.At w){b:Nat}(hb:s.on b):b<w.heap.size:=by
 obtain ⟨A,cap,hv,h⟩:=h
 exact h.lt ((Ls.C7 hv b).1 hb)
theorem Ls.At.len {s:Ls α}{w:World}(h:s.At w):s.l.length<=140737488355328:=by
 obtain ⟨A,cap,hv,h⟩:=h
 exact h.len
theorem Ls.At.cell {s:Ls α}{w:World}(h:s.At w)(i j:Nat)(hi:i<s.l.length)(hj:j<zz.sz α):w.cell? (ja s.v (zz.sz α) i j)=some (zz.cell (nth s.l i) j):=by
 obtain ⟨A,cap,hv,h⟩:=h
 rw [hv]
 exact h.cell i j hi hj
theorem Ls.At.form {s:Ls α}{w:World}(h:s.At w):∃A n c,s.v= .slice A n c:=by
 obtain ⟨A,cap,hv,h⟩:=h
 exact ⟨_,_,_,hv⟩
theorem Ls.At.inner {s:Ls α}{w:World}(h:s.At w)(i:Nat)(hi:i<s.l.length):zz.inner (nth s.l i) w:=by
 obtain ⟨A,cap,hv,h⟩:=h
 exact h.inner i hi
instance : zz (Ls α) where
 sz:=1
 cell s _:=s.v
 whole s:=s.v
 agg:=false
 inner s w:=s.At w
 on s b:=s.on b
 one _:=⟨V,λ_=>rfl⟩
 many h:=by cases h
 yB _ _ _ h hb:=h.yB hb
 lt _ _ h _ hb:=h.lt hb
end
theorem Ls.At.nth {α:Type}[zz α]{s:Ls (Ls α)}{w:World}(h:s.At w)(i:Nat)(hi:i<s.l.length):(nth s.l i).At w:=h.inner i hi
def zZ.zM (g:Nat)(E:TypeId)(cs:List Value):zZ where
 fp b:=b=g
 rd _:=False
 ok w:=xB w g E cs.toArray
 yB w w' h hb:=(hb g (.inl V)).trans h
 lt w h b hb:=by rcases hb with rfl|hb;exact h.lt;exact hb.elim
def zZ.at_ {α:Type}[zz α](s:Ls α):zZ where
 fp _:=False
 rd:=s.on
 ok w:=s.At w
 yB w w' h hb:=h.yB λb xl=>hb b (.inr xl)
 lt w h b hb:=by rcases hb with hb|hb;exact hb.elim;exact h.lt hb
def zZ.own {α:Type}[zz α](E:TypeId)(s:Ls α):zZ where
 fp b:=s.v.ownBlock=some b
 rd b:=∃i,i<s.l.length/\zz.on (nth s.l i) b
 ok w:=w.ownsRow 0 E (zz.sz α) s.v s.l.length (qH s.l)/\s.l.length<=140737488355328/\∀i,i<s.l.length->zz.inner (nth s.l i) w
 yB w w' h hb:=by
  obtain ⟨h1,h2,h3⟩:=h
  refine ⟨⟨h1.1,?_⟩,h2,λi hi=>zz.yB _ w w' (h3 i hi) λb xl=>hb b (.inr ⟨i,hi,xl⟩)⟩
  rcases h1.2 with hn|⟨g,cap,cur,hv,h0,hg,hr⟩
  ·exact .inl hn
  ·exact .inr ⟨g,cap,cur,hv,h0,(hb g (.inl (by rw [hv];rfl))).trans hg,hr⟩
 lt w h b hb:=by
  obtain ⟨h1,h2,h3⟩:=h
  rcases hb with hb|⟨i,hi,hb⟩
  ·exact (h1.lt b hb).2
  ·exact zz.lt _ w (h3 i hi) b hb
section
variable {K:Nat->Prop}{W w w' :World}{L:List zZ}{α:Type}[zz α]
theorem Sh.at (h:Sh K W w L)(i:Nat){s:Ls α}(hi:L[i]? =some (.at_ s)):s.At w:=h.ok _ (zy hi)
theorem Sh.zM (h:Sh K W w L)(i:Nat){g:Nat}{E:TypeId}{cs:List Value}(hi:L[i]? =some (.zM g E cs)):xB w g E cs.toArray:=h.ok _ (zy hi)
theorem vE {E:TypeId}{s:Ls α}(h:(zZ.own E s).ok w):s.At w:=by
 obtain ⟨h1,h2,h3⟩:=h
 obtain ⟨t,e,hv,hat,_⟩:=Sl.zbo h1 h2 h3
 obtain ⟨A,cap,l⟩:=t
 subst e
 exact ⟨A,cap,hv,hat⟩
theorem Sh.own (h:Sh K W w L)(i:Nat){E:TypeId}{s:Ls α}(hi:L[i]? =some (.own E s)):s.At w:=vE (h.ok _ (zy hi))
theorem qt {E:TypeId}{s:Ls α}(h:(zZ.own E s).ok w){b:Nat}(hb:s.on b):(zZ.own E s).fp b\/(zZ.own E s).rd b:=by
 rcases hb with ⟨h0,rfl⟩|hb
 ·left
  rcases h.1.2 with ⟨hv,hn⟩|⟨g,cap,cur,hv,_⟩
  ·omega
  ·show s.v.ownBlock=_
   rw [hv];rfl
 ·exact .inr hb
theorem Sh.share (h:Sh K W w L)(i:Nat){E:TypeId}{s:Ls α}(hi:L[i]? =some (.own E s)):Sh K W w (L.set i (.at_ s)):=
 h.put hi (j2.refl _ _) (h.own i hi) (λb hb=>hb.elim) (λb hb=>(qt (h.ok _ (zy hi)) hb).elim .inl (λh=> .inr (.inl h))) (λb hb=>hb.elim)
end
def lk :List (Nat×Value)->Nat->Option Value
 | [],_=>none
 |(t,v)::r,u=>bif Nat.beq t u then some v else lk r u
def ev (F:List (Nat×Value)):Operand->Option Value
 | .tmp t=>lk F t
 | .const v=>some v
 | .global g=>some (.pointer (some ⟨g,0,none⟩))
 | .func f=>some (.func (.func f) #[] #[])
def G1 (F:List (Nat×Value)):List Operand->Option (List Value)
 | []=>some []
 |x::r=>match ev F x with
  |some v=>match G1 F r with
   |some vs=>some (v::vs)
   |none=>none
  |none=>none
structure Fr (N:Nat)(a:Act)(F:List (Nat×Value)):Prop where
 size:a.tmps.size=N
 defers:a.defers= []
 at_:∀t v,lk F t=some v->a.tmps[t]? =some v
theorem Fr.ev {N:Nat}{a:Act}{F:List (Nat×Value)}(h:Fr N a F){x:Operand}{v:Value}(hx:ev F x=some v):a.eval x=v:=by
 cases x with
 |tmp t=>
  have:=h.at_ t v hx
  simp [Act.eval,x7,this]
 |const c=>simpa [Go.Proofs.YtmjkobhkkjgplaaGreatDoor.ev,Act.eval] using hx
 |global g=>simpa [Go.Proofs.YtmjkobhkkjgplaaGreatDoor.ev,Act.eval] using hx
 |func f=>simpa [Go.Proofs.YtmjkobhkkjgplaaGreatDoor.ev,Act.eval] using hx
theorem Fr.G1 {N:Nat}{a:Act}{F:List (Nat×Value)}(h:Fr N a F):∀ {xs:List Operand} {vs:List Value},G1 F xs=some vs->xs.map a.eval=vs
 | [],vs,hx=>by simp [Go.Proofs.YtmjkobhkkjgplaaGreatDoor.G1] at hx;simp [hx]
 |x::r,vs,hx=>by
  unfold Go.Proofs.YtmjkobhkkjgplaaGreatDoor.G1 at hx
  split at hx
  ·rename_i v hv
   split at hx
   ·rename_i us hu
    simp only [Qx] at hx
    subst hx
    simp [h.ev hv,h.G1 hu]
   ·cases hx
  ·cases hx
theorem Js {d t:Nat}(h:d≠t):Nat.beq d t=false:=by
 cases hb:Nat.beq d t
 ·rfl
 ·exact absurd (XS hb) h
theorem vv (d:Nat)(v:Value)(F:List (Nat×Value))(t:Nat):lk ((d,v)::F) t=if d=t then some v else lk F t:=by
 show (bif Nat.beq d t then some v else lk F t)=_
 by_cases h:d=t
 ·subst h;simp
 ·simp [h,Js h]
theorem Fr.put {N:Nat}{a:Act}{F:List (Nat×Value)}(h:Fr N a F)(d:Nat)(hd:d<N)(v:Value):Fr N (a.put (some d) v) ((d,v)::F):=by
 refine ⟨by simp [Act.put,h.size],h.defers,λt u Di=>?_⟩
 rw [vv] at Di
 simp only [Act.put,wG]
 by_cases e:d=t
 ·subst e;simp at Di;simp [Di,h.size,hd]
 ·simp [e] at Di⊢;exact h.at_ t u Di
def rm (d:Nat):List (Nat×Value)->List (Nat×Value)
 | []=> []
 |(t,v)::r=>bif Nat.beq d t then rm d r else (t,v)::rm d r
def u3 (F:List (Nat×Value)):List (Nat×Value)->Prop
 | []=>True
 |(t,v)::r=>lk F t=some v/\u3 F r
theorem Fr.sub {N:Nat}{a:Act}{F F' :List (Nat×Value)}(h:Fr N a F)(hs:u3 F F'):Fr N a F' :=by
 refine ⟨h.size,h.defers,λt v SG=>h.at_ t v ?_⟩
 induction F' with
 |nil=>simp [lk] at SG
 |cons x r ih=>
  obtain ⟨u,z⟩:=x
  rw [vv] at SG
  by_cases e:u=t
  ·subst e;simp at SG;subst SG;exact hs.1
  ·simp [e] at SG;exact ih hs.2 SG
theorem Fr.same {N:Nat}{a:Act}{F:List (Nat×Value)}(h:Fr N a F){d:Nat}{v v' :Value}(hd:lk F d=some v)(e:v=v'):Fr N a ((d,v')::F):=by
 subst e
 refine ⟨h.size,h.defers,λt u Di=>?_⟩
 rw [vv] at Di
 by_cases e:d=t
 ·subst e;simp at Di;subst Di;exact h.at_ _ _ hd
 ·rw [if_neg e] at Di;exact h.at_ t u Di
structure St (N:Nat)(K:Nat->Prop)(W:World)(a:Act)(w:World)(F:List (Nat×Value))(L:List zZ):Prop where
 fr:Fr N a F
 sh:Sh K W w L
section
variable {P:Program}{N:Nat}{K:Nat->Prop}{W w:World}{a:Act}{F F' :List (Nat×Value)}{L L' :List zZ}{o:Oper}{ops:Array Oper}{rest:List Oper}{Q:Exit->Act->World->Prop}
theorem St.zY (h:St N K W a w F L)(is:List Nat)(hs:fc L is=some L'):St N K W a w F L' :=⟨h.fr,h.sh.zY is hs⟩
theorem St.wN (h:St N K W a w F L)(hs:u3 F F')(is:List Nat)(hl:fc L is=some L'):St N K W a w F' L' :=⟨h.fr.sub hs,h.sh.zY is hl⟩
theorem St.nf (h:St N K W a w F L)(hs:u3 F F'):St N K W a w F' L:=⟨h.fr.sub hs,h.sh⟩
theorem St.same {d:Nat}{v v' :Value}(h:St N K W a w F L)(hd:lk F d=some v)(e:v=v'):St N K W a w ((d,v')::F) L:=⟨h.fr.same hd e,h.sh⟩
def Ex (P:Program)(o:Oper)(a:Act)(w:World)(R:Act->World->Prop):Prop:=∀(next:Act->World->Prop) (Q:Exit->Act->World->Prop),(∀a' w',R a' w' ->next a' w')->o.wp P a w next Q
def Rn (P:Program)(o:Oper)(N:Nat)(K:Nat->Prop)(W:World)(F:List (Nat×Value))(L:List zZ)(v:Value):Prop:=∀a w,St N K W a w F L->(execOp a.eval o).run P w= .ok (.value v) w
theorem Ex.j8 {R:Act->World->Prop}{v:Value}{w' :World}(hr:(execOp a.eval o).run P w= .ok (.value v) w')(h:R (a.put o.dst v) w'):Ex P o a w R:=by
 intro next Q hn
 unfold Oper.wp
 rw [hr]
 exact hn _ _ h
theorem Ex.VV {R:Act->World->Prop}{w' :World}(hr:(execOp a.eval o).run P w= .ok .skip w')(h:R (a.put o.dst undef) w'):Ex P o a w R:=by
 intro next Q hn
 unfold Oper.wp
 rw [hr]
 exact hn _ _ h
theorem Ex.mono {R R' :Act->World->Prop}(h:Ex P o a w R)(hr:∀a' w',R a' w' ->R' a' w'):Ex P o a w R' :=λnext Q hn=>h next Q λa' w' x=>hn a' w' (hr a' w' x)
theorem zg (hg:o.guard=none)(y:Nat->Option Bool):Region.wanted o y=true:=by simp [Region.wanted,hg]
theorem Rz {a:Act}{t j:Nat}{oj:Oper}{b:Bool}(h:Fr N a F)(hj:ops[j]? =some oj)(hd:oj.dst=some t)(hv:lk F t=some (.bool b)):yielded ops a.tmps j=some b:=by
 unfold yielded
 simp [hj,hd,h.at_ t _ hv]
theorem jx {a:Act}{t j:Nat}{oj:Oper}{b want:Bool}(h:Fr N a F)(hg:o.guard=some (j,want))(hj:ops[j]? =some oj)(hd:oj.dst=some t)(hv:lk F t=some (.bool b))(hb:b=want):Region.wanted o (yielded ops a.tmps)=true:=by
 simp [Region.wanted,hg,Rz h hj hd hv,hb]
theorem aj {a:Act}{t j:Nat}{oj:Oper}{b want:Bool}(h:Fr N a F)(hg:o.guard=some (j,want))(hj:ops[j]? =some oj)(hd:oj.dst=some t)(hv:lk F t=some (.bool b))(hb:b= !want):Region.wanted o (yielded ops a.tmps)=false:=by
 rw [Region.wanted,hg]
 show (yielded ops a.tmps j==some want)=false
 rw [Rz h hj hd hv,hb]
 cases want<;>rfl
theorem mo {a:Act}{t j:Nat}{oj:Oper}{want:Bool}(h:Fr N a F)(hg:o.guard=some (j,want))(hj:ops[j]? =some oj)(hd:oj.dst=some t)(hv:lk F t=some undef):Region.wanted o (yielded ops a.tmps)=false:=by
 rw [Region.wanted,hg]
 show (yielded ops a.tmps j==some want)=false
 unfold yielded
 simp [hj,hd,h.at_ t _ hv,undef]
theorem RE {d:Nat}{v:Value}(h:St N K W a w F L)(hr:Rn P o N K W F L v)(hw:Region.wanted o (yielded ops a.tmps)=true)(hd:o.dst=some d)(wz:Nat.blt d N=true)
  (k:∀a',St N K W a' w ((d,v)::F) L->wpList P ops Q rest a' w):wpList P ops Q (o::rest) a w:=by
 unfold wpList
 rw [if_pos hw]
 left
 unfold Oper.wp
 rw [hr a w h]
 exact k _ ⟨by rw [hd];exact h.fr.put d (by simpa [yV] using wz) v,h.sh⟩
def jG (o:Oper)(d N:Nat):Bool:=o.guard.isNone&&Nat.blt d N
theorem wv {d:Nat}{v:Value}(h:St N K W a w F L)(hr:Rn P o N K W F L v)(hd:o.dst=some d)(hc:jG o d N=true)
  (k:∀a',St N K W a' w ((d,v)::F) L->wpList P ops Q rest a' w):wpList P ops Q (o::rest) a w:=by
 simp only [jG,qI,jM] at hc
 exact RE h hr (zg hc.1 _) hd hc.2 k
def mvN (N:Nat):Nat->List Oper->List (Nat×Value)->Option (List Oper×List (Nat×Value))
 |0,l,F=>some (l,F)
 |_+1,[],_=>none
 |n+1,o::l,F=>match o.guard,o.dst,o.op with
  |none,some d,.move x=>match ev F x with
   |some v=>bif Nat.blt d N then mvN N n l ((d,v)::F) else none
   |none=>none
  |none,some d,.assign x=>match ev F x with
   |some v=>bif Nat.blt d N then mvN N n l ((d,v)::F) else none
   |none=>none
  |_,_,_=>none
theorem zL {R:Act->World->Prop}(hx:Ex P o a w R)(hw:Region.wanted o (yielded ops a.tmps)=true)(k:∀a' w',R a' w' ->wpList P ops Q rest a' w'):wpList P ops Q (o::rest) a w:=by
 unfold wpList
 rw [if_pos hw]
 exact .inl (hx _ _ k)
theorem bQ {d:Nat}(h:St N K W a w F L)(hw:Region.wanted o (yielded ops a.tmps)=false)(hd:o.dst=some d)(wz:Nat.blt d N=true)(k:∀a',St N K W a' w ((d,undef)::F) L->wpList P ops Q rest a' w):wpList P ops Q (o::rest) a w:=by
 unfold wpList
 rw [if_neg (by simp [hw])]
 exact k _ ⟨by rw [hd];exact h.fr.put d (by simpa [yV] using wz) undef,h.sh⟩
theorem mj {d:Nat}{v:Value}{Q:Act->Prop}(h:Fr N a F)(hr:Rn P o N K W F L v)(hw:Region.wanted o (yielded ops a.tmps)=true)(hd:o.dst=some d)(wz:Nat.blt d N=true)
  (k:∀a',Fr N a' ((d,v)::F)->wpQuiet P ops (λw=>Sh K W w L) Q rest a'):wpQuiet P ops (λw=>Sh K W w L) Q (o::rest) a:=by
 unfold wpQuiet
 rw [if_pos hw]
 refine ⟨v,λw hw=>?_,k _ (by rw [hd];exact h.put d (by simpa [yV] using wz) v)⟩
 unfold Oper.quietAt
 rw [hr a w ⟨h,hw⟩]
 exact ⟨V,V⟩
theorem bO {d:Nat}{Q:Act->Prop}(h:Fr N a F)(hw:Region.wanted o (yielded ops a.tmps)=false)(hd:o.dst=some d)(wz:Nat.blt d N=true)
  (k:∀a',Fr N a' ((d,undef)::F)->wpQuiet P ops (λw=>Sh K W w L) Q rest a'):wpQuiet P ops (λw=>Sh K W w L) Q (o::rest) a:=by
 unfold wpQuiet
 rw [if_neg (by simp [hw])]
 exact k _ (by rw [hd];exact h.put d (by simpa [yV] using wz) undef)
theorem wS {id:Nat}{l:List Oper}(hm:P.follows .mixedOrders=true)(hB:Region.lexB .any l.toArray=true)(h:St N K W a w F L)
  (k:∀Z:Act->Prop,(∀a',(∀w',Sh K W w' L->Q .normal a' w')->Z a')->wpQuiet P l.toArray (λw' =>Sh K W w' L) Z l a):(Code.region id l.toArray true).wp P Q a w:=by
 refine wp_region_quiet (C:=λw' =>Sh K W w' L) hm hB h.sh.drew ?_
 simpa using k (λa' =>∀w',Sh K W w' L->Q .normal a' w') (λ_ h=>h)
theorem zG {x:Operand}{v:Value}(ho:o.op= .move x)(hx:ev F x=some v):Rn P o N K W F L v:=λa w h=>by unfold execOp;simp [ho,h.fr.ev hx]
theorem Zd {x:Operand}{v:Value}(ho:o.op= .assign x)(hx:ev F x=some v):Rn P o N K W F L v:=λa w h=>by unfold execOp;simp [ho,h.fr.ev hx]
theorem cb {c x y:Operand}{b:Bool}{u:Value}(ho:o.op= .pick c x y)(hc:ev F c=some (.bool b))(hb:b=true)(hx:ev F x=some u):Rn P o N K W F L u:=λa w h=>by
 unfold execOp;simp [ho,h.fr.ev hc,h.fr.ev hx,asBool,hb]
theorem cc {c x y:Operand}{b:Bool}{u:Value}(ho:o.op= .pick c x y)(hc:ev F c=some (.bool b))(hb:b=false)(hy:ev F y=some u):Rn P o N K W F L u:=λa w h=>by
 unfold execOp;simp [ho,h.fr.ev hc,h.fr.ev hy,asBool,hb]
theorem WD {T:TypeId}{x:Operand}{b:Bool}(ho:o.op= .unOp .not T x)(hx:ev F x=some (.bool b)):Rn P o N K W F L (.bool (!b)):=λa w h=>by
 unfold execOp;simp [ho,h.fr.ev hx,Op.unary]
theorem Xw {x:Operand}{i:Nat}{vs:Array Value}{v:Value}(ho:o.op= .extract x i)(hx:ev F x=some (.tuple vs))(hv:vs[i]? =some v):Rn P o N K W F L v:=λa w h=>by
 unfold execOp;simp [ho,h.fr.ev hx,Instr.extract,hv]
theorem jC {x:Operand}{p:Addr}(ho:o.op= .nilCheck x)(hx:ev F x=some (.pointer (some p))):Rn P o N K W F L (.pointer (some p)):=λa w h=>by
 unfold execOp;simp [ho,h.fr.ev hx]
theorem W7 {fn:Fn}{xs ys:List Operand}{us vs:List Value}(ho:o.op= .makeFunc fn xs.toArray ys.toArray)(hx:G1 F xs=some us)(hy:G1 F ys=some vs):Rn P o N K W F L (.func fn us.toArray vs.toArray):=λa w h=>by
 unfold execOp;simp [ho,h.fr.G1 hx,h.fr.G1 hy,Instr.makeFunc]
section
variable {T U:TypeId}{x y:Operand}
theorem wu {op:BinOp}{k:IntKind}{p q:Int}{v:Value}(ho:o.op= .binOp op T x y U)(hx:ev F x=some (.int k p))(hy:ev F y=some (.int k q))(hv:∀w,(binOp op T (.int k p) (.int k q)).run P w= .ok v w):Rn P o N K W F L v:=λa w h=>by
 unfold execOp;simp only [ho,h.fr.ev hx,h.fr.ev hy,eqGuard_at_int,qS,q5,yQ,hv]
theorem RX {p q:Int}(ho:o.op= .binOp .add T x y U)(hx:ev F x=some (.int .i64 p))(hy:ev F y=some (.int .i64 q)):Rn P o N K W F L (.int .i64 (wrap64 (p+q))):=wu ho hx hy λw=>by simp [go_sem];exact IntWalk.i64_left _
theorem mP {p q:Int}(ho:o.op= .binOp .sub T x y U)(hx:ev F x=some (.int .i64 p))(hy:ev F y=some (.int .i64 q)):Rn P o N K W F L (.int .i64 (wrap64 (p-q))):=wu ho hx hy λw=>by simp [go_sem];exact IntWalk.i64_left _
theorem mQ {p q:Int}(ho:o.op= .binOp .mul T x y U)(hx:ev F x=some (.int .i64 p))(hy:ev F y=some (.int .i64 q)):Rn P o N K W F L (.int .i64 (wrap64 (p*q))):=wu ho hx hy λw=>by simp [go_sem];exact IntWalk.i64_left _
theorem cp {p q:Int}(ho:o.op= .binOp .add T x y U)(hx:ev F x=some (.int .i64 p))(hy:ev F y=some (.int .i64 q))(hb: -9223372036854775808<=p+q/\p+q<9223372036854775808):Rn P o N K W F L (.int .i64 (p+q)):=by
 have:=RX (P:=P) (N:=N) (K:=K) (W:=W) (L:=L) ho hx hy;rwa [Bm _ ⟨za,za⟩] at this
theorem CI {p q:Int}(ho:o.op= .binOp .sub T x y U)(hx:ev F x=some (.int .i64 p))(hy:ev F y=some (.int .i64 q))(hb: -9223372036854775808<=p-q/\p-q<9223372036854775808):Rn P o N K W F L (.int .i64 (p-q)):=by
 have:=mP (P:=P) (N:=N) (K:=K) (W:=W) (L:=L) ho hx hy;rwa [Bm _ ⟨za,za⟩] at this
theorem za8 {p q:Int}(ho:o.op= .binOp .mul T x y U)(hx:ev F x=some (.int .i64 p))(hy:ev F y=some (.int .i64 q))(hb: -9223372036854775808<=p*q/\p*q<9223372036854775808):Rn P o N K W F L (.int .i64 (p*q)):=by
 have:=mQ (P:=P) (N:=N) (K:=K) (W:=W) (L:=L) ho hx hy;rwa [Bm _ ⟨za,za⟩] at this
theorem RY {p q:Nat}(ho:o.op= .binOp .add T x y U)(hx:ev F x=some (.int .i64 (p:Int)))(hy:ev F y=some (.int .i64 (q:Int)))(hb:p+q<9223372036854775808):Rn P o N K W F L (.int .i64 ((p+q:Nat):Int)):=by
 rw [Int.natCast_add];exact cp ho hx hy za
theorem zaZ {p q:Nat}(ho:o.op= .binOp .sub T x y U)(hx:ev F x=some (.int .i64 (p:Int)))(hy:ev F y=some (.int .i64 (q:Int)))(hb:q<=p/\p<9223372036854775808):Rn P o N K W F L (.int .i64 ((p-q:Nat):Int)):=by
 rw [Int.natCast_sub hb.1];exact CI ho hx hy za
theorem za7 {p q:Nat}(ho:o.op= .binOp .mul T x y U)(hx:ev F x=some (.int .i64 (p:Int)))(hy:ev F y=some (.int .i64 (q:Int)))(hb:p*q<9223372036854775808):Rn P o N K W F L (.int .i64 ((p*q:Nat):Int)):=by
 rw [Int.natCast_mul];exact za8 ho hx hy ⟨by rw [<-Int.natCast_mul];omega,by rw [<-Int.natCast_mul];omega⟩
theorem za5 {p q:Nat}(ho:o.op= .binOp .quo T x y U)(hx:ev F x=some (.int .i64 (p:Int)))(hy:ev F y=some (.int .i64 (q:Int)))(hb:0<q/\p<9223372036854775808):Rn P o N K W F L (.int .i64 ((p/q:Nat):Int)):=wu ho hx hy λw=>by
 have h1:¬(q:Int)=0:=za
 have h0:¬q=0:=za
 have h2:(p:Int).tdiv q=((p/q:Nat):Int):=by rw [Int.tdiv_eq_ediv_of_nonneg za];rfl
 have h3:IntKind.i64.wrap ((p/q:Nat):Int)=((p/q:Nat):Int):=by
  have:p/q<=p:=Nat.div_le_self _ _
  generalize p/q=z at this
  exact IntWalk.i64_in _ ⟨za,za⟩
 simp [go_sem,h0,h1,h2];first|exact h3|(simp at h3;omega)
theorem za3 {p q:Nat}(ho:o.op= .binOp .rem T x y U)(hx:ev F x=some (.int .i64 (p:Int)))(hy:ev F y=some (.int .i64 (q:Int)))(hb:0<q/\p<9223372036854775808):Rn P o N K W F L (.int .i64 ((p%q:Nat):Int)):=wu ho hx hy λw=>by
 have h1:¬(q:Int)=0:=za
 have h0:¬q=0:=za
 have h2:(p:Int).tmod q=((p%q:Nat):Int):=by rw [Int.tmod_eq_emod_of_nonneg za];rfl
 simp [go_sem,h0,h1,h2];try rfl
theorem Jc {k:IntKind}{p q:Int}(ho:o.op= .binOp .lss T x y U)(hx:ev F x=some (.int k p))(hy:ev F y=some (.int k q)):Rn P o N K W F L (.bool (decide (p<q))):=wu ho hx hy λw=>by simp [go_sem]
theorem ch {k:IntKind}{p q:Int}(ho:o.op= .binOp .gtr T x y U)(hx:ev F x=some (.int k p))(hy:ev F y=some (.int k q)):Rn P o N K W F L (.bool (decide (q<p))):=wu ho hx hy λw=>by simp [go_sem]
theorem RW {k:IntKind}{p q:Int}(ho:o.op= .binOp .geq T x y U)(hx:ev F x=some (.int k p))(hy:ev F y=some (.int k q)):Rn P o N K W F L (.bool (decide (q<=p))):=wu ho hx hy λw=>by simp [go_sem]
theorem kJ {k:IntKind}{p q:Int}(ho:o.op= .binOp .eql T x y U)(hx:ev F x=some (.int k p))(hy:ev F y=some (.int k q)):Rn P o N K W F L (.bool (decide (p=q))):=wu ho hx hy λw=>by simp [go_sem];rfl
theorem cd {k:IntKind}{p q:Int}(ho:o.op= .binOp .neq T x y U)(hx:ev F x=some (.int k p))(hy:ev F y=some (.int k q)):Rn P o N K W F L (.bool (decide (p≠q))):=wu ho hx hy λw=>by
 simp [go_sem,bne];rfl
theorem cg {k:IntKind}{p q:Nat}(ho:o.op= .binOp .lss T x y U)(hx:ev F x=some (.int k (p:Int)))(hy:ev F y=some (.int k (q:Int))):Rn P o N K W F L (.bool (decide (p<q))):=by
 have:=Jc (P:=P) (N:=N) (K:=K) (W:=W) (L:=L) ho hx hy;simpa using this
theorem Ub {k:IntKind}{p q:Nat}(ho:o.op= .binOp .gtr T x y U)(hx:ev F x=some (.int k (p:Int)))(hy:ev F y=some (.int k (q:Int))):Rn P o N K W F L (.bool (decide (q<p))):=by
 have:=ch (P:=P) (N:=N) (K:=K) (W:=W) (L:=L) ho hx hy;simpa using this
theorem mR {k:IntKind}{p q:Nat}(ho:o.op= .binOp .geq T x y U)(hx:ev F x=some (.int k (p:Int)))(hy:ev F y=some (.int k (q:Int))):Rn P o N K W F L (.bool (decide (q<=p))):=by
 have:=RW (P:=P) (N:=N) (K:=K) (W:=W) (L:=L) ho hx hy;simpa using this
theorem ck {k:IntKind}{p q:Nat}(ho:o.op= .binOp .eql T x y U)(hx:ev F x=some (.int k (p:Int)))(hy:ev F y=some (.int k (q:Int))):Rn P o N K W F L (.bool (decide (p=q))):=by
 have:=kJ (P:=P) (N:=N) (K:=K) (W:=W) (L:=L) ho hx hy
 have e:decide ((p:Int)=(q:Int))=decide (p=q):=by simp;omega
 rwa [e] at this
theorem RT {k:IntKind}{p q:Nat}(ho:o.op= .binOp .neq T x y U)(hx:ev F x=some (.int k (p:Int)))(hy:ev F y=some (.int k (q:Int))):Rn P o N K W F L (.bool (decide (p≠q))):=by
 have:=cd (P:=P) (N:=N) (K:=K) (W:=W) (L:=L) ho hx hy
 have e:decide ((p:Int)≠(q:Int))=decide (p≠q):=by simp;omega
 rwa [e] at this
end
end
def An :TypeDesc->Bool
 | .struct _| .array _ _=>true
 |_=>false
def je (P:Program)(T:TypeId):Option (Bool×Nat×Nat×List Value):=match P.info? T,P.underlying T with
 |some i,some d=>match i.zero with
  |some z=>some (An d,i.size,i.bytes,z.cells.toList)
  |none=>none
 |_,_=>none
def QA (P:Program)(T:TypeId):Option TypeId:=match P.underlying T with
 |some (.slice e)=>some e
 |_=>none
def kX (P:Program)(T:TypeId)(f:Nat):Option Nat:=match P.underlying T with
 |some (.struct fs)=>match fs[f]? with
  |some fd=>match P.info? fd.type with
   |some i=>if i.size=0 then none else some fd.offset
   |none=>none
  |none=>none
 |_=>none
def zN (P:Program)(f:FuncId):Bool:=match P.funcs[f]? with
 |some fn=> !(fn.name== "runtime.NumGoroutine")&&fn.body.isSome
 |none=>false
section
variable {P:Program}{N:Nat}{K:Nat->Prop}{W w:World}{a:Act}{F F' :List (Nat×Value)}{L L' :List zZ}{o:Oper}{ops:Array Oper}{rest:List Oper}{Q:Exit->Act->World->Prop}
theorem qR {T:TypeId}{g:Bool}{n xf:Nat}{z:List Value}(h:je P T=some (g,n,xf,z)):
  ∃i d zv,P.info? T=some i/\P.underlying T=some d/\An d=g/\i.size=n/\i.bytes=xf/\i.zero=some zv/\zv.cells.toList=z:=by
 unfold je at h
 split at h
 ·rename_i i d h1 h2
  split at h
  ·rename_i zv hz
   simp only [Qx,qO] at h
   exact ⟨i,d,zv,h1,h2,h.1,h.2.1,h.2.2.1,hz,h.2.2.2⟩
  ·cases h
 ·cases h
theorem yS {T e:TypeId}(h:QA P T=some e):P.underlying T=some (.slice e):=by
 unfold QA at h
 split at h
 ·simp at h;subst h;assumption
 ·cases h
theorem run_sizeOf {T:TypeId}{i:TypeInfo}(h:P.info? T=some i)(w:World):(sizeOf T).run P w= .ok i.size w:=by simp [sizeOf,typeInfo,h]
theorem ff {T:TypeId}{i:TypeInfo}{z:Value}(h:P.info? T=some i)(hz:i.zero=some z)(w:World):(zeroValue T).run P w= .ok z w:=by simp [zeroValue,typeInfo,h,hz]
theorem ax {T:TypeId}{d:TypeDesc}(h:P.underlying T=some d)(w:World):(isAgg T).run P w= .ok (An d) w:=by
 unfold isAgg
 rw [qS,run_underlying h]
 cases d<;>rfl
theorem Ve {T:TypeId}{f k:Nat}{p:Addr}(h:kX P T f=some k)(w:World):(Instr.fieldAt T (.pointer (some p)) f).run P w= .ok (.pointer (some (p.add k))) w:=by
 unfold kX at h
 split at h
 ·rename_i fs Rg
  split at h
  ·rename_i fd hfd
   split at h
   ·rename_i i hi
    split at h
    ·cases h
    ·rename_i Qo
     simp only [Qx] at h
     subst h
     simp [Instr.fieldAt,run_underlying Rg,hfd,Instr.sureAddr,fieldPlace,run_sizeOf hi,Qo]
   ·cases h
  ·cases h
 ·cases h
theorem zT {T:TypeId}{x:Operand}{f k g q r:Nat}(hT:kX P T f=some k)(ho:o.op= .fieldAddr T x f)(hx:ev F x=some (.pointer (some ⟨g,q,none⟩)))(hr:q+k=r):Rn P o N K W F L (.pointer (some ⟨g,r,none⟩)):=λa w h=>by
 subst hr
 unfold execOp;simp only [ho,h.fr.ev hx,qS,Ve hT,wD,yQ,q5]
theorem jT {T:TypeId}{x:Operand}{f k sz i j r:Nat}{v:Value}(hT:kX P T f=some k)(ho:o.op= .fieldAddr T x f)(hx:ev F x=some (.pointer (some (ja v sz i j))))(hr:j+k=r):Rn P o N K W F L (.pointer (some (ja v sz i r))):=λa w h=>by
 subst hr
 unfold execOp;simp only [ho,h.fr.ev hx,qS,Ve hT,fC,yQ,q5]
section
variable {α:Type}[zz α]
theorem ay {T e:TypeId}{g:Bool}{n xf:Nat}{z:List Value}{s:Ls α}{kd:IntKind}{q:Int}(hT:QA P T=some e)(he:je P e=some (g,n,xf,z))(hat:s.At w)(h0:0<=q)(h1:q<s.l.length):
  (Instr.indexAt T s.v (.int kd q)).run P w= .ok (.pointer (some (ja s.v n q.toNat 0))) w:=by
 obtain ⟨i,d,zv,hi,hd,_,rfl,_⟩:=qR he
 obtain ⟨A,cap,hv,hA⟩:=hat
 obtain ⟨b,hb,hs⟩:=hA.some (show 0<s.l.length from za)
 have hu:=yS hT
 have WJ:P.elem T=e:=by simp [Program.elem,hu]
 simp only at hb
 subst hb
 rw [hv,run_indexAt_slice (h:=by rw [WJ];exact hu),if_pos ⟨h0,h1⟩,WJ,run_sizeOf hi]
 obtain ⟨zM,off,sp⟩:=b
 simp only at hs
 subst hs
 simp [yQ,ja,bU,A4,wD]
theorem RU {T e:TypeId}{g:Bool}{n xf:Nat}{z:List Value}{s:Ls α}{kd:IntKind}{q:Int}{x y:Operand}(hT:QA P T=some e)(he:je P e=some (g,n,xf,z))(ho:o.op= .indexAddr T x y)(hx:ev F x=some s.v)(hy:ev F y=some (.int kd q))(hat:∀w,Sh K W w L->s.At w)
  (hb:0<=q/\q<s.l.length):Rn P o N K W F L (.pointer (some (ja s.v n q.toNat 0))):=λa w h=>by
 unfold execOp;simp only [ho,h.fr.ev hx,h.fr.ev hy,qS,ay hT he (hat w h.sh) hb.1 hb.2,yQ,q5]
theorem gD {T e:TypeId}{g:Bool}{n xf:Nat}{z:List Value}{s:Ls α}{kd:IntKind}{q:Nat}{x y:Operand}(hT:QA P T=some e)(he:je P e=some (g,n,xf,z))(ho:o.op= .indexAddr T x y)(hx:ev F x=some s.v)(hy:ev F y=some (.int kd (q:Int)))(hat:∀w,Sh K W w L->s.At w)
  (hb:q<s.l.length):Rn P o N K W F L (.pointer (some (ja s.v n q 0))):=by
 simpa using RU (P:=P) (N:=N) (K:=K) (W:=W) (L:=L) hT he ho hx hy hat ⟨za,za⟩
theorem Zc {T e:TypeId}{s:Ls α}{x:Operand}{n:Nat}(hT:QA P T=some e)(ho:o.op= .call ⟨.builtin .len, #[x], #[T]⟩)(hx:ev F x=some s.v)(hat:∀w,Sh K W w L->s.At w)(hn:s.l.length=n):Rn P o N K W F L (.int .i64 (n:Int)):=λa w h=>by
 subst hn
 obtain ⟨A,cap,hv,_⟩:=hat w h.sh
 have hu:=yS hT
 have WJ:P.elem T=e:=by simp [Program.elem,hu]
 unfold execOp
 have e1:=h.fr.ev hx
 rw [hv] at e1
 simp [ho,resolve,invoke,builtin,e1,run_len_slice _ _ _ _ _ _ (show P.underlying T=some (.slice (P.elem T)) by rw [WJ];exact hu),goInt]
theorem Xu {T:TypeId}{n xf:Nat}{z:List Value}{p:Addr}{v:Value}(hT:je P T=some (false,n,xf,z))(hc:w.cell? p=some v):(Instr.loadAt T (.pointer (some p))).run P w= .ok v w:=by
 obtain ⟨i,d,zv,hi,hd,hg,_⟩:=qR hT
 simp [Instr.loadAt,Instr.sureAddr,loadVar,ax hd,hg,hc]
theorem G9 {T:TypeId}{n xf:Nat}{z:List Value}{p:Addr}{vs:List Value}(hT:je P T=some (true,n,xf,z))(hn:vs.length=n)(hc:∀(j:Nat) (v:Value),vs[j]? =some v->w.cell? (p.add j)=some v):(Instr.loadAt T (.pointer (some p))).run P w= .ok (.agg vs.toArray) w:=by
 obtain ⟨i,d,zv,hi,hd,hg,hs,_⟩:=qR hT
 subst hn
 simp [Instr.loadAt,Instr.sureAddr,loadVar,ax hd,hg,run_sizeOf hi,hs,run_loadCells_list (P:=P) w p vs hc]
theorem xV {T:TypeId}{n xf:Nat}{z:List Value}{x:Operand}{g q i:Nat}{E:TypeId}{cs:List Value}{v:Value}(hT:je P T=some (false,n,xf,z))(ho:o.op= .load T x)(hx:ev F x=some (.pointer (some ⟨g,q,none⟩)))
  (hi:L[i]? =some (.zM g E cs)) (hv:cs[q]? =some v):Rn P o N K W F L v:=λa w h=>by
 have hc:w.cell? ⟨g,q,none⟩=some v:=by rw [(h.sh.zM i hi).cell q];simpa using hv
 unfold execOp;simp only [ho,h.fr.ev hx,qS,Xu hT hc,yQ,q5]
theorem Jd {T:TypeId}{n xf:Nat}{z:List Value}{x:Operand}{g q i:Nat}{E:TypeId}{cs vs:List Value}(hT:je P T=some (true,n,xf,z))(ho:o.op= .load T x)(hx:ev F x=some (.pointer (some ⟨g,q,none⟩)))
  (hi:L[i]? =some (.zM g E cs)) (hv:(cs.drop q).take n=vs) (hn:vs.length=n):Rn P o N K W F L (.agg vs.toArray):=λa w h=>by
 have hc:∀(j:Nat) (v:Value),vs[j]? =some v->w.cell? ((⟨g,q,none⟩:Addr).add j)=some v:=by
  intro j v hj
  rw [wD,(h.sh.zM i hi).cell (q+j)]
  rw [<-hv,VI] at hj
  split at hj
  ·rw [GS] at hj;simpa using hj
  ·cases hj
 unfold execOp;simp only [ho,h.fr.ev hx,qS,G9 hT hn hc,yQ,q5]
theorem x6 {T:TypeId}{n xf:Nat}{z:List Value}{x:Operand}{i j sz:Nat}{s:Ls α}{v:Value}(hT:je P T=some (false,n,xf,z))(ho:o.op= .load T x)(hx:ev F x=some (.pointer (some (ja s.v sz i j))))
  (x3:zz.sz α=sz) (hat:∀w,Sh K W w L->s.At w) (hi:i<s.l.length) (hj:j<sz) (hv:zz.cell (nth s.l i) j=v):Rn P o N K W F L v:=λa w h=>by
 subst x3
 have hc:=(hat w h.sh).cell i j hi hj
 rw [hv] at hc
 unfold execOp;simp only [ho,h.fr.ev hx,qS,Xu hT hc,yQ,q5]
theorem CN {T:TypeId}{n xf:Nat}{z:List Value}{x:Operand}{i j sz:Nat}{s:Ls α}{vs:List Value}(hT:je P T=some (true,n,xf,z))(ho:o.op= .load T x)(hx:ev F x=some (.pointer (some (ja s.v sz i j))))
  (x3:zz.sz α=sz) (hat:∀w,Sh K W w L->s.At w) (hi:i<s.l.length) (hj:j+n<=sz) (hv:(List.range n).map (λq=>zz.cell (nth s.l i) (j+q))=vs):Rn P o N K W F L (.agg vs.toArray):=λa w h=>by
 subst x3
 subst hv
 have hc:∀(q:Nat) (v:Value),((List.range n).map (λq=>zz.cell (nth s.l i) (j+q)))[q]? =some v->w.cell? ((ja s.v (zz.sz α) i j).add q)=some v:=by
  intro q v hq
  have l4:q<n:=by
   have:=(List.getElem?_eq_some_iff.1 hq).1
   simpa using this
  rw [fC,(hat w h.sh).cell i (j+q) hi za]
  simpa [l4] using hq
 unfold execOp;simp only [ho,h.fr.ev hx,qS,G9 hT (by simp) hc,yQ,q5]
end
theorem St.KT {d g:Nat}{v:Value}{T:TypeId}{cs:List Value}(h:St N K W a w F L)(hd:Nat.blt d N=true):
  St N K W (a.put (some d) (.pointer (some ⟨w.heap.size,0,none⟩))) (w.alloc (.cells cs.toArray T)) ((d,.pointer (some ⟨w.heap.size,0,none⟩))::F) (.zM w.heap.size T cs::L):=
 ⟨h.fr.put d (by simpa [yV] using hd) _,h.sh.push (j2.alloc _ w _) (xB.new w T cs.toArray) (λb hb=>by rw [show b=w.heap.size from hb];exact qC _) (λb hb=>hb.elim) (λb _ hb=>hb)⟩
theorem pP {d:Nat}{T:TypeId}{g:Bool}{n xf:Nat}{z:List Value}(h:St N K W a w F L)(hT:je P T=some (g,n,xf,z))(ho:o.op= .alloc T)(hd:o.dst=some d)(wz:Nat.blt d N=true):
  Ex P o a w (λa' w' =>∃b:Nat,St N K W a' w' ((d,.pointer (some ⟨b,0,none⟩))::F) (.zM b T z::L)):=by
 obtain ⟨i,e,zv,hi,he,_,_,_,hz,cM⟩:=qR hT
 refine Ex.j8 (v:= .pointer (some ⟨w.heap.size,0,none⟩)) (w' :=w.alloc (.cells z.toArray T)) ?_ ⟨w.heap.size,?_⟩
 ·unfold execOp
  simp only [ho,qS,Instr.alloc,ff hi hz,yQ,newVar,newRow,run_newObj,q5]
  rw [<-cM];rfl
 ·rw [hd];exact h.KT (g:=0) (v:=undef) wz
theorem ai {d:Nat}{T:TypeId}{x:Operand}{v:Value}{cs:List Value}(h:St N K W a w F L)(ho:o.op= .box T x)(hx:ev F x=some v)(hv:v.cells=cs.toArray)(hd:o.dst=some d)(wz:Nat.blt d N=true):
  Ex P o a w (λa' w' =>∃b:Nat,St N K W a' w' ((d,.pointer (some ⟨b,0,none⟩))::F) (.zM b T cs::L)):=by
 refine Ex.j8 (v:= .pointer (some ⟨w.heap.size,0,none⟩)) (w' :=w.alloc (.cells cs.toArray T)) ?_ ⟨w.heap.size,?_⟩
 ·unfold execOp
  simp only [ho,h.fr.ev hx,Instr.box,newVar,newRow,hv,qS,run_newObj,yQ,q5]
  rfl
 ·rw [hd];exact h.KT (g:=0) (v:=undef) wz
def kf (cs:List Value)(q:Nat)(vs:List Value):List Value:=cs.take q++vs++cs.drop (q+vs.length)
theorem j3 {T:TypeId}{gg:Bool}{n xf:Nat}{z:List Value}{x y:Operand}{g q i:Nat}{E:TypeId}{cs YR vs:List Value}{v:Value}(h:St N K W a w F L)(hT:je P T=some (gg,n,xf,z))(ho:o.op= .store T x y)(hd:o.dst=none)
  (hx:ev F x=some (.pointer (some ⟨g,q,none⟩))) (hy:ev F y=some v) (hi:L[i]? =some (.zM g E cs)) (hv:v.cells.toList=vs) (hn:vs.length=n) (h1:vs.all (·.oneCell')=true) (hq:q+n<=cs.length) (XH:kf cs q vs=YR):
  Ex P o a w (λa' w' =>St N K W a' w' F (L.set i (.zM g E YR))):=by
 obtain ⟨ti,e,zv,EZ,he,_,hs,_⟩:=qR hT
 have hB:=h.sh.zM i hi
 have hvs:v.cells=vs.toArray:=by rw [<-hv]
 have yN:=run_storeCells_at P g q E vs 0 cs.toArray w hB (by simp;omega) (λu hu=>(List.all_eq_true.1 h1) u hu)
 refine Ex.VV (w' :=w.setRow g YR.toArray) ?_ ?_
 ·unfold execOp
  have x3:v.cells.size=ti.size:=by rw [hvs];simp;omega
  simp only [ho,h.fr.ev hx,h.fr.ev hy,Instr.storeAt,Instr.sureAddr,storeVar,qS,q5,yQ,run_sizeOf EZ]
  simp only [x3,ne_eq,not_true_eq_false,if_false,hv,Kz] at yN⊢
  rw [<-XH]
  simp at yN
  rw [yN]
  simp [kf]
 ·rw [hd]
  refine ⟨h.fr,h.sh.put hi ⟨V,V,V,by simp [World.setRow],λb hb Qo=>setRow_other w g b _ Qo⟩ ?_ (λb hb=> .inl hb) (λb hb=>hb.elim) (λb _ hb=>hb)⟩
  exact setRow_heap w g _ _ E (0,0) hB
end
section
variable {α:Type}[zz α]
theorem D5 (l:List α)(k:Nat)(h:l.length*zz.sz α<=k):(qH l)[k]? =none:=Br (by rw [qe];exact h)
theorem Ly (l:List α)(i j:Nat)(x:α)(v:Value)(hi:i<l.length)(hj:j<zz.sz α)(hx:∀q,q<zz.sz α->zz.cell x q=if q=j then v else zz.cell (nth l i) q):
  qH (l.set i x)=(qH l).set (i*zz.sz α+j) v:=by
 have hs:0<zz.sz α:=za
 apply Hr
 intro k
 by_cases hk:k<l.length*zz.sz α
 ·have hq:k/zz.sz α<l.length:=(Hw hs).2 hk
  have hr:k%zz.sz α<zz.sz α:=VH _ hs
  have Dw:k=(k/zz.sz α)*zz.sz α+k%zz.sz α:=by rw [Ho];exact (Bk _ _).symm
  have h1:=Q5 (l.set i x) (k/zz.sz α) (k%zz.sz α) (by simpa using hq) hr
  have h2:=Q5 l (k/zz.sz α) (k%zz.sz α) hq hr
  rw [<-Dw] at h1 h2
  rw [h1,List.getElem?_set]
  by_cases hki:k/zz.sz α=i
  ·have hn:nth (l.set i x) (k/zz.sz α)=x:=by rw [hki];simp [nth,hi]
   rw [hn,hx _ hr]
   by_cases MP:k%zz.sz α=j
   ·have e:i*zz.sz α+j=k:=by rw [Dw,hki,MP]
    rw [if_pos MP,if_pos e,if_pos (by rw [qe,e];exact hk)]
   ·have e:¬i*zz.sz α+j=k:=by intro e;rw [hki] at Dw;omega
    rw [if_neg MP,if_neg e,h2,hki]
  ·have hn:nth (l.set i x) (k/zz.sz α)=nth l (k/zz.sz α):=by
    have:¬i=k/zz.sz α:=λe=>hki e.symm
    simp [nth,List.getD,List.getElem?_set,this]
   have e:¬i*zz.sz α+j=k:=by
    intro e
    apply hki
    rw [<-e,Ho,Nat.mul_add_div hs,Nat.div_eq_of_lt hj,Kz]
   rw [hn,if_neg e,h2]
 ·rw [D5 _ _ (by simpa using hk),List.getElem?_set]
  have e:¬i*zz.sz α+j=k:=by
   intro e
   apply hk
   have:(i+1)*zz.sz α<=l.length*zz.sz α:=WV _ hi
   rw [GP,Nat.one_mul] at this
   omega
  rw [if_neg e,D5 _ _ za]
theorem jt (l:List α)(i k:Nat)(x:α):nth (l.set i x) k=if i=k/\i<l.length then x else nth l k:=by
 simp only [nth,List.getD,List.getElem?_set]
 by_cases h:i=k
 ·subst h
  by_cases h2:i<l.length<;>simp [h2]
 ·simp [h]
theorem gr (l m:List α)(k:Nat):nth (l++m) k=if k<l.length then nth l k else nth m (k-l.length):=by
 simp only [nth,List.getD]
 by_cases h:k<l.length
 ·rw [List.getElem?_append_left h,if_pos h]
 ·rw [List.getElem?_append_right za,if_neg h]
end
def u5 (F:List (Nat×Value)):List (Nat×Operand)->Option (List (Nat×Value))
 | []=>some []
 |(i,x)::r=>match ev F x with
  |some v=>match u5 F r with
   |some vs=>some ((i,v)::vs)
   |none=>none
  |none=>none
theorem Fr.u5 {N:Nat}{a:Act}{F:List (Nat×Value)}(h:Fr N a F):∀ {xs:List (Nat×Operand)} {vs:List (Nat×Value)},u5 F xs=some vs->(xs.toArray.map λ(i,x)=>(i,a.eval x)).toList=vs:=by
 intro xs
 have key:∀(xs:List (Nat×Operand)) (vs:List (Nat×Value)),Go.Proofs.YtmjkobhkkjgplaaGreatDoor.u5 F xs=some vs->(xs.map λ(i,x)=>(i,a.eval x))=vs:=by
  intro xs
  induction xs with
  |nil=>intro vs hx;simp [Go.Proofs.YtmjkobhkkjgplaaGreatDoor.u5] at hx;simp [hx]
  |cons x r ih=>
   obtain ⟨i,x⟩:=x
   intro vs hx
   unfold Go.Proofs.YtmjkobhkkjgplaaGreatDoor.u5 at hx
   split at hx
   ·rename_i v hv
    split at hx
    ·rename_i us hu
     simp only [Qx] at hx
     subst hx
     simp [h.ev hv,ih us hu]
    ·cases hx
   ·cases hx
 intro vs hx
 have:=key xs vs hx
 simpa using this
section
variable {P:Program}{N:Nat}{K:Nat->Prop}{W w:World}{a:Act}{F F' :List (Nat×Value)}{L L' :List zZ}{o:Oper}{ops:Array Oper}{rest:List Oper}{Q:Exit->Act->World->Prop}
section
variable {α:Type}[zz α]
theorem ei {T:TypeId}{gg:Bool}{xf:Nat}{z:List Value}{x y:Operand}{i j sz r:Nat}{E:TypeId}{s:Ls α}{x' :α}{v:Value}(h:St N K W a w F L)(hT:je P T=some (gg,1,xf,z))(ho:o.op= .store T x y)(hd:o.dst=none)
  (hx:ev F x=some (.pointer (some (ja s.v sz i j)))) (x3:zz.sz α=sz) (hr:L[r]? =some (.own E s)) (hi:i<s.l.length) (hj:j<sz) (hy:ev F y=some v) (hv:v.cells.toList= [v]) (h1:v.oneCell' =true)
  (hc:∀q,q<sz->zz.cell x' q=if q=j then v else zz.cell (nth s.l i) q)
  (BD:∀w,Sh K W w L->zz.inner x' w) (Wl:∀b,zz.on x' b->s.v.ownBlock≠some b/\∃B∈L,B.rd b):
  Ex P o a w (λa' w' =>St N K W a' w' F (L.set r (.own E ⟨s.v,s.l.set i x'⟩))):=by
 subst x3
 obtain ⟨ti,e,zv,EZ,he,_,hs,_⟩:=qR hT
 have zR:=h.sh.ok _ (zy hr)
 obtain ⟨wP,hlen,Kj⟩:=zR
 rcases wP.2 with ⟨_,h0⟩|⟨g,cap,cur,Wj,sC,hg,hn,hm,XH,ig⟩
 ·omega
 have hp:ja s.v (zz.sz α) i j=⟨g,i*zz.sz α+j,none⟩:=by rw [Wj];simp [ja,bU,A4]
 have hat:=vE (h.sh.ok _ (zy hr))
 have DG:=hat.cell i j hi hj
 rw [hp] at DG
 have OZ:w.frozen? ⟨g,i*zz.sz α+j,none⟩=false:=frozen_of_row w g _ cur E hg
 refine Ex.VV (w' :=w.setCell ⟨g,i*zz.sz α+j,none⟩ v) ?_ ?_
 ·unfold execOp
  have hcz:v.cells.size=ti.size:=by rw [hs,<-Array.length_toList,hv];rfl
  simp only [ho,h.fr.ev hx,h.fr.ev hy,Instr.storeAt,Instr.sureAddr,storeVar,qS,q5,yQ,run_sizeOf EZ,hcz,hp]
  simp [hv,storeCells,run_store P w _ v _ h1,DG,OZ,Addr.add_zero']
 ·rw [hd]
  have hst:=World.ownsRow.stored (w:=w) (base:=0) (e:=E) (size:=zz.sz α) (n:=s.l.length) (xs:=qH s.l) (g:=g) (cap:=cap) (by rw [<-Wj];exact wP) (i*zz.sz α+j) v
  have J0:(zZ.own E s).fp g:=by show s.v.ownBlock=some g;rw [Wj];rfl
  have Dj:=h.sh.self _ (zy hr)
  refine ⟨h.fr,h.sh.put hr (j2.setCell w _ J0 v) ⟨?_,by simpa using hlen,λq hq=>?_⟩ (λb hb=> .inl hb) (λb hb=>?_) (λb hb xl=>?_)⟩
  ·show World.ownsRow _ 0 E (zz.sz α) s.v (s.l.set i x').length (qH (s.l.set i x'))
   rw [Ly s.l i j x' v hi hj hc,XP,Wj]
   exact hst.1
  ·have key:∀y:α,zz.inner y w->(∀b,zz.on y b->g≠b)->zz.inner y (w.setCell ⟨g,i*zz.sz α+j,none⟩ v):=λy hy hb=>
    zz.yB y w _ hy λb xl=>Below.heap_setCell w _ v b (λe=>hb b xl e.symm)
   have Vq:q<s.l.length:=by simpa using hq
   show zz.inner (nth (s.l.set i x') q) _
   rw [jt]
   split
   ·exact key _ (BD w h.sh) λb hb e=>(Wl b hb).1 (by rw [Wj,e];rfl)
   ·exact key _ (Kj q Vq) λb hb e=>Dj g J0 ⟨q,Vq,e▸hb⟩
  ·obtain ⟨q,hq,hb⟩:=hb
   simp only [jt] at hb
   split at hb
   ·exact .inr (.inr (.inl (Wl b hb).2))
   ·exact .inr (.inl ⟨q,by simpa using hq,hb⟩)
  ·obtain ⟨q,hq,xl⟩:=xl
   simp only [jt] at xl
   split at xl
   ·exact (Wl b xl).1 hb
   ·exact Dj b hb ⟨q,by simpa using hq,xl⟩
theorem N9 (z:List Value)(x:α)(n:Nat)(hz:z=cellsOf x):(madeCells z.toArray (n*zz.sz α)).toList=qH (List.replicate n x):=by
 apply Hr
 intro k
 by_cases hs:zz.sz α=0
 ·have h1:(madeCells z.toArray (n*zz.sz α)).toList= []:=by apply JW;simp [size_madeCells,hs]
  have h2:qH (List.replicate n x)= []:=by apply JW;rw [qe,hs,Nat.mul_zero]
  rw [h1,h2]
 have hs:0<zz.sz α:=za
 by_cases hk:k<n*zz.sz α
 ·have hq:k/zz.sz α<n:=(Hw hs).2 hk
  have hr:k%zz.sz α<zz.sz α:=VH _ hs
  have Dw:k=(k/zz.sz α)*zz.sz α+k%zz.sz α:=by rw [Ho];exact (Bk _ _).symm
  have h2:=Q5 (List.replicate n x) (k/zz.sz α) (k%zz.sz α) (by simpa using hq) hr
  rw [<-Dw] at h2
  have hn:nth (List.replicate n x) (k/zz.sz α)=x:=by simp [nth,hq]
  rw [h2,hn]
  have hzs:z.length=zz.sz α:=by rw [hz,jV]
  have B0:k%z.toArray.size<z.toArray.size:=by simp only [bE,hzs];exact hr
  have:(madeCells z.toArray (n*zz.sz α)).toList[k]? =some (z.toArray[k%z.toArray.size]!):=by simp [madeCells,hk]
  rw [this,getElem!_pos (c:=z.toArray) (i:=k%z.toArray.size) B0]
  subst hz
  simp [cellsOf]
 ·rw [D5 _ _ (by simpa using hk),Br (by simp [size_madeCells];omega)]
theorem G4 {d:Nat}{T e:TypeId}{gg:Bool}{sz xf n:Nat}{z:List Value}{x y:Operand}(x0:α)(h:St N K W a w F L)(hT:QA P T=some e)(he:je P e=some (gg,sz,xf,z))(ho:o.op= .makeSlice T x y)(hx:ev F x=some (.int .i64 (n:Int)))(hy:ev F y=some (.int .i64 (n:Int)))
  (hz:z=cellsOf x0) (x3:zz.sz α=sz) (hn:xf*n<=140737488355328/\n<=140737488355328) (BD:∀w,zz.inner x0 w) (Wl:∀b,¬zz.on x0 b) (hd:o.dst=some d) (wz:Nat.blt d N=true):
  Ex P o a w (λa' w' =>∃v:Value,St N K W a' w' ((d,v)::F) (.own e (⟨v,List.replicate n x0⟩:Ls α)::L)):=by
 subst x3
 obtain ⟨i,ed,zv,hi,O0,_,x3,ma,BB,cM⟩:=qR he
 obtain ⟨w1,yN,wP,hgr⟩:=run_make_full w 0 T e i zv (zz.sz α) (yS hT) hi BB x3 .i64 .i64 n (by rw [ma];omega) (by unfold maxLen;omega) (wX _)
 have BB:zv.cells=z.toArray:=by rw [<-cM]
 rw [BB,N9 z x0 n hz] at wP
 refine Ex.j8 (v:= .slice (some ⟨w.heap.size,0,none⟩) n n) (w' :=w1) ?_ ⟨.slice (some ⟨w.heap.size,0,none⟩) n n,?_⟩
 ·unfold execOp
  simp only [ho,h.fr.ev hx,h.fr.ev hy,qS,yN,yQ,q5]
 ·rw [hd]
  refine ⟨h.fr.put d (by simpa [yV] using wz) _,h.sh.push (j2.grown hgr (by simp)) ⟨by simpa using wP,by simpa using hn.2,λq hq=>?_⟩ (λb hb=>?_) (λb hb=>?_) (λb _ hb=>?_)⟩
  ·have Vq:q<n:=by simpa using hq
   have:nth (List.replicate n x0) q=x0:=by simp [nth,Vq]
   rw [this];exact BD _
  ·have:w.heap.size=b:=by simpa [zZ.own,Value.ownBlock] using hb
   omega
  all_goals
   obtain ⟨q,hq,hb⟩:=hb
   have Vq:q<n:=by simpa using hq
   have:nth (List.replicate n x0) q=x0:=by simp [nth,Vq]
   simp only [this] at hb
   exact (Wl b hb).elim
theorem qF {d:Nat}{T e:TypeId}{gg:Bool}{sz xf n:Nat}{z:List Value}{parts:List (Nat×Operand)}{pv:List (Nat×Value)}{cs:List Value}(l:List α)(h:St N K W a w F L)(hT:QA P T=some e)(he:je P e=some (gg,sz,xf,z))(ho:o.op= .buildSlice T n parts.toArray)
  (hn:l.length=n) (x3:zz.sz α=sz) (YM:0<n*sz/\n*sz<=1000) (hx:u5 F parts=some pv)
  (hf:Instr.fill (λi=>some (i*sz,sz)) ((Array.range (n*sz)).map (z.toArray[· %z.toArray.size]!)) pv=some cs.toArray) (XH:cs=qH l)
  (BD:∀q,q<l.length->∀w,Sh K W w L->zz.inner (nth l q) w) (Wl:∀q,q<l.length->∀b,zz.on (nth l q) b->∃B∈L,B.rd b) (hd:o.dst=some d) (wz:Nat.blt d N=true):
  Ex P o a w (λa' w' =>∃v:Value,St N K W a' w' ((d,v)::F) (.own e (⟨v,l⟩:Ls α)::L)):=by
 subst x3
 subst hn
 obtain ⟨i,ed,zv,hi,O0,_,x3,ma,BB,cM⟩:=qR he
 have hzv:zv.cells=z.toArray:=by rw [<-cM]
 have WI:0<zz.sz α:=Nat.pos_of_ne_zero (by rintro e;simp [e] at YM)
 have iL:l.length<=1000:=vZ (Nat.le_mul_of_pos_right l.length WI) YM.2
 have yN:=run_buildSlice (P:=P) w T e l.length (parts.toArray.map λ(i,x)=>(i,a.eval x)) cs.toArray i zv (yS hT) hi BB (by rw [x3];omega) (by rw [x3];omega) (by rw [x3,hzv,h.fr.u5 hx];exact hf)
 refine Ex.j8 (v:= .slice (some ⟨w.heap.size,0,none⟩) l.length l.length) (w' :=w.alloc (.cells cs.toArray e)) ?_ ⟨.slice (some ⟨w.heap.size,0,none⟩) l.length l.length,?_⟩
 ·unfold execOp
  simp only [ho,qS,yN,yQ,q5]
 ·rw [hd]
  have hold:∀q,q<l.length->∀b,zz.on (nth l q) b->b<w.heap.size:=λq hq b hb=>zz.lt _ w (BD q hq w h.sh) b hb
  refine ⟨h.fr.put d (by simpa [yV] using wz) _,h.sh.push (j2.alloc _ w _) ⟨⟨by rw [qe],.inr ⟨w.heap.size,l.length,cs.toArray,V,wX _,Go.heap_alloc_new w _,qC _,by unfold maxLen;omega,?_,?_⟩⟩,by show l.length<=_;omega,λq hq=>?_⟩ (λb hb=>?_) (λb hb=>?_) (λb hb xl=>?_)⟩
  ·simp [XH,qe]
  ·simp only [XH];rw [QR (by rw [qe];exact qC _)]
  ·exact zz.yB _ w _ (BD q hq w h.sh) λb hb=>Hp w _ b (hold q hq b hb)
  ·have:w.heap.size=b:=by simpa [zZ.own,Value.ownBlock] using hb
   omega
  ·obtain ⟨q,hq,hb⟩:=hb
   exact .inl (Wl q hq b hb)
  ·have:w.heap.size=b:=by simpa [zZ.own,Value.ownBlock] using hb
   obtain ⟨q,hq,xl⟩:=xl
   have:=hold q hq b xl
   omega
theorem Xc {d:Nat}{T e:TypeId}{gg:Bool}{sz xf:Nat}{z:List Value}(h:St N K W a w F L)(hT:QA P T=some e)(he:je P e=some (gg,sz,xf,z))(ho:o.op= .buildSlice T 0 #[])(hd:o.dst=some d)(wz:Nat.blt d N=true):
  Ex P o a w (λa' w' =>∃v:Value,St N K W a' w' ((d,v)::F) (.own e (⟨v,[]⟩:Ls α)::L)):=by
 obtain ⟨i,ed,zv,hi,O0,_,x3,ma,BB,cM⟩:=qR he
 refine Ex.j8 (v:= .slice (some ⟨w.heap.size,0,none⟩) 0 0) (w' :=w.alloc (.cells #[] e)) ?_ ⟨.slice (some ⟨w.heap.size,0,none⟩) 0 0,?_⟩
 ·unfold execOp
  simp [ho,Instr.buildSlice,run_underlying (yS hT),run_sizeOf hi,Instr.fill,newRow,Array.range_zero']
  try rfl
 ·rw [hd]
  refine ⟨h.fr.put d (by simpa [yV] using wz) _,h.sh.push (j2.alloc _ w _) ⟨⟨by simp [qH],.inr ⟨w.heap.size,0, #[],V,wX _,Go.heap_alloc_new w _,qC _,by unfold maxLen;omega,by simp,by simp [qH]⟩⟩,wX _,λq hq=>absurd hq (by simp)⟩ (λb hb=>?_) (λb hb=>?_) (λb hb xl=>?_)⟩
  ·have:w.heap.size=b:=by simpa [zZ.own,Value.ownBlock] using hb
   omega
  ·obtain ⟨q,hq,_⟩:=hb;exact absurd hq (by simp)
  ·obtain ⟨q,hq,_⟩:=xl;exact absurd hq (by simp)
theorem Sh.nil (E:TypeId)(h:Sh K W w L):Sh K W w (.own E (⟨.slice none 0 0,[]⟩:Ls α)::L):=
 h.push (j2.refl _ _) ⟨World.ownsRow_nil w 0 E (zz.sz α),wX _,λi hi=>absurd hi (by simp)⟩ (λb hb=>by simp [zZ.own,Value.ownBlock] at hb) (λb hb=>by obtain ⟨i,hi,_⟩:=hb;exact absurd hi (by simp)) (λb hb=>by simp [zZ.own,Value.ownBlock] at hb)
theorem St.nil {α:Type}[zz α](E:TypeId)(h:St N K W a w F L):St N K W a w F (.own E (⟨.slice none 0 0,[]⟩:Ls α)::L):=⟨h.fr,h.sh.nil E⟩
class One (α:Type)[zz α]:Prop where
 one:∀(x:α) (w:World),zz.inner x w->∀q,q<zz.sz α->(zz.cell x q).oneCell' =true
instance : One Int:=⟨λ_ _ _ _ _=>rfl⟩
instance : One Bool:=⟨λ_ _ _ _ _=>rfl⟩
instance : One Ins:=⟨λx _ _ q _=>by match q with|0=>rfl|1=>rfl|2=>rfl|_+3=>rfl⟩
theorem Ls.At.one {s:Ls α}{w:World}(h:s.At w):s.v.oneCell' =true:=by
 obtain ⟨A,n,c,hv⟩:=h.form
 rw [hv];rfl
instance {β:Type}[zz β]:One (Ls β):=⟨λx w h q _=>Ls.At.one (s:=x) h⟩
theorem cells_one {v:Value}(h:v.oneCell' =true):v.cells= #[v]:=by cases v<;>first|rfl|cases h
theorem y7 {v:Value}(h:v.oneCell' =true):v.cells.toList= [v]:=by rw [cells_one h]
theorem zr {v:Value}{vs:List Value}(h:v.oneCell' =true)(hs:vs.all (·.oneCell')=true):(v::vs).all (·.oneCell')=true:=by simp only [List.all_cons,h,hs,Bool.and_self]
theorem qx :([]:List Value).all (·.oneCell')=true:=rfl
theorem yu {d:Nat}{T e:TypeId}{gg:Bool}{sz xf r rm:Nat}{z:List Value}{x y:Operand}{s m:Ls α}{B:zZ}{E:TypeId}(h:St N K W a w F L)(hT:QA P T=some e)(he:je P e=some (gg,sz,xf,z))(ho:o.op= .call ⟨.builtin .append, #[x,y], #[T,T]⟩)
  (hx:ev F x=some s.v) (hy:ev F y=some m.v) (hr:L[r]? =some (.own E s)) (hE:E=e) (Ay:L[rm]? =some B) (Qo:Nat.beq r rm=false) (hat:∀w,Sh K W w L->m.At w) (Wl:∀b,m.on b->B.fp b\/B.rd b) (hoi:∀q,q<m.l.length->∀b,zz.on (nth m.l q) b->B.rd b)
  (x3:zz.sz α=sz) (YM:Nat.blt 0 sz=true) (ER:z.length=sz) (h1:One α) (hn:(s.l.length+m.l.length)*xf<=140737488355328/\s.l.length+m.l.length<=140737488355328) (hd:o.dst=some d) (wz:Nat.blt d N=true):
  Ex P o a w (λa' w' =>∃v:Value,St N K W a' w' ((d,v)::F) (L.set r (.own E ⟨v,s.l++m.l⟩))):=by
 subst x3
 subst hE
 obtain ⟨i,ed,zv,hi,O0,_,x3,ma,BB,cM⟩:=qR he
 have WI:0<zz.sz α:=by simpa [yV] using YM
 obtain ⟨wP,hlen,Kj⟩:=h.sh.ok _ (zy hr)
 have gI:=h.sh.self _ (zy hr)
 have F9:=hat w h.sh
 have hu:=yS hT
 have de:(zZ.own E s).QT B:=by
  obtain ⟨l1,e1⟩:=List.getElem?_eq_some_iff.1 hr
  obtain ⟨l2,e2⟩:=List.getElem?_eq_some_iff.1 Ay
  have OF:r≠rm:=by rintro rfl;simp at Qo
  have dS:=List.pairwise_iff_getElem.1 h.sh.apart
  rw [<-e1,<-e2]
  rcases Nat.lt_or_gt_of_ne OF with qU|hgt
  ·exact dS r rm l1 l2 qU
  ·exact (dS rm r l2 l1 hgt).symm
 have EN:zv.cells.size=zz.sz α:=by rw [<-Array.length_toList,cM,ER]
 have key:∃v' w',(Builtin.append_ #[T,T] o.type #[s.v,m.v]).run P w= .ok v' w' /\w'.ownsRow 0 E (zz.sz α) v' (s.l.length+m.l.length) (qH s.l++qH m.l)/\w.grownBy w' s.v.ownBlock/\(∀b,v'.ownBlock=some b->s.v.ownBlock=some b\/w.heap.size<=b):=by
  obtain ⟨A,cap,Xf,Ia⟩:=F9
  cases A with
  |none=>
   have ON:m.l.length=0:=by
    rcases Hu m.l.length with h0|h0
    ·exact h0
    ·obtain ⟨b,hb,_⟩:=Ia.some h0;cases hb
   have U4:m.l= []:=JW ON
   refine ⟨s.v,w,?_,by rw [ON,U4,lH,k6];exact wP,⟨V,V,V,qC _,λ_ _ _=>rfl⟩,λb hb=> .inl hb⟩
   rw [Xf,ON]
   rcases wP.2 with ⟨hv,h0⟩|⟨g,c2,cur,hv,_,_,OG,_⟩
   ·rw [hv];simp [Builtin.append_,run_underlying hu,sizeOf,typeInfo,hi,Builtin.lenOf,Builtin.firstCells]
   ·rw [hv];simp [Builtin.append_,run_underlying hu,sizeOf,typeInfo,hi,Builtin.lenOf,Builtin.firstCells,OG,storeCells]
  |some ad=>
   have Gj:∀(j:Nat) (u:Value),(qH m.l)[j]? =some u->w.cell? (ad.add j)=some u:=by
    intro j u hj
    have Ti:j<m.l.length*zz.sz α:=by
     have:=(List.getElem?_eq_some_iff.1 hj).1
     rwa [qe] at this
    have hq:j/zz.sz α<m.l.length:=(Hw WI).2 Ti
    have Fu:j%zz.sz α<zz.sz α:=VH _ WI
    have Dw:j=(j/zz.sz α)*zz.sz α+j%zz.sz α:=by rw [Ho];exact (Bk _ _).symm
    obtain ⟨b,hb,Ux⟩:=Ia.some (Nat.lt_of_le_of_lt (wX _) hq)
    simp only [Qx] at hb
    subst hb
    have h2:=Q5 m.l (j/zz.sz α) (j%zz.sz α) hq Fu
    rw [<-Dw,hj] at h2
    have h3:=Ia.cell (j/zz.sz α) (j%zz.sz α) hq Fu
    rw [<-h2] at h3
    obtain ⟨zM,off,sp⟩:=ad
    simp only at Ux
    subst Ux
    rw [wD]
    have e:(⟨some ⟨zM,off,none⟩,cap,m.l⟩:Sl α).dJ (zz.sz α) (j/zz.sz α) (j%zz.sz α)=⟨zM,off+j,none⟩:=by
     have:off+(j/zz.sz α)*zz.sz α+j%zz.sz α=off+j:=by rw [Nat.add_assoc,<-Dw]
     simp [Sl.dJ,this]
    rw [<-e];exact h3
   have h1c:∀u∈qH m.l,u.oneCell' =true:=by
    intro u hu
    obtain ⟨x,EV,hx⟩:=List.mem_flatMap.1 hu
    obtain ⟨q,hq,rfl⟩:=List.mem_map.1 hx
    obtain ⟨qi,OA⟩:=kG EV
    have BU:=(List.getElem?_eq_some_iff.1 OA).1
    have hqx:nth m.l qi=x:=by rw [qq _ _ BU];exact (List.getElem?_eq_some_iff.1 OA).2
    exact h1.one x w (by rw [<-hqx];exact Ia.inner qi BU) q (by simpa using hq)
   have U6:s.l.length+m.l.length<=maxLen:=by unfold maxLen;omega
   have AB:(qH m.l).length=m.l.length*zz.sz α:=qe _
   obtain ⟨v',w',yN,Dt,iP,_⟩:=run_append_own (P:=P) w 0 T o.type E i zv (zz.sz α) xf hu hi BB x3 ma EN WI s.v s.l.length (qH s.l) wP ad m.l.length cap (qH m.l) AB Gj h1c U6 hn.1 (wX _)
   refine ⟨v',w',by rw [Xf];exact yN,Dt,iP,λb hb=>?_⟩
   rcases wP.2 with ⟨hv,h0⟩|⟨g,c2,cur,hv,_,hgc,OG,GX,XH,ig⟩
   ·have FQ:w.ownsRow w.heap.size E (zz.sz α) s.v s.l.length (qH s.l):=⟨wP.1,.inl ⟨hv,h0⟩⟩
    obtain ⟨v2,w2,iy,ho2,_⟩:=run_append_own (P:=P) w w.heap.size T o.type E i zv (zz.sz α) xf hu hi BB x3 ma EN WI s.v s.l.length (qH s.l) FQ ad m.l.length cap (qH m.l) AB Gj h1c U6 hn.1 (qC _)
    rw [yN] at iy
    injection iy with e1 e2
    subst e1
    exact .inr (ho2.lt b hb).1
   ·by_cases iz:s.l.length+m.l.length<=c2
    ·have l3:=run_append_room (P:=P) w T o.type E i hu hi g s.l.length c2 cur hgc ad m.l.length cap (qH m.l) (by rw [AB,x3]) Gj h1c iz (by rw [AB,x3,XH,<-GP];exact WV _ iz)
     rw [hv,l3] at yN
     injection yN with e1 e2
     subst e1
     left;rw [hv];exact hb
    ·have holds:∀(j:Nat) (u:Value),(qH s.l)[j]? =some u->w.cell? ((⟨g,0,none⟩:Addr).add j)=some u:=wP.cells (g:=g) (by rw [hv];rfl)
     have l3:=run_append_grow (P:=P) w T o.type E i zv hu hi BB ⟨g,0,none⟩ s.l.length c2 (qH s.l) (by rw [qe,x3]) holds ad m.l.length cap (qH m.l) (by rw [AB,x3]) Gj za (by unfold maxLen at U6;omega) (growslice_fits za (by rw [ma];exact hn.1))
     rw [hv,l3] at yN
     injection yN with e1 e2
     subst e1
     right
     have:w.heap.size=b:=by simpa [Value.ownBlock] using hb
     omega
 obtain ⟨v',w',yN,Dt,iP,nJ⟩:=key
 refine Ex.j8 (v:=v') (w' :=w') ?_ ⟨v',?_⟩
 ·unfold execOp
  simp only [ho,resolve,invoke,builtin,qS,q5,yQ,Bl,xA,wY,h.fr.ev hx,h.fr.ev hy,yN]
 ·rw [hd]
  have zcX:∀q,q<m.l.length->zz.inner (nth m.l q) w' :=λq hq=>zz.yB _ w w' (F9.inner q hq) λb hb=>by
   have DH:=hoi q hq b hb
   refine iP.block b (h.sh.lt (zy Ay) (.inr DH)) (λe=>?_)
   exact ((de b).1 e.symm).2 DH
  have zb8:∀q,q<s.l.length->zz.inner (nth s.l q) w' :=λq hq=>zz.yB _ w w' (Kj q hq) λb hb=>by
   refine iP.block b (h.sh.lt (zy hr) (.inr ⟨q,hq,hb⟩)) (λe=>?_)
   exact gI b e.symm ⟨q,hq,hb⟩
  have iD:∀b,(∃q,q<(s.l++m.l).length/\zz.on (nth (s.l++m.l) q) b)->(zZ.own E s).rd b\/B.rd b:=by
   rintro b ⟨q,hq,hb⟩
   rw [gr] at hb
   split at hb
   ·exact .inl ⟨q,zc,hb⟩
   ·exact .inr (hoi _ (by rw [yX] at hq;omega) b hb)
  refine ⟨h.fr.put d (by simpa [yV] using wz) _,h.sh.put hr (j2.grown iP (λk hk=>hk)) ⟨?_,?_,λq hq=>?_⟩ (λb hb=>nJ b hb) (λb hb=>?_) (λb hb xl=>?_)⟩
  ·show World.ownsRow _ 0 E _ v' (s.l++m.l).length (qH (s.l++m.l))
   rw [yX,vY];exact Dt
  ·show (s.l++m.l).length<=_
   rw [yX];exact hn.2
  ·show zz.inner (nth (s.l++m.l) q) w'
   rw [gr]
   have Vq:q<s.l.length+m.l.length:=by rw [<-yX];exact hq
   split
   ·exact zb8 q zc
   ·exact zcX _ za
  ·rcases iD b hb with hb|hb
   ·exact .inr (.inl hb)
   ·exact .inr (.inr (.inl ⟨B,zy Ay,hb⟩))
  ·rcases iD b xl with GW|GW
   ·rcases nJ b hb with hb|hb
    ·exact gI b hb GW
    ·have:=h.sh.lt (zy hr) (.inr GW);omega
   ·rcases nJ b hb with hb|hb
    ·exact ((de b).1 hb).2 GW
    ·have:=h.sh.lt (zy Ay) (.inr GW);omega
end
def zZ.deep {α:Type}[zz α](E:TypeId)(s:Ls α):zZ where
 fp b:=s.v.ownBlock=some b\/∃i,i<s.l.length/\zz.on (nth s.l i) b
 rd _:=False
 ok w:=w.ownsRow 0 E (zz.sz α) s.v s.l.length (qH s.l)/\s.l.length<=140737488355328/\(∀i,i<s.l.length->zz.inner (nth s.l i) w)/\∀b,s.v.ownBlock=some b->¬∃i,i<s.l.length/\zz.on (nth s.l i) b
 yB w w' h hb:=by
  obtain ⟨h1,h2,h3,h4⟩:=h
  refine ⟨⟨h1.1,?_⟩,h2,λi hi=>zz.yB _ w w' (h3 i hi) λb xl=>hb b (.inl (.inr ⟨i,hi,xl⟩)),h4⟩
  rcases h1.2 with hn|⟨g,cap,cur,hv,h0,hg,hr⟩
  ·exact .inl hn
  ·exact .inr ⟨g,cap,cur,hv,h0,(hb g (.inl (.inl (by rw [hv];rfl)))).trans hg,hr⟩
 lt w h b hb:=by
  obtain ⟨h1,h2,h3,_⟩:=h
  rcases hb with (hb|⟨i,hi,hb⟩)|hb
  ·exact (h1.lt b hb).2
  ·exact zz.lt _ w (h3 i hi) b hb
  ·exact hb.elim
section
variable {α:Type}[zz α]
theorem Ps {E:TypeId}{s:Ls α}(h:(zZ.deep E s).ok w):s.At w:=vE ⟨h.1,h.2.1,h.2.2.1⟩
theorem Sh.deep (h:Sh K W w L)(i:Nat){E:TypeId}{s:Ls α}(hi:L[i]? =some (.deep E s)):s.At w:=Ps (h.ok _ (zy hi))
theorem Sh.VY (E:TypeId)(h:Sh K W w L):Sh K W w (.deep E (⟨.slice none 0 0,[]⟩:Ls α)::L):=
 h.push (j2.refl _ _) ⟨World.ownsRow_nil w 0 E (zz.sz α),wX _,λi hi=>absurd hi (by simp),λb hb=>by simp [Value.ownBlock] at hb⟩ (λb hb=>by rcases hb with hb|⟨i,hi,_⟩;(simp [Value.ownBlock] at hb);exact absurd hi (by simp)) (λb hb=>hb.elim) (λb _ hb=>hb)
theorem St.VY {α:Type}[zz α](E:TypeId)(h:St N K W a w F L):St N K W a w F (.deep E (⟨.slice none 0 0,[]⟩:Ls α)::L):=⟨h.fr,h.sh.VY E⟩
theorem RA {d:Nat}{T e:TypeId}{gg:Bool}{xf:Nat}{z:List Value}{y:Operand}{E:TypeId}{x:Ls α}{A:zZ}(h:St N K W a w F (A::L))(hT:QA P T=some e)(he:je P e=some (gg,1,xf,z))(ER:z.length=1)(ho:o.op= .buildSlice T 1 #[(0,y)])
  (hy:ev F y=some x.v) (hat:x.At w) (Wl:∀b,x.on b->A.fp b) (zx4:∀b,¬A.rd b) (hd:o.dst=some d) (wz:Nat.blt d N=true):
  Ex P o a w (λa' w' =>∃v:Value,St N K W a' w' ((d,v)::F) (.deep e (⟨v,[x]⟩:Ls (Ls α))::L)):=by
 obtain ⟨i,ed,zv,hi,O0,_,x3,ma,BB,cM⟩:=qR he
 have hzv:zv.cells=z.toArray:=by rw [<-cM]
 have hf:Instr.fill (λi_1=>some (i_1*i.size,i.size)) ((Array.range (1*i.size)).map (zv.cells[· %zv.cells.size]!)) (#[(0,y)].map λ(i,x)=>(i,a.eval x)).toList=some #[x.v]:=by
  rw [x3]
  simp [Instr.fill,h.fr.ev hy,cells_one hat.one,Array.range_succ,Array.range_zero']
 have yN:=run_buildSlice (P:=P) w T e 1 _ #[x.v] i zv (yS hT) hi BB (by rw [x3];omega) (by rw [x3];omega) hf
 refine Ex.j8 (v:= .slice (some ⟨w.heap.size,0,none⟩) 1 1) (w' :=w.alloc (.cells #[x.v] e)) ?_ ⟨.slice (some ⟨w.heap.size,0,none⟩) 1 1,?_⟩
 ·unfold execOp
  simp only [ho,qS,yN,yQ,q5]
 ·rw [hd]
  have qU:∀b,x.on b->b<w.heap.size:=λb hb=>hat.lt hb
  have zit:∀b,(∃q,q< [x].length/\zz.on (nth [x] q) b)->x.on b:=by
   rintro b ⟨q,hq,hb⟩
   obtain rfl:q=0:=by simpa using hq
   exact hb
  refine ⟨h.fr.put d (by simpa [yV] using wz) _,Sh.step (Lp:= [A]) (L' := [.deep e ⟨.slice (some ⟨w.heap.size,0,none⟩) 1 1,[x]⟩]) h.sh (j2.alloc _ w _) ?_ ?_ (by simp [zZ.deep]) (by simp [zZ.deep]) (WX _ _)⟩
  ·intro B hB
   simp only [Bn] at hB
   subst hB
   refine ⟨⟨V,.inr ⟨w.heap.size,1, #[x.v],V,wX _,Go.heap_alloc_new w _,qC _,by unfold maxLen;omega,V,V⟩⟩,by show 1<=_;omega,λq hq=>?_,λb hb xl=>?_⟩
   ·obtain rfl:q=0:=by simpa using hq
    exact hat.yB λb hb=>Hp w _ b (qU b hb)
   ·have h1:w.heap.size=b:=by simpa [Value.ownBlock] using hb
    have:=qU b (zit b xl)
    omega
  ·intro B hB b hb
   simp only [Bn] at hB
   subst hB
   rcases hb with hb|hb
   ·have h1:w.heap.size=b:=by simpa [Value.ownBlock] using hb
    right;omega
   ·exact .inl ⟨A,by simp,Wl b (zit b hb)⟩
theorem RB {d:Nat}{T e:TypeId}{gg:Bool}{sz xf:Nat}{z:List Value}{x y:Operand}{s m:Ls α}{E:TypeId}(h:St N K W a w F (.deep E s:: .deep e m::L))(hT:QA P T=some e)(he:je P e=some (gg,sz,xf,z))(ho:o.op= .call ⟨.builtin .append, #[x,y], #[T,T]⟩)
  (hx:ev F x=some s.v) (hy:ev F y=some m.v) (hE:E=e) (x3:zz.sz α=sz) (YM:Nat.blt 0 sz=true) (ER:z.length=sz) (h1:One α) (hn:(s.l.length+m.l.length)*xf<=140737488355328/\s.l.length+m.l.length<=140737488355328) (hd:o.dst=some d) (wz:Nat.blt d N=true):
  Ex P o a w (λa' w' =>∃v:Value,St N K W a' w' ((d,v)::F) (.deep E (⟨v,s.l++m.l⟩:Ls α)::L)):=by
 have hs:=h.sh
 have ij:=hs.ok (.deep E s) (by simp)
 have hmd:=hs.ok (.deep e m) (by simp)
 have dS:=List.pairwise_cons.1 hs.apart
 have zp4:=List.pairwise_cons.1 dS.2
 have de:=dS.1 (.deep e m) (by simp)
 let As:zZ:=⟨λ_=>False,λb=>∃i,i<s.l.length/\zz.on (nth s.l i) b,λw=>∀i,i<s.l.length->zz.inner (nth s.l i) w,λw w' h hb i hi=>zz.yB _ w w' (h i hi) λb xl=>hb b (.inr ⟨i,hi,xl⟩),λw h b hb=>hb.elim (λh=>h.elim) λ⟨i,hi,hb⟩=>zz.lt _ w (h i hi) b hb⟩
 have S6:Sh K W w (.own E s:: .own e m::L):=by
  refine Sh.step (Lp:= [.deep E s,.deep e m]) (L' := [.own E s,.own e m]) hs (j2.refl _ _) ?_ ?_ ?_ ?_ ?_
  ·intro A hA
   simp only [z6,qd,or_false] at hA
   rcases hA with rfl|rfl
   ·exact ⟨ij.1,ij.2.1,ij.2.2.1⟩
   ·exact ⟨hmd.1,hmd.2.1,hmd.2.2.1⟩
  ·intro A hA b hb
   simp only [z6,qd,or_false] at hA
   rcases hA with rfl|rfl
   ·exact .inl ⟨.deep E s,by simp,Or.inl hb⟩
   ·exact .inl ⟨.deep e m,by simp,Or.inl hb⟩
  ·intro A hA b hb
   simp only [z6,qd,or_false] at hA
   rcases hA with rfl|rfl
   ·exact .inl ⟨.deep E s,by simp,.inl (.inr hb)⟩
   ·exact .inl ⟨.deep e m,by simp,.inl (.inr hb)⟩
  ·intro A hA b hb xl
   simp only [z6,qd,or_false] at hA
   rcases hA with rfl|rfl
   ·exact ij.2.2.2 b hb xl
   ·exact hmd.2.2.2 b hb xl
  ·refine List.pairwise_cons.2 ⟨λB hB b=>?_,WX _ _⟩
   simp only [Bn] at hB
   subst hB
   exact ⟨λhb=>⟨λxl=>((de b).1 (.inl hb)).1 (.inl xl),λxl=>((de b).1 (.inl hb)).1 (.inr xl)⟩,λhb xl=>((de b).1 (.inr xl)).1 (.inl hb)⟩
 have MN:=yu (r:=0) (rm:=1) (s:=s) (m:=m) (E:=E) (⟨h.fr,S6⟩:St N K W a w F _) hT he ho hx hy V hE V V (λw h=>h.own 1 V) (λb hb=>qt (S6.ok (.own e m) (by simp)) hb) (λq hq b hb=>⟨q,hq,hb⟩) x3 YM ER h1 hn hd wz
 intro next Q l5
 refine MN next Q λa' w' ⟨v,hst⟩=>l5 a' w' ⟨v,hst.fr,?_⟩
 have hp:=List.pairwise_cons.1 hst.sh.apart
 have hp2:=List.pairwise_cons.1 hp.2
 have gI:=hst.sh.self (.own E ⟨v,s.l++m.l⟩) (by simp)
 have iD:∀b,(∃q,q<(s.l++m.l).length/\zz.on (nth (s.l++m.l) q) b)->(zZ.deep E s).fp b\/(zZ.deep e m).fp b:=by
  rintro b ⟨q,hq,hb⟩
  rw [gr] at hb
  split at hb
  ·exact .inl (.inr ⟨q,zc,hb⟩)
  ·exact .inr (.inr ⟨_,by rw [yX] at hq;omega,hb⟩)
 refine ⟨hst.sh.J6,?_,?_,?_,List.pairwise_cons.2 ⟨?_,hp2.2⟩⟩
 ·intro A hA
  rcases List.mem_cons.1 hA with rfl|hA
  ·have Dt:=hst.sh.ok (.own E ⟨v,s.l++m.l⟩) (by simp)
   exact ⟨Dt.1,Dt.2.1,Dt.2.2,λb hb xl=>gI b hb xl⟩
  ·exact hst.sh.ok A (by simp [hA])
 ·intro A hA b hb
  rcases List.mem_cons.1 hA with rfl|hA
  ·rcases hb with hb|hb
   ·exact hst.sh.Zj (.own E ⟨v,s.l++m.l⟩) (by simp) b hb
   ·rcases iD b hb with hb|hb
    ·exact hs.Zj _ (by simp) b hb
    ·exact hs.Zj (.deep e m) (by simp) b hb
  ·exact hst.sh.Zj A (by simp [hA]) b hb
 ·intro A hA b hb
  rcases List.mem_cons.1 hA with rfl|hA
  ·exact λh=>h
  ·exact hst.sh.self A (by simp [hA]) b hb
 ·intro B hB b
  have a1:=hp.1 B (by simp [hB]) b
  have a2:=dS.1 B (by simp [hB]) b
  have a3:=zp4.1 B hB b
  refine ⟨λhb=>?_,λhb h=>h⟩
  rcases hb with hb|hb
  ·exact a1.1 hb
  ·rcases iD b hb with hb|hb
   ·exact a2.1 hb
   ·exact a3.1 hb
end
theorem q8 {T:TypeId}{parts:List (Nat×Operand)}{pv:List (Nat×Value)}{cs:List Value}(ho:o.op= .build T parts.toArray)(hx:u5 F parts=some pv)(hb:P.built T pv=some cs.toArray):Rn P o N K W F L (.agg cs.toArray):=λa w h=>by
 have yN:(Instr.build T (parts.toArray.map λ(i,x)=>(i,a.eval x))).run P w= .ok (.agg cs.toArray) w:=by
  exact run_build (P:=P) w T _ cs.toArray (by rw [h.fr.u5 hx,hb])
 unfold execOp
 simp only [ho,qS,yN,yQ,q5]
def zgz (v:Value):Bool:=match v with| .slice none _ _=>true|_=>false
theorem R8 {α:Type}[zz α]{s:Ls α}{w:World}(h:s.At w)(hn:zgz s.v=true):s.l= []:=by
 obtain ⟨A,cap,hv,hA⟩:=h
 rw [hv] at hn
 cases A with
 |some _=>cases hn
 |none=>
  rcases Hu s.l.length with h0|h0
  ·exact JW h0
  ·obtain ⟨b,hb,_⟩:=hA.some h0;cases hb
theorem cj {α:Type}[zz α]{T U e:TypeId}{x y:Operand}{s:Ls α}(hT:QA P T=some e)(ho:o.op= .binOp .eql T x y U)(hx:ev F x=some s.v)(hy:ev F y=some (.slice none 0 0))(hat:∀w,Sh K W w L->s.At w):Rn P o N K W F L (.bool (zgz s.v)):=λa w h=>by
 obtain ⟨A,n,c,hv⟩:=(hat w h.sh).form
 have e1:=h.fr.ev hx
 rw [hv] at e1⊢
 have hr:=Lib.run_eql_slice_nil w T e A n c 0 0 (yS hT)
 unfold execOp
 simp only [ho,e1,h.fr.ev hy,eqGuard_at_slice,qS,q5,yQ,hr]
 cases A<;>rfl
theorem zgi {T U:TypeId}{x y:Operand}{u v:Value}{b:Bool}(ho:o.op= .binOp .eql T x y U)(hx:ev F x=some u)(hy:ev F y=some v)(hg:∀w,(eqGuard .eql T x y u v).run P w= .ok () w)(hb:∀w,(binOp .eql T u v).run P w= .ok (.bool b) w):Rn P o N K W F L (.bool b):=λa w h=>by
 unfold execOp
 simp only [ho,h.fr.ev hx,h.fr.ev hy,qS,q5,yQ,hg,hb]
theorem lL {f:FuncId}(h:zN P f=true):∃fn,P.funcs[f]? =some fn/\(fn.name== "runtime.NumGoroutine")=false/\fn.body.isNone=false:=by
 unfold zN at h
 split at h
 ·rename_i fn hf
  simp only [qI,wE] at h
  exact ⟨fn,hf,h.1,by simpa using h.2⟩
 ·cases h
theorem Za {f:FuncId}(h:zN P f=true)(args:Array Value)(w:World):(callFunc f args).run P w= .ok (.enter f args) w:=by
 obtain ⟨fn,hf,h1,h2⟩:=lL h
 simp only [callFunc,qS,run_program,yQ,hf,h1,h2,Bool.false_eq_true,if_false,q5]
def zP (P:Program)(f:FuncId)(vs:List Value)(w:World)(R:Value->World->Prop):Prop:=Calls P f vs.toArray w λe w' =>∃v,e= .returned v/\R v w'
theorem zP.mono {f:FuncId}{vs:List Value}{R R' :Value->World->Prop}(h:zP P f vs w R)(hr:∀v w',R v w' ->R' v w'):zP P f vs w R' :=gJ h λ_ _ ⟨v,e,r⟩=>⟨v,e,hr v _ r⟩
theorem dD {f:FuncId}{fo:Operand}{xs:List Operand}{HD:Array TypeId}{us vs ws:List Value}{R:Value->World->Prop}(h:Fr N a F)(hb:zN P f=true)(ho:o.op= .call ⟨.value fo,xs.toArray,HD⟩)(hf:ev F fo=some (.func (.func f) us.toArray ws.toArray))
  (hx:G1 F xs=some vs) (hc:zP P f (us++vs++ws) w R):Ex P o a w (λa' w' =>∃v,R v w' /\a' =a.put o.dst v):=by
 intro next Q hn
 unfold Oper.wp
 have yN:(execOp a.eval o).run P w= .ok (.enter f (us++vs++ws).toArray) w:=by
  unfold execOp
  simp [ho,resolve,h.ev hf,h.G1 hx,Deferred.ofValue,invoke,Za hb]
 rw [yN]
 show Calls P f (us++vs++ws).toArray w _
 exact gJ hc λe w' ⟨v,he,hr⟩=>by subst he;exact hn _ _ ⟨v,hr,V⟩
theorem zD {d f:Nat}{fo:Operand}{xs:List Operand}{HD:Array TypeId}{us vs ws:List Value}{R:Value->World->Prop}(h:St N K W a w F L)(hb:zN P f=true)(ho:o.op= .call ⟨.value fo,xs.toArray,HD⟩)(hf:ev F fo=some (.func (.func f) us.toArray ws.toArray))
  (hx:G1 F xs=some vs) (hd:o.dst=some d) (wz:Nat.blt d N=true) (hc:zP P f (us++vs++ws) w R):Ex P o a w (λa' w' =>∃v,R v w' /\Fr N a' ((d,v)::F)):=
 (dD h.fr hb ho hf hx hc).mono λa' w' ⟨v,hr,e⟩=>⟨v,hr,by rw [e,hd];exact h.fr.put d (by simpa [yV] using wz) v⟩
theorem Sh.call {w' :World}(h:Sh K W w L)(h' :qM w w' L')(Ye:∀A∈L',∀b,A.rd b->w.heap.size<=b\/∃B∈L,B.rd b):Sh K W w' (L' ++L):=
 Sh.step (Lp:= []) (Lr:=L) (L' :=L') h (h'.J6.mono λ_ h=>h.elim) h'.ok (λA hA b hb=> .inr ((h'.Zj A hA b hb).resolve_left (λh=>h)))
  (λA hA b hb=>(Ye A hA b hb).elim (λh=> .inr (.inr h)) (λh=> .inr (.inl h))) h'.self h'.apart
theorem Sh.jv {w' :World}(h:Sh K W w L)(h' :qM w w' []):Sh K W w' L:=h.call h' (by simp)
theorem qM.start (w:World):qM w w []:=⟨j2.refl _ _,by simp,by simp,by simp,.nil⟩
theorem qM.ext {w:World}{L:List zZ}(zR:∀A∈L,A.ok w)(J0:∀A∈L,∀b,¬A.fp b):qM w w L:=by
 refine ⟨j2.refl _ _,zR,λA hA b hb=>(J0 A hA b hb).elim,λA hA b hb=>(J0 A hA b hb).elim,?_⟩
 rw [lS]
 intro i j hi hj _ b
 exact ⟨λh=>(J0 _ (WU hi) b h).elim,λh=>(J0 _ (WU hj) b h).elim⟩
section
variable {α β γ δ:Type}[zz α][zz β][zz γ][zz δ]{s:Ls α}{t:Ls β}{u:Ls γ}{v:Ls δ}{w:World}
theorem qM.ext1 (h1:s.At w):qM w w [.at_ s]:=qM.ext (by intro A hA;simp at hA;subst hA;exact h1) (by intro A hA b hb;simp at hA;subst hA;exact hb)
theorem qM.Jo (h1:s.At w)(h2:t.At w):qM w w [.at_ s,.at_ t]:=qM.ext (by intro A hA;simp at hA;rcases hA with rfl|rfl;exact h1;exact h2) (by intro A hA b hb;simp at hA;rcases hA with rfl|rfl<;>exact hb)
theorem qM.zsF (h1:s.At w)(h2:t.At w)(h3:u.At w)(h4:v.At w):qM w w [.at_ s,.at_ t,.at_ u,.at_ v]:=qM.ext (by intro A hA;simp at hA;rcases hA with rfl|rfl|rfl|rfl;exact h1;exact h2;exact h3;exact h4) (by intro A hA b hb;simp at hA;rcases hA with rfl|rfl|rfl|rfl<;>exact hb)
end
class Flat (α:Type)[zz α]:Prop where
 on:∀(x:α) (b:Nat),¬zz.on x b
 inner:∀(x:α) (w:World),zz.inner x w
instance : Flat Int:=⟨λ_ _ h=>h,λ_ _=>trivial⟩
instance : Flat Bool:=⟨λ_ _ h=>h,λ_ _=>trivial⟩
instance : Flat Ins:=⟨λ_ _ h=>h,λ_ _=>trivial⟩
theorem Flat.qh {α:Type}[zz α][Flat α]{E:TypeId}{s:Ls α}{X:Prop}{b:Nat}(h:(zZ.own E s).rd b):X:=by
 obtain ⟨i,_,hi⟩:=h
 exact (Flat.on _ _ hi).elim
class pI (A:zZ):Prop where
 no:∀b,¬A.rd b
instance {α:Type}[zz α][Flat α]{E:TypeId}{s:Ls α} :pI (.own E s):=⟨λ_ h=>Flat.qh h⟩
instance {g:Nat}{E:TypeId}{cs:List Value} :pI (.zM g E cs):=⟨λ_ h=>h⟩
instance {α:Type}[zz α]{E:TypeId}{s:Ls α} :pI (.deep E s):=⟨λ_ h=>h⟩
class JX (L:List zZ):Prop where
 no:∀A∈L,∀b,¬A.rd b
instance : JX []:=⟨λA hA=>(by cases hA)⟩
instance {A:zZ}{L:List zZ}[pI A][JX L]:JX (A::L):=⟨λB hB b hb=>by
 rcases List.mem_cons.1 hB with rfl|hB
 ·exact pI.no b hb
 ·exact JX.no B hB b hb⟩
class P0 (A:zZ)(L:List zZ):Prop where
 mem:A∈L
instance {A:zZ}{L:List zZ} :P0 A (A::L):=⟨xx ..⟩
instance {A B:zZ}{L:List zZ}[h:P0 A L]:P0 A (B::L):=⟨xe _ h.mem⟩
class HU (L' Lp:List zZ):Prop where
 sub:∀C∈L',∀b,C.rd b->∃B∈Lp,B.fp b\/B.rd b
instance {Lp:List zZ} :HU [] Lp:=⟨λA hA=>(by cases hA)⟩
instance {A:zZ}{L Lp:List zZ}[h:P0 A Lp][HU L Lp]:HU (A::L) Lp:=⟨λC hC b hb=>by
 rcases List.mem_cons.1 hC with rfl|hC
 ·exact ⟨_,h.mem,.inr hb⟩
 ·exact HU.sub C hC b hb⟩
instance {A:zZ}{L Lp:List zZ}[pI A][HU L Lp]:HU (A::L) Lp:=⟨λC hC b hb=>by
 rcases List.mem_cons.1 hC with rfl|hC
 ·exact (pI.no b hb).elim
 ·exact HU.sub C hC b hb⟩
theorem Sh.Hj {K:Nat->Prop}{W w w' :World}{L L' :List zZ}[JX L'](h:Sh K W w L)(h' :qM w w' L'):Sh K W w' (L' ++L):=h.call h' λA hA b hb=>(JX.no A hA b hb).elim
theorem qE {c:Code}(I:Nat->Act->World->Prop)(h0:∃n,I n a w)(round:∀n a w,I n a w->c.wp P (Exit.then (λa' w' =>∃m,m<n/\I m a' w') Q) a w):(Code.loop c).wp P Q a w:=by
 classical
 have least:∀a w,(∃n,I n a w)->∃n,I n a w/\∀m,I m a w->n<=m:=by
  intro a w ⟨n,hn⟩
  induction n using Nat.strongRecOn with
  |_ n ih=>
   by_cases h:∃m,m<n/\I m a w
   ·obtain ⟨m,hm,hI⟩:=h
    exact ih m hm hI
   ·exact ⟨n,hn,λm hm=>Nat.le_of_not_lt λqU=>h ⟨m,qU,hm⟩⟩
 let μ:Act->World->Nat:=λa w=>if h:∃n,I n a w then (least a w h).choose else 0
 have hμ:∀a w (h:∃n,I n a w),I (μ a w) a w/\∀m,I m a w->μ a w<=m:=by
  intro a w h
  have e:μ a w=(least a w h).choose:=dif_pos h
  rw [e]
  exact (least a w h).choose_spec
 refine wp_loop (λa w=>∃n,I n a w) μ h0 λa w hI=>?_
 refine Code.wp_mono (λe a' w' hq=>?_) (round _ a w (hμ a w hI).1)
 cases e with
 |normal=>
  obtain ⟨m,hm,hI'⟩:=hq
  exact ⟨⟨m,hI'⟩,Nat.lt_of_le_of_lt ((hμ a' w' ⟨m,hI'⟩).2 m hI') hm⟩
 |_=>exact hq
theorem mi {c:Operand}{x y:Code}{b:Bool}(h:St N K W a w F L)(hc:ev F c=some (.bool b))(ht:b=true->x.wp P Q a w)(hf:b=false->y.wp P Q a w):(Code.cond c x y).wp P Q a w:=wp_cond_split (h.fr.ev hc) ht hf
theorem M3 {c:Operand}{x y:Code}{b:Bool}(h:St N K W a w F L)(hc:ev F c=some (.bool b))(hb:b=true)(ht:x.wp P Q a w):(Code.cond c x y).wp P Q a w:=by subst hb;exact wp_cond_true (h.fr.ev hc) ht
theorem bN {c:Operand}{x y:Code}{b:Bool}(h:St N K W a w F L)(hc:ev F c=some (.bool b))(hb:b=false)(hf:y.wp P Q a w):(Code.cond c x y).wp P Q a w:=by subst hb;exact wp_cond_false (h.fr.ev hc) hf
theorem zH {n:Nat}{I:Nat->Act->World->Prop}{Q:Exit->Act->World->Prop}(h:∃m,m<n/\I m a w):Exit.then (λa' w' =>∃m,m<n/\I m a' w') Q .normal a w:=h
theorem pN {f:FuncId}{fn:Func}{c:Code}{vs:List Value}{R:Value->World->Prop}{N:Nat}(hf:P.funcs[f]? =some fn)(hb:fn.body=some c)(hN:fn.ntmps=N)(hl:vs.length<=N)
  (h:∀a,Fr N a ((vs.zipIdx 0).map λx=>(x.2,x.1))->c.wp P (bodyPost P fn λe w' =>∃v,e= .returned v/\R v w') a w):zP P f vs w R:=by
 refine calls_of_wp hf hb (h _ ⟨?_,V,λt v SG=>?_⟩)
 ·simp [hN];omega
 ·have key:∀(vs:List Value) (k t:Nat) (v:Value),lk ((vs.zipIdx k).map λx=>(x.2,x.1)) t=some v->k<=t/\vs[t-k]? =some v:=by
   intro vs
   induction vs with
   |nil=>intro k t v h;simp [lk] at h
   |cons x r ih=>
    intro k t v h
    rw [List.zipIdx_cons,xA,vv] at h
    by_cases e:k=t
    ·subst e;simp at h;simp [h]
    ·rw [if_neg e] at h
     obtain ⟨h1,h2⟩:=ih (k+1) t v h
     refine ⟨za,?_⟩
     have:t-k=(t-(k+1))+1:=za
     rw [this,JT];exact h2
  obtain ⟨_,h2⟩:=key vs 0 t v SG
  rw [Nat.sub_zero] at h2
  have qU:=(List.getElem?_eq_some_iff.1 h2).1
  rw [Array.getElem?_append_left (by simpa using qU)]
  simpa using h2
theorem zu {fn:Func}{t:Nat}{v:Value}{R:Value->World->Prop}(hs:fn.results= #[.tmp t])(h:St N K W a w F L)(ht:lk F t=some v)(hR:R v w):bodyPost P fn (λe w' =>∃v,e= .returned v/\R v w') .ret a w:=by
 refine ⟨h.fr.defers,v,?_,v,V,hR⟩
 rw [results_tmp hs]
 have:=h.fr.at_ t v ht
 simp [x7,this]
theorem Vc {fn:Func}{R:Value->World->Prop}(hs:fn.results= #[])(h:St N K W a w F L)(hR:R (.tuple #[]) w):bodyPost P fn (λe w' =>∃v,e= .returned v/\R v w') .ret a w:=⟨h.fr.defers,_,results_none hs _ _ _,_,V,hR⟩
theorem qj {fn:Func}{R:Value->World->Prop}(hs:fn.results= #[])(h:St N K W a w F L)(hR:R (.tuple #[]) w):bodyPost P fn (λe w' =>∃v,e= .returned v/\R v w') .normal a w:=⟨h.fr.defers,_,results_none hs _ _ _,_,V,hR⟩
theorem WY {fn:Func}{t u:Nat}{v v' :Value}{R:Value->World->Prop}(hs:fn.results= #[.tmp t,.tmp u])(h:St N K W a w F L)(ht:lk F t=some v)(hu:lk F u=some v')(hR:R (.tuple #[v,v']) w):bodyPost P fn (λe w' =>∃v,e= .returned v/\R v w') .ret a w:=by
 refine ⟨h.fr.defers,.tuple #[v,v'],?_,_,V,hR⟩
 rw [results_tmp2 hs]
 have h1:=h.fr.at_ t v ht
 have h2:=h.fr.at_ u v' hu
 simp [x7,h1,h2]
theorem HW {fn:Func}{t T g i n xf:Nat}{E:TypeId}{z cs:List Value}{R:Value->World->Prop}(hT:je P T=some (true,n,xf,z))(hs:fn.results= #[.cell t T])(h:St N K W a w F L)(ht:lk F t=some (.pointer (some ⟨g,0,none⟩)))
  (hi:L[i]? =some (.zM g E cs)) (hn:cs.length=n) (hR:R (.agg cs.toArray) w):bodyPost P fn (λe w' =>∃v,e= .returned v/\R v w') .ret a w:=by
 obtain ⟨ti,d,zv,EZ,hd,hg,x3,_⟩:=qR hT
 refine ⟨h.fr.defers,.agg cs.toArray,?_,_,V,hR⟩
 have hld:=run_loadVar_row (P:=P) w g E T cs.toArray (0,0) d (h.sh.zM i hi) hd (by cases d<;>simp_all [An]) (by rw [EZ];simp [x3,hn])
 have h1:a.tmps[t]?.getD undef= .pointer (some ⟨g,0,none⟩):=by
  rw [h.fr.at_ t _ ht];rfl
 simp [results,hs,asAddr,h1,hld]
end
def dO (S:Nat->Bool)(i:Nat):Nat->Bool:=λj=>bif Nat.beq j i then true else S j
theorem qV (S:Nat->Bool)(i:Nat):dO S i i=true:=by simp [dO]
theorem Xd {S:Nat->Bool}{i j:Nat}(h:Nat.beq j i=false):dO S i j=S j:=by simp [dO,h]
theorem Xs {S:Nat->Bool}{i j:Nat}(h:S j=true):dO S i j=true:=by unfold dO;cases Nat.beq j i<;>simp [h]
def Xm :List Oper->Nat->Bool
 | [],_=>true
 |o::r,i=>(o.after.all λe=> !Region.binds .any e||Nat.blt e.on i)&&Xm r (i+1)
theorem Yf :∀(l:List Oper) (k i:Nat) (o:Oper),Xm l k=true->l[i]? =some o->∀e∈o.after,Region.binds .any e=true->e.on<k+i
 | [],_,_,_,_,h=>by simp at h
 |x::r,k,0,o,hd,h=>by
  simp only [bK,Qx] at h
  subst h
  intro e he hb
  simp only [Xm,qI] at hd
  have:=(Array.all_eq_true_iff_forall_mem.1 hd.1) e he
  simp only [hb,Bool.not_true,Bool.false_or,yV] at this
  exact this
 |x::r,k,i+1,o,hd,h=>by
  simp only [JT] at h
  simp only [Xm,qI] at hd
  intro e he hb
  have:=Yf r (k+1) i o hd.2 h e he hb
  omega
def jw (ops:List Oper)(S:Nat->Bool):Prop:=∀(i:Nat) (o:Oper),ops[i]? =some o->S i=true->∀e∈o.after,Region.binds .any e=true->S e.on=true
section
variable {P:Program}{N:Nat}{K:Nat->Prop}{W w:World}{a:Act}{F F' :List (Nat×Value)}{L L' :List zZ}{o:Oper}{Q:Exit->Act->World->Prop}
def Jw (P:Program)(ops:List Oper)(Q:Exit->Act->World->Prop)(o:Oper)(a:Act)(w:World)(next:Act->World->Prop):Prop:=
 if Region.wanted o (yielded ops.toArray a.tmps) then o.wp P a w next Q else next (a.put o.dst undef) w
theorem Wz {id:Nat}{ops:List Oper}(I:(Nat->Bool)->Act->World->Prop)(hm:P.follows .mixedOrders=true)(hd:Xm ops 0=true)(h0:I (λ_=>false) a w.drew)
  (sj:∀(S:Nat->Bool) (i:Nat) (o:Oper),ops[i]? =some o->S i=false->jw ops S->(∀e∈o.after,Region.binds .any e=true->S e.on=true)->∀a w,I S a w->Jw P ops Q o a w (I (dO S i)))
  (oz:∀(S:Nat->Bool),(∀i,i<ops.length->S i=true)->∀a w,I S a w->Q .normal a w):(Code.region id ops.toArray true).wp P Q a w:=by
 refine wp_region_any hm ?_
 have key:∀(fuel:Nat) (listed:Array Bool) (a:Act) (w:World),listed.size=ops.length->(listed.toList.count false)<=fuel->jw ops (λj=>listed.getD j false)->I (λj=>listed.getD j false) a w->
   wpAny P .any ops.toArray Q fuel listed a w:=by
  have zkH:∀(listed:Array Bool),listed.size=ops.length->Region.ready .any ops.toArray listed= []->∀i,i<ops.length->listed.getD i false=true:=by
   intro listed x3 hr i
   induction i using Nat.strongRecOn with
   |_ i ih=>
    intro hi
    cases hl:listed.getD i false with
    |true=>rfl
    |false=>
     exfalso
     have Du:i∈Region.ready .any ops.toArray listed:=by
      unfold Region.ready
      rw [List.mem_filter]
      refine ⟨by simpa using hi,?_⟩
      have qU:i<listed.size:=za
      have e1:listed.getD i true=false:=by
       simp only [x7,Xa qU] at hl⊢;exact hl
      have e2:ops.toArray[i]? =some ops[i]:=by simp [hi]
      rw [e1,e2]
      simp only [Bool.not_false,ZJ,Hq,Bool.true_and]
      rw [Array.all_eq_true_iff_forall_mem]
      intro e he
      cases hb:Region.binds .any e with
      |false=>rfl
      |true=>
       have h1:=Yf ops 0 i ops[i] hd (QS hi) e he hb
       simp only [WS] at h1
       simp [ih e.on h1 za]
     rw [hr] at Du
     cases Du
  intro fuel
  induction fuel with
  |zero=>
   intro listed a w x3 hc qg hI
   have zO:∀i,i<ops.length->listed.getD i false=true:=by
    intro i hi
    have qU:i<listed.size:=za
    have hc0:listed.toList.count false=0:=za
    rw [List.count_eq_zero] at hc0
    have:listed[i]≠false:=λe=>hc0 (by rw [<-e];simp)
    simp only [x7,Xa qU,Hq]
    cases hh:listed[i]<;>simp_all
   refine ⟨?_,oz _ zO a w hI⟩
   unfold Region.ready
   rw [List.filter_eq_nil_iff]
   intro i hi
   have wm:i<ops.length:=by simpa using hi
   have qU:i<listed.size:=za
   have:=zO i wm
   have e1:listed.getD i true=true:=by
    simp only [x7,Xa qU] at this⊢;exact this
   simp [e1]
  |succ fuel ih=>
   intro listed a w x3 hc qg hI
   refine ⟨λhr=>oz _ (zkH listed x3 hr) a w hI,λi hi=>?_⟩
   unfold Region.ready at hi
   rw [List.mem_filter] at hi
   obtain ⟨uN,Dy⟩:=hi
   have wm:i<ops.length:=by simpa using uN
   have qU:i<listed.size:=za
   have e2:ops.toArray[i]? =some ops[i]:=by simp [wm]
   rw [e2] at Dy
   simp only [ZJ,Hq,qI,wE,Array.all_eq_true_iff_forall_mem] at Dy
   have qn:listed.getD i false=false:=by
    have:=Dy.1
    simp only [x7,Xa qU] at this⊢;exact this
   have zX:∀e∈ops[i].after,Region.binds .any e=true->listed.getD e.on false=true:=by
    intro e he hb
    have:=Dy.2 e he
    simpa [hb] using this
   have hs:=sj (λj=>listed.getD j false) i ops[i] (QS wm) qn qg zX a w hI
   have zg9:(λj=>(listed.setIfInBounds i true).getD j false)=dO (λj=>listed.getD j false) i:=by
    funext j
    simp only [dO,x7,wG]
    by_cases e:i=j
    ·subst e;simp [qU]
    ·have e' :j≠i:=λh=>e h.symm
     simp [e,Js e']
   have iG:∀a' w',I (dO (λj=>listed.getD j false) i) a' w' ->wpAny P .any ops.toArray Q fuel (listed.setIfInBounds i true) a' w' :=by
    intro a' w' h'
    refine ih _ a' w' (by simpa using x3) ?_ ?_ (by rw [zg9];exact h')
    ·rw [Array.toList_setIfInBounds]
     have hli:listed.toList[i]'(by simpa using qU)=false:=by
      simp only [x7,Xa qU,Hq] at qn
      simpa using qn
     have:=List.count_set (a:=true) (b:=false) (l:=listed.toList) (i:=i) (by simpa using qU)
     rw [hli] at this
     have AG:=hc
     simp at this AG⊢
     omega
    ·rw [zg9]
     intro j oj hj hSj e he hb
     by_cases e1:j=i
     ·subst e1
      rw [QS wm] at hj
      cases hj
      exact Xs (zX e he hb)
     ·rw [Xd (Js e1)] at hSj
      exact Xs (qg j oj hj hSj e he hb)
   unfold wpOp
   rw [e2]
   unfold Jw at hs
   simp only
   split
   ·rename_i hw
    rw [if_pos hw] at hs
    exact .inl (Oper.wp_mono iG hs)
   ·rename_i hw
    rw [if_neg hw] at hs
    exact iG _ _ hs
 have zhO:(λj=>(Array.replicate ops.length false).getD j false)=λ_=>false:=by
  funext j
  simp only [x7,Bq]
  split<;>rfl
 have:=key ops.length (Array.replicate ops.length false) a w.drew (by simp) (by simp) (by rw [zhO];intro i o _ h;cases h) (by rw [zhO];exact h0)
 simpa using this
structure kH (N:Nat)(S:Nat->Bool)(F0:List (Nat×Value))(wZ:List (Nat×Nat×Value))(a:Act):Prop where
 yv:Fr N a F0
 at_:∀(k j d:Nat) (v:Value),wZ[k]? =some (j,d,v)->S j=true->a.tmps[d]? =some v
theorem kH.start {F0:List (Nat×Value)}{wZ:List (Nat×Nat×Value)}(h:Fr N a F0):kH N (λ_=>false) F0 wZ a:=⟨h,λ_ _ _ _ _ h=>by cases h⟩
theorem Fr.cons {d:Nat}{v:Value}(h:Fr N a F)(hd:a.tmps[d]? =some v):Fr N a ((d,v)::F):=by
 refine ⟨h.size,h.defers,λt u Di=>?_⟩
 rw [vv] at Di
 by_cases e:d=t
 ·subst e;simp at Di;subst Di;exact hd
 ·rw [if_neg e] at Di;exact h.at_ t u Di
def Jf :List Nat->Bool
 | []=>true
 |x::r=> !(r.any (Nat.beq x))&&Jf r
theorem Ui :∀(l:List Nat) (i j:Nat) (x:Nat),Jf l=true->l[i]? =some x->l[j]? =some x->i=j
 | [],_,_,_,_,h,_=>by simp at h
 |y::r,i,j,x,hn,hi,hj=>by
  simp only [Jf,qI,wE,List.any_eq_false] at hn
  match i,j with
  |0,0=>rfl
  |i+1,j+1=>
   simp only [JT] at hi hj
   rw [Ui r i j x hn.2 hi hj]
  |0,j+1=>
   simp only [bK,Qx,JT] at hi hj
   subst hi
   exact absurd (hn.1 _ (zy hj)) (by simp)
  |i+1,0=>
   simp only [bK,Qx,JT] at hi hj
   subst hj
   exact absurd (hn.1 _ (zy hi)) (by simp)
theorem kH.step {S:Nat->Bool}{F0:List (Nat×Value)}{wZ:List (Nat×Nat×Value)}{a' :Act}{i d:Nat}{v v' :Value}(h:kH N S F0 wZ a)(ht:a'.tmps=(a.put (some d) v').tmps)(l7:a'.defers= [])(hv:a'.tmps[d]? =some v)(k:Nat)(hk:wZ[k]? =some (i,d,v))
  (h0:lk F0 d=none) (hn:Jf (wZ.map (·.1))=true) (BZ:Jf (wZ.map (·.2.1))=true):kH N (dO S i) F0 wZ a' :=by
 have Dz:∀t,t≠d->a'.tmps[t]? =a.tmps[t]? :=by
  intro t htd
  rw [ht]
  simp only [Act.put,wG]
  rw [if_neg (λe=>htd e.symm)]
 refine ⟨⟨by rw [ht];simp [Act.put,h.yv.size],l7,λt u Di=>?_⟩,λq j e u hq hS=>?_⟩
 ·rw [Dz t (λe=>by subst e;rw [h0] at Di;cases Di)]
  exact h.yv.at_ t u Di
 ·have OB:(wZ.map (·.1))[q]? =some j:=by simp [hq]
  have Fu:(wZ.map (·.2.1))[q]? =some e:=by simp [hq]
  have l6:(wZ.map (·.1))[k]? =some i:=by simp [hk]
  have OV:(wZ.map (·.2.1))[k]? =some d:=by simp [hk]
  by_cases e1:j=i
  ·subst e1
   have:=Ui _ q k j hn OB l6
   subst this
   rw [hq] at hk
   cases hk
   exact hv
  ·have e2:e≠d:=by
    rintro rfl
    have:=Ui _ q k e BZ Fu OV
    subst this
    rw [hq] at hk
    cases hk
    exact e1 V
   rw [Dz e e2]
   rw [Xd (Js e1)] at hS
   exact h.at_ q j e u hq hS
theorem kH.none {S:Nat->Bool}{F0:List (Nat×Value)}{wZ:List (Nat×Nat×Value)}{a' :Act}{i:Nat}(h:kH N S F0 wZ a)(ht:a'.tmps=a.tmps)(l7:a'.defers= [])(hn:(wZ.map (·.1)).all (λj=> !Nat.beq j i)=true):kH N (dO S i) F0 wZ a' :=by
 refine ⟨⟨by rw [ht,h.yv.size],l7,λt u Di=>by rw [ht];exact h.yv.at_ t u Di⟩,λq j e u hq hS=>?_⟩
 have h1:=(List.all_eq_true.1 hn) j (List.mem_map.2 ⟨_,zy hq,V⟩)
 have Lg:Nat.beq j i=false:=by simpa using h1
 rw [Xd Lg] at hS
 rw [ht]
 exact h.at_ q j e u hq hS
theorem kH.more {S:Nat->Bool}{F0:List (Nat×Value)}{wZ gV:List (Nat×Nat×Value)}(h:kH N S F0 wZ a)(hv:∀(k j d:Nat) (v:Value),gV[k]? =some (j,d,v)->S j=true->a.tmps[d]? =some v):kH N S F0 gV a:=⟨h.yv,hv⟩
theorem zK {S:Nat->Bool}{o:Oper}(h:∀e∈o.after,Region.binds .any e=true->S e.on=true)(q:Nat){e:Edge}(he:o.after[q]? =some e)(hb:Region.binds .any e=true):S e.on=true:=h e (Array.mem_of_getElem? he) hb
def zdX (o:Oper):List Nat:=(o.after.toList.filter (Region.binds .any ·)).map (·.on)
def zeG (ops:List Oper):Nat->List Nat->List Nat
 |0,acc=>acc
 |k+1,acc=>zeG ops k (bif acc.any (Nat.beq k) then (match ops[k]? with
  |some o=>zdX o++acc
  |none=>acc) else acc)
def Kx (ops:List Oper)(i j:Nat):Bool:=(zeG ops (i+1) [i]).any (Nat.beq j)
theorem lO {ops:List Oper}{S:Nat->Bool}(h:jw ops S):∀(k:Nat) (acc:List Nat),(∀x∈acc,S x=true)->∀x∈zeG ops k acc,S x=true
 |0,acc,ha,x,hx=>ha x hx
 |k+1,acc,ha,x,hx=>by
  refine lO h k _ ?_ x hx
  intro y hy
  cases hb:acc.any (Nat.beq k) with
  |false=>rw [hb] at hy;exact ha y hy
  |true=>
   rw [hb,cond_true] at hy
   split at hy
   ·rename_i o ho
    rcases List.mem_append.1 hy with hy|hy
    ·obtain ⟨e,he,rfl⟩:=List.mem_map.1 hy
     obtain ⟨h1,h2⟩:=List.mem_filter.1 he
     have hk:S k=true:=by
      obtain ⟨z,hz,h3⟩:=List.any_eq_true.1 hb
      rw [XS h3];exact ha z hz
     exact h k o ho hk e (by simpa using h1) h2
    ·exact ha y hy
   ·exact ha y hy
theorem cA {ops:List Oper}{S:Nat->Bool}(h:jw ops S)(i j:Nat)(e:Kx ops i j=true)(hi:S i=true):S j=true:=by
 obtain ⟨z,hz,h3⟩:=List.any_eq_true.1 e
 rw [XS h3]
 exact lO h _ _ (by simpa using hi) z hz
def rA (wZ:List (Nat×Nat×Value))(is:List Nat):List (Nat×Nat×Value):=is.map λk=>wZ.getD k (0,0,undef)
def AX (ops:List Oper)(i:Nat)(js:List Nat)(is:List Nat):Bool:=(List.range js.length).all λk=>is.any (Nat.beq k)||(match js[k]? with
 |some j=>Nat.beq j i||Kx ops j i
 |none=>true)
theorem kH.wide {ops:List Oper}{S:Nat->Bool}{F0:List (Nat×Value)}{wZ gV:List (Nat×Nat×Value)}{i:Nat}(h:kH N S F0 wZ a)(qg:jw ops S)(qn:S i=false)(is:List Nat)(hp:rA gV is=wZ)(hB:AX ops i (gV.map (·.1)) is=true):kH N S F0 gV a:=h.more λk j d v hk hS=>by
 have qU:k<gV.length:=(List.getElem?_eq_some_iff.1 hk).1
 have h1:=(List.all_eq_true.1 hB) k (List.mem_range.2 (by simpa using qU))
 rw [UI] at h1
 rcases h1 with h1|h1
 ·obtain ⟨z,hz,h2⟩:=List.any_eq_true.1 h1
  obtain rfl:=XS h2
  obtain ⟨q,hq⟩:=kG hz
  refine h.at_ q j d v ?_ hS
  rw [<-hp,rA,Ht,hq,ZJ,List.getD_eq_getElem?_getD,hk]
  rfl
 ·rw [Ht,hk] at h1
  have h3:(Nat.beq j i||Kx ops j i)=true:=h1
  rw [UI] at h3
  rcases h3 with h3|h3
  ·rw [XS h3,qn] at hS;cases hS
  ·rw [cA qg j i h3 hS] at qn;cases qn
theorem kH.wU {ops:List Oper}{S:Nat->Bool}{F0:List (Nat×Value)}{wZ gV:List (Nat×Nat×Value)}{a' :Act}{i d:Nat}{v v' :Value}(h:kH N S F0 wZ a)(qg:jw ops S)(qn:S i=false)(is:List Nat)(hp:rA gV is=wZ)(hB:AX ops i (gV.map (·.1)) is=true)(ht:a'.tmps=(a.put (some d) v').tmps)(l7:a'.defers= [])
 (hv:a'.tmps[d]? =some v) (k:Nat) (hk:gV[k]? =some (i,d,v)) (h0:lk F0 d=Option.none) (hn:Jf (gV.map (·.1))=true) (BZ:Jf (gV.map (·.2.1))=true):kH N (dO S i) F0 gV a' :=(h.wide qg qn is hp hB).step ht l7 hv k hk h0 hn BZ
theorem kH.aK {ops:List Oper}{S:Nat->Bool}{F0:List (Nat×Value)}{wZ gV:List (Nat×Nat×Value)}{a' :Act}{i:Nat}(h:kH N S F0 wZ a)(qg:jw ops S)(qn:S i=false)(is:List Nat)(hp:rA gV is=wZ)(hB:AX ops i (gV.map (·.1)) is=true)(ht:a'.tmps=a.tmps)(l7:a'.defers= [])
 (hn:(gV.map (·.1)).all (λj=> !Nat.beq j i)=true):kH N (dO S i) F0 gV a' :=(h.wide qg qn is hp hB).none ht l7 hn
theorem zh {b:Bool}{X:Prop}(h:b=true)(h' :b=false):X:=by rw [h] at h';cases h'
theorem Ex.zaR {R:Act->World->Prop}(h:Ex P o a w R):Ex P o a w (λa' w' =>R a' w' /\∃v,a'.tmps=(a.put o.dst v).tmps):=by
 intro next Q hn
 unfold Oper.wp
 have h1:=h (λa' w' =>R a' w') Q (λ_ _ h=>h)
 unfold Oper.wp at h1
 generalize (execOp a.eval o).run P w=r at h1⊢
 cases r with
 |halt x w' =>cases x<;>exact h1
 |ok n w' =>
  cases n
  case value v=>exact hn _ _ ⟨h1,v,V⟩
  case skip=>exact hn _ _ ⟨h1,undef,V⟩
  case defer d=>exact hn _ _ ⟨h1,undef,by cases o.dst<;>rfl⟩
  case enter f args=>exact gJ h1 λe w'' he=>by cases e<;>first|exact hn _ _ ⟨he,_,V⟩|exact he
  case row r args=>exact Rows.mono h1 λv w'' he=>hn _ _ ⟨he,v,V⟩
  all_goals exact h1
theorem Cq {ops:List Oper}{d:Nat}{v:Value}{next:Act->World->Prop}(h:St N K W a w F L)(hr:Rn P o N K W F L v)(hw:Region.wanted o (yielded ops.toArray a.tmps)=true)(hd:o.dst=some d)(wz:Nat.blt d N=true)
  (k:∀a',a'.tmps=(a.put (some d) v).tmps->Fr N a' ((d,v)::F)->next a' w):Jw P ops Q o a w next:=by
 unfold Jw
 rw [if_pos hw]
 unfold Oper.wp
 rw [hr a w h]
 exact k _ (by rw [hd]) (by rw [hd];exact h.fr.put d (by simpa [yV] using wz) v)
theorem yG {ops:List Oper}{R:Act->World->Prop}{next:Act->World->Prop}(hx:Ex P o a w R)(hw:Region.wanted o (yielded ops.toArray a.tmps)=true)
  (k:∀a' w',R a' w' ->(∃v,a'.tmps=(a.put o.dst v).tmps)->next a' w'):Jw P ops Q o a w next:=by
 unfold Jw
 rw [if_pos hw]
 exact hx.zaR next Q λa' w' ⟨h1,h2⟩=>k a' w' h1 h2
theorem un {S:Nat->Bool}{i j:Nat}{b:Bool}(e:Nat.beq j i=false)(h:S j=b):dO S i j=b:=(Xd e).trans h
theorem sq {ops:List Oper}{S:Nat->Bool}{F0:List (Nat×Value)}{wZ:List (Nat×Nat×Value)}{i d:Nat}{v:Value}{next:Act->World->Prop}(h:kH N S F0 wZ a)(hF:Fr N a F)(hs:Sh K W w L)(hr:Rn P o N K W F L v)(k:Nat)
  (hd:o.dst=some d) (hc:jG o d N=true) (hk:wZ[k]? =some (i,d,v)) (h0:lk F0 d=none) (hn:Jf (wZ.map (·.1))=true) (BZ:Jf (wZ.map (·.2.1))=true) (hx:∀a',kH N (dO S i) F0 wZ a' ->next a' w):Jw P ops Q o a w next:=by
 simp only [jG,qI,jM] at hc
 exact Cq ⟨hF,hs⟩ hr (zg hc.1 _) hd hc.2 λa' ht hf=>hx _ (h.step ht hf.defers (hf.at_ d _ (by rw [vv,if_pos V])) k hk h0 hn BZ)
end
def zZ.zx (g:Nat)(E:TypeId)(cs:List Value):zZ where
 fp _:=False
 rd b:=b=g
 ok w:=xB w g E cs.toArray
 yB w w' h hb:=(hb g (.inr V)).trans h
 lt w h b hb:=by rcases hb with hb|rfl;exact hb.elim;exact h.lt
def zZ.ro (L:List zZ):zZ where
 fp _:=False
 rd b:=∃A∈L,A.fp b\/A.rd b
 ok w:=∀A∈L,A.ok w
 yB w w' h hb A hA:=A.yB w w' (h A hA) λb xl=>hb b (.inr ⟨A,hA,xl⟩)
 lt w h b hb:=by rcases hb with hb|⟨A,hA,hb⟩;exact hb.elim;exact A.lt w (h A hA) b hb
def zZ.x5 (L:List zZ):zZ where
 fp b:=∃A∈L,A.fp b
 rd b:=∃A∈L,A.rd b
 ok w:=(∀A∈L,A.ok w)/\L.Pairwise zZ.QT/\∀A∈L,∀b,A.fp b->¬A.rd b
 yB w w' h hb:=⟨λA hA=>A.yB w w' (h.1 A hA) λb xl=>hb b (xl.imp (λh=>⟨A,hA,h⟩) (λh=>⟨A,hA,h⟩)),h.2⟩
 lt w h b hb:=by rcases hb with ⟨A,hA,hb⟩|⟨A,hA,hb⟩;exact A.lt w (h.1 A hA) b (.inl hb);exact A.lt w (h.1 A hA) b (.inr hb)
section
variable {P:Program}{N:Nat}{K:Nat->Prop}{W w:World}{a:Act}{F F' :List (Nat×Value)}{L L' B:List zZ}{o:Oper}{ops:Array Oper}{rest:List Oper}{Q:Exit->Act->World->Prop}
theorem Sh.zx (h:Sh K W w L)(i:Nat){g:Nat}{E:TypeId}{cs:List Value}(hi:L[i]? =some (.zx g E cs)):xB w g E cs.toArray:=h.ok _ (zy hi)
theorem Sh.open_ (h:Sh K W w (.x5 B::L)):Sh K W w (B++L):=by
 obtain ⟨h1,h2,h3⟩:=h.ok (.x5 B) (by simp)
 have hp:=List.pairwise_cons.1 h.apart
 refine ⟨h.J6,?_,?_,?_,List.pairwise_append.2 ⟨h2,hp.2,λA hA C hC b=>?_⟩⟩
 ·intro A hA
  rcases List.mem_append.1 hA with hA|hA
  ·exact h1 A hA
  ·exact h.ok A (by simp [hA])
 ·intro A hA b hb
  rcases List.mem_append.1 hA with hA|hA
  ·exact h.Zj (.x5 B) (by simp) b ⟨A,hA,hb⟩
  ·exact h.Zj A (by simp [hA]) b hb
 ·intro A hA
  rcases List.mem_append.1 hA with hA|hA
  ·exact h3 A hA
  ·exact h.self A (by simp [hA])
 ·have:=hp.1 C hC b
  exact ⟨λhb=>this.1 ⟨A,hA,hb⟩,λhb hr=>this.2 hb ⟨A,hA,hr⟩⟩
theorem Sh.close_ (h:Sh K W w (B++L))(DH:∀A∈B,∀C∈B,∀b,A.fp b->¬C.rd b:=by intros;assumption):Sh K W w (.x5 B::L):=by
 have hp:=List.pairwise_append.1 h.apart
 refine ⟨h.J6,?_,?_,?_,List.pairwise_cons.2 ⟨λC hC b=>?_,hp.2.1⟩⟩
 ·intro A hA
  rcases List.mem_cons.1 hA with rfl|hA
  ·exact ⟨λA hA=>h.ok A (by simp [hA]),hp.1,λA hA=>h.self A (by simp [hA])⟩
  ·exact h.ok A (by simp [hA])
 ·intro A hA b hb
  rcases List.mem_cons.1 hA with rfl|hA
  ·obtain ⟨A,hA,hb⟩:=hb
   exact h.Zj A (by simp [hA]) b hb
  ·exact h.Zj A (by simp [hA]) b hb
 ·intro A hA b hb hr
  rcases List.mem_cons.1 hA with rfl|hA
  ·obtain ⟨A,hA,hb⟩:=hb
   obtain ⟨C,hC,hr⟩:=hr
   exact DH A hA C hC b hb hr
  ·exact h.self A (by simp [hA]) b hb hr
 ·refine ⟨?_,?_⟩
  ·rintro ⟨A,hA,hb⟩
   exact (hp.2.2 A hA C hC b).1 hb
  ·rintro hb ⟨A,hA,hr⟩
   exact (hp.2.2 A hA C hC b).2 hb hr
theorem Sh.PK (h:Sh K W w L):∀A∈L,∀C∈L,∀b,A.fp b->¬C.rd b:=by
 intro A hA C hC b hb hr
 rcases Q8 h.apart hA hC with rfl|hac
 ·exact h.self _ hA b hb hr
 ·exact ((hac b).1 hb).2 hr
theorem Sh.close (h:Sh K W w (B++L)):Sh K W w (.x5 B::L):=h.close_ λA hA C hC=>h.PK A (by simp [hA]) C (by simp [hC])
theorem kh {T:TypeId}{n xf:Nat}{z:List Value}{x:Operand}{g q:Nat}{E:TypeId}{cs:List Value}{v:Value}(hT:je P T=some (false,n,xf,z))(ho:o.op= .load T x)(hx:ev F x=some (.pointer (some ⟨g,q,none⟩)))
  (hB:∀w,Sh K W w L->xB w g E cs.toArray) (hv:cs[q]? =some v):Rn P o N K W F L v:=λa w h=>by
 have hc:w.cell? ⟨g,q,none⟩=some v:=by rw [(hB w h.sh).cell q];simpa using hv
 unfold execOp;simp only [ho,h.fr.ev hx,qS,Xu hT hc,yQ,q5]
theorem rq {T:TypeId}{n xf:Nat}{z:List Value}{x:Operand}{g q:Nat}{E:TypeId}{cs vs:List Value}(hT:je P T=some (true,n,xf,z))(ho:o.op= .load T x)(hx:ev F x=some (.pointer (some ⟨g,q,none⟩)))
  (hB:∀w,Sh K W w L->xB w g E cs.toArray) (hv:(cs.drop q).take n=vs) (hn:vs.length=n):Rn P o N K W F L (.agg vs.toArray):=λa w h=>by
 have hc:∀(j:Nat) (v:Value),vs[j]? =some v->w.cell? ((⟨g,q,none⟩:Addr).add j)=some v:=by
  intro j v hj
  rw [wD,(hB w h.sh).cell (q+j)]
  rw [<-hv,VI] at hj
  split at hj
  ·rw [GS] at hj;simpa using hj
  ·cases hj
 unfold execOp;simp only [ho,h.fr.ev hx,qS,G9 hT hn hc,yQ,q5]
theorem HV {fn:Func}{t T g i n xf u:Nat}{E:TypeId}{z cs:List Value}{v' :Value}{R:Value->World->Prop}(hT:je P T=some (true,n,xf,z))(hs:fn.results= #[.cell t T,.tmp u])(h:St N K W a w F L)(ht:lk F t=some (.pointer (some ⟨g,0,none⟩)))
  (hu:lk F u=some v') (hi:L[i]? =some (.zM g E cs)) (hn:cs.length=n) (hR:R (.tuple #[.agg cs.toArray,v']) w):bodyPost P fn (λe w' =>∃v,e= .returned v/\R v w') .ret a w:=by
 obtain ⟨ti,d,zv,EZ,hd,hg,x3,_⟩:=qR hT
 refine ⟨h.fr.defers,.tuple #[.agg cs.toArray,v'],?_,_,V,hR⟩
 have hld:=run_loadVar_row (P:=P) w g E T cs.toArray (0,0) d (h.sh.zM i hi) hd (by cases d<;>simp_all [An]) (by rw [EZ];simp [x3,hn])
 have h1:a.tmps[t]?.getD undef= .pointer (some ⟨g,0,none⟩):=by rw [h.fr.at_ t _ ht];rfl
 have h2:a.tmps[u]?.getD undef=v' :=by rw [h.fr.at_ u _ hu];rfl
 simp [results,hs,asAddr,h1,hld,h2]
theorem KH {fn:Func}{t T g i n xf u:Nat}{E:TypeId}{z cs:List Value}{v' :Value}{R:Value->World->Prop}(hT:je P T=some (true,n,xf,z))(hs:fn.results= #[.tmp u,.cell t T])(h:St N K W a w F L)(ht:lk F t=some (.pointer (some ⟨g,0,none⟩)))
  (hu:lk F u=some v') (hi:L[i]? =some (.zM g E cs)) (hn:cs.length=n) (hR:R (.tuple #[v',.agg cs.toArray]) w):bodyPost P fn (λe w' =>∃v,e= .returned v/\R v w') .ret a w:=by
 obtain ⟨ti,d,zv,EZ,hd,hg,x3,_⟩:=qR hT
 refine ⟨h.fr.defers,.tuple #[v',.agg cs.toArray],?_,_,V,hR⟩
 have hld:=run_loadVar_row (P:=P) w g E T cs.toArray (0,0) d (h.sh.zM i hi) hd (by cases d<;>simp_all [An]) (by rw [EZ];simp [x3,hn])
 have h1:a.tmps[t]?.getD undef= .pointer (some ⟨g,0,none⟩):=by rw [h.fr.at_ t _ ht];rfl
 have h2:a.tmps[u]?.getD undef=v' :=by rw [h.fr.at_ u _ hu];rfl
 simp [results,hs,asAddr,h1,hld,h2]
end
structure Wt where
 lock:Bool
 wh:Int
 qk:Int
 deriving DecidableEq
instance : Inhabited Wt:=⟨⟨false,0,0⟩⟩
structure Th where
 pc:Int
 ze:List Int
 wait:List Wt
 deriving DecidableEq
instance : Inhabited Th:=⟨⟨0,[],[]⟩⟩
structure yc where
 zW:List Th
 words:List Int
 owner:List Int
 zd:List Int
 deriving DecidableEq
instance : Inhabited yc:=⟨⟨[],[],[],[]⟩⟩
structure Pg where
 code:List (List Ins)
 words:List Int
 zm:Int
 ze:Int
instance : Inhabited Pg:=⟨⟨[],[],0,0⟩⟩
structure TS where
 pc:Int
 ze:List Int
 wait:List Wt
 words:List Int
 owner:List Int
 zd:List Int
 zq:Bool
instance : Inhabited TS:=⟨⟨0,[],[],[],[],[],false⟩⟩
def yr (p:Pg):yc:=⟨p.code.map λ_=>⟨0,List.replicate p.ze.toNat 0,[]⟩,p.words,List.replicate p.zm.toNat (-1),[]⟩
def yc.view (s:yc)(n:Nat):TS:=⟨(nth s.zW n).pc,(nth s.zW n).ze,(nth s.zW n).wait,s.words,s.owner,s.zd,false⟩
def yc.yt (s:yc)(n:Nat)(x:TS):yc:=⟨s.zW.set n ⟨x.pc,x.ze,x.wait⟩,x.words,x.owner,x.zd⟩
def zo (c:List Ins)(pc:Int):Ins:=if pc<c.length then nth c pc.toNat else ⟨0,0,0,0⟩
theorem vL {c:List Ins}{pc:Int}(h:pc<c.length):zo c pc=nth c pc.toNat:=by unfold zo;rw [if_pos h]
theorem VZ {c:List Ins}{pc:Int}(h:¬pc<c.length):zo c pc=⟨0,0,0,0⟩:=by unfold zo;rw [if_neg h]
def q7 (owner:List Int)(n:Nat)(i:Ins):Bool:=
 if i.op=9\/i.op=11\/i.op=18 then decide (n<3)
 else if i.op=12\/i.op=13 then decide (n=0)
 else if i.op=17 then decide (n=0)&&decide (nth owner i.a.toNat= -1)
 else true
def vT (c:List Ins)(x:TS):Bool:=decide (x.pc<(c.length:Int))&&q7 x.owner x.wait.length (zo c x.pc)
def w6 (m:Int)(l:List Wt)(k:Nat):Bool:=
 decide (k=0)||(!(decide (m=1)||(nth l k).lock)&&(List.range k).all λi=> !((nth l i).lock||decide ((nth l i).wh=(nth l k).wh)))
def xp (m:Int)(c:List Ins)(x:TS)(k:Nat):Bool:=if k=0 then vT c x else decide (k<=x.wait.length)&&w6 m x.wait (k-1)
def x4 (l:List Wt)(words:List Int)(w:Int):Int:=match l.reverse.find? (λx=> !x.lock&&decide (x.wh=w)) with
 |some x=>x.qk
 |none=>nth words w.toNat
def bit (b:Bool):Int:=if b then 1 else 0
def TS.done (x:TS)(w:Wt):TS:= { x with words:=if w.lock=true then x.words else x.words.set w.wh.toNat w.qk,owner:=if w.lock=true then x.owner.set w.wh.toNat (-1) else x.owner }
def TS.store (m:Int)(x:TS)(w:Wt):TS:=if 0<m then { x with wait:=x.wait++ [w] } else x.done w
def TS.xQ (x:TS)(k:Int):Int:=nth x.ze k.toNat
def TS.put (x:TS)(k:Int)(v:Int):TS:= { x with ze:=x.ze.set k.toNat v }
def TS.isWord (x:TS)(n:Int):Bool:=decide (0<=n/\n<x.words.length)
def TS.JM (x:TS)(w:Int):Int:=x4 x.wait x.words w
def TS.holds (x:TS)(a:Int):Bool:=x.wait.any λw=>w.lock&&decide (w.wh=a)
def zJ (m:Int)(n:Nat)(i:Ins)(x:TS):TS:=
  if i.op=1 then x.put i.a i.b
  else if i.op=2 then x.put i.a (x.xQ i.b)
  else if i.op=3 then x.put i.a (wrap64 (x.xQ i.b+x.xQ i.c))
  else if i.op=4 then x.put i.a (wrap64 (x.xQ i.b-x.xQ i.c))
  else if i.op=5 then x.put i.a (wrap64 (x.xQ i.b*x.xQ i.c))
  else if i.op=6 then x.put i.a (bit (decide (x.xQ i.b<x.xQ i.c)))
  else if i.op=7 then x.put i.a (bit (decide (x.xQ i.b=x.xQ i.c)))
  else if i.op=8 then x.put i.a (x.JM i.b)
  else if i.op=9 then x.store m ⟨false,i.a,x.xQ i.b⟩
  else if i.op=10 then (if x.isWord (x.xQ i.b) then x.put i.a (x.JM (x.xQ i.b)) else { x with zq:=true })
  else if i.op=11 then (if x.isWord (x.xQ i.a) then x.store m ⟨false,x.xQ i.a,x.xQ i.b⟩ else { x with zq:=true })
  else if i.op=13 then
    (if nth x.words i.a.toNat=x.xQ i.b then { x with words:=x.words.set i.a.toNat (x.xQ i.c),ze:=x.ze.set i.b.toNat 1 } else x.put i.b 0)
  else if i.op=14 then { x with pc:=i.a }
  else if i.op=15 then (if x.xQ i.a=0 then { x with pc:=i.b } else x)
  else if i.op=16 then { x with zd:=x.zd++ [(n:Int),x.xQ i.a] }
  else if i.op=17 then { x with owner:=x.owner.set i.a.toNat n }
  else if i.op=18 then
    (if nth x.owner i.a.toNat≠n then { x with zq:=true }
     else if x.holds i.a then { x with zq:=true }
     else x.store m ⟨true,i.a,0⟩)
  else x
def XY (m:Int)(n:Nat)(c:List Ins)(k:Nat)(x:TS):TS:=
 if 0<k then { x.done (nth x.wait (k-1)) with wait:=x.wait.eraseIdx (k-1) } else zJ m n (zo c x.pc) { x with pc:=x.pc+1 }
def mvs (m:Int)(c:List Ins)(t:Nat)(x:TS):List Int:=(if vT c x=true then [((8*t:Nat):Int)] else [])++((List.range x.wait.length).filter (w6 m x.wait)).map λk=>((8*t+k+1:Nat):Int)
def Zi (p:Pg)(m:Int)(s:yc):List Int:=(List.range p.code.length).flatMap λt=>mvs m (nth p.code t) t (s.view t)
def ended (p:Pg)(s:yc):Bool:=(List.range p.code.length).all λt=>decide (¬(nth s.zW t).pc<((nth p.code t).length:Int))&&decide ((nth s.zW t).wait.length=0)
def stepT (p:Pg)(m:Int)(s:yc)(t k:Nat):TS:=XY m t (nth p.code t) k (s.view t)
def YW (op:Int):ByteArray:=
 if op=1 then ⟨#[99,111,110,115,116]⟩ else
 if op=2 then ⟨#[109,111,118,101]⟩ else
 if op=3 then ⟨#[97,100,100]⟩ else
 if op=4 then ⟨#[115,117,98]⟩ else
 if op=5 then ⟨#[109,117,108]⟩ else
 if op=6 then ⟨#[108,101,115,115]⟩ else
 if op=7 then ⟨#[115,97,109,101]⟩ else
 if op=8 then ⟨#[108,111,97,100]⟩ else
 if op=9 then ⟨#[115,116,111,114,101]⟩ else
 if op=10 then ⟨#[108,111,97,100,97,116]⟩ else
 if op=11 then ⟨#[115,116,111,114,101,97,116]⟩ else
 if op=12 then ⟨#[102,101,110,99,101]⟩ else
 if op=13 then ⟨#[99,97,115]⟩ else
 if op=14 then ⟨#[106,117,109,112]⟩ else
 if op=15 then ⟨#[122,101,114,111]⟩ else
 if op=16 then ⟨#[112,114,105,110,116]⟩ else
 if op=17 then ⟨#[108,111,99,107]⟩ else
 if op=18 then ⟨#[117,110,108,111,99,107]⟩ else
 ⟨#[]⟩
def qL (op:Int):ByteArray:=
 if op=1 then ⟨#[114,110]⟩ else
 if op=2 then ⟨#[114,114]⟩ else
 if op=3 then ⟨#[114,114,114]⟩ else
 if op=4 then ⟨#[114,114,114]⟩ else
 if op=5 then ⟨#[114,114,114]⟩ else
 if op=6 then ⟨#[114,114,114]⟩ else
 if op=7 then ⟨#[114,114,114]⟩ else
 if op=8 then ⟨#[114,119]⟩ else
 if op=9 then ⟨#[119,114]⟩ else
 if op=10 then ⟨#[114,114]⟩ else
 if op=11 then ⟨#[114,114]⟩ else
 if op=12 then ⟨#[]⟩ else
 if op=13 then ⟨#[119,114,114]⟩ else
 if op=14 then ⟨#[99]⟩ else
 if op=15 then ⟨#[114,99]⟩ else
 if op=16 then ⟨#[114]⟩ else
 if op=17 then ⟨#[108]⟩ else
 if op=18 then ⟨#[108]⟩ else
 ⟨#[]⟩
set_option maxHeartbeats 1000000 in
theorem fQ (op:Int)(w:World):
  Calls Tryz.prog 64 #[.int .i64 op] w λe w' =>e= .returned (.tuple #[.string (YW op),.string (qL op)])/\w=w' :=by
 go_enter Tryz.func64,Tryz.ntmps64
 go_wp2
 all_goals
  go_ret2
  refine ⟨?_,V⟩
  simp_all [YW,qL]
set_option maxHeartbeats 1000000 in
theorem RP (x:Ins)(w:World):
  Calls Tryz.prog 65 #[x.val] w λe w' =>∃g,w.heap.size<=g/\e= .returned (.slice (some ⟨g,0,none⟩) 3 3)/\w'.heap[g]? =some (.cells #[.int .i64 x.a,.int .i64 x.b,.int .i64 x.c] 3)/\Below w.heap.size w w' :=by
 unfold Ins.val
 go_enter Tryz.func65,Tryz.ntmps65
 go_wp2
 go_ret
 exact ⟨w.heap.size+1,za,V,heap_alloc2_new _ _ _,((xa _ _).alloc (qC _) _).alloc (by simp) _⟩
def GD (p:PR)(size kind n:Int):Bool:=
 if kind=110 then true else
 let zbs:=if kind=114 then p.ze else if kind=119 then (p.words.l.length:Int) else if kind=108 then p.zm else if kind=99 then wrap64 (size+1) else 0
 decide (0<=n)&&decide (n<zbs)
set_option maxHeartbeats 1000000 in
theorem UR (p:PR)(size kind n:Int)(w:World)(h:p.At w):
  Calls Tryz.prog 66 #[p.val,.int .i64 size,.int .u8 kind,.int .i64 n] w λe w' =>e= .returned (.bool (GD p size kind n))/\Below w.heap.size w w' :=by
 unfold PR.val
 go_enter Tryz.func66,Tryz.ntmps66
 go_wp2
 all_goals
  go_ret
  refine ⟨?_,(xa _ _).alloc (qC _) _⟩
  simp_all [GD]
  try omega
def Ins.num (x:Ins)(k:Nat):Int:=match k with|0=>x.a|1=>x.b|_=>x.c
def Qj (p:PR)(size:Int)(x:Ins)(k:Nat):Bool:=
 if h:k<(qL x.op).size then GD p size (((qL x.op)[k]).toNat:Int) (x.num k) else x.num k==0
def jD (p:PR)(size:Int)(x:Ins):Option Int:=
 if (YW x.op).toList.isEmpty then some 2 else if Qj p size x 0&&Qj p size x 1&&Qj p size x 2 then none else some 3
def first {β:Type}(f:Nat->Option β):Nat->Nat->Option β
 |0,_=>none
 |k+1,i=>match f i with
  |some b=>some b
  |none=>first f k (i+1)
theorem Jn {β:Type}{f:Nat->Option β}{n i:Nat}(hi:i<n)(h:f i=none):first f (n-i) i=first f (n-(i+1)) (i+1):=by
 obtain ⟨k,hk⟩:∃k,n-i=k+1:=⟨n-i-1,za⟩
 have:n-(i+1)=k:=za
 rw [hk,this,first,h]
theorem j9 {β:Type}{f:Nat->Option β}{n i:Nat}{b:β}(hi:i<n)(h:f i=some b):first f (n-i) i=some b:=by
 obtain ⟨k,hk⟩:∃k,n-i=k+1:=⟨n-i-1,za⟩
 rw [hk,first,h]
structure VM where
 code:Int
 G6:Int
 at_:Int
 deriving DecidableEq
def VM.val (f:VM):Value:= .agg #[.int .i64 f.code,.int .i64 f.G6,.int .i64 f.at_]
def q4 (p:PR)(t:Nat):Option VM:=
 if 400<(nth p.code.l t).l.length then some ⟨1,t,0⟩ else
 first (λat_=>(jD p (nth p.code.l t).l.length (nth (nth p.code.l t).l at_)).map λe=>⟨e,t,at_⟩) ((nth p.code.l t).l.length-0) 0
def wi (p:PR):VM:=
 if p.code.l.length<1\/4<p.code.l.length\/64<p.words.l.length then ⟨1,0,0⟩ else
 if p.zm<0\/4<p.zm\/p.ze<1\/200<p.ze then ⟨3,0,0⟩ else
 (first (q4 p) (p.code.l.length-0) 0).getD ⟨0,0,0⟩
theorem Hi (p:PR)(h:p.code.l.length<1\/4<p.code.l.length\/64<p.words.l.length):wi p=⟨1,0,0⟩:=by
 unfold wi;rw [if_pos h]
theorem GL (p:PR)(h:¬(p.code.l.length<1\/4<p.code.l.length\/64<p.words.l.length))(h2:p.zm<0\/4<p.zm\/p.ze<1\/200<p.ze):wi p=⟨3,0,0⟩:=by
 unfold wi;rw [if_neg h,if_pos h2]
theorem GM (p:PR)(h:¬(p.code.l.length<1\/4<p.code.l.length\/64<p.words.l.length))(h2:¬(p.zm<0\/4<p.zm\/p.ze<1\/200<p.ze)):
  wi p=(first (q4 p) (p.code.l.length-0) 0).getD ⟨0,0,0⟩:=by
 unfold wi;rw [if_neg h,if_neg h2]
def xj (p:PR)(t i:Nat):Option VM:=
 first (λat_=>(jD p (nth p.code.l t).l.length (nth (nth p.code.l t).l at_)).map λe=>⟨e,t,at_⟩) ((nth p.code.l t).l.length-i) i
set_option maxRecDepth 100000 in
set_option maxHeartbeats 2000000 in
theorem ca (p:PR)(w:World)(h:p.At w):
  Calls Tryz.prog 25 #[p.val] w λe w' =>e= .returned (wi p).val/\Below w.heap.size w w' :=by
 have hc:=h.code
 have hw:=h.words
 have zqN:=hc.nn
 have zqM:=hc.no (w.heap.size+1) za
 have qg:=hc.len
 have ZU:=h.words.len
 unfold PR.val
 by_cases h1:p.code.l.length<1\/4<p.code.l.length\/64<p.words.l.length
 ·have Hf:=Wm (Hi p h1)
  go_enter Tryz.func25,Tryz.ntmps25
  go_wp2
  all_goals
   refine bodyPost_ret (v:=VM.val ⟨1,0,0⟩) (by simp [results,Tryz.results25,go_sem,VM.val]) V ⟨by rw [Hf.out],?_⟩
   exact (((xa _ _).alloc (qC _) _).alloc (by simp) _)
 ·by_cases h2:p.zm<0\/4<p.zm\/p.ze<1\/200<p.ze
  ·have Hf:=Wm (GL p h1 h2)
   go_enter Tryz.func25,Tryz.ntmps25
   go_wp2
   all_goals
    refine bodyPost_ret (v:=VM.val ⟨3,0,0⟩) (by simp [results,Tryz.results25,go_sem,VM.val]) V ⟨by rw [Hf.out],?_⟩
    exact (((xa _ _).alloc (qC _) _).alloc (by simp) _)
  ·have Hf:=Wm (GM p h1 h2)
   go_enter Tryz.func25,Tryz.ntmps25
   go_wp2
   have hW0:=(xa w.heap.size w).alloc (qC _) (Obj.cells #[Value.slice p.code.A p.code.l.length p.code.cap,Value.slice p.words.A p.words.l.length p.words.cap,Value.int IntKind.i64 p.zm,Value.int IntKind.i64 p.ze] 25)
   have O3:=hW0.alloc (by simp) (Obj.cells #[Value.int IntKind.i64 0,Value.int IntKind.i64 0,Value.int IntKind.i64 0] 28)
   have hB0:=(xB.new w 25 #[Value.slice p.code.A p.code.l.length p.code.cap,Value.slice p.words.A p.words.l.length p.words.cap,Value.int IntKind.i64 p.zm,Value.int IntKind.i64 p.ze]).alloc (Obj.cells #[Value.int IntKind.i64 0,Value.int IntKind.i64 0,Value.int IntKind.i64 0] 28)
   have B7:=xB.new (w.alloc (Obj.cells #[Value.slice p.code.A p.code.l.length p.code.cap,Value.slice p.words.A p.words.l.length p.words.cap,Value.int IntKind.i64 p.zm,Value.int IntKind.i64 p.ze] 25)) 28 #[Value.int IntKind.i64 0,Value.int IntKind.i64 0,Value.int IntKind.i64 0]
   rw [World.size_alloc] at B7
   clear hW0
   generalize (w.alloc _).alloc _=w1 at*
   go_loopw [3] (λi wr=>∃t:Nat,t<=p.code.l.length/\i= .int .i64 t/\Below w1.heap.size w1 wr/\Hid (wi p=(first (q4 p) (p.code.l.length-t) t).getD ⟨0,0,0⟩)) (λi _=>p.code.l.length-(intOf i).toNat)
   case atStart=>exact ⟨0,za,V,xa _ _,Hf⟩
   case round=>
    obtain ⟨t,ht,rfl,DH,hF⟩:=hrel
    clear Hf
    have hcr:=(hc.qa O3).qa DH
    have hwr:=(hw.qa O3).qa DH
    have uS:=hB0.qa DH
    have di:=B7.qa DH
    obtain ⟨c00,c01,c02,c03⟩:=uS.gx
    obtain ⟨bw,bu,bt⟩:=di.Zu
    obtain ⟨f10,f11,f12⟩:=di.Y2
    have hWr:=wC O3 DH O3.size
    have hl0:=uS.lt
    have iL:=di.lt
    by_cases qU:t<p.code.l.length
    ·have Wk:=(hcr.inner t qU).len
     by_cases uW:400<(nth p.code.l t).l.length
     ·have hT:=Wm (show wi p=⟨1,t,0⟩ by rw [hF.out,j9 qU (by unfold q4;rw [if_pos uW])];rfl)
      go_wp2
      refine bodyPost_ret (v:=VM.val ⟨1,t,0⟩) (by simp [results,Tryz.results25,go_sem,VM.val,bw,bu,bt,f10,f11,f12]) V ⟨by rw [hT.out],?_⟩
      exact (by repeat (first|assumption|exact xa _ _|refine Jr ?_ (by first|omega|(simp;done)|(simp;omega)) _|refine Zw ?_ (by first|omega|(simp;done)|(simp;omega)) _|refine Zv ?_))
     ·have hT:=Wm (show q4 p t=xj p t 0 by unfold q4 xj;rw [if_neg uW])
      go_wp2
      have hsr:p.code.l.length<=4:=za
      clear c00 c01 c02 c03 bw bu bt f10 f11 f12
      obtain ⟨wo,rfl⟩:∃wo,wo=wr:=⟨_,V⟩
      go_loopw [4] (λi ws=>∃k:Nat,k<=(nth p.code.l t).l.length/\i= .int .i64 k/\Below wo.heap.size wo ws/\Hid (q4 p t=xj p t k)) (λi _=>(nth p.code.l t).l.length-(intOf i).toNat)
      case atStart=>exact ⟨0,za,V,xa _ _,hT⟩
      case round=>
       obtain ⟨k,hk,rfl,Ux,sD⟩:=hrel
       clear hT
       have XH:=hcr.qa Ux
       have sf:=hwr.qa Ux
       have uR:=uS.qa Ux
       have oJ:=di.qa Ux
       obtain ⟨c00,c01,c02,c03⟩:=uR.gx
       obtain ⟨bw,bu,bt⟩:=oJ.Zu
       obtain ⟨f10,f11,f12⟩:=oJ.Y2
       have hWs:=wC hWr Ux hWr.size
       have hl0:=uR.lt
       have iL:=oJ.lt
       by_cases Tg:k<(nth p.code.l t).l.length
       ·by_cases he:(YW (nth (nth p.code.l t).l k).op).toList.isEmpty=true
        ·have hS:=Wm (show wi p=⟨2,t,k⟩ by
          have e1:q4 p t=some ⟨2,t,k⟩:=by
           rw [sD.out,xj,j9 Tg (b:=⟨2,t,k⟩) (by unfold jD;rw [if_pos he];rfl)]
          rw [hF.out,j9 qU e1];rfl)
         go_wp2_with (go_at_call 64;refine (fQ _ _).mono ?_;rintro e w' ⟨rfl,rfl⟩)
         refine bodyPost_ret (v:=VM.val ⟨2,t,k⟩) (by simp [results,Tryz.results25,go_sem,VM.val,bw,bu,bt,f10,f11,f12,iL]) V ⟨by rw [hS.out],?_⟩
         exact (by repeat (first|assumption|exact xa _ _|refine Jr ?_ (by first|omega|(simp;done)|(simp;omega)) _|refine Zw ?_ (by first|omega|(simp;done)|(simp;omega)) _|refine Zv ?_))
        ·have he' :(YW (nth (nth p.code.l t).l k).op).toList.isEmpty=false:=by simpa using he
         have hS:=Wm he'
         clear he
         go_wp2_with (go_at_call 64;refine (fQ _ _).mono ?_;rintro e w' ⟨rfl,rfl⟩)
         refine (RP (nth (nth p.code.l t).l k) _).mono ?_
         rintro e w3 ⟨g,hg,rfl,hBg,aY⟩
         have oI:Below wr.heap.size wr w3:=((xa _ _).alloc (qC _) _).trans (aY.mono (by simp))
         have hc3:=XH.qa oI
         have zdH:=uR.qa oI
         have zdG:=oJ.qa oI
         have hW3:=wC hWs oI hWs.size
         clear aY c00 c01 c02 c03 bw bu bt f10 f11 f12
         go_wp2
         obtain ⟨wp,rfl⟩:∃wp,wp=wr:=⟨_,V⟩
         go_loopw [9] (λi ws=>∃m:Nat,m<=3/\i= .int .i64 m/\Below w3.heap.size w3 ws/\Hid (∀j,j<m->Qj p (nth p.code.l t).l.length (nth (nth p.code.l t).l k) j=true)) (λi _=>3-(intOf i).toNat)
         case atStart=>exact ⟨0,za,V,xa _ _,Wm (λj hj=>absurd hj za)⟩
         case round=>
          obtain ⟨m,hm,rfl,BG,I7⟩:=hrel
          have GX:=hc3.qa BG
          have hwm:=(sf.qa oI).qa BG
          have Gr:=zdH.qa BG
          have dj:=zdG.qa BG
          have I8:=xB.qa hBg BG
          have hWm:=wC hW3 BG hW3.size
          by_cases hm3:m<3
          ·have hcg:wr.cell? ⟨g,m,none⟩=some (.int .i64 ((nth (nth p.code.l t).l k).num m)):=by
            rw [I8.cell m]
            match m,hm3 with
            |0,_=>rfl
            |1,_=>rfl
            |2,_=>rfl
           have zxB:=dj.lt
           have zxC:=Gr.lt
           by_cases zR:Qj p (nth p.code.l t).l.length (nth (nth p.code.l t).l k) m=true
           ·by_cases B0:m<(qL (nth (nth p.code.l t).l k).op).size
            ·have ho:=zR
             unfold Qj at ho
             rw [dif_pos B0] at ho
             have X0:∀x:XW wr,p.code.At x.w:=λx=>GX.qa x.h
             have X1:∀x:XW wr,p.words.At x.w:=λx=>hwm.qa x.h
             have X2:∀x:XW wr,x.w.cell? ⟨w.heap.size,0,none⟩=_:=λx=>(Gr.qa x.h).gx.1
             have X3:∀x:XW wr,x.w.cell? ⟨w.heap.size,1,none⟩=_:=λx=>(Gr.qa x.h).gx.2.1
             have X4:∀x:XW wr,x.w.cell? ⟨w.heap.size,2,none⟩=_:=λx=>(Gr.qa x.h).gx.2.2.1
             have X5:∀x:XW wr,x.w.cell? ⟨w.heap.size,3,none⟩=_:=λx=>(Gr.qa x.h).gx.2.2.2
             have X6:∀x:XW wr,x.w.cell? ⟨g,m,none⟩=some (.int .i64 ((nth (nth p.code.l t).l k).num m)):=λx=>by rw [x.h.cell (show g<wr.heap.size from I8.lt)];exact hcg
             go_wp2
             refine gz zb zb ?_
             repeat (go_big_quiet_step ((go_at_call 66;exact Calls.M0 (UR p _ _ _ _ ⟨X0 _,X1 _⟩))))
             refine wpQuiet_nil ?_
             intro _ hx
             obtain ⟨x,rfl⟩:=hx
             have hb:=x.h
             go_wp2
             go_roundw
             case rel=>exact ⟨m+1,za,by go_num,wC BG hb BG.size,Wm (λj hj=>by rcases yq j m with h' |h';exact I7.out j h';have:j=m:=za;subst this;exact zR)⟩
             case measure=>simp [intOf];omega
            ·have ho:((nth (nth p.code.l t).l k).num m==0)=true:=by unfold Qj at zR;rwa [dif_neg B0] at zR
             go_wp2
             go_roundw
             case rel=>exact ⟨m+1,za,by go_num,BG,Wm (λj hj=>by rcases yq j m with h' |h';exact I7.out j h';have:j=m:=za;subst this;exact zR)⟩
             case measure=>simp [intOf];omega
           ·have hS3:=Wm (show wi p=⟨3,t,k⟩ by
             have e0:jD p (nth p.code.l t).l.length (nth (nth p.code.l t).l k)=some 3:=by
              unfold jD
              rw [if_neg (by rw [hS.out];simp),if_neg]
              intro zO
              simp only [qI] at zO
              match m,hm3,zR with
              |0,_,zR=>exact zR zO.1.1
              |1,_,zR=>exact zR zO.1.2
              |2,_,zR=>exact zR zO.2
             have e1:q4 p t=some ⟨3,t,k⟩:=by
              rw [sD.out,xj,j9 Tg (b:=⟨3,t,k⟩) (by rw [e0];rfl)]
             rw [hF.out,j9 qU e1];rfl)
            obtain ⟨bw,bu,bt⟩:=dj.Zu
            obtain ⟨f10,f11,f12⟩:=dj.Y2
            by_cases B0:m<(qL (nth (nth p.code.l t).l k).op).size
            ·have ho:GD p (nth p.code.l t).l.length ((qL (nth (nth p.code.l t).l k).op)[m].toNat:Int) ((nth (nth p.code.l t).l k).num m)=false:=by
              unfold Qj at zR
              rw [dif_pos B0] at zR
              simpa using zR
             have X0:∀x:XW wr,p.code.At x.w:=λx=>GX.qa x.h
             have X1:∀x:XW wr,p.words.At x.w:=λx=>hwm.qa x.h
             have X2:∀x:XW wr,x.w.cell? ⟨w.heap.size,0,none⟩=_:=λx=>(Gr.qa x.h).gx.1
             have X3:∀x:XW wr,x.w.cell? ⟨w.heap.size,1,none⟩=_:=λx=>(Gr.qa x.h).gx.2.1
             have X4:∀x:XW wr,x.w.cell? ⟨w.heap.size,2,none⟩=_:=λx=>(Gr.qa x.h).gx.2.2.1
             have X5:∀x:XW wr,x.w.cell? ⟨w.heap.size,3,none⟩=_:=λx=>(Gr.qa x.h).gx.2.2.2
             have X6:∀x:XW wr,x.w.cell? ⟨g,m,none⟩=some (.int .i64 ((nth (nth p.code.l t).l k).num m)):=λx=>by rw [x.h.cell (show g<wr.heap.size from I8.lt)];exact hcg
             go_wp2
             refine gz zb zb ?_
             repeat (go_big_quiet_step ((go_at_call 66;exact Calls.M0 (UR p _ _ _ _ ⟨X0 _,X1 _⟩))))
             refine wpQuiet_nil ?_
             intro _ hx
             obtain ⟨x,rfl⟩:=hx
             have hb:=x.h
             have zkR:=dj.qa hb
             obtain ⟨bw,bu,bt⟩:=zkR.Zu
             obtain ⟨f10,f11,f12⟩:=zkR.Y2
             have hWx:=wC hWm hb hWm.size
             go_wp2
             refine bodyPost_ret (v:=VM.val ⟨3,t,k⟩) (by simp [results,Tryz.results25,go_sem,VM.val,bw,bu,bt,f10,f11,f12]) V ⟨by rw [hS3.out],?_⟩
             exact (by repeat (first|assumption|exact xa _ _|refine Jr ?_ (by first|omega|(simp;done)|(simp;omega)) _|refine Zw ?_ (by first|omega|(simp;done)|(simp;omega)) _|refine Zv ?_))
            ·have ho:((nth (nth p.code.l t).l k).num m==0)=false:=by unfold Qj at zR;rw [dif_neg B0] at zR;simpa using zR
             go_wp2
             refine bodyPost_ret (v:=VM.val ⟨3,t,k⟩) (by simp [results,Tryz.results25,go_sem,VM.val,bw,bu,bt,f10,f11,f12]) V ⟨by rw [hS3.out],?_⟩
             exact (by repeat (first|assumption|exact xa _ _|refine Jr ?_ (by first|omega|(simp;done)|(simp;omega)) _|refine Zw ?_ (by first|omega|(simp;done)|(simp;omega)) _|refine Zv ?_))
          ·have zO:jD p (nth p.code.l t).l.length (nth (nth p.code.l t).l k)=none:=by
            unfold jD
            rw [if_neg (by rw [hS.out];simp),if_pos]
            simp only [I7.out 0 za,I7.out 1 za,I7.out 2 za,Bool.and_self]
           go_wp2
           go_roundw
           case rel=>exact ⟨k+1,za,by go_num,wC (wC Ux oI Ux.size) BG (wC Ux oI Ux.size).size,Wm (by rw [sD.out];unfold xj;exact Jn Tg (by rw [zO];rfl))⟩
           case measure=>simp [intOf];omega
       ·have hT2:=Wm (show q4 p t=none by
         have e:(nth p.code.l t).l.length-k=0:=za
         rw [sD.out,xj,e,first])
        go_wp2
        go_roundw
        case rel=>exact ⟨t+1,za,by go_num,wC DH Ux DH.size,Wm (by rw [hF.out,Jn qU hT2.out])⟩
        case measure=>simp [intOf];omega
    ·go_wp2
     refine bodyPost_ret (v:=VM.val ⟨0,0,0⟩) (by simp [results,Tryz.results25,go_sem,VM.val,bw,bu,bt]) V ⟨?_,(by repeat (first|assumption|exact xa _ _|refine Jr ?_ (by first|omega|(simp;done)|(simp;omega)) _|refine Zw ?_ (by first|omega|(simp;done)|(simp;omega)) _|refine Zv ?_))⟩
     have e:p.code.l.length-t=0:=za
     rw [hF.out,e]
     rfl
def Z0 (es:Array MapEntry):List (Value×Value):=es.toList.map λe=>(e.key,e.val)
def U1 (l:List (Int×Value)):List (Value×Value):=l.map λx=>(.int .i64 x.1,x.2)
def YI (w:World)(g:Nat)(l:List (Int×Value)):Prop:=∃es clock,w.heap[g]? =some (.map es clock)/\Z0 es=U1 l
theorem YI.Yl {w w' :World}{g:Nat}{l:List (Int×Value)}(h:YI w g l)(hb:w'.heap[g]? =w.heap[g]?):YI w' g l:=by
 obtain ⟨es,c,h1,h2⟩:=h
 exact ⟨es,c,hb.trans h1,h2⟩
theorem YI.lt {w:World}{g:Nat}{l:List (Int×Value)}(h:YI w g l):g<w.heap.size:=by
 obtain ⟨es,c,h1,_⟩:=h
 exact (Array.getElem?_eq_some_iff.1 h1).1
@[go_sem] theorem YI.alloc {w:World} {g:Nat} {l:List (Int×Value)} (h:YI w g l) (o:Obj):YI (w.alloc o) g l:=h.Yl (Hp w o g h.lt)
@[go_sem] theorem YI.drew {w:World} {g:Nat} {l:List (Int×Value)} (h:YI w g l):YI w.drew g l:=h.Yl V
theorem YI.made (w:World):YI (w.alloc (.map #[] 0)) w.heap.size []:=⟨#[],0,Go.heap_alloc_new w _,V⟩
def atKey (k:Int):List (Int×Value)->Nat->Option (Nat×Value)
 | [],_=>none
 |(j,v)::r,i=>if k=j then some (i,v) else atKey k r (i+1)
theorem Ha (k:Int):∀(es:List MapEntry) (l:List (Int×Value)) (i:Nat),(es.map λe=>(e.key,e.val))=U1 l->Instr.findNow (.int .i64) (.int .i64 k) es i=some (atKey k l i)
 | [],[],_,_=>rfl
 | [],_::_,_,h=>by simp [U1] at h
 |_::_,[],_,h=>by simp [U1] at h
 |e::es,(j,v)::l,i,h=>by
  simp only [U1,xA,JO,qO] at h
  obtain ⟨⟨hk,hv⟩,hr⟩:=h
  have ih:=Ha k es l (i+1) hr
  simp only [Instr.findNow,hk,Instr.sameNow,if_true]
  by_cases MP:k=j
  ·simp [MP,atKey,hv]
  ·have:(k==j)=false:=by simpa using MP
   simp [this,atKey,MP,ih]
section
variable {P:Program}(w:World)
theorem QF (K:TypeId)(k:Int)(es:Array MapEntry)(l:List (Int×Value))(hK:P.underlying K=some (.int .i64))(h:Z0 es=U1 l):
  (Instr.findKey K (.int .i64 k) es.toList).run P w= .ok (atKey k l 0) w:=by
 simp [Instr.findKey,run_underlying hK,Ha k es.toList l 0 h]
theorem vJ (b:Bool)(n:Nat)(K:TypeId)(k:Int)(hK:P.underlying K=some (.int .i64)):(Instr.checkKey b (n+1) K (.int .i64 k)).run P w= .ok () w:=by
 simp [Instr.checkKey,run_underlying hK]
theorem WC (T K E:TypeId)(g:Nat)(k:Int)(l:List (Int×Value))(z:Value)(hT:P.underlying T=some (.map K E))(hK:P.underlying K=some (.int .i64))
  (hz:(zeroValue E).run P w= .ok z w) (h:YI w g l):
  (Instr.lookup T (.map (some g)) (.int .i64 k) true).run P w= .ok (.tuple #[((atKey k l 0).map (·.2)).getD z,.bool (atKey k l 0).isSome]) w:=by
 obtain ⟨es,c,h1,h2⟩:=h
 have e0:(getObj g).run P w= .ok (.map es c) w:=by simp [getObj,Sem.run,h1]
 have e1:=QF (P:=P) w K k es l hK h2
 have e2:=vJ (P:=P) w es.isEmpty 9999 K k hK
 cases ha:atKey k l 0 with
 |none=>rw [ha] at e1;simp [Instr.lookup,run_underlying hT,e0,e1,e2,hz]
 |some x=>rw [ha] at e1;simp [Instr.lookup,run_underlying hT,e0,e1,e2]
def World.ji (w:World)(g:Nat)(es:Array MapEntry)(c:Nat):World:= { w with heap:=w.heap.setIfInBounds g (.map es c) }
theorem KQ (T K E:TypeId)(g:Nat)(k:Int)(l:List (Int×Value))(v:Value)(hT:P.underlying T=some (.map K E))(hK:P.underlying K=some (.int .i64))
  (h:YI w g l) (hk:atKey k l 0=none):
  ∃w',(Instr.mapUpdate T (.map (some g)) (.int .i64 k) v).run P w= .ok () w' /\YI w' g (l++ [(k,v)])/\w.grownBy w' (some g):=by
 obtain ⟨es,c,h1,h2⟩:=h
 have qU:g<w.heap.size:=(Array.getElem?_eq_some_iff.1 h1).1
 have e0:(getObj g).run P w= .ok (.map es c) w:=by simp [getObj,Sem.run,h1]
 have e1:=QF (P:=P) w K k es l hK h2
 have e2:=vJ (P:=P) w false 9999 K k hK
 rw [hk] at e1
 refine ⟨World.ji w g (es.push { key:= .int .i64 k,val:=v,born:=c }) (c+1),?_,⟨es.push { key:= .int .i64 k,val:=v,born:=c },c+1,by simp [World.ji,qU],?_⟩,⟨V,V,V,by simp [World.ji],λj hj Qo=>?_⟩⟩
 ·simp [Instr.mapUpdate,run_underlying hT,e0,e1,e2,setObj,Sem.run,h1,World.ji]
 ·simp [Z0,U1] at h2⊢
  exact h2
 ·have:g≠j:=λe=>Qo (by rw [e])
  simp [World.ji,wG,this]
@[go_sem] def N8 (P:Program) (T:TypeId):TypeId:=match P.underlying T with|some (.map k _)=>k|_=>0
@[go_sem] def zoD (P:Program) (T:TypeId):TypeId:=match P.underlying T with|some (.map _ e)=>e|_=>0
@[go_sem] def DP (k:Int):List MapEntry->Bool
 | []=>true
 |e::es=>(match e.key with| .int .i64 j=> !(k==j)|_=>false)&&DP k es
theorem WN (k:Int):∀(es:List MapEntry) (i:Nat),DP k es=true->Instr.findNow (.int .i64) (.int .i64 k) es i=some none
 | [],_,_=>rfl
 |e::es,i,h=>by
  simp only [DP,qI] at h
  obtain ⟨h1,h2⟩:=h
  have ih:=WN k es (i+1) h2
  split at h1
  ·rename_i j hj
   have:(k==j)=false:=by simpa using h1
   simp [Instr.findNow,hj,Instr.sameNow,this,ih]
  ·cases h1
def EB (P:Program)(w:World)(T:TypeId)(g:Nat)(k:Int)(v:Value):Result Unit:=(Instr.mapUpdate T (.map (some g)) (.int .i64 k) v).run P w
@[go_sem] theorem rj (T:TypeId) (g:Nat) (k:Int) (v:Value) (es:List MapEntry) (c:Nat) (hT:P.underlying T=some (.map (N8 P T) (zoD P T))) (hK:P.underlying (N8 P T)=some (.int .i64))
  (hg:g=w.heap.size):
  (Instr.mapUpdate T (.map (some g)) (.int .i64 k) v).run P (w.alloc (.map es.toArray c))=
   if DP k es=true then .ok () (w.alloc (.map (es++ [(⟨.int .i64 k,v,c⟩:MapEntry)]).toArray (c+1))) else EB P (w.alloc (.map es.toArray c)) T g k v:=by
 by_cases F8:DP k es=true
 case neg=>rw [if_neg F8];rfl
 rw [if_pos F8]
 subst hg
 have h1:(w.alloc (.map es.toArray c)).heap[w.heap.size]? =some (.map es.toArray c):=Go.heap_alloc_new w _
 have e0:(getObj w.heap.size).run P (w.alloc (.map es.toArray c))= .ok (.map es.toArray c) (w.alloc (.map es.toArray c)):=by simp only [getObj,Sem.run,h1]
 have e1:(Instr.findKey (N8 P T) (.int .i64 k) es).run P (w.alloc (.map es.toArray c))= .ok none (w.alloc (.map es.toArray c)):=by
  simp [Instr.findKey,run_underlying hK,WN k es 0 F8]
 have e2:=vJ (P:=P) (w.alloc (.map es.toArray c)) false 9999 (N8 P T) k hK
 have e3:∀o:Obj,(setObj w.heap.size o).run P (w.alloc (.map es.toArray c))= .ok () (w.alloc o):=by
  intro o
  simp only [setObj,Sem.run,h1]
  have:(w.alloc (.map es.toArray c)).heap.setIfInBounds w.heap.size o=w.heap.push o:=by
   show (w.heap.push _).setIfInBounds w.heap.size o=_
   apply Array.ext_getElem?
   intro i
   simp only [wG,Array.getElem?_push,Array.size_push]
   by_cases hi:w.heap.size=i
   ·simp [hi]
   ·have:¬i=w.heap.size:=λe=>hi e.symm
    simp [hi,this]
  simp only [this]
  rfl
 simp [Instr.mapUpdate,run_underlying hT,e0,e1,e2,e3]
end
def mK (op:Int):Value:= .agg #[.string (YW op),.string (qL op)]
def VP :List (Int×Value):=(List.range 18).map λi:Nat=>((i:Int)+1,mK ((i:Int)+1))
set_option maxHeartbeats 2000000 in
theorem mJ (w:World):
  Calls Tryz.prog 88 #[] w λe w' =>∃g,w.heap.size<=g/\e= .returned (.map (some g))/\YI w' g VP/\Below w.heap.size w w' :=by
 have hmm:= @run_makeMap Tryz.prog
 go_enter Tryz.func88,Tryz.ntmps88
 go_wp2
 go_ret
 exact ⟨w.heap.size,qC _,V,⟨_,_,Go.heap_alloc_new w _,zb⟩,(xa _ _).alloc (qC _) _⟩
def C6 (op:Int):Bool:=decide (1<=op/\op<=18)
theorem s6 (op:Int)(h:1<=op/\op<=18):op=1\/op=2\/op=3\/op=4\/op=5\/op=6\/op=7\/op=8\/op=9\/op=10\/op=11\/op=12\/op=13\/op=14\/op=15\/op=16\/op=17\/op=18:=za
theorem R9 (op:Int)(h:¬(1<=op/\op<=18)):YW op=⟨#[]⟩:=by
 unfold YW
 iterate 18 rw [if_neg za]
theorem fY (op:Int)(h:¬(1<=op/\op<=18)):qL op=⟨#[]⟩:=by
 unfold qL
 iterate 18 rw [if_neg za]
theorem Qk (op:Int):(YW op).toList.isEmpty= !C6 op:=by
 unfold C6
 by_cases h:1<=op/\op<=18
 ·rw [decide_eq_true h]
  rcases s6 op h with h|h|h|h|h|h|h|h|h|h|h|h|h|h|h|h|h|h<;>subst h<;>first|(simp [YW];done)|(unfold YW;decide+kernel)
 ·rw [decide_eq_false h,R9 op h];first|(simp;done)|decide+kernel
theorem atKey_none (k:Int):∀(l:List (Int×Value)) (i:Nat),(∀x∈l,x.1≠k)->atKey k l i=none
 | [],_,_=>rfl
 |x::l,i,h=>by
  rw [atKey,if_neg (λe=>h x (by simp) e.symm),atKey_none k l (i+1) λy hy=>h y (by simp [hy])]
theorem aw (op:Int):(atKey op VP 0).isSome=C6 op/\((atKey op VP 0).map (·.2)).getD (.agg #[.string ⟨#[]⟩,.string ⟨#[]⟩])=mK op:=by
 unfold C6
 by_cases h:1<=op/\op<=18
 ·rw [decide_eq_true h]
  rcases s6 op h with h|h|h|h|h|h|h|h|h|h|h|h|h|h|h|h|h|h<;>subst h<;>exact ⟨V,V⟩
 ·rw [decide_eq_false h,atKey_none]
  ·exact ⟨V,by simp [mK,R9 op h,fY op h]⟩
  ·intro x hx
   simp only [VP,List.mem_map,List.mem_range] at hx
   obtain ⟨i,hi,rfl⟩:=hx
   dsimp only
   omega
theorem BP (w:World)(g:Nat)(op:Int)(h:YI w g VP):
  (Instr.lookup 134 (.map (some g)) (.int .i64 op) true).run Tryz.prog w= .ok (.tuple #[.agg #[.string (YW op),.string (qL op)],.bool (C6 op)]) w:=by
 have h1:=WC (P:=Tryz.prog) w 134 3 132 g op VP (.agg #[.string ⟨#[]⟩,.string ⟨#[]⟩]) (by simp) (by simp) (by simp) h
 rw [(aw op).1,(aw op).2] at h1
 exact h1
set_option maxHeartbeats 1000000 in
theorem Bi (x:Ins)(w:World):
  Calls Tryz.prog 89 #[x.val] w λe w' =>e= .returned (.agg #[.int .i64 x.a,.int .i64 x.b,.int .i64 x.c])/\Below w.heap.size w w' :=by
 unfold Ins.val
 go_enter Tryz.func89,Tryz.ntmps89
 go_wp2
 refine bodyPost_ret (v:= .agg #[.int .i64 x.a,.int .i64 x.b,.int .i64 x.c]) (by simp [results,Tryz.results89,go_sem]) V ⟨V,?_⟩
 exact (by repeat (first|assumption|exact xa _ _|refine Jr ?_ (by first|omega|(simp;done)|(simp;omega)) _|refine Zw ?_ (by first|omega|(simp;done)|(simp;omega)) _|refine Zv ?_))
set_option maxHeartbeats 1000000 in
theorem Hn (p:PR)(c:Sl Ins)(kind n:Int)(w:World)(h:p.At w)(hc:c.l.length<=140737488355328):
  Calls Tryz.prog 90 #[p.val,.slice c.A c.l.length c.cap,.int .u8 kind,.int .i64 n] w λe w' =>e= .returned (.bool (GD p c.l.length kind n))/\Below w.heap.size w w' :=by
 have e:wrap64 ((c.l.length:Int)+1)=c.l.length+1:=Bm _ ⟨za,za⟩
 have E:=Wm e
 clear e
 unfold PR.val
 go_enter Tryz.func90,Tryz.ntmps90
 go_wp2
 all_goals
  go_ret
  refine ⟨?_,(by repeat (first|assumption|exact xa _ _|refine Jr ?_ (by first|omega|(simp;done)|(simp;omega)) _|refine Zw ?_ (by first|omega|(simp;done)|(simp;omega)) _|refine Zv ?_))⟩
  simp_all [GD,E.out]
  try omega
theorem zbI (x:Ins)(m:Nat)(hm:m<3)(w:World):(Instr.index 136 (.agg #[.int .i64 x.a,.int .i64 x.b,.int .i64 x.c]) (.int .i64 (m:Int))).run Tryz.prog w= .ok (.int .i64 (x.num m)) w:=by
 match m,hm with
 |0,_=>show _=_;kernel_rfl
 |1,_=>show _=_;kernel_rfl
 |2,_=>show _=_;kernel_rfl
set_option maxRecDepth 100000 in
set_option maxHeartbeats 2000000 in
theorem dI (p:PR)(w:World)(h:p.At w):
  Calls Tryz.prog 43 #[p.val] w λe w' =>e= .returned (wi p).val/\Below w.heap.size w w' :=by
 have hc:=h.code
 have hw:=h.words
 have zqN:=hc.nn
 have zqM:=hc.no (w.heap.size+1) za
 have qg:=hc.len
 have ZU:=h.words.len
 unfold PR.val
 by_cases h1:p.code.l.length<1\/4<p.code.l.length\/64<p.words.l.length
 ·have Hf:=Wm (Hi p h1)
  go_enter Tryz.func43,Tryz.ntmps43
  go_wp2
  all_goals
   refine bodyPost_ret (v:=VM.val ⟨1,0,0⟩) (by simp [results,Tryz.results43,go_sem,VM.val]) V ⟨by rw [Hf.out],?_⟩
   exact (by repeat (first|assumption|exact xa _ _|refine Jr ?_ (by first|omega|(simp;done)|(simp;omega)) _|refine Zw ?_ (by first|omega|(simp;done)|(simp;omega)) _|refine Zv ?_))
 ·by_cases h2:p.zm<0\/4<p.zm\/p.ze<1\/200<p.ze
  ·have Hf:=Wm (GL p h1 h2)
   go_enter Tryz.func43,Tryz.ntmps43
   go_wp2
   all_goals
    refine bodyPost_ret (v:=VM.val ⟨3,0,0⟩) (by simp [results,Tryz.results43,go_sem,VM.val]) V ⟨by rw [Hf.out],?_⟩
    exact (by repeat (first|assumption|exact xa _ _|refine Jr ?_ (by first|omega|(simp;done)|(simp;omega)) _|refine Zw ?_ (by first|omega|(simp;done)|(simp;omega)) _|refine Zv ?_))
  ·have Hf:=Wm (GM p h1 h2)
   go_enter Tryz.func43,Tryz.ntmps43
   go_wp2
   have O3:Below w.heap.size w ((w.alloc (Obj.cells #[Value.slice p.code.A p.code.l.length p.code.cap,Value.slice p.words.A p.words.l.length p.words.cap,Value.int IntKind.i64 p.zm,Value.int IntKind.i64 p.ze] 25)).alloc (Obj.cells #[Value.int IntKind.i64 0,Value.int IntKind.i64 0,Value.int IntKind.i64 0] 28)):=(by repeat (first|assumption|exact xa _ _|refine Jr ?_ (by first|omega|(simp;done)|(simp;omega)) _|refine Zw ?_ (by first|omega|(simp;done)|(simp;omega)) _|refine Zv ?_))
   have hB0:=(xB.new w 25 #[Value.slice p.code.A p.code.l.length p.code.cap,Value.slice p.words.A p.words.l.length p.words.cap,Value.int IntKind.i64 p.zm,Value.int IntKind.i64 p.ze]).alloc (Obj.cells #[Value.int IntKind.i64 0,Value.int IntKind.i64 0,Value.int IntKind.i64 0] 28)
   have B7:=xB.new (w.alloc (Obj.cells #[Value.slice p.code.A p.code.l.length p.code.cap,Value.slice p.words.A p.words.l.length p.words.cap,Value.int IntKind.i64 p.zm,Value.int IntKind.i64 p.ze] 25)) 28 #[Value.int IntKind.i64 0,Value.int IntKind.i64 0,Value.int IntKind.i64 0]
   rw [World.size_alloc] at B7
   generalize (w.alloc _).alloc _=w1 at*
   go_loopw [52] (λi wr=>∃t:Nat,t<=p.code.l.length/\i= .int .i64 t/\Below w1.heap.size w1 wr/\Hid (wi p=(first (q4 p) (p.code.l.length-t) t).getD ⟨0,0,0⟩)) (λi _=>p.code.l.length-(intOf i).toNat)
   case atStart=>exact ⟨0,za,V,xa _ _,Hf⟩
   case round=>
    obtain ⟨t,ht,rfl,DH,hF⟩:=hrel
    clear Hf
    have hcr:=(hc.qa O3).qa DH
    have hwr:=(hw.qa O3).qa DH
    have uS:=hB0.qa DH
    have di:=B7.qa DH
    obtain ⟨bw,bu,bt⟩:=di.Zu
    obtain ⟨f10,f11,f12⟩:=di.Y2
    have hWr:=wC O3 DH O3.size
    have hl0:=uS.lt
    have iL:=di.lt
    by_cases qU:t<p.code.l.length
    ·have Wk:=(hcr.inner t qU).len
     by_cases uW:400<(nth p.code.l t).l.length
     ·have hT:=Wm (show wi p=⟨1,t,0⟩ by rw [hF.out,j9 qU (by unfold q4;rw [if_pos uW])];rfl)
      go_wp2
      refine bodyPost_ret (v:=VM.val ⟨1,t,0⟩) (by simp [results,Tryz.results43,go_sem,VM.val,bw,bu,bt,f10,f11,f12]) V ⟨by rw [hT.out],?_⟩
      exact (by repeat (first|assumption|exact xa _ _|refine Jr ?_ (by first|omega|(simp;done)|(simp;omega)) _|refine Zw ?_ (by first|omega|(simp;done)|(simp;omega)) _|refine Zv ?_))
     ·have hT:=Wm (show q4 p t=xj p t 0 by unfold q4 xj;rw [if_neg uW])
      go_wp2
      have hsr:p.code.l.length<=4:=za
      clear bw bu bt f10 f11 f12
      obtain ⟨wo,rfl⟩:∃wo,wo=wr:=⟨_,V⟩
      go_loopw [64] (λi ws=>∃k:Nat,k<=(nth p.code.l t).l.length/\i= .int .i64 k/\Below wo.heap.size wo ws/\Hid (q4 p t=xj p t k)) (λi _=>(nth p.code.l t).l.length-(intOf i).toNat)
      case atStart=>exact ⟨0,za,V,xa _ _,hT⟩
      case round=>
       obtain ⟨k,hk,rfl,Ux,sD⟩:=hrel
       clear hT
       have XH:=hcr.qa Ux
       have sf:=hwr.qa Ux
       have uR:=uS.qa Ux
       have oJ:=di.qa Ux
       have hWs:=wC hWr Ux hWr.size
       have hl0:=uR.lt
       have iL:=oJ.lt
       by_cases Tg:k<(nth p.code.l t).l.length
       ·go_wp2
        have hA4:=xB.new wr 32 #[.int .i64 (nth (nth p.code.l t).l k).op,.int .i64 (nth (nth p.code.l t).l k).a,.int .i64 (nth (nth p.code.l t).l k).b,.int .i64 (nth (nth p.code.l t).l k).c]
        have hb4:Below wr.heap.size wr (wr.alloc (Obj.cells #[.int .i64 (nth (nth p.code.l t).l k).op,.int .i64 (nth (nth p.code.l t).l k).a,.int .i64 (nth (nth p.code.l t).l k).b,.int .i64 (nth (nth p.code.l t).l k).c] 32)):=(by repeat (first|assumption|exact xa _ _|refine Jr ?_ (by first|omega|(simp;done)|(simp;omega)) _|refine Zw ?_ (by first|omega|(simp;done)|(simp;omega)) _|refine Zv ?_))
        have AE:=hA4.lt
        generalize (wr.alloc _)=w4 at*
        go_cut [7,8] (λs ok wc=>∃g,s= .pointer (some ⟨g,0,none⟩)/\w4.heap.size<=g/\xB wc g 132 #[.string (YW (nth (nth p.code.l t).l k).op),.string (qL (nth (nth p.code.l t).l k).op)]/\ok= .bool (C6 (nth (nth p.code.l t).l k).op)/\Below w4.heap.size w4 wc)
        case first=>
         have zxz:wr.heap.size<w4.heap.size+1:=za
         have DG:w4.cell? ⟨wr.heap.size,0,none⟩=some (.int .i64 (nth (nth p.code.l t).l k).op):=hA4.cell 0
         go_region_with ((go_at_call 88;refine (mJ _).mono ?_;rintro e w' ⟨g,hg,rfl,hM,hb⟩;have gv:=λW=>BP W g (nth (nth p.code.l t).l k).op;obtain ⟨hcc,hff⟩:=zlV hb;have hl3:w4.heap.size<=w'.heap.size:=(by have:=hb.size;simp at this;omega);have hl4:g<w'.heap.size:=hM.lt;have hl5:wr.heap.size<w'.heap.size:=za;have TK:Below w4.heap.size w4 w' :=(by refine Below.trans ?_ (hb.mono ?_);exact (by repeat (first|assumption|exact xa _ _|refine Jr ?_ (by first|omega|(simp;done)|(simp;omega)) _|refine Zw ?_ (by first|omega|(simp;done)|(simp;omega)) _|refine Zv ?_));simp)))
         all_goals
          go_wp2
          go_meet
          case rel=>
           first
            |exact ⟨_,V,hl3,xB.new _ _ _,V,(by repeat (first|assumption|exact xa _ _|refine Jr ?_ (by first|omega|(simp;done)|(simp;omega)) _|refine Zw ?_ (by first|omega|(simp;done)|(simp;omega)) _|refine Zv ?_))⟩
            |exact ⟨_,V,qC _,((xB.qa (xB.drew (xB.new w4 _ _)) hb).zaU 0 _).zaU 1 _,V,(by repeat (first|assumption|exact xa _ _|refine Jr ?_ (by first|omega|(simp;done)|(simp;omega)) _|refine Zw ?_ (by first|omega|(simp;done)|(simp;omega)) _|refine Zv ?_))⟩
            |trace_state
        case rest=>
         obtain ⟨g,rfl,hg,hBg,rfl,T8⟩:=hcut
         have TK:Below wr.heap.size wr wc:=wC hb4 T8 hb4.size
         have hAc:=hA4.qa T8
         have hcc:=XH.qa TK
         have hwc:=sf.qa TK
         have zsv:=uR.qa TK
         have zdF:=oJ.qa TK
         have hWc:=wC hWs TK hWs.size
         by_cases ho:C6 (nth (nth p.code.l t).l k).op=true
         case neg=>
          have Dt:C6 (nth (nth p.code.l t).l k).op=false:=by simpa using ho
          have hS:=Wm (show wi p=⟨2,t,k⟩ by
           have e1:q4 p t=some ⟨2,t,k⟩:=by
            rw [sD.out,xj,j9 Tg (b:=⟨2,t,k⟩) (by unfold jD;rw [if_pos (by rw [Qk,Dt];rfl)];rfl)]
           rw [hF.out,j9 qU e1];rfl)
          obtain ⟨bw,bu,bt⟩:=zdF.Zu
          obtain ⟨f10,f11,f12⟩:=zdF.Y2
          clear ho
          go_wp2
          refine bodyPost_ret (v:=VM.val ⟨2,t,k⟩) (by simp [results,Tryz.results43,go_sem,VM.val,bw,bu,bt,f10,f11,f12]) V ⟨by rw [hS.out],?_⟩
          exact (by repeat (first|assumption|exact xa _ _|refine Jr ?_ (by first|omega|(simp;done)|(simp;omega)) _|refine Zw ?_ (by first|omega|(simp;done)|(simp;omega)) _|refine Zv ?_))
         case pos=>
          obtain ⟨a0,a1,a2,a3⟩:=hAc.gx
          have hS:=Wm ho
          go_wp2_with fail
          refine (Bi (nth (nth p.code.l t).l k) _).mono ?_
          rintro e w3 ⟨rfl,aY⟩
          have hc3:=hcc.qa aY
          have Dh:=hwc.qa aY
          have zdH:=zsv.qa aY
          have zdG:=zdF.qa aY
          have zss:=hBg.qa aY
          have hW3:=wC hWc aY hWc.size
          have oI:=wC TK aY TK.size
          clear a0 a1 a2 a3
          go_wp2
          obtain ⟨wp,rfl⟩:∃wp,wp=wr:=⟨_,V⟩
          go_loopw [83] (λi ws=>∃m:Nat,m<=3/\i= .int .i64 m/\Below w3.heap.size w3 ws/\Hid (∀j,j<m->Qj p (nth p.code.l t).l.length (nth (nth p.code.l t).l k) j=true)) (λi _=>3-(intOf i).toNat)
          case atStart=>exact ⟨0,za,V,xa _ _,Wm (λj hj=>absurd hj za)⟩
          case round=>
           obtain ⟨m,hm,rfl,BG,I7⟩:=hrel
           have GX:=hc3.qa BG
           have hwm:=Dh.qa BG
           have Gr:=zdH.qa BG
           have dj:=zdG.qa BG
           have I8:=zss.qa BG
           have hWm:=wC hW3 BG hW3.size
           by_cases hm3:m<3
           ·have OX:=zbI (nth (nth p.code.l t).l k) m hm3
            have X0:∀x:XW wr,p.code.At x.w:=λx=>GX.qa x.h
            have X1:∀x:XW wr,p.words.At x.w:=λx=>hwm.qa x.h
            have X2:∀x:XW wr,x.w.cell? ⟨w.heap.size,0,none⟩=_:=λx=>(Gr.qa x.h).gx.1
            have X3:∀x:XW wr,x.w.cell? ⟨w.heap.size,1,none⟩=_:=λx=>(Gr.qa x.h).gx.2.1
            have X4:∀x:XW wr,x.w.cell? ⟨w.heap.size,2,none⟩=_:=λx=>(Gr.qa x.h).gx.2.2.1
            have X5:∀x:XW wr,x.w.cell? ⟨w.heap.size,3,none⟩=_:=λx=>(Gr.qa x.h).gx.2.2.2
            have X6:∀x:XW wr,x.w.cell? ⟨g,1,none⟩=_:=λx=>(I8.qa x.h).Bb.2
            by_cases B0:m<(qL (nth (nth p.code.l t).l k).op).size
            ·by_cases zR:Qj p (nth p.code.l t).l.length (nth (nth p.code.l t).l k) m=true
             ·have iE:=zR
              unfold Qj at iE
              rw [dif_pos B0] at iE
              have Vs:decide (((qL (nth (nth p.code.l t).l k).op).size:Int)<=(m:Int))=false:=decide_eq_false za
              have zrz:decide ((qL (nth (nth p.code.l t).l k).op).size<=m)=false:=decide_eq_false za
              go_wp2
              refine gz zb zb ?_
              repeat (go_big_quiet_step ((go_at_call 90;exact Calls.M0 (Hn p _ _ _ _ ⟨X0 _,X1 _⟩ Wk))))
              refine wpQuiet_nil ?_
              intro _ hx
              obtain ⟨x,rfl⟩:=hx
              have BF:=x.h
              go_wp2
              go_roundw
              case rel=>exact ⟨m+1,za,by go_num,wC BG BF BG.size,Wm (λj hj=>by rcases yq j m with h' |h';exact I7.out j h';have:j=m:=za;subst this;exact zR)⟩
              case measure=>simp [intOf];omega
             ·have iE:GD p (nth p.code.l t).l.length ((qL (nth (nth p.code.l t).l k).op)[m].toNat:Int) ((nth (nth p.code.l t).l k).num m)=false:=by
               unfold Qj at zR
               rw [dif_pos B0] at zR
               simpa using zR
              have hS3:=Wm (show wi p=⟨3,t,k⟩ by
               have e0:jD p (nth p.code.l t).l.length (nth (nth p.code.l t).l k)=some 3:=by
                unfold jD
                rw [if_neg (by rw [Qk,hS.out];simp),if_neg]
                intro zO
                simp only [qI] at zO
                match m,hm3,zR with
                |0,_,zR=>exact zR zO.1.1
                |1,_,zR=>exact zR zO.1.2
                |2,_,zR=>exact zR zO.2
               have e1:q4 p t=some ⟨3,t,k⟩:=by
                rw [sD.out,xj,j9 Tg (b:=⟨3,t,k⟩) (by rw [e0];rfl)]
               rw [hF.out,j9 qU e1];rfl)
              go_wp2
              refine gz zb zb ?_
              repeat (go_big_quiet_step ((go_at_call 90;exact Calls.M0 (Hn p _ _ _ _ ⟨X0 _,X1 _⟩ Wk))))
              refine wpQuiet_nil ?_
              intro _ hx
              obtain ⟨x,rfl⟩:=hx
              have BF:=x.h
              obtain ⟨bw,bu,bt⟩:=(dj.qa BF).Zu
              obtain ⟨f10,f11,f12⟩:=(dj.qa BF).Y2
              have hWx:=wC hWm BF hWm.size
              go_wp2
              refine bodyPost_ret (v:=VM.val ⟨3,t,k⟩) (by simp [results,Tryz.results43,go_sem,VM.val,bw,bu,bt,f10,f11,f12]) V ⟨by rw [hS3.out],?_⟩
              exact (by repeat (first|assumption|exact xa _ _|refine Jr ?_ (by first|omega|(simp;done)|(simp;omega)) _|refine Zw ?_ (by first|omega|(simp;done)|(simp;omega)) _|refine Zv ?_))
            ·have Vs:decide (((qL (nth (nth p.code.l t).l k).op).size:Int)<=(m:Int))=true:=decide_eq_true za
             have zrz:decide ((qL (nth (nth p.code.l t).l k).op).size<=m)=true:=decide_eq_true za
             by_cases zR:Qj p (nth p.code.l t).l.length (nth (nth p.code.l t).l k) m=true
             ·have iE:((nth (nth p.code.l t).l k).num m==0)=true:=by unfold Qj at zR;rwa [dif_neg B0] at zR
              have zqG:((nth (nth p.code.l t).l k).num m !=0)=false:=by simpa using iE
              go_wp2
              refine gz zb zb ?_
              repeat (go_big_quiet_step (fail))
              refine wpQuiet_nil ?_
              intro _ hx
              obtain ⟨x,rfl⟩:=hx
              have BF:=x.h
              go_wp2
              go_roundw
              case rel=>exact ⟨m+1,za,by go_num,wC BG BF BG.size,Wm (λj hj=>by rcases yq j m with h' |h';exact I7.out j h';have:j=m:=za;subst this;exact zR)⟩
              case measure=>simp [intOf];omega
             ·have iE:((nth (nth p.code.l t).l k).num m==0)=false:=by unfold Qj at zR;rw [dif_neg B0] at zR;simpa using zR
              have zqG:((nth (nth p.code.l t).l k).num m !=0)=true:=by simpa using iE
              have hS3:=Wm (show wi p=⟨3,t,k⟩ by
               have e0:jD p (nth p.code.l t).l.length (nth (nth p.code.l t).l k)=some 3:=by
                unfold jD
                rw [if_neg (by rw [Qk,hS.out];simp),if_neg]
                intro zO
                simp only [qI] at zO
                match m,hm3,zR with
                |0,_,zR=>exact zR zO.1.1
                |1,_,zR=>exact zR zO.1.2
                |2,_,zR=>exact zR zO.2
               have e1:q4 p t=some ⟨3,t,k⟩:=by
                rw [sD.out,xj,j9 Tg (b:=⟨3,t,k⟩) (by rw [e0];rfl)]
               rw [hF.out,j9 qU e1];rfl)
              go_wp2
              refine gz zb zb ?_
              repeat (go_big_quiet_step (fail))
              refine wpQuiet_nil ?_
              intro _ hx
              obtain ⟨x,rfl⟩:=hx
              have BF:=x.h
              obtain ⟨bw,bu,bt⟩:=(dj.qa BF).Zu
              obtain ⟨f10,f11,f12⟩:=(dj.qa BF).Y2
              have hWx:=wC hWm BF hWm.size
              go_wp2
              refine bodyPost_ret (v:=VM.val ⟨3,t,k⟩) (by simp [results,Tryz.results43,go_sem,VM.val,bw,bu,bt,f10,f11,f12]) V ⟨by rw [hS3.out],?_⟩
              exact (by repeat (first|assumption|exact xa _ _|refine Jr ?_ (by first|omega|(simp;done)|(simp;omega)) _|refine Zw ?_ (by first|omega|(simp;done)|(simp;omega)) _|refine Zv ?_))
           ·have zO:jD p (nth p.code.l t).l.length (nth (nth p.code.l t).l k)=none:=by
             unfold jD
             rw [if_neg (by rw [Qk,hS.out];simp),if_pos]
             simp only [I7.out 0 za,I7.out 1 za,I7.out 2 za,Bool.and_self]
            go_wp2
            go_roundw
            case rel=>exact ⟨k+1,za,by go_num,wC (wC Ux oI Ux.size) BG (wC Ux oI Ux.size).size,Wm (by rw [sD.out];unfold xj;exact Jn Tg (by rw [zO];rfl))⟩
            case measure=>simp [intOf];omega
       ·have hT2:=Wm (show q4 p t=none by
         have e:(nth p.code.l t).l.length-k=0:=za
         rw [sD.out,xj,e,first])
        go_wp2
        go_roundw
        case rel=>exact ⟨t+1,za,by go_num,wC DH Ux DH.size,Wm (by rw [hF.out,Jn qU hT2.out])⟩
        case measure=>simp [intOf];omega
    ·go_wp2
     refine bodyPost_ret (v:=VM.val ⟨0,0,0⟩) (by simp [results,Tryz.results43,go_sem,VM.val,bw,bu,bt]) V ⟨?_,(by repeat (first|assumption|exact xa _ _|refine Jr ?_ (by first|omega|(simp;done)|(simp;omega)) _|refine Zw ?_ (by first|omega|(simp;done)|(simp;omega)) _|refine Zv ?_))⟩
     have e:p.code.l.length-t=0:=za
     rw [hF.out,e]
     rfl
def JE (p:PR)(t:Nat):Int:=p.code.l.length+p.words.l.length+((p.code.l.take t).map λs=>(s.l.length:Int)).sum
theorem RF (p:PR)(t:Nat)(h:t<p.code.l.length):JE p (t+1)=JE p t+(nth p.code.l t).l.length:=by
 simp only [JE]
 rw [List.take_add_one,Gv _ _ h]
 simp [Int.add_assoc]
theorem eK (p:PR)(w:World)(h:p.At w)(t:Nat)(ht:t<=p.code.l.length):0<=JE p t/\JE p t<=(t+2)*140737488355328:=by
 induction t with
 |zero=>
  have:=h.code.len
  have:=h.words.len
  simp [JE]
  omega
 |succ t ih=>
  have:=ih za
  rw [RF p t za]
  have:=(h.code.inner t za).len
  omega
def Kf (p:PR):Bool:=decide (JE p (min p.code.l.length 100)>5000)||decide ((p.code.l.length:Int)>100)
set_option maxHeartbeats 1000000 in
theorem A6 (p:PR)(w:World)(h:p.At w):
  Calls Tryz.prog 23 #[p.val] w λe w' =>e= .returned (.bool (Kf p))/\Below w.heap.size w w' :=by
 have hc:=h.code
 have Xq:=hc.nn
 have qg:=hc.len
 have ZU:=h.words.len
 unfold PR.val
 go_enter Tryz.func23,Tryz.ntmps23
 go_wp2
 go_loop [3,4] (λn i=>∃t:Nat,t<=p.code.l.length/\t<=100/\i= .int .i64 t/\n= .int .i64 (JE p t)) (λ_ i=>100-(intOf i).toNat)
 case atStart=>exact ⟨0,za,za,V,by simp [JE]⟩
 case round=>
  obtain ⟨t,ht1,ht2,rfl,rfl⟩:=hrel
  have hb1:=eK p w h t ht1
  have qU:t<p.code.l.length->(nth p.code.l t).l.length<=140737488355328:=λhh=>(h.code.inner t hh).len
  by_cases h1:t<p.code.l.length
  ·by_cases h2:t<100
   ·have hl:=qU h1
    have Hs:=Wm (RF p t h1)
    clear qU
    go_wp2
    go_round
    case rel=>exact ⟨t+1,za,za,by go_num,by rw [Hs.out]⟩
    case measure=>simp [intOf];omega
   ·have e:min p.code.l.length 100=t:=za
    have Hv:=Wm (show Kf p=(decide (JE p t>5000)||decide ((p.code.l.length:Int)>100)) by rw [Kf,e])
    clear e qU
    go_wp2
    all_goals
     go_ret
     refine ⟨?_,(xa _ _).alloc (qC _) _⟩
     rw [Hv.out]
     simp [*]
     try omega
  ·have e:min p.code.l.length 100=t:=za
   have Hv:=Wm (show Kf p=(decide (JE p t>5000)||decide ((p.code.l.length:Int)>100)) by rw [Kf,e])
   clear e qU
   go_wp2
   all_goals
    go_ret
    refine ⟨?_,(xa _ _).alloc (qC _) _⟩
    rw [Hv.out]
    simp [*]
    try omega
def ZI (p:Pg)(size kind n:Int):Bool:=
 if kind=110 then true else
 let zbs:=if kind=114 then p.ze else if kind=119 then (p.words.length:Int) else if kind=108 then p.zm else if kind=99 then wrap64 (size+1) else 0
 decide (0<=n)&&decide (n<zbs)
def gq (p:Pg)(size:Int)(x:Ins)(k:Nat):Bool:=
 if h:k<(qL x.op).size then ZI p size (((qL x.op)[k]).toNat:Int) (x.num k) else x.num k==0
def ZT (p:Pg)(size:Int)(x:Ins):Option Int:=
 if (YW x.op).toList.isEmpty then some 2 else if gq p size x 0&&gq p size x 1&&gq p size x 2 then none else some 3
def xE (p:Pg)(t:Nat):Option VM:=
 if 400<(nth p.code t).length then some ⟨1,t,0⟩ else
 first (λat_=>(ZT p (nth p.code t).length (nth (nth p.code t) at_)).map λe=>⟨e,t,at_⟩) ((nth p.code t).length-0) 0
def yC (p:Pg):VM:=
 if p.code.length<1\/4<p.code.length\/64<p.words.length then ⟨1,0,0⟩ else
 if p.zm<0\/4<p.zm\/p.ze<1\/200<p.ze then ⟨3,0,0⟩ else
 (first (xE p) (p.code.length-0) 0).getD ⟨0,0,0⟩
theorem zI {α β:Type}[Inhabited α][Inhabited β](f:α->β)(l:List α)(i:Nat)(h:i<l.length):nth (l.map f) i=f (nth l i):=by simp [nth,h]
theorem Vy {β:Type}{f g:Nat->Option β} :∀(n i:Nat),(∀j,i<=j->j<i+n->f j=g j)->first f n i=first g n i
 |0,_,_=>rfl
 |n+1,i,h=>by
  rw [first,first,h i (qC _) za,Vy n (i+1) λj h1 h2=>h j za za]
section
variable {α:Type}[zz α]
def QU (x:Ls α):Sl α:=match x.v with| .slice A _ c=>⟨A,c,x.l⟩|_=>⟨none,0,x.l⟩
theorem W2 {β:Type}(x:Ls β):(QU x).l=x.l:=by unfold QU;split<;>rfl
theorem VO {x:Ls α}{w:World}(h:x.At w):(QU x).At w/\x.v= .slice (QU x).A (QU x).l.length (QU x).cap:=by
 obtain ⟨A,cap,hv,hA⟩:=h
 have e:QU x=⟨A,cap,x.l⟩:=by unfold QU;rw [hv]
 rw [e]
 exact ⟨hA,hv⟩
theorem Ce {x:Ls (Ls α)}{w:World}(h:x.At w):(⟨(QU x).A,(QU x).cap,x.l.map QU⟩:Sl (Sl α)).At w:=by
 obtain ⟨hA,hv⟩:=VO h
 have hl:=W2 x
 refine ⟨by simpa [hl] using hA.le,hA.max,by simpa [hl] using hA.len,by simpa [hl] using hA.some,by simpa [hl] using hA.Su,λi j hi hj=>?_,λi hi=>?_⟩
 ·have wm:i<x.l.length:=by simpa using hi
  have h1:=hA.cell i j (by rw [hl];exact wm) hj
  show w.cell? _=some (zz.cell (nth (x.l.map QU) i) j)
  rw [zI QU _ _ wm]
  have hx:=(VO (hA.inner i (by rw [hl];exact wm)))
  rw [hl] at h1 hx
  show _=some (Value.slice (QU (nth x.l i)).A (QU (nth x.l i)).l.length (QU (nth x.l i)).cap)
  rw [<-hx.2]
  exact h1
 ·have wm:i<x.l.length:=by simpa using hi
  show zz.inner (nth (x.l.map QU) i) w
  rw [zI QU _ _ wm]
  have:=hA.inner i (by rw [hl];exact wm)
  rw [hl] at this
  exact (VO this).1
end
def yH (code:Ls (Ls Ins))(words:Ls Int)(zm ze:Int):Pg:=⟨code.l.map (·.l),words.l,zm,ze⟩
def YL (code:Ls (Ls Ins))(words:Ls Int)(zm ze:Int):PR:=⟨⟨(QU code).A,(QU code).cap,code.l.map QU⟩,QU words,zm,ze⟩
section
variable {code:Ls (Ls Ins)}{words:Ls Int}{zm ze:Int}{W:World}
theorem ct (hc:code.At W)(hw:words.At W):(YL code words zm ze).At W:=⟨Ce hc,(VO hw).1⟩
theorem R3 (hc:code.At W)(hw:words.At W):(YL code words zm ze).val= .agg #[code.v,words.v,.int .i64 zm,.int .i64 ze]:=by
 have h1:=(VO hc).2
 have h2:=(VO hw).2
 rw [W2] at h1
 simp only [PR.val,YL,yw]
 rw [<-h1,<-h2]
theorem Pf (size kind n:Int):GD (YL code words zm ze) size kind n=ZI (yH code words zm ze) size kind n:=by
 unfold GD ZI
 have e1:(YL code words zm ze).words.l.length=(yH code words zm ze).words.length:=by simp [YL,yH,W2]
 rw [e1]
 rfl
theorem br :wi (YL code words zm ze)=yC (yH code words zm ze):=by
 have qg:(YL code words zm ze).code.l.length=code.l.length:=by simp [YL]
 have ZU:(YL code words zm ze).words.l.length=words.l.length:=by simp [YL,W2]
 have hgl:(yH code words zm ze).code.length=code.l.length:=by simp [yH]
 have hgw:(yH code words zm ze).words.length=words.l.length:=by simp [yH]
 unfold wi yC
 rw [qg,ZU,hgl,hgw]
 have e1:(YL code words zm ze).zm=zm:=rfl
 have e2:(YL code words zm ze).ze=ze:=rfl
 have e3:(yH code words zm ze).zm=zm:=rfl
 have e4:(yH code words zm ze).ze=ze:=rfl
 rw [e1,e2,e3,e4]
 congr 3
 refine Vy _ _ λt _ ht=>?_
 have Ut:t<code.l.length:=za
 unfold q4 xE
 have e5:(nth (YL code words zm ze).code.l t).l=nth (yH code words zm ze).code t:=by
  show (nth (code.l.map QU) t).l=nth (code.l.map (·.l)) t
  rw [zI _ _ _ Ut,zI _ _ _ Ut,W2]
 rw [e5]
 split
 ·rfl
 ·refine Vy _ _ λj _ _=>?_
  have:∀(size:Int) (x:Ins),jD (YL code words zm ze) size x=ZT (yH code words zm ze) size x:=by
   intro size x
   simp only [jD,ZT,Qj,gq,Pf]
   rfl
  rw [this]
theorem W6 (hc:code.At W)(hw:words.At W):zP Tryz.prog 25 [.agg #[code.v,words.v,.int .i64 zm,.int .i64 ze]] W (λv w' =>v=(yC (yH code words zm ze)).val/\qM W w' []):=by
 have h:=ca (YL code words zm ze) W (ct hc hw)
 rw [R3 hc hw,br] at h
 exact gJ h λe w' ⟨he,hb⟩=>⟨_,he,V,j2.below hb,by simp,by simp,by simp,.nil⟩
theorem Kw (hc:code.At W)(hw:words.At W):zP Tryz.prog 43 [.agg #[code.v,words.v,.int .i64 zm,.int .i64 ze]] W (λv w' =>v=(yC (yH code words zm ze)).val/\qM W w' []):=by
 have h:=dI (YL code words zm ze) W (ct hc hw)
 rw [R3 hc hw,br] at h
 exact gJ h λe w' ⟨he,hb⟩=>⟨_,he,V,j2.below hb,by simp,by simp,by simp,.nil⟩
def UM (code:List (List Ins))(words:List Int):Bool:=
 decide (((code.length:Int)+words.length+((code.take 100).map λs=>(s.length:Int)).sum)>5000)||decide ((code.length:Int)>100)
theorem uC :Kf (YL code words zm ze)=UM (code.l.map (·.l)) words.l:=by
 have ZU:(YL code words zm ze).words.l.length=words.l.length:=by simp [YL,W2]
 unfold Kf UM JE
 rw [ZU]
 simp only [YL,yw,List.map_take,List.map_map]
 have e:(code.l.map ((λs:Sl Ins=>(s.l.length:Int))∘QU))=code.l.map ((λs:List Ins=>(s.length:Int))∘(·.l)):=by
  apply bG
  intro x _
  simp [W2]
 rw [e]
 have e2:(code.l.map ((λs:List Ins=>(s.length:Int))∘(·.l))).take (min code.l.length 100)=(code.l.map ((λs:List Ins=>(s.length:Int))∘(·.l))).take 100:=by
  rcases Nat.le_total code.l.length 100 with h|h
  ·rw [JQ h,QR (by simp),QR (by simpa using h)]
  ·rw [Nat.min_eq_right h]
 rw [e2]
theorem bV (hc:code.At W)(hw:words.At W):zP Tryz.prog 23 [.agg #[code.v,words.v,.int .i64 zm,.int .i64 ze]] W (λv w' =>v= .bool (UM (code.l.map (·.l)) words.l)/\qM W w' []):=by
 have h:=A6 (YL code words zm ze) W (ct hc hw)
 rw [R3 hc hw,uC] at h
 exact gJ h λe w' ⟨he,hb⟩=>⟨_,he,V,j2.below hb,by simp,by simp,by simp,.nil⟩
end
structure My (p:Pg)(size:Int)(x:Ins):Prop where
 op:1<=x.op/\x.op<=18
 n0:gq p size x 0=true
 n1:gq p size x 1=true
 n2:gq p size x 2=true
structure yJ (p:Pg):Prop where
 code:1<=p.code.length/\p.code.length<=4
 words:p.words.length<=64
 zm:0<=p.zm/\p.zm<=4
 ze:1<=p.ze/\p.ze<=200
 len:∀t,t<p.code.length->(nth p.code t).length<=400
 ins:∀t i,t<p.code.length->i<(nth p.code t).length->My p (nth p.code t).length (nth (nth p.code t) i)
theorem Jm {β:Type}{f:Nat->Option β} :∀(n i:Nat),first f n i=none↔∀j,i<=j->j<i+n->f j=none
 |0,i=>by simp [first];omega
 |n+1,i=>by
  rw [first]
  cases h:f i with
  |some b=>
   simp only [reduceCtorEq,false_iff]
   intro hh
   have:=hh i (qC _) za
   rw [h] at this;cases this
  |none=>
   simp only
   rw [Jm n (i+1)]
   constructor
   ·intro hh j h1 h2
    rcases Nat.eq_or_lt_of_le h1 with rfl|h3
    ·exact h
    ·exact hh j h3 za
   ·intro hh j h1 h2
    exact hh j za za
theorem YF {β:Type}{f:Nat->Option β}{b:β} :∀(n i:Nat),first f n i=some b->∃j,i<=j/\j<i+n/\f j=some b
 |0,i,h=>by simp [first] at h
 |n+1,i,h=>by
  rw [first] at h
  cases hf:f i with
  |some c=>rw [hf] at h;exact ⟨i,qC _,za,by rw [hf];exact h⟩
  |none=>
   rw [hf] at h
   obtain ⟨j,h1,h2,h3⟩:=YF n (i+1) h
   exact ⟨j,za,za,h3⟩
theorem Vo {p:Pg}{size:Int}{x:Ins} :ZT p size x=none↔My p size x:=by
 unfold ZT
 rw [Qk]
 constructor
 ·intro h
  split at h
  ·cases h
  ·rename_i hop
   split at h
   ·rename_i zO
    simp only [qI] at zO
    refine ⟨?_,zO.1.1,zO.1.2,zO.2⟩
    have:C6 x.op=true:=by simpa using hop
    simpa [C6] using this
   ·cases h
 ·intro h
  rw [if_neg (by simp [C6,h.op.1,h.op.2]),if_pos (by simp [h.n0,h.n1,h.n2])]
theorem jB {p:Pg} :(yC p).code=0↔yJ p:=by
 unfold yC
 split
 ·rename_i h
  simp only [Int.reduceEq,false_iff]
  intro hk
  have:=hk.code;have:=hk.words;omega
 ·split
  ·rename_i h
   simp only [Int.reduceEq,false_iff]
   intro hk
   have:=hk.zm;have:=hk.ze;omega
  ·rename_i h1 h2
   have key:first (xE p) (p.code.length-0) 0=none↔yJ p:=by
    rw [Jm]
    constructor
    ·intro hh
     have ht:∀t,t<p.code.length->xE p t=none:=λt ht=>hh t (wX _) za
     refine ⟨za,za,za,za,λt h=>?_,λt i h hi=>?_⟩
     ·have:=ht t h
      unfold xE at this
      split at this
      ·cases this
      ·omega
     ·have:=ht t h
      unfold xE at this
      split at this
      ·cases this
      ·have:=(Jm _ _).1 this i (wX _) za
       simp only [Option.map_eq_none_iff] at this
       exact Vo.1 this
    ·intro hk t _ ht
     unfold xE
     rw [if_neg (by have:=hk.len t za;omega),Jm]
     intro i _ hi
     rw [Option.map_eq_none_iff]
     exact Vo.2 (hk.ins t i za za)
   rw [<-key]
   cases hf:first (xE p) (p.code.length-0) 0 with
   |none=>simp
   |some b=>
    simp only [Hq,reduceCtorEq,iff_false]
    obtain ⟨t,_,_,h3⟩:=YF _ _ hf
    unfold xE at h3
    split at h3
    ·simp only [Qx] at h3;subst h3;simp
    ·obtain ⟨i,_,_,h4⟩:=YF _ _ h3
     simp only [Option.map_eq_some_iff] at h4
     obtain ⟨e,he,rfl⟩:=h4
     unfold ZT at he
     split at he
     ·simp at he;subst he;simp
     ·split at he
      ·cases he
      ·simp at he;subst he;simp
theorem Yg {p:Pg}(h:yJ p):yC p=⟨0,0,0⟩:=by
 have h0:=jB.2 h
 unfold yC at h0⊢
 split at h0
 ·cases h0
 ·split at h0
  ·cases h0
  ·rename_i h1 h2
   rw [if_neg h1,if_neg h2]
   cases hf:first (xE p) (p.code.length-0) 0 with
   |none=>rfl
   |some b=>
    exfalso
    rw [hf] at h0
    obtain ⟨t,_,_,h3⟩:=YF _ _ hf
    unfold xE at h3
    split at h3
    ·simp only [Qx] at h3;subst h3;simp at h0
    ·obtain ⟨i,_,_,h4⟩:=YF _ _ h3
     simp only [Option.map_eq_some_iff] at h4
     obtain ⟨e,he,rfl⟩:=h4
     unfold ZT at he
     split at he
     ·simp at he;subst he;simp at h0
     ·split at he
      ·cases he
      ·simp at he;subst he;simp at h0
def Wt.cell (x:Wt):Nat->Value
 |0=> .bool x.lock
 |1=> .int .i64 x.wh
 |_=> .int .i64 x.qk
def Wt.val (x:Wt):Value:= .agg #[.bool x.lock,.int .i64 x.wh,.int .i64 x.qk]
instance : zz Wt where
 sz:=3
 cell:=Wt.cell
 whole:=Wt.val
 agg:=true
 inner _ _:=True
 on _ _:=False
 one h:=by cases h
 many _ _:=rfl
 yB _ _ _ h _:=h
 lt _ _ _ _ h:=h.elim
instance : Flat Wt:=⟨λ_ _ h=>h,λ_ _=>trivial⟩
structure kp where
 pc:Int
 rv:Value
 wv:Value
instance : Inhabited kp:=⟨⟨0,.slice none 0 0,.slice none 0 0⟩⟩
def kp.cell (x:kp):Nat->Value
 |0=> .int .i64 x.pc
 |1=>x.rv
 |_=>x.wv
def kp.val (x:kp):Value:= .agg #[.int .i64 x.pc,x.rv,x.wv]
instance : zz kp where
 sz:=3
 cell:=kp.cell
 whole:=kp.val
 agg:=true
 inner _ _:=True
 on _ _:=False
 one h:=by cases h
 many _ _:=rfl
 yB _ _ _ h _:=h
 lt _ _ _ _ h:=h.elim
instance : Flat kp:=⟨λ_ _ h=>h,λ_ _=>trivial⟩
structure xg where
 pc:Int
 ze:Ls Int
 wait:Ls Wt
instance : Inhabited xg:=⟨⟨0,default,default⟩⟩
def xg.cell (x:xg):Nat->Value
 |0=> .int .i64 x.pc
 |1=>x.ze.v
 |_=>x.wait.v
def xg.val (x:xg):Value:= .agg #[.int .i64 x.pc,x.ze.v,x.wait.v]
instance : zz xg where
 sz:=3
 cell:=xg.cell
 whole:=xg.val
 agg:=true
 inner x w:=x.ze.At w/\x.wait.At w
 on x b:=x.ze.on b\/x.wait.on b
 one h:=by cases h
 many _ _:=rfl
 yB _ _ _ h hb:=⟨h.1.yB λb xl=>hb b (.inl xl),h.2.yB λb xl=>hb b (.inr xl)⟩
 lt _ _ h _ hb:=hb.elim (λhb=>h.1.lt hb) (λhb=>h.2.lt hb)
def xg.XT (x:xg):kp:=⟨x.pc,x.ze.v,x.wait.v⟩
theorem xg.lK (x:xg)(j:Nat):zz.cell x.XT j=zz.cell x j:=by
 rcases j with _|_|j<;>rfl
theorem xg.atV {s:Ls xg}{w:World}(h:s.At w):(⟨s.v,s.l.map xg.XT⟩:Ls kp).At w:=by
 obtain ⟨A,cap,hv,h⟩:=h
 refine ⟨A,cap,by rw [hv];simp,?_⟩
 refine ⟨by simpa using h.le,h.max,by simpa using h.len,by simpa using h.some,by simpa using h.Su,λi j hi hj=>?_,λi hi=>trivial⟩
 have wm:i<s.l.length:=by simpa using hi
 have:=h.cell i j wm hj
 rw [show nth (s.l.map xg.XT) i=(nth s.l i).XT from zI _ _ _ wm,xg.lK]
 exact this
theorem kp.atL {v:Value}{t:List kp}{l:List xg}{w:World}(h:(⟨v,t⟩:Ls kp).At w)(e:l.map xg.XT=t)(hi:∀i,i<l.length->(nth l i).ze.At w/\(nth l i).wait.At w):(⟨v,l⟩:Ls xg).At w:=by
 subst e
 obtain ⟨A,cap,hv,h⟩:=h
 refine ⟨A,cap,by rw [show v=_ from hv];simp,?_⟩
 refine ⟨by simpa using h.le,h.max,by simpa using h.len,by simpa using h.some,by simpa using h.Su,λi j hi hj=>?_,λi h' =>hi i h'⟩
 have wm:i<(l.map xg.XT).length:=by simpa using hi
 have:=h.cell i j wm hj
 rw [show nth (l.map xg.XT) i=(nth l i).XT from zI _ _ _ hi,xg.lK] at this
 exact this
def xg.th (x:xg):Th:=⟨x.pc,x.ze.l,x.wait.l⟩
theorem Sh.yT {K:Nat->Prop}{W w:World}{Lp Lr:List zZ}(h:Sh K W w (Lp++Lr)):Sh (λb=>∃A∈Lp,A.fp b) w w Lp:=
 ⟨j2.refl _ _,λA hA=>h.ok A (List.mem_append.2 (.inl hA)),λA hA b hb=> .inl ⟨A,hA,hb⟩,λA hA=>h.self A (List.mem_append.2 (.inl hA)),(List.pairwise_append.1 h.apart).1⟩
theorem Sh.xP {K:Nat->Prop}{W w w' :World}{Lp Lr L' :List zZ}(h:Sh K W w (Lp++Lr))(h' :Sh (λb=>∃A∈Lp,A.fp b) w w' L')(Ye:∀C∈L',∀b,C.rd b->(∃B∈Lp,B.fp b\/B.rd b)\/(∃B∈Lr,B.rd b)\/w.heap.size<=b):Sh K W w' (L' ++Lr):=
 Sh.step h h'.J6 h'.ok h'.Zj Ye h'.self h'.apart
theorem Sh.VF {K:Nat->Prop}{W w w' :World}{Lp Lr L' :List zZ}[HU L' Lp](h:Sh K W w (Lp++Lr))(h' :Sh (λb=>∃A∈Lp,A.fp b) w w' L'):Sh K W w' (L' ++Lr):=h.xP h' λC hC b hb=> .inl (HU.sub C hC b hb)
theorem tO {ops:List Oper}(hd:Xm ops 0=true){listed:Array Bool}(x3:listed.size=ops.length)(hr:Region.ready .any ops.toArray listed= []):∀i,i<ops.length->listed.getD i false=true:=by
 intro i
 induction i using Nat.strongRecOn with
 |_ i ih=>
  intro hi
  cases hl:listed.getD i false with
  |true=>rfl
  |false=>
   exfalso
   have Du:i∈Region.ready .any ops.toArray listed:=by
    refine mem_ready.2 ⟨?_,ops[i],by simp [hi],λe he hb=>?_⟩
    ·have qU:i<listed.size:=za
     simp only [x7,Xa qU] at hl⊢;exact hl
    ·have h1:=Yf ops 0 i ops[i] hd (QS hi) e he hb
     simp only [WS] at h1
     exact ih e.on h1 za
   rw [hr] at Du
   cases Du
instance : One Wt:=⟨λx w _ q hq=>by rcases q with _|_|q<;>rfl⟩
def LB (o:Oper)(j:Nat):Bool:=o.after.any λe=>Region.binds .any e&&Nat.beq e.on j
theorem lI {o:Oper}{j:Nat}(h:LB o j=true):∃e∈o.after,Region.binds .any e=true/\e.on=j:=by
 obtain ⟨k,hk,h4⟩:=Array.any_eq_true.1 h
 simp only [qI,Nat.beq_eq] at h4
 exact ⟨_,Array.getElem_mem hk,h4.1,h4.2⟩
def Pt (ops:List Oper)(ps:List Nat)(o:Oper):Nat->List Nat->Bool
 |0,_=>true
 |j+1,acc=>(ps.contains j||LB o j||acc.any λk=>match ops[k]? with
  |some ok=>LB ok j
  |none=>false)&&Pt ops ps o j (j::acc)
theorem sZ {ops:List Oper}{ps:List Nat}{o:Oper}{S:Nat->Bool}(dT:∀p∈ps,S p=true)(qg:jw ops S)(ho:∀e∈o.after,Region.binds .any e=true->S e.on=true):∀(n:Nat) (acc:List Nat),Pt ops ps o n acc=true->(∀k∈acc,S k=true)->∀j,j<n->S j=true
 |0,_,_,_,j,hj=>absurd hj za
 |n+1,acc,h,ha,j,hj=>by
  simp only [Pt,qI,UI] at h
  have hn:S n=true:=by
   rcases h.1 with (h1|h1)|h1
   ·exact dT n (by simpa using h1)
   ·obtain ⟨e,he,hb,Wl⟩:=lI h1
    rw [<-Wl];exact ho e he hb
   ·obtain ⟨k,hk,h2⟩:=List.any_eq_true.1 h1
    split at h2
    ·rename_i ok zR
     obtain ⟨e,he,hb,Wl⟩:=lI h2
     rw [<-Wl];exact qg k ok zR (ha k hk) e he hb
    ·cases h2
  rcases yq j n with qU|Vs
  ·exact sZ dT qg ho n (n::acc) h.2 (λk hk=>(List.mem_cons.1 hk).elim (λe=>e▸hn) (ha k)) j qU
  ·obtain rfl:j=n:=za
   exact hn
def dz (ops:List Oper)(ps:List Nat)(m:Nat):Bool:=(List.range ops.length).all λi=>Nat.blt i m||match ops[i]? with
 |some o=>Pt ops ps o i []
 |none=>true
theorem bo {ops:List Oper}{ps:List Nat}{m:Nat}(h:dz ops ps m=true){S:Nat->Bool}(dT:∀p∈ps,S p=true)(qg:jw ops S){i:Nat}{o:Oper}(ho:ops[i]? =some o)(hm:m<=i)(zX:∀e∈o.after,Region.binds .any e=true->S e.on=true)(j:Nat)(hj:j<i):S j=true:=by
 have hi:i<ops.length:=(List.getElem?_eq_some_iff.1 ho).1
 have h1:=(List.all_eq_true.1 h) i (by simpa using hi)
 rw [ho] at h1
 have h2:Nat.blt i m=false:=by
  cases hb:Nat.blt i m
  ·rfl
  ·rw [yV] at hb;omega
 rw [h2,Bool.false_or] at h1
 exact sZ dT qg zX i [] h1 (by simp) j hj
theorem mL {listed:Array Bool}{i j:Nat}(hj:listed.getD j false=true):(listed.setIfInBounds i true).getD j false=true:=by
 simp only [x7,wG] at hj⊢
 by_cases e:i=j
 ·subst e
  by_cases qU:i<listed.size
  ·simp [qU]
  ·simp [Bp (by omega:listed.size<=i)] at hj
 ·simpa [e] using hj
theorem D8 {ops:List Oper}{listed:Array Bool}{i:Nat}{o:Oper}(qg:jw ops (λj=>listed.getD j false))(ho:ops[i]? =some o)(zX:∀e∈o.after,Region.binds .any e=true->listed.getD e.on false=true):jw ops (λj=>(listed.setIfInBounds i true).getD j false):=by
 have up:∀j,listed.getD j false=true->(listed.setIfInBounds i true).getD j false=true:=λj hj=>mL hj
 intro j oj hj hS e he hb
 by_cases e1:j=i
 ·subst e1
  rw [ho] at hj
  cases hj
  exact up _ (zX e he hb)
 ·refine up _ (qg j oj hj ?_ e he hb)
  have hS' :(listed.setIfInBounds i true).getD j false=true:=hS
  simp only [x7,wG,if_neg (show¬i=j from λh=>e1 h.symm)] at hS'
  simpa [x7] using hS'
section
variable {P:Program}{Q:Exit->Act->World->Prop}
theorem PM {ops:List Oper}{ps:List Nat}{m:Nat}(Az:∀p∈ps,p<m)(hd:Xm ops 0=true)(hc:dz ops ps m=true):∀(r fuel k:Nat) (listed:Array Bool) (a:Act) (w:World),ops.length-k=r->m<=k->k<=ops.length->r<=fuel->listed.size=ops.length->
  (∀j,j<k->listed.getD j false=true)->(∀j,k<=j->j<ops.length->listed.getD j false=false)->wpList P ops.toArray Q (ops.drop k) a w->wpAny P .any ops.toArray Q fuel listed a w:=by
 have Dz:∀(listed:Array Bool) (j:Nat),j<listed.size->listed.getD j true=listed.getD j false:=by
  intro listed j hj
  simp [x7,Xa hj]
 intro r
 induction r with
 |zero=>
  intro fuel k listed a w hr hm hk hf x3 ht ID h
  have hk' :k=ops.length:=za
  subst hk'
  rw [List.drop_length] at h
  have Fq:Region.ready .any ops.toArray listed= []:=by
   apply List.eq_nil_iff_forall_not_mem.2
   intro i hi
   obtain ⟨h1,o,ho,_⟩:=mem_ready.1 hi
   have wm:i<ops.length:=by
    rcases yq i ops.length with h|h
    ·exact h
    ·simp [Bp,h] at ho
   rw [Dz _ _ za,ht i wm] at h1
   cases h1
  cases fuel with
  |zero=>exact ⟨Fq,h⟩
  |succ fuel=>exact ⟨λ_=>h,λi hi=>by rw [Fq] at hi;cases hi⟩
 |succ r ih=>
  intro fuel k listed a w hr hm hk hf x3 ht ID h
  have qU:k<ops.length:=za
  obtain ⟨fuel,rfl⟩:∃f,fuel=f+1:=⟨fuel-1,za⟩
  have hko:ops[k]? =some ops[k]:=QS qU
  have hkr:k∈Region.ready .any ops.toArray listed:=by
   refine mem_ready.2 ⟨by rw [Dz _ _ za];exact ID k (qC _) qU,ops[k],by simp [qU],λe he hb=>?_⟩
   have h1:=Yf ops 0 k ops[k] hd hko e he hb
   exact ht _ za
  refine ⟨λh0=>(by rw [h0] at hkr;cases hkr),λi hi=>?_⟩
  obtain ⟨h1,o,ho,zO⟩:=mem_ready.1 hi
  have wm:i<ops.length:=by
   rcases yq i ops.length with h|h
   ·exact h
   ·simp [Bp,h] at ho
  have hik:i=k:=by
   rcases Nat.lt_trichotomy i k with hh|hh|hh
   ·rw [Dz _ _ za,ht i hh] at h1;cases h1
   ·exact hh
   ·have qg:jw ops (λj=>listed.getD j false):=λj oj hj hS e he hb=>by
     have h1:=Yf ops 0 j oj hd hj e he hb
     have hj' :j<ops.length:=(List.getElem?_eq_some_iff.1 hj).1
     rcases yq j k with h|h
     ·exact ht _ za
     ·have hS' :listed.getD j false=true:=hS
      rw [ID j h hj'] at hS';cases hS'
    have:=bo hc (λp hp=>ht p (by have:=Az p hp;omega)) qg (by simpa using ho) za zO k hh
    rw [ID k (qC _) qU] at this
    cases this
  subst hik
  rw [JV qU] at h
  have iG:∀a' w',wpList P ops.toArray Q (ops.drop (i+1)) a' w' ->wpAny P .any ops.toArray Q fuel (listed.setIfInBounds i true) a' w' :=by
   intro a' w' h'
   refine ih fuel (i+1) _ a' w' za za za za (by simpa using x3) (λj hj=>?_) (λj hj Xg=>?_) h'
   ·simp only [x7,wG]
    by_cases e:i=j
    ·subst e;simp [x3,wm]
    ·have:=ht j za
     simpa [e] using this
   ·have:=ID j za Xg
    have e:i≠j:=za
    simp only [x7,wG]
    simpa [e] using this
  unfold wpOp
  rw [show ops.toArray[i]? =some ops[i] by simp [qU]]
  unfold wpList at h
  simp only
  split
  ·rename_i hw
   rw [if_pos hw] at h
   rcases h with h|h
   ·exact .inl (Oper.wp_mono iG h)
   ·exact .inr h
  ·rename_i hw
   rw [if_neg hw] at h
   exact iG _ _ h
theorem Bj {ops:List Oper}{ps:List Nat}{m:Nat}{C:World->Prop}(Az:∀p∈ps,p<m)(hm:m<=ops.length)(hd:Xm ops 0=true)(hc:dz ops ps m=true):∀(fuel:Nat) (listed yp:Array Bool) (a:Act) (w:World),C w->(∀p∈ps,listed.getD p false=true)->jw ops (λj=>listed.getD j false)->listed.size=ops.length->yp.size=ops.length->
  (∀j,j<m->listed.getD j false=yp.getD j false)->(∀j,m<=j->j<ops.length->listed.getD j false=false/\yp.getD j false=true)->
  wpAnyQ P .any ops.toArray C (λa' =>∀w',C w' ->wpList P ops.toArray Q (ops.drop m) a' w') fuel yp a->wpAny P .any ops.toArray Q (fuel+(ops.length-m)) listed a w:=by
 have Dz:∀(listed:Array Bool) (j:Nat),j<listed.size->listed.getD j true=listed.getD j false:=by
  intro listed j hj
  simp [x7,Xa hj]
 have fin:∀(f:Nat) (listed yp:Array Bool) (a:Act) (w:World),ops.length-m<=f->listed.size=ops.length->yp.size=ops.length->
   (∀j,j<m->listed.getD j false=yp.getD j false)->(∀j,m<=j->j<ops.length->listed.getD j false=false/\yp.getD j false=true)->Region.ready .any ops.toArray yp= []->
   wpList P ops.toArray Q (ops.drop m) a w->wpAny P .any ops.toArray Q f listed a w:=by
  intro f listed yp a w hf hs hs' h1 h2 hr h
  refine PM Az hd hc (ops.length-m) f m listed a w V (qC _) hm hf hs (λj hj=>?_) (λj hj Xg=>(h2 j hj Xg).1) h
  rw [h1 j hj]
  exact tO hd hs' hr j za
 intro fuel
 induction fuel with
 |zero=>
  intro listed yp a w hw _ _ hs hs' h1 h2 h
  exact fin _ listed yp a w za hs hs' h1 h2 h.1 (h.2 w hw)
 |succ fuel ih=>
  intro listed yp a w hw dT qg hs hs' h1 h2 h
  by_cases hr:Region.ready .any ops.toArray yp= []
  ·exact fin _ listed yp a w za hs hs' h1 h2 hr (h.1 hr w hw)
  rw [show fuel+1+(ops.length-m)=(fuel+(ops.length-m))+1 from za]
  have key:∀i,i∈Region.ready .any ops.toArray yp->i<m:=by
   intro i hi
   obtain ⟨h3,o,ho,_⟩:=mem_ready.1 hi
   have wm:i<ops.length:=by
    rcases yq i ops.length with h|h
    ·exact h
    ·simp [Bp,h] at ho
   rcases yq i m with h|h
   ·exact h
   ·rw [Dz _ _ za,(h2 i h wm).2] at h3;cases h3
  have tr:∀i,i<m->(i∈Region.ready .any ops.toArray yp↔i∈Region.ready .any ops.toArray listed):=by
   intro i hi
   have wm:i<ops.length:=za
   have zX:∀e∈(ops[i]).after,Region.binds .any e=true->e.on<m:=λe he hb=>by
    have:=Yf ops 0 i ops[i] hd (QS wm) e he hb
    omega
   constructor
   ·intro h
    obtain ⟨h3,o,ho,zO⟩:=mem_ready.1 h
    obtain rfl:ops[i]=o:=by simpa [wm] using ho
    exact mem_ready.2 ⟨by rw [Dz _ _ za] at h3⊢;rw [h1 i hi];exact h3,ops[i],ho,λe he hb=>by rw [h1 _ (zX e he hb)];exact zO e he hb⟩
   ·intro h
    obtain ⟨h3,o,ho,zO⟩:=mem_ready.1 h
    obtain rfl:ops[i]=o:=by simpa [wm] using ho
    exact mem_ready.2 ⟨by rw [Dz _ _ za] at h3⊢;rw [<-h1 i hi];exact h3,ops[i],ho,λe he hb=>by rw [<-h1 _ (zX e he hb)];exact zO e he hb⟩
  refine ⟨λh0=>?_,λi hi=>?_⟩
  ·exfalso
   apply hr
   apply List.eq_nil_iff_forall_not_mem.2
   intro i hi
   have:=(tr i (key i hi)).1 hi
   rw [h0] at this
   cases this
  ·have him:i<m:=by
    rcases yq i m with h|h
    ·exact h
    exfalso
    obtain ⟨h3,o,ho,zO⟩:=mem_ready.1 hi
    apply hr
    apply List.eq_nil_iff_forall_not_mem.2
    intro j hj
    have hjm:=key j hj
    obtain ⟨h4,_⟩:=mem_ready.1 hj
    have:listed.getD j false=true:=bo hc dT qg (by simpa using ho) h zO j za
    rw [h1 j hjm] at this
    rw [Dz _ _ za,this] at h4
    cases h4
   have h5:=h.2 i ((tr i him).2 hi)
   refine wpOp_of_qOp hw (λa' w' SC hh=>ih (listed.setIfInBounds i true) (yp.setIfInBounds i true) a' w' SC (λp hp=>mL (dT p hp)) (by obtain ⟨_,o,ho,zO⟩:=mem_ready.1 hi;exact D8 qg (by simpa using ho) zO) (by simpa using hs) (by simpa using hs') (λj hj=>?_) (λj hj Xg=>?_) hh) h5
   ·simp only [x7,wG]
    have:=h1 j hj
    simp only [x7] at this
    by_cases e:i=j
    ·subst e;simp [hs,hs',show i<ops.length from za]
    ·simp only [e,if_false];exact this
   ·have:=h2 j hj Xg
    have e:i≠j:=za
    simp only [x7,wG,e,if_false] at this⊢
    exact this
def ZF (ops:Array Oper)(is:List Nat):List Oper:=is.filterMap λi=>ops[i]?
def fX (ops:Array Oper):List Nat->Array Bool->Bool
 | [],listed=>(Region.ready .any ops listed).isEmpty
 |k::is,listed=>(Region.ready .any ops listed).contains k&&Region.free .any ops listed k&&fX ops is (listed.setIfInBounds k true)
theorem CG {ops:Array Oper}{listed:Array Bool}{k:Nat}(h:(Region.ready .any ops listed).contains k=true):∃o,ops[k]? =some o:=by
 obtain ⟨_,o,ho,_⟩:=mem_ready.1 (by simpa using h)
 exact ⟨o,ho⟩
theorem Rv {ops:Array Oper}{C:World->Prop}{Q:Act->Prop}(hs:Region.noSelect ops=true):∀(is:List Nat) (listed:Array Bool) (a:Act),
  fX ops is listed=true->wpQuiet P ops C Q (ZF ops is) a->wpAnyQ P .any ops C Q is.length listed a
 | [],_,_,hB,h=>⟨by simpa [fX] using hB,h⟩
 |k::is,listed,a,hB,h=>by
  simp only [fX,qI] at hB
  obtain ⟨⟨hr,hf⟩,T9⟩:=hB
  obtain ⟨o,h0⟩:=CG hr
  have e:ZF ops (k::is)=o::ZF ops is:=by simp [ZF,h0]
  rw [e] at h
  have hst:qOp P ops C k (wpQuiet P ops C Q (ZF ops is)) a:=by unfold qOp;simp only [h0];exact h
  obtain ⟨v,hy,hK⟩:=yieldsIn_of_qOp h0 hst
  exact wpAnyQ_first h0 (Region.noSelect_spec hs) is.length listed a (Region.free_spec h0 hf) (by simpa using hr) hy (Rv hs is _ _ T9 hK)
def Vg (ops:Array Oper):List Nat->Array Bool->Option (Array Bool)
 | [],listed=>some listed
 |k::is,listed=>match ops[k]? with
  |some o=>match o.op with
   | .move _=>bif o.guard.isNone&&(o.after.all λe=> !Region.binds .any e)&&(Region.ready .any ops listed).contains k&&Region.free .any ops listed k then Vg ops is (listed.setIfInBounds k true) else none
   |_=>none
  |none=>none
theorem GO {ops:Array Oper}{C:World->Prop}{Z:Act->Prop}{rest:List Oper}(hs:Region.noSelect ops=true)(hQ:∀c a w,¬Q (.panic c) a w):∀(ps:List Nat) (fuel:Nat) (listed yp:Array Bool) (a:Act) (w:World),C w->
  Vg ops ps listed=some yp->wpQuiet P ops C Z (ZF ops ps++rest) a->(∀a',wpQuiet P ops C Z rest a' ->wpAny P .any ops Q fuel yp a' w)->wpAny P .any ops Q (fuel+ps.length) listed a w
 | [],fuel,listed,yp,a,w,hw,hp,h,k=>by
  simp only [Vg,Qx] at hp
  subst hp
  exact k a (by simpa [ZF] using h)
 |p::ps,fuel,listed,yp,a,w,hw,hp,h,k=>by
  unfold Vg at hp
  split at hp
  ·rename_i o ho
   split at hp
   ·rename_i x hx
    cases hc:(o.guard.isNone&&(o.after.all λe=> !Region.binds .any e)&&(Region.ready .any ops listed).contains p&&Region.free .any ops listed p) with
    |false=>rw [hc] at hp;cases hp
    |true=>
     rw [hc] at hp
     simp only [qI,jM] at hc
     obtain ⟨⟨⟨hg,haf⟩,hr⟩,hf⟩:=hc
     have e:ZF ops (p::ps)++rest=o::(ZF ops ps++rest):=by simp [ZF,ho]
     rw [e] at h
     unfold wpQuiet at h
     rw [if_pos (zg hg _)] at h
     obtain ⟨v,h1,h2⟩:=h
     have hv:v=a.eval x:=by
      have:=h1 w hw
      unfold Oper.quietAt at this
      unfold execOp at this
      simp only [hx,q5] at this
      exact this.2.symm
     subst hv
     have hy:Yields P ops o (a.eval x) a:= .inl ⟨zg hg _,λw=>by unfold execOp;simp [hx]⟩
     rw [show fuel+(p::ps).length=(fuel+ps.length)+1 by simp;omega]
     exact wpAny_first ho (Region.noSelect_spec hs) (λc a' w' hh=>absurd hh (hQ c _ w')) _ listed a w (Region.free_spec ho hf) (by simpa using hr) hy (GO hs hQ ps fuel _ yp _ w hw hp h2 k)
   ·cases hp
  ·cases hp
theorem YV {ops:List Oper} :∀(ps:List Nat) (listed yp:Array Bool),Vg ops.toArray ps listed=some yp->jw ops (λj=>listed.getD j false)->
  jw ops (λj=>yp.getD j false)/\yp.size=listed.size/\(∀j,listed.getD j false=true->yp.getD j false=true)/\(listed.size=ops.length->∀p∈ps,yp.getD p false=true)/\(∀j,j∉ps->yp.getD j false=listed.getD j false)
 | [],listed,yp,h,hc=>by
  simp only [Vg,Qx] at h
  subst h
  exact ⟨hc,V,λ_ h=>h,by simp,λ_ _=>rfl⟩
 |p::ps,listed,yp,h,hc=>by
  unfold Vg at h
  split at h
  ·rename_i o ho
   split at h
   ·rename_i x hx
    cases hb:(o.guard.isNone&&(o.after.all λe=> !Region.binds .any e)&&(Region.ready .any ops.toArray listed).contains p&&Region.free .any ops.toArray listed p) with
    |false=>rw [hb] at h;cases h
    |true=>
     rw [hb] at h
     simp only [qI,jM] at hb
     obtain ⟨⟨⟨hg,haf⟩,hr⟩,hf⟩:=hb
     have Dt:ops[p]? =some o:=by simpa using ho
     have hc' :=D8 (i:=p) hc Dt (λe he hbd=>by
      have:=(Array.all_eq_true_iff_forall_mem.1 haf) e he
      rw [hbd] at this;cases this)
     obtain ⟨h1,h2,h3,h4,h5⟩:=YV ps _ yp h hc'
     have Rf:p<ops.length:=(List.getElem?_eq_some_iff.1 Dt).1
     refine ⟨h1,by simpa using h2,λj hj=>h3 j (mL hj),λx3 q hq=>?_,λj hj=>?_⟩
     ·rcases List.mem_cons.1 hq with rfl|hq
      ·exact h3 q (by simp [x7,wG,x3,Rf])
      ·exact h4 (by simpa using x3) q hq
     ·simp only [z6,not_or] at hj
      rw [h5 j hj.2]
      simp only [x7,wG,if_neg (show¬p=j from λh=>hj.1 h.symm)]
   ·cases h
  ·cases h
def ZP (l:Array Bool)(m:Nat):Array Bool:=((List.range l.size).map λj=>l.getD j false||Nat.ble m j).toArray
def we (m:Nat)(ps:List Nat):List Nat:=(List.range m).filter λi=> !ps.contains i
def RJ (ops:List Oper)(m:Nat)(ps:List Nat):Bool:=Nat.ble m ops.length&&(Xm ops 0&&(dz ops ps m&&(Region.noSelect ops.toArray&&((ps.all (Nat.blt · m))&&(Nat.beq ((we m ps).length+ps.length) m&&
 match Vg ops.toArray ps (Array.replicate ops.length false) with
 |some l=>fX ops.toArray (we m ps) (ZP l m)
 |none=>false)))))
variable {N:Nat}{K:Nat->Prop}{W w:World}{a:Act}{F:List (Nat×Value)}{L:List zZ}
theorem ka {id:Nat}{l:List Oper}(m:Nat)(ps:List Nat)(hm:P.follows .mixedOrders=true)(hB:RJ l m ps=true)(h:St N K W a w F L)
  (k:∀Z:Act->Prop,(∀a',(∀w',Sh K W w' L->wpList P l.toArray (λe a w=>match e with| .normal=>Q .normal a w|_=>False) (l.drop m) a' w')->Z a')->wpQuiet P l.toArray (λw' =>Sh K W w' L) Z (ZF l.toArray ps++ZF l.toArray (we m ps)) a):(Code.region id l.toArray true).wp P Q a w:=by
 simp only [RJ,qI,Jy] at hB
 obtain ⟨h1,h2,h3,h4,h5,h6,h7⟩:=hB
 have Az:∀p∈ps,p<m:=λp hp=>by simpa using (List.all_eq_true.1 h5) p hp
 refine Code.wp_mono (Q:=λe a w=>match e with| .normal=>Q .normal a w|_=>False) (λe a w he=>by cases e<;>first|exact he|exact he.elim) ?_
 refine wp_region_any hm ?_
 split at h7
 ·rename_i lp Tf
  have hq:=k _ (λ_ h=>h)
  have IW:jw l (λj=>(Array.replicate l.length false).getD j false):=by
   intro i o _ hS;simp only [x7,Bq] at hS;split at hS<;>cases hS
  obtain ⟨c1,c2,c3,c4,c5⟩:=YV ps _ lp Tf IW
  have x3:lp.size=l.length:=by simpa using c2
  have hlen:l.toArray.size=((we m ps).length+(l.length-m))+ps.length:=by
   have:=XS h6
   simp;omega
  rw [hlen]
  rw [show Array.replicate ((we m ps).length+(l.length-m)+ps.length) false=Array.replicate l.length false by rw [<-hlen];simp]
  refine GO (C:=λw' =>Sh K W w' L) h4 (λc a w h=>h) ps _ _ lp a w.drew h.sh.drew Tf hq λa' Vq=>?_
  have h8:=Rv (P:=P) h4 (we m ps) _ a' h7 Vq
  have S5:∀j,j<l.length->(ZP lp m).getD j false=(lp.getD j false||Nat.ble m j):=by
   intro j hj
   simp [ZP,x7,x3,hj]
  refine Bj (C:=λw' =>Sh K W w' L) Az h1 h2 h3 _ lp (ZP lp m) a' w.drew h.sh.drew (c4 (by simp)) c1 x3 (by simp [ZP,x3]) (λj hj=>?_) (λj hj Xg=>?_) h8
  ·rw [S5 j za]
   cases hb:Nat.ble m j
   ·simp
   ·rw [Jy] at hb;omega
  ·refine ⟨?_,by rw [S5 j Xg,show Nat.ble m j=true by rw [Jy];exact hj];simp⟩
   rw [c5 j (λhp=>by have:=Az j hp;omega)]
   simp [x7,Bq,Xg]
 ·cases h7
end
def kC (v:Value)(j:Nat):Value:=match v with
 | .slice A _ c=> .slice A j c
 |v=>v
def kQ (v:Value)(sz k:Nat):Value:=match v with
 | .slice A n c=> .slice (if c=k then A else A.map (·.add (k*sz))) (n-k) (c-k)
 |v=>v
section
variable {P:Program}{o:Oper}{N:Nat}{K:Nat->Prop}{W w:World}{a:Act}{F:List (Nat×Value)}{L:List zZ}{α:Type}[zz α]
theorem CK {T e:TypeId}{g:Bool}{n xf:Nat}{z:List Value}{x y:Operand}{s:Ls α}{j:Nat}(hT:QA P T=some e)(he:je P e=some (g,n,xf,z))(ho:o.op= .slice T x none (some y) none)(hx:ev F x=some s.v)(hy:ev F y=some (.int .i64 (j:Int)))
  (hat:∀w,Sh K W w L->s.At w) (hj:j<=s.l.length) (YM:0<s.l.length):Rn P o N K W F L (kC s.v j):=λa w h=>by
 obtain ⟨A,cap,hv,hA⟩:=hat w h.sh
 obtain ⟨b,hb,hs⟩:=hA.some YM
 have hle:=hA.le
 simp only at hb hle
 subst hb
 obtain ⟨i,d,zv,hi,hd,_,rfl,_⟩:=qR he
 have hu:=yS hT
 have WJ:P.elem T=e:=by simp [Program.elem,hu]
 have dR:P.underlying T=some (.slice (P.elem T)):=by rw [WJ];exact hu
 have hc0:¬cap=0:=za
 obtain ⟨zM,off,sp⟩:=b
 simp only at hs
 subst hs
 have e1:=run_sliceAt_slice (P:=P) w T (.slice (some ⟨zM,off,none⟩) s.l.length cap) none (some (.int .i64 (j:Int))) none dR
 have e2:=run_slice_h (P:=P) w T (some ⟨zM,off,none⟩) s.l.length cap dR .i64 (j:Int) za za
 rw [WJ,run_sizeOf hi,yQ] at e2
 rw [e2] at e1
 unfold execOp
 simp only [ho,h.fr.ev hx,h.fr.ev hy,ZJ,GR,hv,qS,e1,yQ,q5,sliced,kC]
 simp [wD,hc0]
theorem fj {T e:TypeId}{g:Bool}{n xf:Nat}{z:List Value}{x y:Operand}{s:Ls α}{k:Nat}(hT:QA P T=some e)(he:je P e=some (g,n,xf,z))(ho:o.op= .slice T x (some y) none none)(hx:ev F x=some s.v)(hy:ev F y=some (.int .i64 (k:Int)))
  (hat:∀w,Sh K W w L->s.At w) (hk:k<=s.l.length):Rn P o N K W F L (kQ s.v n k):=λa w h=>by
 obtain ⟨A,cap,hv,hA⟩:=hat w h.sh
 have hle:=hA.le
 simp only at hle
 obtain ⟨i,d,zv,hi,hd,_,rfl,_⟩:=qR he
 have hu:=yS hT
 have WJ:P.elem T=e:=by simp [Program.elem,hu]
 have dR:P.underlying T=some (.slice (P.elem T)):=by rw [WJ];exact hu
 have e1:=run_sliceAt_slice (P:=P) w T (.slice A s.l.length cap) (some (.int .i64 (k:Int))) none none dR
 have e2:=run_slice_l (P:=P) w T A s.l.length cap dR .i64 (k:Int) za za
 rw [WJ,run_sizeOf hi,yQ] at e2
 rw [e2] at e1
 unfold execOp
 simp only [ho,h.fr.ev hx,h.fr.ev hy,ZJ,GR,hv,qS,e1,yQ,q5,sliced,kQ]
 simp
theorem Rn.same {v v' :Value}(h:Rn P o N K W F L v)(e:v=v'):Rn P o N K W F L v' :=by subst e;exact h
theorem XO (l:List α)(j:Nat):qH (l.take j)=(qH l).take (j*zz.sz α):=by
 by_cases h:j<=l.length
 ·conv=>rhs;rw [<-Bt j l,vY]
  rw [List.take_left' (by rw [qe,vU,JQ h])]
 ·rw [QR za,QR]
  rw [qe]
  exact WV _ za
theorem UD (l:List α)(j:Nat):qH (l.drop j)=(qH l).drop (j*zz.sz α):=by
 by_cases h:j<=l.length
 ·conv=>rhs;rw [<-Bt j l,vY]
  rw [List.drop_left' (by rw [qe,vU,JQ h])]
 ·rw [lQ za,lQ]
  ·rfl
  rw [qe]
  exact WV _ za
theorem zfG {d:Nat}{T e:TypeId}{gg:Bool}{sz xf r j k:Nat}{z:List Value}{x y:Operand}{s:Ls α}{E:TypeId}[Flat α](h:St N K W a w F L)(hT:QA P T=some e)(he:je P e=some (gg,sz,xf,z))(ho:o.op= .call ⟨.builtin .append, #[x,y], #[T,T]⟩)
  (hx:ev F x=some (kC s.v j)) (hy:ev F y=some (kQ s.v sz k)) (hr:L[r]? =some (.own E s)) (hE:E=e) (x3:zz.sz α=sz) (h1:One α) (OW:j<=k/\k<=s.l.length/\0<s.l.length) (hd:o.dst=some d) (wz:Nat.blt d N=true):
  Ex P o a w (λa' w' =>∃v:Value,St N K W a' w' ((d,v)::F) (L.set r (.own E ⟨v,s.l.take j++s.l.drop k⟩))):=by
 subst x3
 subst hE
 obtain ⟨i,ed,zv,hi,O0,_,hs,ma,BB,cM⟩:=qR he
 obtain ⟨wP,hlen,Kj⟩:=h.sh.ok _ (zy hr)
 obtain ⟨OW,hk,YM⟩:=OW
 have iC:=wP
 rcases wP.2 with ⟨_,h0⟩|⟨g,cap,cur,Wj,sC,hg,hn,hm,XH,ig⟩
 ·omega
 have zdl:cur.size=cap*zz.sz α:=XH
 have FO:w.ownsRow 0 E (zz.sz α) (.slice (some ⟨g,0,none⟩) j cap) j (qH (s.l.take j)):=by
  refine ⟨by rw [qe,vU,JQ za],.inr ⟨g,cap,cur,V,sC,hg,za,hm,XH,?_⟩⟩
  rw [XO,<-ig,List.take_take]
  congr 1
  exact (JQ (WV _ za)).symm
 have DG:∀q u,(qH s.l)[q]? =some u->w.cell? ⟨g,q,none⟩=some u:=by
  intro q u hq
  rw [Wj] at iC
  have qU:q<s.l.length*zz.sz α:=by
   have:=(List.getElem?_eq_some_iff.1 hq).1
   rwa [qe] at this
  rw [iC.cellAt q qU,hq]
 have oh:∀u∈qH (s.l.drop k),u.oneCell' =true:=by
  intro u hu
  obtain ⟨q,hq⟩:=kG hu
  have qU:q<(s.l.drop k).length*zz.sz α:=by
   have:=(List.getElem?_eq_some_iff.1 hq).1
   rwa [qe] at this
  have nO:0<zz.sz α:=by
   rcases Hu (zz.sz α) with h|h
   ·rw [h] at qU;omega
   ·exact h
  have h2:=Q5 (s.l.drop k) (q/zz.sz α) (q%zz.sz α) ((Hw nO).2 qU) (VH _ nO)
  rw [show q/zz.sz α*zz.sz α+q%zz.sz α=q by rw [Ho];exact Bk _ _,hq] at h2
  cases h2
  exact h1.one _ w (Flat.inner _ _) _ (VH _ nO)
 have I6:∀(A2:Addr) (c2:Nat),(∀q u,(qH (s.l.drop k))[q]? =some u->w.cell? (A2.add q)=some u)->∃w',(Builtin.append_ #[T,T] o.type #[.slice (some ⟨g,0,none⟩) j cap,.slice (some A2) (s.l.length-k) c2]).run P w= .ok (.slice (some ⟨g,0,none⟩) (j+(s.l.length-k)) cap) w' /\
   w'.ownsRow 0 E (zz.sz α) (.slice (some ⟨g,0,none⟩) (j+(s.l.length-k)) cap) (j+(s.l.length-k)) (qH (s.l.take j)++qH (s.l.drop k))/\w.grownBy w' (some g):=λA2 c2 AG=>
  run_append_fits (P:=P) w 0 T o.type E i (zz.sz α) (yS hT) hi hs g j cap _ FO A2 (s.l.length-k) c2 (qH (s.l.drop k)) (by rw [qe,v7]) AG oh za
 have oy:∃w' y',kQ s.v (zz.sz α) k=y' /\(Builtin.append_ #[T,T] o.type #[.slice (some ⟨g,0,none⟩) j cap,y']).run P w= .ok (.slice (some ⟨g,0,none⟩) (j+(s.l.length-k)) cap) w' /\
   w'.ownsRow 0 E (zz.sz α) (.slice (some ⟨g,0,none⟩) (j+(s.l.length-k)) cap) (j+(s.l.length-k)) (qH (s.l.take j)++qH (s.l.drop k))/\w.grownBy w' (some g):=by
  rw [Wj]
  by_cases hck:cap=k
  ·have Dw:s.l.drop k= []:=lQ za
   obtain ⟨w',h3⟩:=I6 ⟨g,0,none⟩ (cap-k) (by rw [Dw];intro q u hq;simp [qH] at hq)
   exact ⟨w',_,by simp only [kQ,if_pos hck],h3⟩
  ·obtain ⟨w',h3⟩:=I6 ((⟨g,0,none⟩:Addr).add (k*zz.sz α)) (cap-k) (by
    intro q u hq
    rw [UD,GS] at hq
    have:=DG _ _ hq
    simpa [wD] using this)
   exact ⟨w',_,by simp only [kQ,if_neg hck,ZJ],h3⟩
 obtain ⟨w',y',hy',yN,Dt,iP⟩:=oy
 have MN:kC s.v j= .slice (some ⟨g,0,none⟩) j cap:=by rw [Wj];rfl
 refine Ex.j8 (v:= .slice (some ⟨g,0,none⟩) (j+(s.l.length-k)) cap) (w' :=w') ?_ ⟨.slice (some ⟨g,0,none⟩) (j+(s.l.length-k)) cap,?_⟩
 ·unfold execOp
  simp only [ho,resolve,invoke,builtin,qS,q5,yQ,Bl,xA,wY,h.fr.ev hx,h.fr.ev hy,MN,hy',yN]
 ·rw [hd]
  have hob:s.v.ownBlock=some g:=by rw [Wj];rfl
  have J0:∀b,(zZ.own E (⟨.slice (some ⟨g,0,none⟩) (j+(s.l.length-k)) cap,s.l.take j++s.l.drop k⟩:Ls α)).fp b->(zZ.own E s).fp b\/w.heap.size<=b:=by
   intro b hb
   have:g=b:=by simpa [zZ.own,Value.ownBlock] using hb
   subst this
   exact .inl hob
  refine ⟨h.fr.put d (by simpa [yV] using wz) _,h.sh.put hr (j2.grown iP (λb hb=>by cases hb;exact hob)) ⟨?_,?_,λq hq=>Flat.inner _ _⟩ J0 (λb hb=>?_) (λb hb xl=>?_)⟩
  ·show World.ownsRow _ 0 E _ _ (s.l.take j++s.l.drop k).length (qH (s.l.take j++s.l.drop k))
   rw [vY,yX,vU,v7,JQ za];exact Dt
  ·show (s.l.take j++s.l.drop k).length<=_
   rw [yX,vU,v7,JQ za];omega
  ·obtain ⟨q,_,hb⟩:=hb;exact (Flat.on _ _ hb).elim
  ·obtain ⟨q,_,hb⟩:=xl;exact (Flat.on _ _ hb).elim
theorem St.Jb {i:Nat}{E:TypeId}{v:Value}{l l' :List α}(h:St N K W a w F L)(hi:L[i]? =some (.own E (⟨v,l⟩:Ls α)))(e:l=l'):St N K W a w F (L.set i (.own E (⟨v,l'⟩:Ls α))):=by
 subst e
 have:L.set i (.own E (⟨v,l⟩:Ls α))=L:=by
  obtain ⟨qU,e⟩:=List.getElem?_eq_some_iff.1 hi
  rw [<-e];exact List.set_getElem_self qU
 rw [this];exact h
theorem bP {ops:Array Oper}{rest:List Oper}{Q:Act->Prop}{d f:Nat}{fo:Operand}{xs:List Operand}{HD:Array TypeId}{us vs ws:List Value}{v:Value}(h:Fr N a F)(hb:zN P f=true)(ho:o.op= .call ⟨.value fo,xs.toArray,HD⟩)(hf:ev F fo=some (.func (.func f) us.toArray ws.toArray))
  (hx:G1 F xs=some vs) (hw:Region.wanted o (yielded ops a.tmps)=true) (hd:o.dst=some d) (wz:Nat.blt d N=true) (hc:∀w,Sh K W w L->zP P f (us++vs++ws) w (λv' w' =>v' =v/\qM w w' []))
  (k:∀a',Fr N a' ((d,v)::F)->wpQuiet P ops (λw=>Sh K W w L) Q rest a'):wpQuiet P ops (λw=>Sh K W w L) Q (o::rest) a:=by
 unfold wpQuiet
 rw [if_pos hw]
 refine ⟨v,λw hw=>?_,k _ (by rw [hd];exact h.put d (by simpa [yV] using wz) v)⟩
 unfold Oper.quietAt
 have yN:(execOp a.eval o).run P w= .ok (.enter f (us++vs++ws).toArray) w:=by
  unfold execOp
  simp [ho,resolve,h.ev hf,h.G1 hx,Deferred.ofValue,invoke,Za hb]
 rw [yN]
 refine ⟨V,gJ (hc w hw) λe w' ⟨v',he,nJ,hr⟩=>?_⟩
 subst nJ
 exact ⟨he,hw.jv hr⟩
end
section
variable {P:Program}{N:Nat}{K:Nat->Prop}{W w:World}{a:Act}{F F' :List (Nat×Value)}{L L' :List zZ}{o:Oper}{ops:Array Oper}{rest:List Oper}{Q:Exit->Act->World->Prop}
section
variable {α:Type}[zz α]
theorem RC {d:Nat}{T e:TypeId}{gg:Bool}{sz xf r rm:Nat}{z:List Value}{x y:Operand}{s m:Ls α}{B:zZ}{E:TypeId}(h:St N K W a w F L)(hT:QA P T=some e)(he:je P e=some (gg,sz,xf,z))(ho:o.op= .call ⟨.builtin .append, #[x,y], #[T,T]⟩)
  (hx:ev F x=some s.v) (hy:ev F y=some m.v) (hr:L[r]? =some (.own E s)) (hE:E=e) (Ay:L[rm]? =some B) (Qo:Nat.beq r rm=false) (hat:∀w,Sh K W w L->m.At w) (Wl:∀b,m.on b->B.fp b\/B.rd b) (hoi:∀q,q<m.l.length->∀b,zz.on (nth m.l q) b->B.rd b)
  (x3:zz.sz α=sz) (YM:Nat.blt 0 sz=true) (ER:z.length=sz) (h1:∀w,Sh K W w L->∀q,q<m.l.length->∀j,j<zz.sz α->(zz.cell (nth m.l q) j).oneCell' =true) (hn:(s.l.length+m.l.length)*xf<=140737488355328/\s.l.length+m.l.length<=140737488355328) (hd:o.dst=some d) (wz:Nat.blt d N=true):
  Ex P o a w (λa' w' =>∃v:Value,St N K W a' w' ((d,v)::F) (L.set r (.own E ⟨v,s.l++m.l⟩))):=by
 subst x3
 subst hE
 obtain ⟨i,ed,zv,hi,O0,_,x3,ma,BB,cM⟩:=qR he
 have WI:0<zz.sz α:=by simpa [yV] using YM
 obtain ⟨wP,hlen,Kj⟩:=h.sh.ok _ (zy hr)
 have gI:=h.sh.self _ (zy hr)
 have F9:=hat w h.sh
 have hu:=yS hT
 have de:(zZ.own E s).QT B:=by
  obtain ⟨l1,e1⟩:=List.getElem?_eq_some_iff.1 hr
  obtain ⟨l2,e2⟩:=List.getElem?_eq_some_iff.1 Ay
  have OF:r≠rm:=by rintro rfl;simp at Qo
  have dS:=List.pairwise_iff_getElem.1 h.sh.apart
  rw [<-e1,<-e2]
  rcases Nat.lt_or_gt_of_ne OF with qU|hgt
  ·exact dS r rm l1 l2 qU
  ·exact (dS rm r l2 l1 hgt).symm
 have EN:zv.cells.size=zz.sz α:=by rw [<-Array.length_toList,cM,ER]
 have key:∃v' w',(Builtin.append_ #[T,T] o.type #[s.v,m.v]).run P w= .ok v' w' /\w'.ownsRow 0 E (zz.sz α) v' (s.l.length+m.l.length) (qH s.l++qH m.l)/\w.grownBy w' s.v.ownBlock/\(∀b,v'.ownBlock=some b->s.v.ownBlock=some b\/w.heap.size<=b):=by
  obtain ⟨A,cap,Xf,Ia⟩:=F9
  cases A with
  |none=>
   have ON:m.l.length=0:=by
    rcases Hu m.l.length with h0|h0
    ·exact h0
    ·obtain ⟨b,hb,_⟩:=Ia.some h0;cases hb
   have U4:m.l= []:=JW ON
   refine ⟨s.v,w,?_,by rw [ON,U4,lH,k6];exact wP,⟨V,V,V,qC _,λ_ _ _=>rfl⟩,λb hb=> .inl hb⟩
   rw [Xf,ON]
   rcases wP.2 with ⟨hv,h0⟩|⟨g,c2,cur,hv,_,_,OG,_⟩
   ·rw [hv];simp [Builtin.append_,run_underlying hu,sizeOf,typeInfo,hi,Builtin.lenOf,Builtin.firstCells]
   ·rw [hv];simp [Builtin.append_,run_underlying hu,sizeOf,typeInfo,hi,Builtin.lenOf,Builtin.firstCells,OG,storeCells]
  |some ad=>
   have Gj:∀(j:Nat) (u:Value),(qH m.l)[j]? =some u->w.cell? (ad.add j)=some u:=by
    intro j u hj
    have Ti:j<m.l.length*zz.sz α:=by
     have:=(List.getElem?_eq_some_iff.1 hj).1
     rwa [qe] at this
    have hq:j/zz.sz α<m.l.length:=(Hw WI).2 Ti
    have Fu:j%zz.sz α<zz.sz α:=VH _ WI
    have Dw:j=(j/zz.sz α)*zz.sz α+j%zz.sz α:=by rw [Ho];exact (Bk _ _).symm
    obtain ⟨b,hb,Ux⟩:=Ia.some (Nat.lt_of_le_of_lt (wX _) hq)
    simp only [Qx] at hb
    subst hb
    have h2:=Q5 m.l (j/zz.sz α) (j%zz.sz α) hq Fu
    rw [<-Dw,hj] at h2
    have h3:=Ia.cell (j/zz.sz α) (j%zz.sz α) hq Fu
    rw [<-h2] at h3
    obtain ⟨zM,off,sp⟩:=ad
    simp only at Ux
    subst Ux
    rw [wD]
    have e:(⟨some ⟨zM,off,none⟩,cap,m.l⟩:Sl α).dJ (zz.sz α) (j/zz.sz α) (j%zz.sz α)=⟨zM,off+j,none⟩:=by
     have:off+(j/zz.sz α)*zz.sz α+j%zz.sz α=off+j:=by rw [Nat.add_assoc,<-Dw]
     simp [Sl.dJ,this]
    rw [<-e];exact h3
   have h1c:∀u∈qH m.l,u.oneCell' =true:=by
    intro u hu
    obtain ⟨x,EV,hx⟩:=List.mem_flatMap.1 hu
    obtain ⟨q,hq,rfl⟩:=List.mem_map.1 hx
    obtain ⟨qi,OA⟩:=kG EV
    have BU:=(List.getElem?_eq_some_iff.1 OA).1
    have hqx:nth m.l qi=x:=by rw [qq _ _ BU];exact (List.getElem?_eq_some_iff.1 OA).2
    rw [<-hqx];exact h1 w h.sh qi BU q (by simpa using hq)
   have U6:s.l.length+m.l.length<=maxLen:=by unfold maxLen;omega
   have AB:(qH m.l).length=m.l.length*zz.sz α:=qe _
   obtain ⟨v',w',yN,Dt,iP,_⟩:=run_append_own (P:=P) w 0 T o.type E i zv (zz.sz α) xf hu hi BB x3 ma EN WI s.v s.l.length (qH s.l) wP ad m.l.length cap (qH m.l) AB Gj h1c U6 hn.1 (wX _)
   refine ⟨v',w',by rw [Xf];exact yN,Dt,iP,λb hb=>?_⟩
   rcases wP.2 with ⟨hv,h0⟩|⟨g,c2,cur,hv,_,hgc,OG,GX,XH,ig⟩
   ·have FQ:w.ownsRow w.heap.size E (zz.sz α) s.v s.l.length (qH s.l):=⟨wP.1,.inl ⟨hv,h0⟩⟩
    obtain ⟨v2,w2,iy,ho2,_⟩:=run_append_own (P:=P) w w.heap.size T o.type E i zv (zz.sz α) xf hu hi BB x3 ma EN WI s.v s.l.length (qH s.l) FQ ad m.l.length cap (qH m.l) AB Gj h1c U6 hn.1 (qC _)
    rw [yN] at iy
    injection iy with e1 e2
    subst e1
    exact .inr (ho2.lt b hb).1
   ·by_cases iz:s.l.length+m.l.length<=c2
    ·have l3:=run_append_room (P:=P) w T o.type E i hu hi g s.l.length c2 cur hgc ad m.l.length cap (qH m.l) (by rw [AB,x3]) Gj h1c iz (by rw [AB,x3,XH,<-GP];exact WV _ iz)
     rw [hv,l3] at yN
     injection yN with e1 e2
     subst e1
     left;rw [hv];exact hb
    ·have holds:∀(j:Nat) (u:Value),(qH s.l)[j]? =some u->w.cell? ((⟨g,0,none⟩:Addr).add j)=some u:=wP.cells (g:=g) (by rw [hv];rfl)
     have l3:=run_append_grow (P:=P) w T o.type E i zv hu hi BB ⟨g,0,none⟩ s.l.length c2 (qH s.l) (by rw [qe,x3]) holds ad m.l.length cap (qH m.l) (by rw [AB,x3]) Gj za (by unfold maxLen at U6;omega) (growslice_fits za (by rw [ma];exact hn.1))
     rw [hv,l3] at yN
     injection yN with e1 e2
     subst e1
     right
     have:w.heap.size=b:=by simpa [Value.ownBlock] using hb
     omega
 obtain ⟨v',w',yN,Dt,iP,nJ⟩:=key
 refine Ex.j8 (v:=v') (w' :=w') ?_ ⟨v',?_⟩
 ·unfold execOp
  simp only [ho,resolve,invoke,builtin,qS,q5,yQ,Bl,xA,wY,h.fr.ev hx,h.fr.ev hy,yN]
 ·rw [hd]
  have zcX:∀q,q<m.l.length->zz.inner (nth m.l q) w' :=λq hq=>zz.yB _ w w' (F9.inner q hq) λb hb=>by
   have DH:=hoi q hq b hb
   refine iP.block b (h.sh.lt (zy Ay) (.inr DH)) (λe=>?_)
   exact ((de b).1 e.symm).2 DH
  have zb8:∀q,q<s.l.length->zz.inner (nth s.l q) w' :=λq hq=>zz.yB _ w w' (Kj q hq) λb hb=>by
   refine iP.block b (h.sh.lt (zy hr) (.inr ⟨q,hq,hb⟩)) (λe=>?_)
   exact gI b e.symm ⟨q,hq,hb⟩
  have iD:∀b,(∃q,q<(s.l++m.l).length/\zz.on (nth (s.l++m.l) q) b)->(zZ.own E s).rd b\/B.rd b:=by
   rintro b ⟨q,hq,hb⟩
   rw [gr] at hb
   split at hb
   ·exact .inl ⟨q,zc,hb⟩
   ·exact .inr (hoi _ (by rw [yX] at hq;omega) b hb)
  refine ⟨h.fr.put d (by simpa [yV] using wz) _,h.sh.put hr (j2.grown iP (λk hk=>hk)) ⟨?_,?_,λq hq=>?_⟩ (λb hb=>nJ b hb) (λb hb=>?_) (λb hb xl=>?_)⟩
  ·show World.ownsRow _ 0 E _ v' (s.l++m.l).length (qH (s.l++m.l))
   rw [yX,vY];exact Dt
  ·show (s.l++m.l).length<=_
   rw [yX];exact hn.2
  ·show zz.inner (nth (s.l++m.l) q) w'
   rw [gr]
   have Vq:q<s.l.length+m.l.length:=by rw [<-yX];exact hq
   split
   ·exact zb8 q zc
   ·exact zcX _ za
  ·rcases iD b hb with hb|hb
   ·exact .inr (.inl hb)
   ·exact .inr (.inr (.inl ⟨B,zy Ay,hb⟩))
  ·rcases iD b xl with GW|GW
   ·rcases nJ b hb with hb|hb
    ·exact gI b hb GW
    ·have:=h.sh.lt (zy hr) (.inr GW);omega
   ·rcases nJ b hb with hb|hb
    ·exact ((de b).1 hb).2 GW
    ·have:=h.sh.lt (zy Ay) (.inr GW);omega
end
theorem Sh.perm (h:Sh K W w L)(hp:L.Perm L'):Sh K W w L' :=
 ⟨h.J6,λA hA=>h.ok A (hp.mem_iff.2 hA),λA hA=>h.Zj A (hp.mem_iff.2 hA),λA hA=>h.self A (hp.mem_iff.2 hA),(List.Perm.pairwise_iff (λ{x y} EU=>EU.symm) hp).1 h.apart⟩
def Nn (xn WT:TypeId)(x:xg):List zZ:= [.own xn x.ze,.own WT x.wait]
def xo (xn WT:TypeId)(l:List xg):List zZ:=l.flatMap (Nn xn WT)
theorem RN {xn WT:TypeId}{l l' :List xg}(h:l.Perm l'):(xo xn WT l).Perm (xo xn WT l'):=by
 unfold xo
 induction h with
 |nil=>exact .refl _
 |cons x _ ih=>simp only [kF];exact ih.append_left _
 |swap x y l=>
  simp only [kF,<-xi]
  exact (List.perm_append_comm).append_right _
 |trans _ _ h1 h2=>exact h1.trans h2
theorem Sh.fold {xn WT:TypeId}{l:List xg}{x:xg}{L:List zZ}(h:Sh K W w (.own xn x.ze:: .own WT x.wait:: .x5 (xo xn WT l)::L)):Sh K W w (.x5 (xo xn WT (l++ [x]))::L):=by
 have h1:Sh K W w (.x5 (xo xn WT l)::(Nn xn WT x++L)):=h.perm ((List.Perm.swap _ _ _).cons _|>.trans (List.Perm.swap _ _ _))
 have h2:=h1.open_
 rw [<-xi] at h2
 have e:xo xn WT (l++ [x])=xo xn WT l++Nn xn WT x:=by simp [xo]
 rw [<-e] at h2
 exact h2.close
theorem St.fold {xn WT:TypeId}{l:List xg}{x:xg}{L:List zZ}(h:St N K W a w F (.own xn x.ze:: .own WT x.wait:: .x5 (xo xn WT l)::L)):St N K W a w F (.x5 (xo xn WT (l++ [x]))::L):=⟨h.fr,h.sh.fold⟩
theorem Sh.zbi {xn WT:TypeId}{l:List xg}{L:List zZ}(h:Sh K W w (.x5 (xo xn WT l)::L))(n:Nat)(hn:n<l.length):Sh K W w (.own xn (nth l n).ze:: .own WT (nth l n).wait:: .x5 (xo xn WT (l.eraseIdx n))::L):=by
 have h1:=h.open_.perm ((RN (ki l n hn)).append_right L)
 have e:xo xn WT (l[n]::l.eraseIdx n)= .own xn (nth l n).ze:: .own WT (nth l n).wait::xo xn WT (l.eraseIdx n):=by rw [qq l n hn];rfl
 rw [e] at h1
 have h2:Sh K W w (xo xn WT (l.eraseIdx n)++(.own xn (nth l n).ze:: .own WT (nth l n).wait::L)):=h1.perm (by
  simp only [QQ]
  exact ((List.perm_middle (a:=zZ.own WT (nth l n).wait) (l₁:=xo xn WT (l.eraseIdx n)) (l₂:=L)).symm.cons _).trans (List.perm_middle (a:=zZ.own xn (nth l n).ze) (l₁:=xo xn WT (l.eraseIdx n)) (l₂:=zZ.own WT (nth l n).wait::L)).symm)
 exact h2.close.perm ((List.Perm.swap _ _ _).trans ((List.Perm.swap _ _ _).cons _))
theorem Sh.Pv {xn WT:TypeId}{l:List xg}{x:xg}{L:List zZ}(n:Nat)(hn:n<l.length)(h:Sh K W w (.own xn x.ze:: .own WT x.wait:: .x5 (xo xn WT (l.eraseIdx n))::L)):Sh K W w (.x5 (xo xn WT (l.set n x))::L):=by
 have h1:Sh K W w (.x5 (xo xn WT (l.eraseIdx n))::(Nn xn WT x++L)):=h.perm ((List.Perm.swap _ _ _).cons _|>.trans (List.Perm.swap _ _ _))
 have h2:=h1.open_
 rw [<-xi] at h2
 have e:(xo xn WT (l.eraseIdx n)++Nn xn WT x).Perm (xo xn WT (l.set n x)):=by
  refine List.perm_append_comm.trans ?_
  have:Nn xn WT x++xo xn WT (l.eraseIdx n)=xo xn WT (x::l.eraseIdx n):=by simp [xo]
  rw [this]
  exact RN (Zf x l n hn).symm
 exact (h2.perm (e.append_right L)).close
theorem St.zlD (xn WT:TypeId)(h:St N K W a w F L):St N K W a w F (.x5 (xo xn WT [])::L):=
 ⟨h.fr,h.sh.push (j2.refl _ _) ⟨λA hA=>(by cases hA),.nil,λA hA=>(by cases hA)⟩ (λb hb=>(by obtain ⟨A,hA,_⟩:=hb;cases hA)) (λb hb=>(by obtain ⟨A,hA,_⟩:=hb;cases hA)) (λb hb=>(by obtain ⟨A,hA,_⟩:=hb;cases hA))⟩
end
structure zC where
 st:Int
 words:Ls Int
 zd:Ls Int
instance : Inhabited zC:=⟨⟨0,default,default⟩⟩
def zC.cell (x:zC):Nat->Value
 |0=> .int .i64 x.st
 |1=>x.words.v
 |_=>x.zd.v
instance : zz zC where
 sz:=3
 cell:=zC.cell
 whole x:= .agg #[.int .i64 x.st,x.words.v,x.zd.v]
 agg:=true
 inner x w:=x.words.At w/\x.zd.At w
 on x b:=x.words.on b\/x.zd.on b
 one h:=by cases h
 many _ _:=rfl
 yB _ _ _ h hb:=⟨h.1.yB λb xl=>hb b (.inl xl),h.2.yB λb xl=>hb b (.inr xl)⟩
 lt _ _ h _ hb:=hb.elim (λhb=>h.1.lt hb) (λhb=>h.2.lt hb)
instance : One zC:=⟨λx w h q hq=>by
 rcases q with _|_|q
 ·rfl
 ·exact Ls.At.one (s:=x.words) h.1
 ·exact Ls.At.one (s:=x.zd) h.2⟩
structure xR where
 st:Int
 words:List Int
 zd:List Int
 deriving DecidableEq
instance : Inhabited xR:=⟨⟨0,[],[]⟩⟩
def zC.out (x:zC):xR:=⟨x.st,x.words.l,x.zd.l⟩
structure SD where
 g:Nat
 E:TypeId
 hd:List Value
 zl:Ls xg
 words:Ls Int
 owner:Ls Int
 zd:Ls Int
 zq:Bool
instance : Inhabited SD:=⟨⟨0,0,[],default,default,default,default,false⟩⟩
def SD.cells (x:SD):List Value:=x.hd++ [x.zl.v,x.words.v,x.owner.v,x.zd.v,.bool x.zq]
def SD.ptr (x:SD):Value:= .pointer (some ⟨x.g,0,none⟩)
instance : zz SD where
 sz:=1
 cell x _:=x.ptr
 whole x:=x.ptr
 agg:=false
 inner x w:=xB w x.g x.E x.cells.toArray/\x.zl.At w/\x.words.At w/\x.owner.At w/\x.zd.At w
 on x b:=b=x.g\/x.zl.on b\/x.words.on b\/x.owner.on b\/x.zd.on b
 one _:=⟨V,λ_=>rfl⟩
 many h:=by cases h
 yB _ _ _ h hb:=⟨(hb _ (.inl V)).trans h.1,h.2.1.yB λb xl=>hb b (.inr (.inl xl)),h.2.2.1.yB λb xl=>hb b (.inr (.inr (.inl xl))),h.2.2.2.1.yB λb xl=>hb b (.inr (.inr (.inr (.inl xl)))),h.2.2.2.2.yB λb xl=>hb b (.inr (.inr (.inr (.inr xl))))⟩
 lt _ _ h _ hb:=by
  rcases hb with rfl|hb|hb|hb|hb
  ·exact h.1.lt
  ·exact h.2.1.lt hb
  ·exact h.2.2.1.lt hb
  ·exact h.2.2.2.1.lt hb
  ·exact h.2.2.2.2.lt hb
instance : One SD:=⟨λ_ _ _ _ _=>rfl⟩
def SD.st (x:SD):yc:=⟨x.zl.l.map xg.th,x.words.l,x.owner.l,x.zd.l⟩
def zZ.Yd {α:Type}[zz α](x:α):zZ where
 fp _:=False
 rd:=zz.on x
 ok w:=zz.inner x w
 yB w w' h hb:=zz.yB x w w' h λb xl=>hb b (.inr xl)
 lt w h b hb:=by rcases hb with hb|hb;exact hb.elim;exact zz.lt x w h b hb
section
variable {P:Program}{N:Nat}{K:Nat->Prop}{W w:World}{a:Act}{F F' :List (Nat×Value)}{L L' :List zZ}
theorem Sh.freeze {ST TH xn WT:TypeId}{g:Nat}{hd:List Value}{vt:Value}{rows:List xg}{words owner zd:Ls Int}{zq:Bool}{L:List zZ}
  (h:Sh K W w (.zM g ST (hd++ [vt,words.v,owner.v,zd.v,.bool zq]):: .own TH (⟨vt,rows.map xg.XT⟩:Ls kp):: .x5 (xo xn WT rows):: .own xn words:: .own xn owner:: .own xn zd::L)):
  Sh K W w (.Yd (⟨g,ST,hd,⟨vt,rows⟩,words,owner,zd,zq⟩:SD)::L)/\∀b,zz.on (⟨g,ST,hd,⟨vt,rows⟩,words,owner,zd,zq⟩:SD) b->K b\/W.heap.size<=b:=by
 have o1:=h.ok _ (zy (i:=0) V)
 have o2:=h.ok _ (zy (i:=1) V)
 have o3:=h.ok _ (zy (i:=2) V)
 have o4:=h.ok _ (zy (i:=3) V)
 have o5:=h.ok _ (zy (i:=4) V)
 have o6:=h.ok _ (zy (i:=5) V)
 have Oy:∀x,x∈rows->(zZ.own xn x.ze).ok w/\(zZ.own WT x.wait).ok w:=λx hx=>
  ⟨o3.1 _ (List.mem_flatMap.2 ⟨x,hx,by simp [Nn]⟩),o3.1 _ (List.mem_flatMap.2 ⟨x,hx,by simp [Nn]⟩)⟩
 have hat:(⟨vt,rows⟩:Ls xg).At w:=kp.atL (vE o2) V λi hi=>by
  have:=Oy _ (qb _ _ hi)
  exact ⟨vE this.1,vE this.2⟩
 have key:∀b,zz.on (⟨g,ST,hd,⟨vt,rows⟩,words,owner,zd,zq⟩:SD) b->∃B∈ [zZ.zM g ST (hd++ [vt,words.v,owner.v,zd.v,.bool zq]),.own TH (⟨vt,rows.map xg.XT⟩:Ls kp),.x5 (xo xn WT rows),.own xn words,.own xn owner,.own xn zd],B.fp b:=by
  have flat:∀ {α:Type} [zz α] [Flat α] {E:TypeId} {s:Ls α} {b:Nat},(zZ.own E s).ok w->s.on b->(zZ.own E s).fp b:=λ{α} _ _ {E} {s} {b} ho hb=>by
   rcases qt ho hb with h|h
   ·exact h
   ·exact Flat.qh h
  intro b hb
  rcases hb with rfl|hb|hb|hb|hb
  ·exact ⟨_,zy (i:=0) V,V⟩
  ·rcases hb with ⟨h0,hb⟩|⟨i,hi,hb⟩
   ·exact ⟨_,zy (i:=1) V,flat o2 (.inl ⟨by simpa using h0,hb⟩)⟩
   ·have hm:=qb _ _ hi
    have:=Oy _ hm
    refine ⟨_,zy (i:=2) V,?_⟩
    rcases hb with hb|hb
    ·exact ⟨_,List.mem_flatMap.2 ⟨_,hm,zy (i:=0) V⟩,flat this.1 hb⟩
    ·exact ⟨_,List.mem_flatMap.2 ⟨_,hm,zy (i:=1) V⟩,flat this.2 hb⟩
  ·exact ⟨_,zy (i:=3) V,flat o4 hb⟩
  ·exact ⟨_,zy (i:=4) V,flat o5 hb⟩
  ·exact ⟨_,zy (i:=5) V,flat o6 hb⟩
 constructor
 ·refine Sh.step (Lp:= [zZ.zM g ST (hd++ [vt,words.v,owner.v,zd.v,.bool zq]),.own TH (⟨vt,rows.map xg.XT⟩:Ls kp),.x5 (xo xn WT rows),.own xn words,.own xn owner,.own xn zd]) (Lr:=L) (L' := [.Yd (⟨g,ST,hd,⟨vt,rows⟩,words,owner,zd,zq⟩:SD)]) h (j2.refl _ _) ?_ ?_ ?_ ?_ (WX _ _)
  ·simpa using (show (zZ.Yd (⟨g,ST,hd,⟨vt,rows⟩,words,owner,zd,zq⟩:SD)).ok w from ⟨o1,hat,vE o4,vE o5,vE o6⟩)
  ·intro A hA b hb;simp at hA;subst hA;exact hb.elim
  ·intro A hA b hb
   simp only [Bn] at hA
   subst hA
   obtain ⟨B,hB,hb⟩:=key b hb
   exact .inl ⟨B,hB,.inl hb⟩
  ·intro A hA b hb;simp at hA;subst hA;exact hb.elim
 ·intro b hb
  obtain ⟨B,hB,hb⟩:=key b hb
  exact h.Zj B (by simp only [z6,qd,or_false] at hB⊢;rcases hB with h|h|h|h|h|h<;>simp [h]) b hb
theorem Sh.Y7 (h:Sh K W w L){A:zZ}(zR:A.ok w)(J0:∀b,¬A.fp b)(Ye:∀b,A.rd b->∃B∈L,B.rd b):Sh K W w (A::L):=
 h.push (j2.refl _ _) zR (λb hb=>(J0 b hb).elim) (λb hb=> .inl (Ye b hb)) (λb hb=>(J0 b hb).elim)
theorem St.Y7 (h:St N K W a w F L){A:zZ}(zR:A.ok w)(J0:∀b,¬A.fp b)(Ye:∀b,A.rd b->∃B∈L,B.rd b):St N K W a w F (A::L):=⟨h.fr,h.sh.Y7 zR J0 Ye⟩
end
def W1 (x:Int):Nat:=(x%18446744073709551616).toNat
theorem WZ (x:Int):W1 x<18446744073709551616:=by unfold W1;omega
theorem AK {a b:Nat}(ha:a<18446744073709551616)(hb:b<18446744073709551616):a^^^b<18446744073709551616:=Nat.xor_lt_two_pow (n:=64) za za
section
variable {P:Program}{o:Oper}{N:Nat}{K:Nat->Prop}{W w:World}{F:List (Nat×Value)}{L:List zZ}{T U D:TypeId}{x y:Operand}
theorem rr {p:Int}(hs:P.underlying T=some (.int .i64))(hd:P.underlying D=some (.int .u64))(ho:o.op= .convert T D x)(hx:ev F x=some (.int .i64 p)):Rn P o N K W F L (.int .u64 ((W1 p:Nat):Int)):=λa w h=>by
 have hk:P.intKind D= .u64:=by simp [Program.intKind,hd]
 have e:=run_convert_int (P:=P) (w:=w) T D .i64 p (by rw [hs];rfl) (by rw [hk];exact hd)
 rw [hk,UJ,show p%18446744073709551616=((W1 p:Nat):Int) by unfold W1;omega] at e
 unfold execOp
 simp only [ho,h.fr.ev hx,qS,e,yQ,q5]
theorem Sc {p:Nat}(hs:P.underlying T=some (.int .u64))(hd:P.underlying D=some (.int .i64))(ho:o.op= .convert T D x)(hx:ev F x=some (.int .u64 ((p:Nat):Int)))(hp:p<9223372036854775808):Rn P o N K W F L (.int .i64 ((p:Nat):Int)):=λa w h=>by
 have hk:P.intKind D= .i64:=by simp [Program.intKind,hd]
 have e:=run_convert_int (P:=P) (w:=w) T D .u64 (p:Int) (by rw [hs];rfl) (by rw [hk];exact hd)
 rw [hk,IntWalk.i64_in _ ⟨za,za⟩] at e
 unfold execOp
 simp only [ho,h.fr.ev hx,qS,e,yQ,q5]
theorem CH {p q:Nat}(ho:o.op= .binOp .xor T x y U)(hx:ev F x=some (.int .u64 ((p:Nat):Int)))(hy:ev F y=some (.int .u64 ((q:Nat):Int)))(hb:p<18446744073709551616/\q<18446744073709551616):Rn P o N K W F L (.int .u64 (((p^^^q:Nat)):Int)):=wu ho hx hy λw=>by
 rw [binOp_xor]
 have:Op.intBits .xor .u64 (p:Int) (q:Int)=pure (.int .u64 (bits .xor .u64 p q)):=rfl
 rw [this,bits_xor_u64_nat _ _ hb.1 hb.2];rfl
theorem CM {p q:Nat}(ho:o.op= .binOp .mul T x y U)(hx:ev F x=some (.int .u64 ((p:Nat):Int)))(hy:ev F y=some (.int .u64 ((q:Nat):Int))):Rn P o N K W F L (.int .u64 (((p*q%18446744073709551616:Nat)):Int)):=wu ho hx hy λw=>by
 simp [go_sem,UJ]
theorem CL {p k:Nat}(ho:o.op= .binOp .shr T x y U)(hx:ev F x=some (.int .u64 ((p:Nat):Int)))(hy:ev F y=some (.int .u64 ((k:Nat):Int)))(hk:k<=64):Rn P o N K W F L (.int .u64 (((p/2^k:Nat)):Int)):=wu ho hx hy λw=>by
 rw [binOp_shr,shift_shr .u64 .u64 _ _ za (by show ((k:Nat):Int)<=64;omega)]
 simp
theorem za2 {p q:Nat}(ho:o.op= .binOp .rem T x y U)(hx:ev F x=some (.int .u64 ((p:Nat):Int)))(hy:ev F y=some (.int .u64 ((q:Nat):Int)))(hq:0<q):Rn P o N K W F L (.int .u64 (((p%q:Nat)):Int)):=wu ho hx hy λw=>by
 have h1:¬(q:Int)=0:=za
 have h0:¬q=0:=za
 have h2:(p:Int).tmod q=((p%q:Nat):Int):=by rw [Int.tmod_eq_emod_of_nonneg za];rfl
 simp [go_sem,h0,h1,h2]
end
section
variable {α:Type}[zz α]{s:Ls α}{w:World}
theorem XA {β:Type}[Inhabited β]{l:List β}{i j:Nat}(h:i<j):nth (l.take j) i=nth l i:=by
 simp only [nth,List.getD,VI,if_pos h]
theorem Uh {β:Type}[Inhabited β]{l:List β}{i k:Nat} :nth (l.drop k) i=nth l (k+i):=by
 simp only [nth,List.getD,GS]
theorem Np (h:s.At w){j:Nat}(hj:j<=s.l.length):(⟨kC s.v j,s.l.take j⟩:Ls α).At w:=by
 obtain ⟨A,cap,hv,h⟩:=h
 have hl:(s.l.take j).length=j:=by rw [vU];omega
 refine ⟨A,cap,by show kC s.v j=_;rw [hv,hl];rfl,?_⟩
 have hle:s.l.length<=cap:=h.le
 have hln:s.l.length<=140737488355328:=h.len
 refine ⟨by show (s.l.take j).length<=cap;omega,h.max,by show (s.l.take j).length<=_;omega,λh0=>h.some (by simp only at h0;show 0<s.l.length;omega),λh0=>h.Su (by simp only at h0;show 0<s.l.length;omega),λi q hi hq=>?_,λi hi=>?_⟩
 ·simp only at hi
  rw [show nth (s.l.take j) i=nth s.l i from XA za]
  exact h.cell i q (by show i<s.l.length;omega) hq
 ·simp only at hi
  rw [show nth (s.l.take j) i=nth s.l i from XA za]
  exact h.inner i (by show i<s.l.length;omega)
theorem Rp (h:s.At w){k:Nat}(hk:k<=s.l.length):(⟨kQ s.v (zz.sz α) k,s.l.drop k⟩:Ls α).At w:=by
 obtain ⟨A,cap,hv,h⟩:=h
 have hl:(s.l.drop k).length=s.l.length-k:=v7
 have hle:s.l.length<=cap:=h.le
 have hln:s.l.length<=140737488355328:=h.len
 have hmx:cap<=maxLen:=h.max
 refine ⟨if cap=k then A else A.map (·.add (k*zz.sz α)),cap-k,by show kQ s.v _ k=_;rw [hv,hl];rfl,?_⟩
 have key:0<(s.l.drop k).length->∃a,A=some a/\a.spot=none/\¬cap=k:=λh0=>by
  obtain ⟨a,h1,h2⟩:=h.some (by show 0<s.l.length;omega)
  exact ⟨a,h1,h2,za⟩
 refine ⟨by show (s.l.drop k).length<=cap-k;omega,by show cap-k<=maxLen;omega,by show (s.l.drop k).length<=_;omega,λh0=>?_,λh0=>?_,λi q hi hq=>?_,λi hi=>?_⟩
 ·obtain ⟨a,rfl,h2,h3⟩:=key h0
  exact ⟨a.add (k*zz.sz α),by simp only [if_neg h3,ZJ],by obtain ⟨b,o,sp⟩:=a;simp only at h2;subst h2;simp [wD]⟩
 ·obtain ⟨a,rfl,h2,h3⟩:=key h0
  have:=h.Su (by show 0<s.l.length;simp only at h0;omega)
  obtain ⟨b,o,sp⟩:=a
  simp only at h2;subst h2
  simp only [if_neg h3,ZJ,Hq,wD] at this⊢
  exact this
 ·have h0:0<(s.l.drop k).length:=by simp only at hi;omega
  obtain ⟨a,rfl,h2,h3⟩:=key h0
  simp only at hi
  have:=h.cell (k+i) q (by show k+i<s.l.length;omega) hq
  rw [show nth (s.l.drop k) i=nth s.l (k+i) from Uh]
  obtain ⟨b,o,sp⟩:=a
  simp only at h2;subst h2
  rw [<-this]
  congr 1
  simp only [Sl.dJ,if_neg h3,ZJ,Hq,wD,Addr.mk.injEq,true_and,and_true]
  rw [GP];omega
 ·simp only at hi
  rw [show nth (s.l.drop k) i=nth s.l (k+i) from Uh]
  exact h.inner (k+i) (by show k+i<s.l.length;omega)
end
section
variable {P:Program}{o:Oper}{N:Nat}{K:Nat->Prop}{W w:World}{a:Act}{F:List (Nat×Value)}{L:List zZ}
theorem H3 {T e:TypeId}{x:Operand}{u:Value}(hT:P.underlying T=some (.pointer e))(ho:o.op= .makeInterface T x)(hx:ev F x=some u):Rn P o N K W F L (.iface T u):=λa w h=>by
 have key:(Instr.makeInterface T u).run P w= .ok (.iface T u) w:=by simp [Instr.makeInterface,run_underlying hT]
 unfold execOp
 simp only [ho,h.fr.ev hx,qS,key,yQ,q5]
end
section
variable {P:Program}{o:Oper}{N:Nat}{K:Nat->Prop}{W w:World}{a:Act}{F:List (Nat×Value)}{L:List zZ}
theorem Ac (l:List Int):qH l=l.map (Value.int .i64):=by
 induction l with
 |nil=>rfl
 |cons x l ih=>rw [xA,<-ih];rfl
theorem AS {d:Nat}{T T2 e:TypeId}{gg:Bool}{xf r n k:Nat}{z:List Value}{x y:Operand}{s m:Ls Int}{E:TypeId}{vd:Value}
  (h:St N K W a w F L) (hT:QA P T=some e) (he:je P e=some (gg,1,xf,z)) (ho:o.op= .call ⟨.builtin .copy, #[x,y], #[T,T2]⟩) (hx:ev F x=some vd) (hvd:(vd=s.v/\n=0)\/vd=kQ s.v 1 n) (hy:ev F y=some m.v)
  (hr:L[r]? =some (.own E s)) (hat:m.At w) (hn:n<=s.l.length) (hk:k=min m.l.length (s.l.length-n)) (hd:o.dst=some d) (wz:Nat.blt d N=true):
  Ex P o a w (λa' w' =>St N K W a' w' ((d,.int .i64 ((k:Nat):Int))::F) (L.set r (.own E ⟨s.v,s.l.take n++m.l.take k++s.l.drop (n+k)⟩))):=by
 obtain ⟨ti,ed,zv,hi,O0,_,hs1,_⟩:=qR he
 have hu:=yS hT
 have x3:(P.info? e).map (·.size)=some 1:=by rw [hi];simp [hs1]
 have zR:=h.sh.ok _ (zy hr)
 obtain ⟨wP,hlen,Kj⟩:=zR
 obtain ⟨mA,zbu,Xf,Ia⟩:=hat
 have zjz:∃A c,vd= .slice A (s.l.length-n) c/\(0<k->A=some ⟨bU s.v,n,none⟩):=by
  rcases wP.2 with ⟨hv,h0⟩|⟨g,cap,cur,hv,sC,hg,BZ,hm2,XH,ig⟩
  ·have hn0:n=0:=za
   subst hn0
   refine ⟨none,0,?_,λss=>za⟩
   rcases hvd with ⟨e1,_⟩|e1
   ·rw [e1,hv,h0]
   ·rw [e1,hv,h0];rfl
  ·rcases hvd with ⟨e1,e2⟩|e1
   ·subst e2
    exact ⟨some ⟨g,0,none⟩,cap,by rw [e1,hv];rfl,λ_=>by rw [hv];rfl⟩
   ·refine ⟨_,cap-n,by rw [e1,hv];rfl,λss=>?_⟩
    have:¬cap=n:=za
    rw [if_neg this,hv]
    simp [wD,bU]
 obtain ⟨A,c,zg5,hA⟩:=zjz
 by_cases h0:k=0
 ·have yN:=run_copy_none (P:=P) w T T2 o.type e A mA (s.l.length-n) c m.l.length zbu hu x3 (by show min _ _=0;omega)
  refine Ex.j8 (v:= .int .i64 ((k:Nat):Int)) (w' :=w) ?_ ?_
  ·unfold execOp
   simp only [ho,resolve,invoke,builtin,qS,q5,yQ,Bl,xA,wY,h.fr.ev hx,h.fr.ev hy,zg5,Xf,yN,h0]
   rfl
  ·rw [hd]
   have hh:St N K W (a.put (some d) (.int .i64 ((k:Nat):Int))) w ((d,.int .i64 ((k:Nat):Int))::F) L:=⟨h.fr.put d (by simpa [yV] using wz) _,h.sh⟩
   obtain ⟨sv,sl⟩:=s
   have:=hh.Jb (i:=r) (l' :=sl.take n++m.l.take k++sl.drop (n+k)) hr (by rw [h0];simp)
   exact this
 ·have ss:0<k:=za
  rcases wP.2 with ⟨hv,h00⟩|⟨g,cap,cur,hv,sC,hg,BZ,hm2,XH,ig⟩
  ·omega
  have E0:zz.sz Int=1:=rfl
  rw [E0,Nat.mul_one] at XH ig
  have hvb:bU s.v=g:=by rw [hv];rfl
  obtain ⟨ad,ziZ,WI⟩:=Ia.some (by show 0<m.l.length;omega)
  simp only at ziZ
  subst ziZ
  have hAe:=hA ss
  rw [hvb] at hAe
  subst hAe
  have qg:((m.l.take k).map (Value.int .i64)).length=k:=by rw [yw,vU];omega
  have hB:xB w g E cur:=hg
  have hlc:s.l.length<=cur.size:=by rw [XH];exact BZ
  have yN:=run_copy_row (P:=P) w T T2 o.type e g n (s.l.length-n) c ad m.l.length zbu cur E ((m.l.take k).map (Value.int .i64)) hu x3 hg (by rw [qg,hk];try rfl) (λj v hj=>by
    have OW:j<k:=by have:=(List.getElem?_eq_some_iff.1 hj).1;rw [qg] at this;exact this
    have hc:=Ia.cell j 0 (by show j<m.l.length;omega) zf
    obtain ⟨zM,off,sp⟩:=ad
    simp only at WI
    subst WI
    rw [wD]
    have e1:(⟨some ⟨zM,off,none⟩,zbu,m.l⟩:Sl Int).dJ 1 j 0=⟨zM,off+j,none⟩:=by simp [Sl.dJ]
    have e2:(zz.cell (nth m.l j) 0:Value)=v:=by
     rw [Ht,VI,if_pos OW,Gv _ _ za] at hj
     show Value.int .i64 (nth m.l j)=v
     simpa using hj
    rw [<-e1,<-e2]
    exact hc) (by rw [qg];omega) (λv hv9=>by
    obtain ⟨q,_,rfl⟩:=List.mem_map.1 hv9;rfl)
  rw [qg] at yN
  refine Ex.j8 (v:= .int .i64 ((k:Nat):Int)) (w' :=w.setRow g (cur.toList.take n++(m.l.take k).map (Value.int .i64)++cur.toList.drop (n+k)).toArray) ?_ ?_
  ·unfold execOp
   simp only [ho,resolve,invoke,builtin,qS,q5,yQ,Bl,xA,wY,h.fr.ev hx,h.fr.ev hy,zg5,Xf,yN]
   rfl
  ·rw [hd]
   have J0:(zZ.own E s).fp g:=by show s.v.ownBlock=some g;rw [hv];rfl
   have hnl:(s.l.take n++m.l.take k++s.l.drop (n+k)).length=s.l.length:=by
    simp only [yX,vU,v7];omega
   refine ⟨h.fr.put d (by simpa [yV] using wz) _,h.sh.put hr ⟨V,V,V,by simp [World.setRow],λb hb Qo=>setRow_other w g b _ (λe=>Qo (by rw [e];exact J0))⟩ ⟨⟨?_,.inr ⟨g,cap,_,?_,sC,setRow_heap w g _ _ E (0,0) hB,?_,?_,?_,?_⟩⟩,?_,λq hq=>trivial⟩ (λb hb=> .inl hb) (λb hb=>?_) (λb hb xl=>?_)⟩
   ·rw [qe]
   ·show s.v=_
    rw [hv,hnl]
   ·show (s.l.take n++m.l.take k++s.l.drop (n+k)).length<=cap
    rw [hnl];exact BZ
   ·exact hm2
   ·have IV:cur.toList.length=cap:=by simpa using XH
    simp only [bE,yX,vU,v7,qg,IV,E0]
    try rw [show ((m.l.take k).map (Value.int .i64)).length=k from qg]
    omega
   ·show List.take ((s.l.take n++m.l.take k++s.l.drop (n+k)).length*zz.sz Int) _=_
    rw [hnl,E0,Nat.mul_one,vY,vY,XO,UD,Ac (m.l.take k),E0,Nat.mul_one,Nat.mul_one,<-ig]
    have IV:cur.toList.length=cap:=by simpa using XH
    have hks:n+k<=s.l.length:=za
    apply Hr
    intro q
    simp only [List.toList_toArray,VI,List.getElem?_append,GS,vU,yX,qg,v7,IV]
    have e1:min n cap=n:=za
    have e2:min n (min s.l.length cap)=n:=za
    simp only [e1,e2]
    repeat' split
    all_goals first|rfl|(exfalso;omega)|(congr 1;omega)
   ·show (s.l.take n++m.l.take k++s.l.drop (n+k)).length<=_
    rw [hnl];exact hlen
   ·obtain ⟨q,_,hb⟩:=hb;exact hb.elim
   ·obtain ⟨q,_,xl⟩:=xl;exact xl.elim
end
structure jn where
 pc:Int
 rv:Value
instance : Inhabited jn:=⟨⟨0,.slice none 0 0⟩⟩
def jn.cell (x:jn):Nat->Value
 |0=> .int .i64 x.pc
 |_=>x.rv
def jn.val (x:jn):Value:= .agg #[.int .i64 x.pc,x.rv]
instance : zz jn where
 sz:=2
 cell:=jn.cell
 whole:=jn.val
 agg:=true
 inner _ _:=True
 on _ _:=False
 one h:=by cases h
 many _ _:=rfl
 yB _ _ _ h _:=h
 lt _ _ _ _ h:=h.elim
instance : Flat jn:=⟨λ_ _ h=>h,λ_ _=>trivial⟩
structure q6 where
 pc:Int
 ze:Ls Int
instance : Inhabited q6:=⟨⟨0,default⟩⟩
def q6.toQ (x:q6):jn:=⟨x.pc,x.ze.v⟩
def q6.th (x:q6):Th:=⟨x.pc,x.ze.l,[]⟩
def kg (xn:TypeId)(l:List q6):List zZ:=l.map λx=> .own xn x.ze
section
variable {N:Nat}{K:Nat->Prop}{W w:World}{a:Act}{F:List (Nat×Value)}{L:List zZ}{xn:TypeId}
theorem Sh.sJ {l:List q6}{x:q6}(h:Sh K W w (.own xn x.ze:: .x5 (kg xn l)::L)):Sh K W w (.x5 (kg xn (l++ [x]))::L):=by
 have h1:Sh K W w (.x5 (kg xn l)::([.own xn x.ze]++L)):=h.perm (List.Perm.swap _ _ _)
 have h2:=h1.open_
 rw [<-xi] at h2
 have e:kg xn (l++ [x])=kg xn l++ [.own xn x.ze]:=by simp [kg]
 rw [<-e] at h2
 exact h2.close
theorem St.sJ {l:List q6}{x:q6}(h:St N K W a w F (.own xn x.ze:: .x5 (kg xn l)::L)):St N K W a w F (.x5 (kg xn (l++ [x]))::L):=⟨h.fr,h.sh.sJ⟩
theorem Sh.zgr {l:List q6}(h:Sh K W w (.x5 (kg xn l)::L))(n:Nat)(hn:n<l.length):Sh K W w (.own xn (nth l n).ze:: .x5 (kg xn (l.eraseIdx n))::L):=by
 have h1:=h.open_.perm (((ki l n hn).map (λx:q6=>zZ.own xn x.ze)).append_right L)
 have e:(l[n]::l.eraseIdx n).map (λx:q6=>zZ.own xn x.ze)= .own xn (nth l n).ze::kg xn (l.eraseIdx n):=by rw [qq l n hn];rfl
 rw [e] at h1
 have h2:Sh K W w (kg xn (l.eraseIdx n)++(.own xn (nth l n).ze::L)):=h1.perm (by
  simp only [QQ]
  exact (List.perm_middle (a:=zZ.own xn (nth l n).ze) (l₁:=kg xn (l.eraseIdx n)) (l₂:=L)).symm)
 exact h2.close.perm (List.Perm.swap _ _ _)
theorem Sh.zd0 {l:List q6}{x:q6}(n:Nat)(hn:n<l.length)(h:Sh K W w (.own xn x.ze:: .x5 (kg xn (l.eraseIdx n))::L)):Sh K W w (.x5 (kg xn (l.set n x))::L):=by
 have h1:Sh K W w (.x5 (kg xn (l.eraseIdx n))::([.own xn x.ze]++L)):=h.perm (List.Perm.swap _ _ _)
 have h2:=h1.open_
 rw [<-xi] at h2
 have e:(kg xn (l.eraseIdx n)++ [zZ.own xn x.ze]).Perm (kg xn (l.set n x)):=by
  refine List.perm_append_comm.trans ?_
  exact ((Zf x l n hn).map (λx:q6=>zZ.own xn x.ze)).symm
 exact (h2.perm (e.append_right L)).close
theorem St.zaj (xn:TypeId)(h:St N K W a w F L):St N K W a w F (.x5 (kg xn [])::L):=
 ⟨h.fr,h.sh.push (j2.refl _ _) ⟨λA hA=>(by cases hA),.nil,λA hA=>(by cases hA)⟩ (λb hb=>(by obtain ⟨A,hA,_⟩:=hb;cases hA)) (λb hb=>(by obtain ⟨A,hA,_⟩:=hb;cases hA)) (λb hb=>(by obtain ⟨A,hA,_⟩:=hb;cases hA))⟩
theorem YT {rows:List q6}{X:Prop}{b:Nat}(h:(zZ.x5 (kg xn rows)).rd b):X:=by
 obtain ⟨A,hA,hb⟩:=h
 obtain ⟨x,_,rfl⟩:=List.mem_map.1 hA
 exact Flat.qh hb
end
def VK (P:Program)(T:TypeId)(u:Addr)(name:String)(vs:List Value)(w:World)(R:Value->World->Prop):Prop:=
 ∃f r,(method (P.types.size+Made.depth) T (.pointer (some u)) name).run P w= .ok (f,.pointer (some r)) w/\zN P f=true/\zP P f (.pointer (some r)::vs) w R
section
variable {P:Program}{o:Oper}{N:Nat}{K:Nat->Prop}{W w:World}{a:Act}{F:List (Nat×Value)}{L:List zZ}
theorem sc {T:TypeId}{u:Addr}{name:String}{f:FuncId}{r:Addr}{ro:Operand}{xs:List Operand}{HD:Array TypeId}{vs:List Value}(h:Fr N a F)(hm:(method (P.types.size+Made.depth) T (.pointer (some u)) name).run P w= .ok (f,.pointer (some r)) w)(hb:zN P f=true)
  (ho:o.op= .call ⟨.invoke ro name,xs.toArray,HD⟩) (hr:ev F ro=some (.iface T (.pointer (some u)))) (hx:G1 F xs=some vs):(execOp a.eval o).run P w= .ok (.enter f (.pointer (some r)::vs).toArray) w:=by
 unfold execOp
 have GX:(callMethod (.iface T (.pointer (some u))) name vs.toArray).run P w= .ok (.enter f (.pointer (some r)::vs).toArray) w:=by
  simp only [callMethod,qS,run_program,yQ,hm]
  rw [Za hb]
  simp
 simp [ho,resolve,h.ev hr,h.G1 hx,invoke,GX]
theorem ZL {d:Nat}{T:TypeId}{u:Addr}{name:String}{ro:Operand}{xs:List Operand}{HD:Array TypeId}{vs:List Value}{R:Value->World->Prop}(h:St N K W a w F L)(ho:o.op= .call ⟨.invoke ro name,xs.toArray,HD⟩)(hr:ev F ro=some (.iface T (.pointer (some u))))
  (hx:G1 F xs=some vs) (hd:o.dst=some d) (wz:Nat.blt d N=true) (hc:VK P T u name vs w R):Ex P o a w (λa' w' =>∃v,R v w' /\Fr N a' ((d,v)::F)):=by
 obtain ⟨f,r,hm,hb,hc⟩:=hc
 intro next Q hn
 unfold Oper.wp
 rw [sc h.fr hm hb ho hr hx]
 exact gJ hc λe w' ⟨v,he,hR⟩=>by subst he;exact hn _ _ ⟨v,hR,by rw [hd];exact h.fr.put d (by simpa [yV] using wz) v⟩
theorem XZ {ops:Array Oper}{rest:List Oper}{Q:Act->Prop}{d:Nat}{T:TypeId}{u:Addr}{name:String}{ro:Operand}{xs:List Operand}{HD:Array TypeId}{vs:List Value}{v:Value}(h:Fr N a F)(ho:o.op= .call ⟨.invoke ro name,xs.toArray,HD⟩)(hr:ev F ro=some (.iface T (.pointer (some u))))
  (hx:G1 F xs=some vs) (hw:Region.wanted o (yielded ops a.tmps)=true) (hd:o.dst=some d) (wz:Nat.blt d N=true) (hc:∀w,Sh K W w L->VK P T u name vs w (λv' w' =>v' =v/\qM w w' []))
  (k:∀a',Fr N a' ((d,v)::F)->wpQuiet P ops (λw=>Sh K W w L) Q rest a'):wpQuiet P ops (λw=>Sh K W w L) Q (o::rest) a:=by
 unfold wpQuiet
 rw [if_pos hw]
 refine ⟨v,λw hw=>?_,k _ (by rw [hd];exact h.put d (by simpa [yV] using wz) v)⟩
 unfold Oper.quietAt
 obtain ⟨f,r,hm,hb,hc⟩:=hc w hw
 rw [sc h hm hb ho hr hx]
 refine ⟨V,gJ hc λe w' ⟨v',he,nJ,hr⟩=>?_⟩
 subst nJ
 exact ⟨he,hw.jv hr⟩
theorem KS {x:Operand}{T:TypeId}{v:Value}(ho:o.op= .nilCheck x)(hx:ev F x=some (.iface T v)):Rn P o N K W F L (.iface T v):=λa w h=>by unfold execOp;simp [ho,h.fr.ev hx]
end
structure Qy where
 σ:Type
 qs:σ->List (List Wt)
 X:σ->zZ
 T:TypeId
 u:Addr
 g0:Nat
 m:Int
structure ZK (PL:TypeId)(M:Qy)(w:World)(words owner:Ls Int)(q:M.σ):Prop where
 zM:xB w M.g0 PL #[words.v,owner.v]
 wa:words.At w
 oa:owner.At w
 x:(M.X q).ok w
def km (PL xn:TypeId)(M:Qy)(words owner:Ls Int)(q:M.σ):List zZ:= [.zM M.g0 PL [words.v,owner.v],.own xn words,.own xn owner,M.X q]
def dK (M:Qy)(t:Nat)(x:Wt)(words owner:Ls Int)(q:M.σ)(zB zA:Ls Int)(q' :M.σ):Prop:=
 ∃wt,M.qs q' =(M.qs q).set t wt/\∀pc ze zd zq,(⟨pc,ze,wt,zB.l,zA.l,zd,zq⟩:TS)=TS.store M.m ⟨pc,ze,nth (M.qs q) t,words.l,owner.l,zd,zq⟩ x
def zeS (M:Qy)(t k:Nat)(words owner:Ls Int)(q:M.σ)(zB zA:Ls Int)(q' :M.σ):Prop:=
 ∃wt,M.qs q' =(M.qs q).set t wt/\∀pc ze zd zq,(⟨pc,ze,wt,zB.l,zA.l,zd,zq⟩:TS)= { TS.done ⟨pc,ze,nth (M.qs q) t,words.l,owner.l,zd,zq⟩ (nth (nth (M.qs q) t) k) with wait:=(nth (M.qs q) t).eraseIdx k }
def zas (M:Qy)(wd qk:Int)(words owner:Ls Int)(q:M.σ)(zB zA:Ls Int)(q' :M.σ):Prop:=
 M.qs q' =M.qs q/\zB.l=words.l.set wd.toNat qk/\zA.l=owner.l
def Ap (x:Wt)(words owner:Ls Int):Prop:=if x.lock=true then 0<=x.wh/\x.wh<owner.l.length else 0<=x.wh/\x.wh<words.l.length
structure KA (P:Program)(PL xn:TypeId)(M:Qy):Prop where
 load:∀(w:World) (words owner:Ls Int) (q:M.σ) (t:Nat) (wd:Int),ZK PL M w words owner q->t<(M.qs q).length->(nth (M.qs q) t).length<=3->0<=wd/\wd<words.l.length->
  VK P M.T M.u "Load" [.int .i64 ((t:Nat):Int),.int .i64 wd] w (λv w' =>v= .int .i64 (x4 (nth (M.qs q) t) words.l wd)/\qM w w' [])
 waits:∀(w:World) (words owner:Ls Int) (q:M.σ) (t:Nat),ZK PL M w words owner q->t<(M.qs q).length->(nth (M.qs q) t).length<=3->
  VK P M.T M.u "Waits" [.int .i64 ((t:Nat):Int)] w (λv w' =>v= .int .i64 (((nth (M.qs q) t).length:Nat):Int)/\qM w w' [])
 Gx:∀(w:World) (words owner:Ls Int) (q:M.σ) (t:Nat) (a:Int),ZK PL M w words owner q->t<(M.qs q).length->(nth (M.qs q) t).length<=3->(∀x∈nth (M.qs q) t,x.lock=true->x.qk=0)->
  VK P M.T M.u "Freeing" [.int .i64 ((t:Nat):Int),.int .i64 a] w (λv w' =>v= .bool ((nth (M.qs q) t).any λx=>x.lock&&decide (x.wh=a))/\qM w w' [])
 ready:∀(w:World) (words owner:Ls Int) (q:M.σ) (t:Nat),ZK PL M w words owner q->t<(M.qs q).length->(nth (M.qs q) t).length<=3->
  VK P M.T M.u "Ready" [.int .i64 ((t:Nat):Int)] w (λv w' =>∃s:Ls Int,v=s.v/\s.l=((List.range (nth (M.qs q) t).length).filter (w6 M.m (nth (M.qs q) t))).map (λk=>((k:Nat):Int))/\qM w w' [.own xn s])
 base:∀(w:World) (words owner:Ls Int) (q:M.σ),ZK PL M w words owner q->VK P M.T M.u "Base" [] w (λv w' =>v= .pointer (some ⟨M.g0,0,none⟩)/\qM w w' [])
 store:∀(K:Nat->Prop) (W:World) (words owner:Ls Int) (q:M.σ) (t:Nat) (wd qk:Int),Sh K W W (km PL xn M words owner q)->t<(M.qs q).length->(nth (M.qs q) t).length<3->0<=wd/\wd<words.l.length->
  VK P M.T M.u "Store" [.int .i64 ((t:Nat):Int),.int .i64 wd,.int .i64 qk] W (λv w' =>v= .tuple #[]/\∃(zB zA:Ls Int) (q' :M.σ),dK M t ⟨false,wd,qk⟩ words owner q zB zA q' /\Sh K W w' (km PL xn M zB zA q'))
 free:∀(K:Nat->Prop) (W:World) (words owner:Ls Int) (q:M.σ) (t:Nat) (a:Int),Sh K W W (km PL xn M words owner q)->t<(M.qs q).length->(nth (M.qs q) t).length<3->0<=a/\a<owner.l.length->
  VK P M.T M.u "Free" [.int .i64 ((t:Nat):Int),.int .i64 a] W (λv w' =>v= .tuple #[]/\∃(zB zA:Ls Int) (q' :M.σ),dK M t ⟨true,a,0⟩ words owner q zB zA q' /\Sh K W w' (km PL xn M zB zA q'))
 swap:∀(K:Nat->Prop) (W:World) (words owner:Ls Int) (q:M.σ) (t:Nat) (wd qk:Int),Sh K W W (km PL xn M words owner q)->0<=wd/\wd<words.l.length->
  VK P M.T M.u "Swap" [.int .i64 ((t:Nat):Int),.int .i64 wd,.int .i64 qk] W (λv w' =>v= .tuple #[]/\∃(zB zA:Ls Int) (q' :M.σ),zas M wd qk words owner q zB zA q' /\Sh K W w' (km PL xn M zB zA q'))
 flush:∀(K:Nat->Prop) (W:World) (words owner:Ls Int) (q:M.σ) (t k:Nat),Sh K W W (km PL xn M words owner q)->t<(M.qs q).length->(nth (M.qs q) t).length<=3->k<(nth (M.qs q) t).length->(∀j,j<(nth (M.qs q) t).length->Ap (nth (nth (M.qs q) t) j) words owner)->
  VK P M.T M.u "Flush" [.int .i64 ((t:Nat):Int),.int .i64 ((k:Nat):Int)] W (λv w' =>v= .tuple #[]/\∃(zB zA:Ls Int) (q' :M.σ),zeS M t k words owner q zB zA q' /\Sh K W w' (km PL xn M zB zA q'))
 mh:∀q b,¬(M.X q).rd b
theorem Nx {P:Program}{PL xn:TypeId}{M:Qy}(h:KA P PL xn M){q:M.σ}{b:Nat}{C:Prop}(hb:(M.X q).rd b):C:=absurd hb (h.mh q b)
end Go.Proofs.YtmjkobhkkjgplaaGreatDoor
