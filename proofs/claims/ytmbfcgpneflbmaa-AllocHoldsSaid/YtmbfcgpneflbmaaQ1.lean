/- Part 1 of the texts. -/
import Derived.WalkKit
import Derived.WalkSpells
import Derived.WalkLawsBesides
import Derived.BigQuiet
import Derived.Deep.RegionWith
import Derived.Deep.DeepCutAuto
import Derived.Great.BuildSlice
import Derived.Test.YtmbfcgpneflbmaaRows
import Derived.Deep.QuietTactic
namespace Go.Proofs.Ytmbfcgpneflbmaa
open Go.RowKit
set_option linter.unusedSimpArgs false
set_option linter.unusedVariables false
theorem hid {p:Prop}(h:p):Hid p:=h
@[simp high] theorem size_drew_nr (w:World):w.drew.heap.size=w.heap.size:=by cases w;rfl
def nth {α:Type}[Inhabited α](l:List α)(i:Nat):α:=l.getD i default
theorem nth_lt {α:Type}[Inhabited α](l:List α)(i:Nat)(h:i<l.length):nth l i=l[i]:=by simp [nth,h]
theorem getElem?_nth {α:Type}[Inhabited α](l:List α)(i:Nat)(h:i<l.length):l[i]? =some (nth l i):=by simp [nth,h]
theorem nth_mem {α:Type}[Inhabited α](l:List α)(i:Nat)(h:i<l.length):nth l i∈l:=by rw [nth_lt l i h];exact List.getElem_mem h
class Enc (α:Type) extends Inhabited α where
 sz:Nat
 cell:α→Nat→Value
 whole:α→Value
 agg:Bool
 inner:α→World→Prop
 on:α→Nat→Prop
 one:agg=false→sz=1∧∀x,whole x=cell x 0
 many:agg=true→∀x,whole x= .agg ((List.range sz).map (cell x)).toArray
 keep:∀x (w w' :World),inner x w→(∀b,on x b→w'.heap[b]? =w.heap[b]?)→inner x w'
 lt:∀x (w:World),inner x w→∀b,on x b→b<w.heap.size
structure Sl (α:Type) where
 A:Option Addr
 cap:Nat
 l:List α
instance {α:Type} :Inhabited (Sl α):=⟨⟨none,0, []⟩⟩
def Sl.adr {α:Type}(s:Sl α)(sz i j:Nat):Addr:=⟨(s.A.getD default).block,(s.A.getD default).off+i*sz+j,none⟩
section
variable {α:Type}[Enc α]
structure Sl.At (s:Sl α)(w:World):Prop where
 le:s.l.length≤s.cap
 max:s.cap≤maxLen
 len:s.l.length≤140737488355328
 some:0<s.l.length→∃a,s.A=some a∧a.spot=none
 lt' :0<s.l.length→(s.A.getD default).block<w.heap.size
 cell:∀i j,i<s.l.length→j<Enc.sz α→w.cell? (s.adr (Enc.sz α) i j)= .some (Enc.cell (nth s.l i) j)
 inner:∀i,i<s.l.length→Enc.inner (nth s.l i) w
def Sl.on (s:Sl α)(b:Nat):Prop:=(0<s.l.length∧(s.A.getD default).block=b)∨∃i,i<s.l.length∧Enc.on (nth s.l i) b
theorem Sl.At.keep {s:Sl α}{w w' :World}(h:s.At w)(hb:∀b,s.on b→w'.heap[b]? =w.heap[b]?):s.At w' :=by
 refine ⟨h.le,h.max,h.len,h.some,fun h0=> ?_,fun i j hi hj=> ?_,fun i hi=>Enc.keep _ w w' (h.inner i hi) fun b hb' =>hb b (.inr ⟨i,hi,hb'⟩)⟩
 ·have h1:=hb _ (.inl ⟨h0,rfl⟩)
  have h2:=h.lt' h0
  rcases Nat.lt_or_ge (s.A.getD default).block w'.heap.size with h3|h3
  ·exact h3
  ·rw [Array.getElem?_eq_none h3,Array.getElem?_eq_getElem h2] at h1
   cases h1
 ·exact (World.cell?_of_block (a:=s.adr (Enc.sz α) i j) (w:=w) (hb _ (.inl ⟨by omega,rfl⟩))).trans (h.cell i j hi hj)
theorem Sl.At.lt {s:Sl α}{w:World}(h:s.At w){b:Nat}(hb:s.on b):b<w.heap.size:=by
 rcases hb with ⟨h0,rfl⟩|⟨i,hi,hb⟩
 ·exact h.lt' h0
 ·exact Enc.lt _ w (h.inner i hi) b hb
theorem Sl.At.below {s:Sl α}{w w' :World}(h:s.At w){B:Nat}(hb:Below B w w')(hB:∀b,s.on b→b<B):s.At w' :=h.keep fun b hb' =>hb.block b (hB b hb')
theorem Sl.At.below' {s:Sl α}{w w' :World}(h:s.At w)(hb:Below w.heap.size w w'):s.At w' :=h.below hb fun _=>h.lt
theorem Sl.At.noHead {s:Sl α}{w:World}(h:s.At w):¬s.on w.heap.size:=fun hb=>Nat.lt_irrefl _ (h.lt hb)
theorem Sl.At.no {s:Sl α}{w:World}(h:s.At w)(b:Nat)(hb:w.heap.size≤b):¬s.on b:=fun hb' =>Nat.lt_irrefl _ (Nat.lt_of_lt_of_le (h.lt hb') hb)
@[go_sem] theorem Sl.At.alloc {s:Sl α} {w:World} (h:s.At w) (o:Obj):s.At (w.alloc o):=h.keep fun b hb=>Below.heap_alloc w o b (h.lt hb)
@[go_sem] theorem Sl.At.drew {s:Sl α} {w:World} (h:s.At w):s.At w.drew:=h.keep fun _ _=>rfl
@[go_sem] theorem Sl.At.setCell {s:Sl α} {w:World} (h:s.At w) (p:Addr) (v:Value) (hp:¬s.on p.block):s.At (w.setCell p v):=
 h.keep fun b hb=>Below.heap_setCell _ _ _ _ (by rintro rfl;exact hp hb)
variable {P:Program}(w:World)
@[go_sem high] theorem Sl.adr_add {β:Type} (s:Sl β) (z i j k:Nat):(s.adr z i j).add k=s.adr z i (j+k):=by
 simp [Sl.adr,Addr.add_lit,Nat.add_assoc]
@[go_sem ↓] theorem run_indexAt_Sl (T:TypeId) (s:Sl α) (k:IntKind) (i:Int) (hT:P.underlying T=some (.slice (P.elem T))) (hz:(sizeOf (P.elem T)).run P w= .ok (Enc.sz α) w)
  (h0:0≤i) (h1:i<s.l.length) (h:s.At w):
  (Instr.indexAt T (.slice s.A s.l.length s.cap) (.int k i)).run P w= .ok (.pointer (some (s.adr (Enc.sz α) i.toNat 0))) w:=by
 obtain ⟨a,ha,hs⟩:=h.some (by omega)
 rw [ha,run_indexAt_slice (h:=hT),if_pos ⟨h0,h1⟩]
 have e:a.add (i.toNat*Enc.sz α)=s.adr (Enc.sz α) i.toNat 0:=by
  rcases a with ⟨b,o,sp⟩
  simp only at hs
  subst hs
  rw [Addr.add_lit]
  simp [Sl.adr,ha]
 simp [hz,e]
@[go_sem] theorem Sl.cell_adr (s:Sl α) (z i j:Nat) (hz:z=Enc.sz α) (hj:j<Enc.sz α) (h1:i<s.l.length) (h:s.At w):w.cell? (s.adr z i j)=some (Enc.cell (nth s.l i) j):=by
 subst hz
 exact h.cell i j h1 hj
end
structure XW (W:World) where
 w:World
 h:Below W.heap.size W w
instance (W:World):Nonempty (XW W):=⟨⟨W,Below.refl _ _⟩⟩
theorem wp_region_x {P:Program}{id:Nat}{Q:Exit→Act→World→Prop}{a:Act}{W:World}{l:List Oper}(hm:P.follows .mixedOrders=true)(hB:Region.lexB .any l.toArray=true)
  (h:wpQuiet P l.toArray (fun w' =>∃x:XW W,w' =x.w) (fun a' =>∀w',(∃x:XW W,w' =x.w)→Q .normal a' w') l a):(Code.region id l.toArray true).wp P Q a W:=
 wp_region_quiet (C:=fun w' =>∃x:XW W,w' =x.w) hm hB ⟨⟨_,(Below.refl _ _).drew⟩,rfl⟩ (by simpa using h)
theorem Calls.x_of {P:Program}{f:FuncId}{args:Array Value}{W:World}{x:XW W}{v:Value}(h:Calls P f args x.w fun e w' =>e= .returned v∧Below x.w.heap.size x.w w'):
  Calls P f args x.w fun e w'' =>e= .returned v∧∃y:XW W,w'' =y.w:=
 h.mono fun _ _ ⟨he,hb⟩=>⟨he,⟨_,x.h.trans (hb.mono x.h.size)⟩,rfl⟩
def Blk (w:World)(g:Nat)(E:TypeId)(cs:Array Value):Prop:=w.heap[g]? =some (.cells cs E (0,0))
theorem Blk.lt {w:World}{g:Nat}{E:TypeId}{cs:Array Value}(h:Blk w g E cs):g<w.heap.size:=by
 rcases Nat.lt_or_ge g w.heap.size with hlt|hge
 ·exact hlt
 ·unfold Blk at h;rw [Array.getElem?_eq_none hge] at h;cases h
theorem Blk.cell {w:World}{g:Nat}{E:TypeId}{cs:Array Value}(h:Blk w g E cs)(i:Nat):w.cell? ⟨g,i,none⟩=cs[i]? :=cell_of_row w g i cs E (0,0) h
theorem Blk.frozen {w:World}{g:Nat}{E:TypeId}{cs:Array Value}(h:Blk w g E cs)(i:Nat):w.frozen? ⟨g,i,none⟩=false:=by
 unfold Blk at h
 simp [World.frozen?,h]
theorem Blk.new (w:World)(E:TypeId)(cs:Array Value):Blk (w.alloc (.cells cs E)) w.heap.size E cs:=Go.heap_alloc_new w _
theorem Blk.alloc {w:World}{g:Nat}{E:TypeId}{cs:Array Value}(h:Blk w g E cs)(o:Obj):Blk (w.alloc o) g E cs:=(Below.heap_alloc w o g h.lt).trans h
theorem Blk.drew {w:World}{g:Nat}{E:TypeId}{cs:Array Value}(h:Blk w g E cs):Blk w.drew g E cs:=h
theorem Blk.set_ {w:World}{g:Nat}{E:TypeId}{cs:Array Value}(h:Blk w g E cs)(i:Nat)(u:Value):Blk (w.setCell ⟨g,i,none⟩ u) g E (cs.setIfInBounds i u):=by
 unfold Blk at h⊢
 simp [World.setCell,Array.getElem?_modify,h]
theorem Blk.far {w:World}{g:Nat}{E:TypeId}{cs:Array Value}(h:Blk w g E cs){p:Addr}(hp:g≠p.block)(u:Value):Blk (w.setCell p u) g E cs:=(Below.heap_setCell w p u g hp).trans h
theorem Blk.below {w w' :World}{B g:Nat}{E:TypeId}{cs:Array Value}(h:Blk w g E cs)(hb:Below B w w')(hg:g<B):Blk w' g E cs:=(hb.block g hg).trans h
theorem Blk.below' {w w' :World}{g:Nat}{E:TypeId}{cs:Array Value}(h:Blk w g E cs)(hb:Below w.heap.size w w'):Blk w' g E cs:=h.below hb h.lt
theorem Blk.grown {w w' :World}{row:Option Nat}{g:Nat}{E:TypeId}{cs:Array Value}(h:Blk w g E cs)(hb:w.grownBy w' row)(hg:some g≠row):Blk w' g E cs:=(hb.block g h.lt hg).trans h
theorem Blk.cells2 {w:World}{g:Nat}{E:TypeId}{a b:Value}(h:Blk w g E #[a,b]):w.cell? ⟨g,0,none⟩=some a∧w.cell? ⟨g,1,none⟩=some b:=⟨h.cell 0,h.cell 1⟩
theorem Blk.cells3 {w:World}{g:Nat}{E:TypeId}{a b c:Value}(h:Blk w g E #[a,b,c]):w.cell? ⟨g,0,none⟩=some a∧w.cell? ⟨g,1,none⟩=some b∧w.cell? ⟨g,2,none⟩=some c:=⟨h.cell 0,h.cell 1,h.cell 2⟩
theorem Blk.cells4 {w:World}{g:Nat}{E:TypeId}{a b c d:Value}(h:Blk w g E #[a,b,c,d]):w.cell? ⟨g,0,none⟩=some a∧w.cell? ⟨g,1,none⟩=some b∧w.cell? ⟨g,2,none⟩=some c∧w.cell? ⟨g,3,none⟩=some d:=
 ⟨h.cell 0,h.cell 1,h.cell 2,h.cell 3⟩
theorem Blk.frozen3 {w:World}{g:Nat}{E:TypeId}{cs:Array Value}(h:Blk w g E cs):w.frozen? ⟨g,0,none⟩=false∧w.frozen? ⟨g,1,none⟩=false∧w.frozen? ⟨g,2,none⟩=false:=⟨h.frozen 0,h.frozen 1,h.frozen 2⟩
theorem bset {B:Nat}{a w:World}(h:Below B a w){b o:Nat}{sp:Option Nat}(hp:B≤b)(u:Value):Below B a (w.setCell ⟨b,o,sp⟩ u):=h.setCell (p:=⟨b,o,sp⟩) hp u
theorem bstep {B C:Nat}{a w w' :World}(h:Below B a w)(h' :Below C w w')(hC:B≤C):Below B a w' :=h.trans (h'.mono hC)
theorem bcell {W w1:World}(hb:Below W.heap.size W w1):(∀b o,b<W.heap.size→w1.cell? ⟨b,o,none⟩=W.cell? ⟨b,o,none⟩)∧(∀b o,b<W.heap.size→w1.frozen? ⟨b,o,none⟩=W.frozen? ⟨b,o,none⟩):=
 ⟨fun b o h=>hb.cell (p:=⟨b,o,none⟩) h,fun b o h=>hb.frozen (p:=⟨b,o,none⟩) h⟩
section
variable {α:Type}[Enc α]
def cellsOf (x:α):List Value:=(List.range (Enc.sz α)).map (Enc.cell x)
def encL (l:List α):List Value:=l.flatMap cellsOf
theorem length_cellsOf (x:α):(cellsOf x).length=Enc.sz α:=by simp [cellsOf]
theorem encL_nil :encL ([]:List α)= []:=rfl
theorem encL_append (l m:List α):encL (l++m)=encL l++encL m:=by simp [encL]
theorem length_encL (l:List α):(encL l).length=l.length*Enc.sz α:=by
 induction l with
 |nil=>simp [encL]
 |cons x l ih=>
  have:encL (x::l)=cellsOf x++encL l:=by simp [encL]
  rw [this,List.length_append,ih,length_cellsOf,List.length_cons,Nat.add_mul,Nat.one_mul,Nat.add_comm]
theorem encL_at (l:List α)(i j:Nat)(hi:i<l.length)(hj:j<Enc.sz α):(encL l)[i*Enc.sz α+j]? =some (Enc.cell (nth l i) j):=by
 induction l generalizing i with
 |nil=>simp at hi
 |cons x l ih=>
  have e:encL (x::l)=cellsOf x++encL l:=by simp [encL]
  rw [e]
  cases i with
  |zero=>
   rw [List.getElem?_append_left (by rw [length_cellsOf];omega)]
   simp [cellsOf,nth,hj]
  |succ i=>
   rw [List.getElem?_append_right (by rw [length_cellsOf,Nat.add_mul];omega),length_cellsOf]
   have:(i+1)*Enc.sz α+j-Enc.sz α=i*Enc.sz α+j:=by rw [Nat.add_mul];omega
   rw [this,ih i (by simpa using hi)]
   simp [nth]
theorem Sl.of_block {w:World}{g:Nat}{cs:Array Value}{E:TypeId}{fr:Nat×Nat}{l:List α}{cap:Nat}(hg:w.heap[g]? =some (.cells cs E fr))(hc:cs.toList.take (l.length*Enc.sz α)=encL l)
  (hl:l.length≤cap) (hm:cap≤maxLen) (hlen:l.length≤140737488355328) (hin:∀i,i<l.length→Enc.inner (nth l i) w):(⟨some ⟨g,0,none⟩,cap,l⟩:Sl α).At w:=by
 refine ⟨hl,hm,hlen,fun _=>⟨_,rfl,rfl⟩,fun _=>(Array.getElem?_eq_some_iff.1 hg).1,fun i j hi hj=> ?_,hin⟩
 have h1:=encL_at l i j hi hj
 rw [←hc,List.getElem?_take] at h1
 split at h1
 ·show w.cell? ⟨g,0+i*Enc.sz α+j,none⟩=_
  rw [cell_of_row w g _ cs E fr hg,Nat.zero_add]
  simpa using h1
 ·cases h1
theorem Sl.of_own {w:World}{base:Nat}{E:TypeId}{v:Value}{l:List α}(h:w.ownsRow base E (Enc.sz α) v l.length (encL l))(hlen:l.length≤140737488355328)
  (hin:∀i,i<l.length→Enc.inner (nth l i) w):∃s:Sl α,s.l=l∧v= .slice s.A s.l.length s.cap∧s.At w∧∀b,s.on b→(base≤b∧v.ownBlock=some b)∨∃i,i<l.length∧Enc.on (nth l i) b:=by
 rcases h.2 with ⟨rfl,h0⟩|⟨g,cap,cur,rfl,hb,hg,hn,hm,_,ht⟩
 ·refine ⟨⟨none,0,l⟩,rfl,by rw [h0],⟨by simp [h0],by simp,hlen,fun hh=>absurd hh (by simp [h0]),fun hh=>absurd hh (by simp [h0]),fun i j hi=>absurd hi (by simp [h0]),fun i hi=>absurd hi (by simp [h0])⟩, ?_⟩
  rintro b (⟨hh,_⟩|⟨i,hi,_⟩)
  ·simp [h0] at hh
  ·simp [h0] at hi
 ·refine ⟨⟨some ⟨g,0,none⟩,cap,l⟩,rfl,rfl,Sl.of_block hg ht hn hm hlen hin, ?_⟩
  rintro b (⟨_,rfl⟩|hi)
  ·exact .inl ⟨hb,rfl⟩
  ·exact .inr hi
end
instance : Enc Int where
 sz:=1
 cell x _:= .int .i64 x
 whole x:= .int .i64 x
 agg:=false
 inner _ _:=True
 on _ _:=False
 one _:=⟨rfl,fun _=>rfl⟩
 many h:=by cases h
 keep _ _ _ h _:=h
 lt _ _ _ _ h:=h.elim
instance : Enc Bool where
 sz:=1
 cell x _:= .bool x
 whole x:= .bool x
 agg:=false
 inner _ _:=True
 on _ _:=False
 one _:=⟨rfl,fun _=>rfl⟩
 many h:=by cases h
 keep _ _ _ h _:=h
 lt _ _ _ _ h:=h.elim
instance {α:Type}[Enc α]:Enc (Sl α) where
 sz:=1
 cell s _:= .slice s.A s.l.length s.cap
 whole s:= .slice s.A s.l.length s.cap
 agg:=false
 inner s w:=s.At w
 on s b:=s.on b
 one _:=⟨rfl,fun _=>rfl⟩
 many h:=by cases h
 keep _ _ _ h hb:=h.keep hb
 lt _ _ h _ hb:=h.lt hb
structure Ins where
 op:Int
 a:Int
 b:Int
 c:Int
 deriving DecidableEq
instance : Inhabited Ins:=⟨⟨0,0,0,0⟩⟩
def Ins.cell (x:Ins):Nat→Value
 |0=> .int .i64 x.op
 |1=> .int .i64 x.a
 |2=> .int .i64 x.b
 |_=> .int .i64 x.c
def Ins.val (x:Ins):Value:= .agg #[.int .i64 x.op, .int .i64 x.a, .int .i64 x.b, .int .i64 x.c]
instance : Enc Ins where
 sz:=4
 cell:=Ins.cell
 whole:=Ins.val
 agg:=true
 inner _ _:=True
 on _ _:=False
 one h:=by cases h
 many _ _:=rfl
 keep _ _ _ h _:=h
 lt _ _ _ _ h:=h.elim
@[go_sem] theorem sz_int:Enc.sz Int=1:=rfl
@[go_sem] theorem sz_bool:Enc.sz Bool=1:=rfl
@[go_sem] theorem sz_sl {α:Type} [Enc α]:Enc.sz (Sl α)=1:=rfl
@[go_sem] theorem sz_ins:Enc.sz Ins=4:=rfl
@[go_sem] theorem agg_ins:Enc.agg Ins=true:=rfl
@[go_sem] theorem cell_int (x:Int) (j:Nat):Enc.cell x j= .int .i64 x:=rfl
@[go_sem] theorem cell_bool (x:Bool) (j:Nat):Enc.cell x j= .bool x:=rfl
@[go_sem] theorem cell_sl {α:Type} [Enc α] (x:Sl α) (j:Nat):Enc.cell x j= .slice x.A x.l.length x.cap:=rfl
@[go_sem] theorem cell_ins0 (x:Ins):Enc.cell x 0= .int .i64 x.op:=rfl
@[go_sem] theorem cell_ins1 (x:Ins):Enc.cell x 1= .int .i64 x.a:=rfl
@[go_sem] theorem cell_ins2 (x:Ins):Enc.cell x 2= .int .i64 x.b:=rfl
@[go_sem] theorem cell_ins3 (x:Ins):Enc.cell x 3= .int .i64 x.c:=rfl
@[go_sem] theorem whole_ins (x:Ins):Enc.whole x= .agg #[.int .i64 x.op, .int .i64 x.a, .int .i64 x.b, .int .i64 x.c]:=rfl
@[go_sem] theorem Sl.At.nth_ {α:Type} [Enc α] {s:Sl (Sl α)} {w:World} (h:s.At w) (i:Nat) (hi:i<s.l.length):(nth s.l i).At w:=h.inner i hi
structure PR where
 code:Sl (Sl Ins)
 words:Sl Int
 locks:Int
 regs:Int
def PR.val (p:PR):Value:= .agg #[.slice p.code.A p.code.l.length p.code.cap, .slice p.words.A p.words.l.length p.words.cap, .int .i64 p.locks, .int .i64 p.regs]
structure PR.At (p:PR)(w:World):Prop where
 code:p.code.At w
 words:p.words.At w
theorem PR.At.alloc {p:PR}{w:World}(h:p.At w)(o:Obj):p.At (w.alloc o):=⟨h.code.alloc o,h.words.alloc o⟩
theorem PR.At.drew {p:PR}{w:World}(h:p.At w):p.At w.drew:=⟨h.code.drew,h.words.drew⟩
theorem PR.At.below' {p:PR}{w w' :World}(h:p.At w)(hb:Below w.heap.size w w'):p.At w' :=⟨h.code.below' hb,h.words.below' hb⟩
structure Asn where
 fp:Nat→Prop
 rd:Nat→Prop
 ok:World→Prop
 keep:∀w w',ok w→(∀b,fp b∨rd b→w'.heap[b]? =w.heap[b]?)→ok w'
 lt:∀w,ok w→∀b,fp b∨rd b→b<w.heap.size
structure Chg (X:Nat→Prop)(w w' :World):Prop where
 os:w'.os=w.os
 tape:w'.tape=w.tape
 output:w'.output=w.output
 size:w.heap.size≤w'.heap.size
 same:∀b,b<w.heap.size→¬X b→w'.heap[b]? =w.heap[b]?
theorem Chg.refl (X:Nat→Prop)(w:World):Chg X w w:=⟨rfl,rfl,rfl,Nat.le_refl _,fun _ _ _=>rfl⟩
theorem Chg.drew (X:Nat→Prop)(w:World):Chg X w w.drew:=⟨rfl,rfl,rfl,Nat.le_refl _,fun _ _ _=>rfl⟩
theorem Chg.alloc (X:Nat→Prop)(w:World)(o:Obj):Chg X w (w.alloc o):=⟨rfl,rfl,rfl,by simp,fun b hb _=>Below.heap_alloc w o b hb⟩
theorem Chg.setCell {X:Nat→Prop}(w:World)(p:Addr)(hp:X p.block)(v:Value):Chg X w (w.setCell p v):=
 ⟨rfl,rfl,rfl,by simp,fun b hb hx=>Below.heap_setCell w p v b (fun e=>hx (e▸hp))⟩
theorem Chg.below {w w' :World}(h:Below w.heap.size w w'):Chg (fun _=>False) w w' :=⟨h.os,h.tape,h.output,h.size,fun b hb _=>h.block b hb⟩
theorem Chg.to_below {w w' :World}(h:Chg (fun _=>False) w w'):Below w.heap.size w w' :=⟨h.os,h.tape,h.output,h.size,fun b hb=>h.same b hb (fun h=>h)⟩
theorem Chg.grown {X:Nat→Prop}{w w' :World}{row:Option Nat}(h:w.grownBy w' row)(hr:∀k,row=some k→X k):Chg X w w' :=
 ⟨h.os,h.tape,h.output,h.size,fun b hb hx=>h.block b hb (fun e=>hx (hr b e.symm))⟩
theorem Chg.mono {X Y:Nat→Prop}{w w' :World}(h:Chg X w w')(hxy:∀b,X b→Y b):Chg Y w w' :=⟨h.os,h.tape,h.output,h.size,fun b hb hy=>h.same b hb fun hx=>hy (hxy b hx)⟩
theorem Chg.trans {K X:Nat→Prop}{W w w' :World}(h:Chg K W w)(h' :Chg X w w')(hx:∀b,X b→K b∨W.heap.size≤b):Chg K W w' :=
 ⟨h'.os.trans h.os,h'.tape.trans h.tape,h'.output.trans h.output,Nat.le_trans h.size h'.size,fun b hb hk=>
  (h'.same b (Nat.lt_of_lt_of_le hb h.size) (fun hxb=>(hx b hxb).elim hk (fun hle=>by omega))).trans (h.same b hb hk)⟩
def Asn.Apart (A B:Asn):Prop:=∀b,(A.fp b→¬B.fp b∧¬B.rd b)∧(B.fp b→¬A.rd b)
theorem Asn.Apart.symm {A B:Asn}(h:A.Apart B):B.Apart A:=fun b=>⟨fun hb=>⟨fun ha=>((h b).1 ha).1 hb,(h b).2 hb⟩,fun ha=>((h b).1 ha).2⟩
theorem apart_of_mem :∀ {L:List Asn},L.Pairwise Asn.Apart→∀ {A B:Asn},A∈L→B∈L→A=B∨A.Apart B
 | [],_,_,_,hA,_=>by cases hA
 |C::L,h,A,B,hA,hB=>by
  obtain ⟨h1,h2⟩:=List.pairwise_cons.1 h
  rcases List.mem_cons.1 hA with rfl|hA'
  ·rcases List.mem_cons.1 hB with rfl|hB'
   ·exact .inl rfl
   ·exact .inr (h1 _ hB')
  ·rcases List.mem_cons.1 hB with rfl|hB'
   ·exact .inr (h1 _ hA').symm
   ·exact apart_of_mem h2 hA' hB'
theorem perm_erase {α:Type} :∀(l:List α) (i:Nat) (h:i<l.length),l.Perm (l[i]::l.eraseIdx i)
 |a::l,0,_=>List.Perm.refl _
 |a::l,i+1,h=>by
  have ih:=perm_erase l i (by simpa using h)
  simp only [List.getElem_cons_succ,List.eraseIdx_cons_succ]
  exact (ih.cons a).trans (List.Perm.swap _ _ _)
theorem perm_set {α:Type}(x:α):∀(l:List α) (i:Nat) (h:i<l.length),(l.set i x).Perm (x::l.eraseIdx i)
 |a::l,0,_=>List.Perm.refl _
 |a::l,i+1,h=>by
  have ih:=perm_set x l i (by simpa using h)
  simp only [List.set_cons_succ,List.eraseIdx_cons_succ]
  exact (ih.cons a).trans (List.Perm.swap _ _ _)
structure Sh (K:Nat→Prop)(W w:World)(L:List Asn):Prop where
 chg:Chg K W w
 ok:∀A∈L,A.ok w
 mine:∀A∈L,∀b,A.fp b→K b∨W.heap.size≤b
 self:∀A∈L,∀b,A.fp b→¬A.rd b
 apart:L.Pairwise Asn.Apart
abbrev Sh0 :=Sh (fun _=>False)
section
variable {K:Nat→Prop}{W w w' :World}{L:List Asn}
theorem Sh.lt (h:Sh K W w L){A:Asn}(hA:A∈L){b:Nat}(hb:A.fp b∨A.rd b):b<w.heap.size:=A.lt w (h.ok A hA) b hb
theorem Sh.step {Lp Lr L' :List Asn}(h:Sh K W w (Lp++Lr))(hc:Chg (fun b=>∃A∈Lp,A.fp b) w w')
  (hok:∀A∈L',A.ok w')
  (hfp:∀A∈L',∀b,A.fp b→(∃B∈Lp,B.fp b)∨w.heap.size≤b)
  (hrd:∀A∈L',∀b,A.rd b→(∃B∈Lp,B.fp b∨B.rd b)∨(∃B∈Lr,B.rd b)∨w.heap.size≤b)
  (hself:∀A∈L',∀b,A.fp b→¬A.rd b) (hap:L'.Pairwise Asn.Apart):Sh K W w' (L' ++Lr):=by
 have hpr:∀A∈Lp,∀B∈Lr,A.Apart B:=fun A hA B hB=>(List.pairwise_append.1 h.apart).2.2 A hA B hB
 have hrr:Lr.Pairwise Asn.Apart:=(List.pairwise_append.1 h.apart).2.1
 have hrest:∀B∈Lr,∀b,B.fp b∨B.rd b→¬∃A∈Lp,A.fp b:=by
  rintro B hB b hb ⟨A,hA,hAb⟩
  have:=hpr A hA B hB b
  exact hb.elim (this.1 hAb).1 (this.1 hAb).2
 refine ⟨h.chg.trans hc ?_, ?_, ?_, ?_, ?_⟩
 ·rintro b ⟨A,hA,hb⟩
  exact h.mine A (List.mem_append.2 (.inl hA)) b hb
 ·intro A hA
  rcases List.mem_append.1 hA with hA|hA
  ·exact hok A hA
  ·exact A.keep w w' (h.ok A (List.mem_append.2 (.inr hA))) fun b hb=>hc.same b (h.lt (List.mem_append.2 (.inr hA)) hb) (hrest A hA b hb)
 ·intro A hA b hb
  rcases List.mem_append.1 hA with hA|hA
  ·rcases hfp A hA b hb with ⟨B,hB,hBb⟩|hle
   ·exact h.mine B (List.mem_append.2 (.inl hB)) b hBb
   ·exact .inr (Nat.le_trans h.chg.size hle)
  ·exact h.mine A (List.mem_append.2 (.inr hA)) b hb
 ·intro A hA
  rcases List.mem_append.1 hA with hA|hA
  ·exact hself A hA
  ·exact h.self A (List.mem_append.2 (.inr hA))
 ·refine List.pairwise_append.2 ⟨hap,hrr,fun A hA B hB b=>⟨fun ha=> ?_,fun hb ha=> ?_⟩⟩
  ·rcases hfp A hA b ha with ⟨C,hC,hCb⟩|hle
   ·exact (hpr C hC B hB b).1 hCb
   ·exact ⟨fun hb=>by have:=h.lt (List.mem_append.2 (.inr hB)) (.inl hb);omega,fun hb=>by have:=h.lt (List.mem_append.2 (.inr hB)) (.inr hb);omega⟩
  ·rcases hrd A hA b ha with ⟨C,hC,hCb⟩|⟨C,hC,hCb⟩|hle
   ·exact hCb.elim (fun hCb=>((hpr C hC B hB b).1 hCb).1 hb) ((hpr C hC B hB b).2 hb)
   ·by_cases hcb:C=B
    ·subst hcb
     exact h.self C (List.mem_append.2 (.inr hC)) b hb hCb
    ·rcases apart_of_mem hrr hC hB with e|hap
     ·exact hcb e
     ·exact (hap b).2 hb hCb
   ·have:=h.lt (List.mem_append.2 (.inr hB)) (.inl hb);omega
theorem Sh.drew (h:Sh K W w L):Sh K W w.drew L:=by
 have:=Sh.step (Lp:= []) (Lr:=L) (L' := []) (w' :=w.drew) h (Chg.drew _ w) (by simp) (by simp) (by simp) (by simp) .nil
 simpa using this
def selOK (L:List Asn):List Nat→List Asn→Prop
 | [], []=>True
 |i::is,A::r=>L[i]? =some A∧selOK L is r
 |_,_=>False
theorem selOK.len :∀ {is:List Nat} {L' :List Asn},selOK L is L' →is.length=L'.length
 | [], [],_=>rfl
 |_::is,_::r,h=>by simp [selOK.len (is:=is) (L' :=r) h.2]
 | [],_::_,h=>h.elim
 |_::_, [],h=>h.elim
theorem selOK_at {L:List Asn} :∀ {is:List Nat} {L' :List Asn},selOK L is L' →∀(k:Nat) (A:Asn),L'[k]? =some A→∃i:Nat,is[k]? =some i∧L[i]? =some A
 | [], [],_,k,A,hk=>by simp at hk
 |i::is,B::r,h,0,A,hk=>⟨i,rfl,by simpa using hk▸h.1⟩
 |i::is,B::r,h,k+1,A,hk=>by
  obtain ⟨j,h1,h2⟩:=selOK_at (is:=is) (L' :=r) h.2 k A (by simpa using hk)
  exact ⟨j,by simpa using h1,h2⟩
 | [],_::_,h,_,_,_=>h.elim
 |_::_, [],h,_,_,_=>h.elim
def nodB :List Nat→Bool
 | []=>true
 |i::r=> !(r.contains i)&&nodB r
def selL9 (L:List Asn):List Nat→Option (List Asn)
 | []=>some []
 |i::r=>match L[i]?,selL9 L r with
  |some A,some l=>some (A::l)
  |_,_=>none
def selB (L:List Asn)(is:List Nat):Option (List Asn):=match nodB is with
 |true=>selL9 L is
 |false=>none
theorem nodB_ok :∀ {is:List Nat},nodB is=true→is.Nodup
 | [],_=>List.nodup_nil
 |i::r,h=>by
  simp only [nodB,Bool.and_eq_true,Bool.not_eq_true'] at h
  refine List.nodup_cons.2 ⟨fun hi=> ?_,nodB_ok h.2⟩
  have:=h.1
  rw [List.contains_iff_mem.2 hi] at this
  cases this
theorem selL9_ok {L:List Asn} :∀ {is:List Nat} {L' :List Asn},selL9 L is=some L' →selOK L is L'
 | [],L',h=>by cases h;trivial
 |i::r,L',h=>by
  unfold selL9 at h
  split at h
  ·rename_i A l h1 h2
   cases h
   exact ⟨h1,selL9_ok h2⟩
  ·cases h
theorem Sh.sel {L' :List Asn}(h:Sh K W w L)(is:List Nat)(hsel:selB L is=some L'):Sh K W w L' :=by
 obtain ⟨hnd,hs⟩:is.Nodup∧selOK L is L' :=by
  unfold selB at hsel
  split at hsel
  ·rename_i hn;exact ⟨nodB_ok hn,selL9_ok hsel⟩
  ·cases hsel
 have hm:∀A∈L',A∈L:=by
  intro A hA
  obtain ⟨k,hk⟩:=List.getElem?_of_mem hA
  obtain ⟨i,_,hi⟩:=selOK_at hs k A hk
  exact List.mem_of_getElem? hi
 refine ⟨h.chg,fun A hA=>h.ok A (hm A hA),fun A hA=>h.mine A (hm A hA),fun A hA=>h.self A (hm A hA), ?_⟩
 rw [List.pairwise_iff_getElem]
 intro p q hp hq hpq
 obtain ⟨i,hi1,hi2⟩:=selOK_at hs p _ (List.getElem?_eq_getElem hp)
 obtain ⟨j,hj1,hj2⟩:=selOK_at hs q _ (List.getElem?_eq_getElem hq)
 have hij:i≠j:=by
  intro e
  subst e
  obtain ⟨hpi,e1⟩:=List.getElem?_eq_some_iff.1 hi1
  obtain ⟨hqi,e2⟩:=List.getElem?_eq_some_iff.1 hj1
  exact List.pairwise_iff_getElem.1 hnd p q hpi hqi hpq (e1.trans e2.symm)
 obtain ⟨li,e1⟩:=List.getElem?_eq_some_iff.1 hi2
 obtain ⟨lj,e2⟩:=List.getElem?_eq_some_iff.1 hj2
 have hpw:=List.pairwise_iff_getElem.1 h.apart
 rw [←e1,←e2]
 rcases Nat.lt_or_gt_of_ne hij with hlt|hgt
 ·exact hpw i j li lj hlt
 ·exact (hpw j i lj li hgt).symm
theorem Sh.push (h:Sh K W w L){A:Asn}(hc:Chg (fun _=>False) w w')(hok:A.ok w')(hfp:∀b,A.fp b→w.heap.size≤b)(hrd:∀b,A.rd b→(∃B∈L,B.rd b)∨w.heap.size≤b)(hself:∀b,A.fp b→¬A.rd b):Sh K W w' (A::L):=
 Sh.step (Lp:= []) (Lr:=L) (L' := [A]) h (hc.mono fun _ h=>h.elim) (by simpa using hok) (by simpa using fun b hb=>hfp b hb) (by simpa using fun b hb=>hrd b hb) (by simpa using hself) (List.pairwise_singleton _ _)
theorem Sh.put (h:Sh K W w L){i:Nat}{A A' :Asn}(hi:L[i]? =some A)(hc:Chg A.fp w w')(hok:A'.ok w')(hfp:∀b,A'.fp b→A.fp b∨w.heap.size≤b)
  (hrd:∀b,A'.rd b→A.fp b∨A.rd b∨(∃B∈L,B.rd b)∨w.heap.size≤b) (hself:∀b,A'.fp b→¬A'.rd b):Sh K W w' (L.set i A'):=by
 obtain ⟨hlt,rfl⟩:=List.getElem?_eq_some_iff.1 hi
 have h1:Sh K W w ([L[i]]++L.eraseIdx i):=by
  refine ⟨h.chg,fun A hA=>h.ok A ?_,fun A hA=>h.mine A ?_,fun A hA=>h.self A ?_, ?_⟩
  ·simp only [List.singleton_append,List.mem_cons] at hA;exact hA.elim (fun e=>e▸List.getElem_mem _) List.mem_of_mem_eraseIdx
  ·simp only [List.singleton_append,List.mem_cons] at hA;exact hA.elim (fun e=>e▸List.getElem_mem _) List.mem_of_mem_eraseIdx
  ·simp only [List.singleton_append,List.mem_cons] at hA;exact hA.elim (fun e=>e▸List.getElem_mem _) List.mem_of_mem_eraseIdx
  ·refine (List.Perm.pairwise_iff (fun {x y} hxy=>hxy.symm) ?_).1 h.apart
   exact perm_erase L i hlt
 have h2:=Sh.step (L' := [A']) h1 (hc.mono fun b hb=>⟨_,by simp,hb⟩) (by simpa using hok) (by simpa using hfp) (by
  intro A hA b hb
  simp only [List.mem_singleton] at hA
  subst hA
  rcases hrd b hb with hb|hb|⟨B,hB,hb⟩|hb
  ·exact .inl ⟨_,by simp, .inl hb⟩
  ·exact .inl ⟨_,by simp, .inr hb⟩
  ·by_cases e:B=L[i]
   ·subst e;exact .inl ⟨_,by simp, .inr hb⟩
   ·refine .inr (.inl ⟨B, ?_,hb⟩)
    have:=(perm_erase L i hlt).mem_iff.1 hB
    simpa [e] using this
  ·exact .inr (.inr hb)) (by simpa using hself) (List.pairwise_singleton _ _)
 refine ⟨h2.chg,fun A hA=>h2.ok A ?_,fun A hA=>h2.mine A ?_,fun A hA=>h2.self A ?_, ?_⟩
 all_goals try (have hp:=perm_set A' L i hlt;exact hp.mem_iff.1 hA)
 exact (List.Perm.pairwise_iff (fun {x y} hxy=>hxy.symm) (perm_set A' L i hlt).symm).1 h2.apart
end
def vblk (v:Value):Nat:=match v with| .slice A _ _=>(A.getD default).block|_=>0
def voff (v:Value):Nat:=match v with| .slice A _ _=>(A.getD default).off|_=>0
def padr (v:Value)(sz i j:Nat):Addr:=⟨vblk v,voff v+i*sz+j,none⟩
theorem padr_add (v:Value)(sz i j k:Nat):(padr v sz i j).add k=padr v sz i (j+k):=by
 simp [padr,Addr.add_lit,Nat.add_assoc]
structure Ls (α:Type) where
 v:Value
 l:List α
instance {α:Type} :Inhabited (Ls α):=⟨⟨.slice none 0 0, []⟩⟩
section
variable {α:Type}[Enc α]
def Ls.At (s:Ls α)(w:World):Prop:=∃A cap,s.v= .slice A s.l.length cap∧(⟨A,cap,s.l⟩:Sl α).At w
def Ls.on (s:Ls α)(b:Nat):Prop:=(0<s.l.length∧vblk s.v=b)∨∃i,i<s.l.length∧Enc.on (nth s.l i) b
theorem Ls.on_iff {s:Ls α}{A:Option Addr}{cap:Nat}(h:s.v= .slice A s.l.length cap)(b:Nat):s.on b↔(⟨A,cap,s.l⟩:Sl α).on b:=by
 unfold Ls.on Sl.on
 rw [h]
 rfl
theorem Ls.At.keep {s:Ls α}{w w' :World}(h:s.At w)(hb:∀b,s.on b→w'.heap[b]? =w.heap[b]?):s.At w' :=by
 obtain ⟨A,cap,hv,h⟩:=h
 exact ⟨A,cap,hv,h.keep fun b hb' =>hb b ((Ls.on_iff hv b).2 hb')⟩
theorem Ls.At.lt {s:Ls α}{w:World}(h:s.At w){b:Nat}(hb:s.on b):b<w.heap.size:=by
 obtain ⟨A,cap,hv,h⟩:=h
 exact h.lt ((Ls.on_iff hv b).1 hb)
theorem Ls.At.len {s:Ls α}{w:World}(h:s.At w):s.l.length≤140737488355328:=by
 obtain ⟨A,cap,hv,h⟩:=h
 exact h.len
theorem Ls.At.cell {s:Ls α}{w:World}(h:s.At w)(i j:Nat)(hi:i<s.l.length)(hj:j<Enc.sz α):w.cell? (padr s.v (Enc.sz α) i j)=some (Enc.cell (nth s.l i) j):=by
 obtain ⟨A,cap,hv,h⟩:=h
 rw [hv]
 exact h.cell i j hi hj
theorem Ls.At.form {s:Ls α}{w:World}(h:s.At w):∃A n c,s.v= .slice A n c:=by
 obtain ⟨A,cap,hv,h⟩:=h
 exact ⟨_,_,_,hv⟩
theorem Ls.At.inner {s:Ls α}{w:World}(h:s.At w)(i:Nat)(hi:i<s.l.length):Enc.inner (nth s.l i) w:=by
 obtain ⟨A,cap,hv,h⟩:=h
 exact h.inner i hi
instance : Enc (Ls α) where
 sz:=1
 cell s _:=s.v
 whole s:=s.v
 agg:=false
 inner s w:=s.At w
 on s b:=s.on b
 one _:=⟨rfl,fun _=>rfl⟩
 many h:=by cases h
 keep _ _ _ h hb:=h.keep hb
 lt _ _ h _ hb:=h.lt hb
end
theorem Ls.At.nth {α:Type}[Enc α]{s:Ls (Ls α)}{w:World}(h:s.At w)(i:Nat)(hi:i<s.l.length):(nth s.l i).At w:=h.inner i hi
def Asn.blk (g:Nat)(E:TypeId)(cs:List Value):Asn where
 fp b:=b=g
 rd _:=False
 ok w:=Blk w g E cs.toArray
 keep w w' h hb:=(hb g (.inl rfl)).trans h
 lt w h b hb:=by rcases hb with rfl|hb;exact h.lt;exact hb.elim
def Asn.at_ {α:Type}[Enc α](s:Ls α):Asn where
 fp _:=False
 rd:=s.on
 ok w:=s.At w
 keep w w' h hb:=h.keep fun b hb' =>hb b (.inr hb')
 lt w h b hb:=by rcases hb with hb|hb;exact hb.elim;exact h.lt hb
def Asn.own {α:Type}[Enc α](E:TypeId)(s:Ls α):Asn where
 fp b:=s.v.ownBlock=some b
 rd b:=∃i,i<s.l.length∧Enc.on (nth s.l i) b
 ok w:=w.ownsRow 0 E (Enc.sz α) s.v s.l.length (encL s.l)∧s.l.length≤140737488355328∧∀i,i<s.l.length→Enc.inner (nth s.l i) w
 keep w w' h hb:=by
  obtain ⟨h1,h2,h3⟩:=h
  refine ⟨⟨h1.1, ?_⟩,h2,fun i hi=>Enc.keep _ w w' (h3 i hi) fun b hb' =>hb b (.inr ⟨i,hi,hb'⟩)⟩
  rcases h1.2 with hn|⟨g,cap,cur,hv,h0,hg,hr⟩
  ·exact .inl hn
  ·exact .inr ⟨g,cap,cur,hv,h0,(hb g (.inl (by rw [hv];rfl))).trans hg,hr⟩
 lt w h b hb:=by
  obtain ⟨h1,h2,h3⟩:=h
  rcases hb with hb|⟨i,hi,hb⟩
  ·exact (h1.lt b hb).2
  ·exact Enc.lt _ w (h3 i hi) b hb
section
variable {K:Nat→Prop}{W w w' :World}{L:List Asn}{α:Type}[Enc α]
theorem Sh.at (h:Sh K W w L)(i:Nat){s:Ls α}(hi:L[i]? =some (.at_ s)):s.At w:=h.ok _ (List.mem_of_getElem? hi)
theorem Sh.blk (h:Sh K W w L)(i:Nat){g:Nat}{E:TypeId}{cs:List Value}(hi:L[i]? =some (.blk g E cs)):Blk w g E cs.toArray:=h.ok _ (List.mem_of_getElem? hi)
theorem own_at {E:TypeId}{s:Ls α}(h:(Asn.own E s).ok w):s.At w:=by
 obtain ⟨h1,h2,h3⟩:=h
 obtain ⟨t,e,hv,hat,_⟩:=Sl.of_own h1 h2 h3
 obtain ⟨A,cap,l⟩:=t
 subst e
 exact ⟨A,cap,hv,hat⟩
theorem Sh.own (h:Sh K W w L)(i:Nat){E:TypeId}{s:Ls α}(hi:L[i]? =some (.own E s)):s.At w:=own_at (h.ok _ (List.mem_of_getElem? hi))
theorem own_on {E:TypeId}{s:Ls α}(h:(Asn.own E s).ok w){b:Nat}(hb:s.on b):(Asn.own E s).fp b∨(Asn.own E s).rd b:=by
 rcases hb with ⟨h0,rfl⟩|hb
 ·left
  rcases h.1.2 with ⟨hv,hn⟩|⟨g,cap,cur,hv,_⟩
  ·omega
  ·show s.v.ownBlock=_
   rw [hv];rfl
 ·exact .inr hb
theorem Sh.share (h:Sh K W w L)(i:Nat){E:TypeId}{s:Ls α}(hi:L[i]? =some (.own E s)):Sh K W w (L.set i (.at_ s)):=
 h.put hi (Chg.refl _ _) (h.own i hi) (fun b hb=>hb.elim) (fun b hb=>(own_on (h.ok _ (List.mem_of_getElem? hi)) hb).elim .inl (fun h=> .inr (.inl h))) (fun b hb=>hb.elim)
end
def lk :List (Nat×Value)→Nat→Option Value
 | [],_=>none
 |(t,v)::r,u=>bif Nat.beq t u then some v else lk r u
def ev (F:List (Nat×Value)):Operand→Option Value
 | .tmp t=>lk F t
 | .const v=>some v
 | .global g=>some (.pointer (some ⟨g,0,none⟩))
 | .func f=>some (.func (.func f) #[] #[])
def evs (F:List (Nat×Value)):List Operand→Option (List Value)
 | []=>some []
 |x::r=>match ev F x with
  |some v=>match evs F r with
   |some vs=>some (v::vs)
   |none=>none
  |none=>none
structure Fr (N:Nat)(a:Act)(F:List (Nat×Value)):Prop where
 size:a.tmps.size=N
 defers:a.defers= []
 at_:∀t v,lk F t=some v→a.tmps[t]? =some v
theorem Fr.ev {N:Nat}{a:Act}{F:List (Nat×Value)}(h:Fr N a F){x:Operand}{v:Value}(hx:ev F x=some v):a.eval x=v:=by
 cases x with
 |tmp t=>
  have:=h.at_ t v hx
  simp [Act.eval,Array.getD_eq_getD_getElem?,this]
 |const c=>simpa [Go.Proofs.Ytmbfcgpneflbmaa.ev,Act.eval] using hx
 |global g=>simpa [Go.Proofs.Ytmbfcgpneflbmaa.ev,Act.eval] using hx
 |func f=>simpa [Go.Proofs.Ytmbfcgpneflbmaa.ev,Act.eval] using hx
theorem Fr.evs {N:Nat}{a:Act}{F:List (Nat×Value)}(h:Fr N a F):∀ {xs:List Operand} {vs:List Value},evs F xs=some vs→xs.map a.eval=vs
 | [],vs,hx=>by simp [Go.Proofs.Ytmbfcgpneflbmaa.evs] at hx;simp [hx]
 |x::r,vs,hx=>by
  unfold Go.Proofs.Ytmbfcgpneflbmaa.evs at hx
  split at hx
  ·rename_i v hv
   split at hx
   ·rename_i us hu
    simp only [Option.some.injEq] at hx
    subst hx
    simp [h.ev hv,h.evs hu]
   ·cases hx
  ·cases hx
theorem beq_no {d t:Nat}(h:d≠t):Nat.beq d t=false:=by
 cases hb:Nat.beq d t
 ·rfl
 ·exact absurd (Nat.eq_of_beq_eq_true hb) h
theorem lk_cons (d:Nat)(v:Value)(F:List (Nat×Value))(t:Nat):lk ((d,v)::F) t=if d=t then some v else lk F t:=by
 show (bif Nat.beq d t then some v else lk F t)=_
 by_cases h:d=t
 ·subst h;simp
 ·simp [h,beq_no h]
theorem Fr.put {N:Nat}{a:Act}{F:List (Nat×Value)}(h:Fr N a F)(d:Nat)(hd:d<N)(v:Value):Fr N (a.put (some d) v) ((d,v)::F):=by
 refine ⟨by simp [Act.put,h.size],h.defers,fun t u htu=> ?_⟩
 rw [lk_cons] at htu
 simp only [Act.put,Array.getElem?_setIfInBounds]
 by_cases e:d=t
 ·subst e;simp at htu;simp [htu,h.size,hd]
 ·simp [e] at htu⊢;exact h.at_ t u htu
def rm (d:Nat):List (Nat×Value)→List (Nat×Value)
 | []=> []
 |(t,v)::r=>bif Nat.beq d t then rm d r else (t,v)::rm d r
theorem lk_rm (d:Nat):∀(F:List (Nat×Value)) (t:Nat) (v:Value),lk (rm d F) t=some v→d≠t∧lk F t=some v
 | [],t,v,h=>by simp [rm,lk] at h
 |(u,x)::r,t,v,h=>by
  unfold rm at h
  by_cases e:d=u
  ·subst e
   have e1:Nat.beq d d=true:=by simp
   rw [e1,cond_true] at h
   obtain ⟨h1,h2⟩:=lk_rm d r t v h
   exact ⟨h1,by rw [lk_cons,if_neg h1];exact h2⟩
  ·have e1:Nat.beq d u=false:=beq_no e
   rw [e1,cond_false,lk_cons] at h
   by_cases e2:u=t
   ·subst e2
    rw [if_pos rfl] at h
    exact ⟨e,by rw [lk_cons,if_pos rfl];exact h⟩
   ·rw [if_neg e2] at h
    obtain ⟨h1,h2⟩:=lk_rm d r t v h
    exact ⟨h1,by rw [lk_cons,if_neg e2];exact h2⟩
theorem Fr.skip {N:Nat}{a:Act}{F:List (Nat×Value)}(h:Fr N a F)(d:Nat):Fr N (a.put (some d) undef) (rm d F):=by
 refine ⟨by simp [Act.put,h.size],h.defers,fun t u htu=> ?_⟩
 obtain ⟨h1,h2⟩:=lk_rm d F t u htu
 simp only [Act.put,Array.getElem?_setIfInBounds,if_neg h1]
 exact h.at_ t u h2
def frOK (F:List (Nat×Value)):List (Nat×Value)→Prop
 | []=>True
 |(t,v)::r=>lk F t=some v∧frOK F r
theorem Fr.sub {N:Nat}{a:Act}{F F' :List (Nat×Value)}(h:Fr N a F)(hs:frOK F F'):Fr N a F' :=by
 refine ⟨h.size,h.defers,fun t v htv=>h.at_ t v ?_⟩
 induction F' with
 |nil=>simp [lk] at htv
 |cons x r ih=>
  obtain ⟨u,z⟩:=x
  rw [lk_cons] at htv
  by_cases e:u=t
  ·subst e;simp at htv;subst htv;exact hs.1
  ·simp [e] at htv;exact ih hs.2 htv
theorem Fr.same {N:Nat}{a:Act}{F:List (Nat×Value)}(h:Fr N a F){d:Nat}{v v' :Value}(hd:lk F d=some v)(e:v=v'):Fr N a ((d,v')::F):=by
 subst e
 refine ⟨h.size,h.defers,fun t u htu=> ?_⟩
 rw [lk_cons] at htu
 by_cases e:d=t
 ·subst e;simp at htu;subst htu;exact h.at_ _ _ hd
 ·rw [if_neg e] at htu;exact h.at_ t u htu
structure St (N:Nat)(K:Nat→Prop)(W:World)(a:Act)(w:World)(F:List (Nat×Value))(L:List Asn):Prop where
 fr:Fr N a F
 sh:Sh K W w L
section
variable {P:Program}{N:Nat}{K:Nat→Prop}{W w:World}{a:Act}{F F' :List (Nat×Value)}{L L' :List Asn}{o:Oper}{ops:Array Oper}{rest:List Oper}{Q:Exit→Act→World→Prop}
theorem St.sub (h:St N K W a w F L)(hs:frOK F F'):St N K W a w F' L:=⟨h.fr.sub hs,h.sh⟩
theorem St.sel (h:St N K W a w F L)(is:List Nat)(hs:selB L is=some L'):St N K W a w F L' :=⟨h.fr,h.sh.sel is hs⟩
theorem St.nrm (h:St N K W a w F L)(hs:frOK F F')(is:List Nat)(hl:selB L is=some L'):St N K W a w F' L' :=⟨h.fr.sub hs,h.sh.sel is hl⟩
theorem St.nf (h:St N K W a w F L)(hs:frOK F F'):St N K W a w F' L:=⟨h.fr.sub hs,h.sh⟩
theorem St.same {d:Nat}{v v' :Value}(h:St N K W a w F L)(hd:lk F d=some v)(e:v=v'):St N K W a w ((d,v')::F) L:=⟨h.fr.same hd e,h.sh⟩
theorem St.drew (h:St N K W a w F L):St N K W a w.drew F L:=⟨h.fr,h.sh.drew⟩
def Ex (P:Program)(o:Oper)(a:Act)(w:World)(R:Act→World→Prop):Prop:=∀(next:Act→World→Prop) (Q:Exit→Act→World→Prop),(∀a' w',R a' w' →next a' w')→o.wp P a w next Q
def Rn (P:Program)(o:Oper)(N:Nat)(K:Nat→Prop)(W:World)(F:List (Nat×Value))(L:List Asn)(v:Value):Prop:=∀a w,St N K W a w F L→(execOp a.eval o).run P w= .ok (.value v) w
theorem Ex.of_run {R:Act→World→Prop}{v:Value}{w' :World}(hr:(execOp a.eval o).run P w= .ok (.value v) w')(h:R (a.put o.dst v) w'):Ex P o a w R:=by
 intro next Q hn
 unfold Oper.wp
 rw [hr]
 exact hn _ _ h
theorem Ex.of_skip {R:Act→World→Prop}{w' :World}(hr:(execOp a.eval o).run P w= .ok .skip w')(h:R (a.put o.dst undef) w'):Ex P o a w R:=by
 intro next Q hn
 unfold Oper.wp
 rw [hr]
 exact hn _ _ h
theorem Ex.mono {R R' :Act→World→Prop}(h:Ex P o a w R)(hr:∀a' w',R a' w' →R' a' w'):Ex P o a w R' :=fun next Q hn=>h next Q fun a' w' x=>hn a' w' (hr a' w' x)
theorem wanted_none (hg:o.guard=none)(y:Nat→Option Bool):Region.wanted o y=true:=by simp [Region.wanted,hg]
theorem yielded_of {a:Act}{t j:Nat}{oj:Oper}{b:Bool}(h:Fr N a F)(hj:ops[j]? =some oj)(hd:oj.dst=some t)(hv:lk F t=some (.bool b)):yielded ops a.tmps j=some b:=by
 unfold yielded
 simp [hj,hd,h.at_ t _ hv]
theorem wanted_yes {a:Act}{t j:Nat}{oj:Oper}{b want:Bool}(h:Fr N a F)(hg:o.guard=some (j,want))(hj:ops[j]? =some oj)(hd:oj.dst=some t)(hv:lk F t=some (.bool b))(hb:b=want):Region.wanted o (yielded ops a.tmps)=true:=by
 simp [Region.wanted,hg,yielded_of h hj hd hv,hb]
theorem wanted_no {a:Act}{t j:Nat}{oj:Oper}{b want:Bool}(h:Fr N a F)(hg:o.guard=some (j,want))(hj:ops[j]? =some oj)(hd:oj.dst=some t)(hv:lk F t=some (.bool b))(hb:b= !want):Region.wanted o (yielded ops a.tmps)=false:=by
 rw [Region.wanted,hg]
 show (yielded ops a.tmps j==some want)=false
 rw [yielded_of h hj hd hv,hb]
 cases want<;>rfl
theorem wanted_no2 {a:Act}{t j:Nat}{oj:Oper}{want:Bool}(h:Fr N a F)(hg:o.guard=some (j,want))(hj:ops[j]? =some oj)(hd:oj.dst=some t)(hv:lk F t=some undef):Region.wanted o (yielded ops a.tmps)=false:=by
 rw [Region.wanted,hg]
 show (yielded ops a.tmps j==some want)=false
 unfold yielded
 simp [hj,hd,h.at_ t _ hv,undef]
theorem wl_val {d:Nat}{v:Value}(h:St N K W a w F L)(hr:Rn P o N K W F L v)(hw:Region.wanted o (yielded ops a.tmps)=true)(hd:o.dst=some d)(hdN:Nat.blt d N=true)
  (k:∀a',St N K W a' w ((d,v)::F) L→wpList P ops Q rest a' w):wpList P ops Q (o::rest) a w:=by
 unfold wpList
 rw [if_pos hw]
 left
 unfold Oper.wp
 rw [hr a w h]
 exact k _ ⟨by rw [hd];exact h.fr.put d (by simpa [Nat.blt_eq] using hdN) v,h.sh⟩
def okg (o:Oper)(d N:Nat):Bool:=o.guard.isNone&&Nat.blt d N
theorem wv {d:Nat}{v:Value}(h:St N K W a w F L)(hr:Rn P o N K W F L v)(hd:o.dst=some d)(hc:okg o d N=true)
  (k:∀a',St N K W a' w ((d,v)::F) L→wpList P ops Q rest a' w):wpList P ops Q (o::rest) a w:=by
 simp only [okg,Bool.and_eq_true,Option.isNone_iff_eq_none] at hc
 exact wl_val h hr (wanted_none hc.1 _) hd hc.2 k
def mvN (N:Nat):Nat→List Oper→List (Nat×Value)→Option (List Oper×List (Nat×Value))
 |0,l,F=>some (l,F)
 |_+1, [],_=>none
 |n+1,o::l,F=>match o.guard,o.dst,o.op with
  |none,some d, .move x=>match ev F x with
   |some v=>bif Nat.blt d N then mvN N n l ((d,v)::F) else none
   |none=>none
  |none,some d, .assign x=>match ev F x with
   |some v=>bif Nat.blt d N then mvN N n l ((d,v)::F) else none
   |none=>none
  |_,_,_=>none
theorem wl_ex {R:Act→World→Prop}(hx:Ex P o a w R)(hw:Region.wanted o (yielded ops a.tmps)=true)(k:∀a' w',R a' w' →wpList P ops Q rest a' w'):wpList P ops Q (o::rest) a w:=by
 unfold wpList
 rw [if_pos hw]
 exact .inl (hx _ _ k)
theorem wl_skip {d:Nat}(h:St N K W a w F L)(hw:Region.wanted o (yielded ops a.tmps)=false)(hd:o.dst=some d)(hdN:Nat.blt d N=true)(k:∀a',St N K W a' w ((d,undef)::F) L→wpList P ops Q rest a' w):wpList P ops Q (o::rest) a w:=by
 unfold wpList
 rw [if_neg (by simp [hw])]
 exact k _ ⟨by rw [hd];exact h.fr.put d (by simpa [Nat.blt_eq] using hdN) undef,h.sh⟩
theorem wk {d t j:Nat}{oj:Oper}{b want:Bool}(h:St N K W a w F L)(hb:b= !want)(hg:o.guard=some (j,want))(hj:ops[j]? =some oj)(hdj:oj.dst=some t)(hv:lk F t=some (.bool b))(hd:o.dst=some d)(hdN:Nat.blt d N=true)
  (k:∀a',St N K W a' w ((d,undef)::F) L→wpList P ops Q rest a' w):wpList P ops Q (o::rest) a w:=wl_skip h (wanted_no h.fr hg hj hdj hv hb) hd hdN k
theorem wq_val {d:Nat}{v:Value}{Q:Act→Prop}(h:Fr N a F)(hr:Rn P o N K W F L v)(hw:Region.wanted o (yielded ops a.tmps)=true)(hd:o.dst=some d)(hdN:Nat.blt d N=true)
  (k:∀a',Fr N a' ((d,v)::F)→wpQuiet P ops (fun w=>Sh K W w L) Q rest a'):wpQuiet P ops (fun w=>Sh K W w L) Q (o::rest) a:=by
 unfold wpQuiet
 rw [if_pos hw]
 refine ⟨v,fun w hw=> ?_,k _ (by rw [hd];exact h.put d (by simpa [Nat.blt_eq] using hdN) v)⟩
 unfold Oper.quietAt
 rw [hr a w ⟨h,hw⟩]
 exact ⟨rfl,rfl⟩
theorem wq_skip {d:Nat}{Q:Act→Prop}(h:Fr N a F)(hw:Region.wanted o (yielded ops a.tmps)=false)(hd:o.dst=some d)(hdN:Nat.blt d N=true)
  (k:∀a',Fr N a' ((d,undef)::F)→wpQuiet P ops (fun w=>Sh K W w L) Q rest a'):wpQuiet P ops (fun w=>Sh K W w L) Q (o::rest) a:=by
 unfold wpQuiet
 rw [if_neg (by simp [hw])]
 exact k _ (by rw [hd];exact h.put d (by simpa [Nat.blt_eq] using hdN) undef)
theorem x_quiet {id:Nat}{l:List Oper}(hm:P.follows .mixedOrders=true)(hB:Region.lexB .any l.toArray=true)(h:St N K W a w F L)
  (k:∀Z:Act→Prop,(∀a',(∀w',Sh K W w' L→Q .normal a' w')→Z a')→wpQuiet P l.toArray (fun w' =>Sh K W w' L) Z l a):(Code.region id l.toArray true).wp P Q a w:=by
 refine wp_region_quiet (C:=fun w' =>Sh K W w' L) hm hB h.sh.drew ?_
 simpa using k (fun a' =>∀w',Sh K W w' L→Q .normal a' w') (fun _ h=>h)
theorem Rn.of {v:Value}(h:∀a w,St N K W a w F L→(execOp a.eval o).run P w= .ok (.value v) w):Rn P o N K W F L v:=h
theorem r_move {x:Operand}{v:Value}(ho:o.op= .move x)(hx:ev F x=some v):Rn P o N K W F L v:=fun a w h=>by unfold execOp;simp [ho,h.fr.ev hx]
theorem r_assign {x:Operand}{v:Value}(ho:o.op= .assign x)(hx:ev F x=some v):Rn P o N K W F L v:=fun a w h=>by unfold execOp;simp [ho,h.fr.ev hx]
theorem r_pickT {c x y:Operand}{b:Bool}{u:Value}(ho:o.op= .pick c x y)(hc:ev F c=some (.bool b))(hb:b=true)(hx:ev F x=some u):Rn P o N K W F L u:=fun a w h=>by
 unfold execOp;simp [ho,h.fr.ev hc,h.fr.ev hx,asBool,hb]
theorem r_pickF {c x y:Operand}{b:Bool}{u:Value}(ho:o.op= .pick c x y)(hc:ev F c=some (.bool b))(hb:b=false)(hy:ev F y=some u):Rn P o N K W F L u:=fun a w h=>by
 unfold execOp;simp [ho,h.fr.ev hc,h.fr.ev hy,asBool,hb]
theorem r_not {T:TypeId}{x:Operand}{b:Bool}(ho:o.op= .unOp .not T x)(hx:ev F x=some (.bool b)):Rn P o N K W F L (.bool (!b)):=fun a w h=>by
 unfold execOp;simp [ho,h.fr.ev hx,Op.unary]
theorem r_extract {x:Operand}{i:Nat}{vs:Array Value}{v:Value}(ho:o.op= .extract x i)(hx:ev F x=some (.tuple vs))(hv:vs[i]? =some v):Rn P o N K W F L v:=fun a w h=>by
 unfold execOp;simp [ho,h.fr.ev hx,Instr.extract,hv]
theorem r_nil {x:Operand}{p:Addr}(ho:o.op= .nilCheck x)(hx:ev F x=some (.pointer (some p))):Rn P o N K W F L (.pointer (some p)):=fun a w h=>by
 unfold execOp;simp [ho,h.fr.ev hx]
theorem r_makeFunc {fn:Fn}{xs ys:List Operand}{us vs:List Value}(ho:o.op= .makeFunc fn xs.toArray ys.toArray)(hx:evs F xs=some us)(hy:evs F ys=some vs):Rn P o N K W F L (.func fn us.toArray vs.toArray):=fun a w h=>by
 unfold execOp;simp [ho,h.fr.evs hx,h.fr.evs hy,Instr.makeFunc]
section
variable {T U:TypeId}{x y:Operand}
theorem r_bin {op:BinOp}{k:IntKind}{p q:Int}{v:Value}(ho:o.op= .binOp op T x y U)(hx:ev F x=some (.int k p))(hy:ev F y=some (.int k q))(hv:∀w,(binOp op T (.int k p) (.int k q)).run P w= .ok v w):Rn P o N K W F L v:=fun a w h=>by
 unfold execOp;simp only [ho,h.fr.ev hx,h.fr.ev hy,eqGuard_at_int,Sem.run_bind,Sem.run_pure,Result.andThen_ok,hv]
theorem r_addW {p q:Int}(ho:o.op= .binOp .add T x y U)(hx:ev F x=some (.int .i64 p))(hy:ev F y=some (.int .i64 q)):Rn P o N K W F L (.int .i64 (wrap64 (p+q))):=r_bin ho hx hy fun w=>by simp [go_sem];exact IntWalk.i64_left _
theorem r_subW {p q:Int}(ho:o.op= .binOp .sub T x y U)(hx:ev F x=some (.int .i64 p))(hy:ev F y=some (.int .i64 q)):Rn P o N K W F L (.int .i64 (wrap64 (p-q))):=r_bin ho hx hy fun w=>by simp [go_sem];exact IntWalk.i64_left _
theorem r_mulW {p q:Int}(ho:o.op= .binOp .mul T x y U)(hx:ev F x=some (.int .i64 p))(hy:ev F y=some (.int .i64 q)):Rn P o N K W F L (.int .i64 (wrap64 (p*q))):=r_bin ho hx hy fun w=>by simp [go_sem];exact IntWalk.i64_left _
theorem r_addI {p q:Int}(ho:o.op= .binOp .add T x y U)(hx:ev F x=some (.int .i64 p))(hy:ev F y=some (.int .i64 q))(hb: -9223372036854775808≤p+q∧p+q<9223372036854775808):Rn P o N K W F L (.int .i64 (p+q)):=by
 have:=r_addW (P:=P) (N:=N) (K:=K) (W:=W) (L:=L) ho hx hy;rwa [IntWalk.wrap64_in _ ⟨by omega,by omega⟩] at this
theorem r_subI {p q:Int}(ho:o.op= .binOp .sub T x y U)(hx:ev F x=some (.int .i64 p))(hy:ev F y=some (.int .i64 q))(hb: -9223372036854775808≤p-q∧p-q<9223372036854775808):Rn P o N K W F L (.int .i64 (p-q)):=by
 have:=r_subW (P:=P) (N:=N) (K:=K) (W:=W) (L:=L) ho hx hy;rwa [IntWalk.wrap64_in _ ⟨by omega,by omega⟩] at this
theorem r_mulI {p q:Int}(ho:o.op= .binOp .mul T x y U)(hx:ev F x=some (.int .i64 p))(hy:ev F y=some (.int .i64 q))(hb: -9223372036854775808≤p*q∧p*q<9223372036854775808):Rn P o N K W F L (.int .i64 (p*q)):=by
 have:=r_mulW (P:=P) (N:=N) (K:=K) (W:=W) (L:=L) ho hx hy;rwa [IntWalk.wrap64_in _ ⟨by omega,by omega⟩] at this
theorem r_addN {p q:Nat}(ho:o.op= .binOp .add T x y U)(hx:ev F x=some (.int .i64 (p:Int)))(hy:ev F y=some (.int .i64 (q:Int)))(hb:p+q<9223372036854775808):Rn P o N K W F L (.int .i64 ((p+q:Nat):Int)):=by
 rw [Int.natCast_add];exact r_addI ho hx hy (by omega)
theorem r_subN {p q:Nat}(ho:o.op= .binOp .sub T x y U)(hx:ev F x=some (.int .i64 (p:Int)))(hy:ev F y=some (.int .i64 (q:Int)))(hb:q≤p∧p<9223372036854775808):Rn P o N K W F L (.int .i64 ((p-q:Nat):Int)):=by
 rw [Int.natCast_sub hb.1];exact r_subI ho hx hy (by omega)
theorem r_mulN {p q:Nat}(ho:o.op= .binOp .mul T x y U)(hx:ev F x=some (.int .i64 (p:Int)))(hy:ev F y=some (.int .i64 (q:Int)))(hb:p*q<9223372036854775808):Rn P o N K W F L (.int .i64 ((p*q:Nat):Int)):=by
 rw [Int.natCast_mul];exact r_mulI ho hx hy ⟨by rw [←Int.natCast_mul];omega,by rw [←Int.natCast_mul];omega⟩
theorem r_quoN {p q:Nat}(ho:o.op= .binOp .quo T x y U)(hx:ev F x=some (.int .i64 (p:Int)))(hy:ev F y=some (.int .i64 (q:Int)))(hb:0<q∧p<9223372036854775808):Rn P o N K W F L (.int .i64 ((p/q:Nat):Int)):=r_bin ho hx hy fun w=>by
 have h1:¬(q:Int)=0:=by omega
 have h0:¬q=0:=by omega
 have h2:(p:Int).tdiv q=((p/q:Nat):Int):=by rw [Int.tdiv_eq_ediv_of_nonneg (by omega)];rfl
 have h3:IntKind.i64.wrap ((p/q:Nat):Int)=((p/q:Nat):Int):=by
  have:p/q≤p:=Nat.div_le_self _ _
  generalize p/q=z at this
  exact IntWalk.i64_in _ ⟨by omega,by omega⟩
 simp [go_sem,h0,h1,h2];first|exact h3|(simp at h3;omega)
theorem r_remN {p q:Nat}(ho:o.op= .binOp .rem T x y U)(hx:ev F x=some (.int .i64 (p:Int)))(hy:ev F y=some (.int .i64 (q:Int)))(hb:0<q∧p<9223372036854775808):Rn P o N K W F L (.int .i64 ((p%q:Nat):Int)):=r_bin ho hx hy fun w=>by
 have h1:¬(q:Int)=0:=by omega
 have h0:¬q=0:=by omega
 have h2:(p:Int).tmod q=((p%q:Nat):Int):=by rw [Int.tmod_eq_emod_of_nonneg (by omega)];rfl
 simp [go_sem,h0,h1,h2];try rfl
theorem r_lssI {k:IntKind}{p q:Int}(ho:o.op= .binOp .lss T x y U)(hx:ev F x=some (.int k p))(hy:ev F y=some (.int k q)):Rn P o N K W F L (.bool (decide (p<q))):=r_bin ho hx hy fun w=>by simp [go_sem]
theorem r_leqI {k:IntKind}{p q:Int}(ho:o.op= .binOp .leq T x y U)(hx:ev F x=some (.int k p))(hy:ev F y=some (.int k q)):Rn P o N K W F L (.bool (decide (p≤q))):=r_bin ho hx hy fun w=>by simp [go_sem]
theorem r_gtrI {k:IntKind}{p q:Int}(ho:o.op= .binOp .gtr T x y U)(hx:ev F x=some (.int k p))(hy:ev F y=some (.int k q)):Rn P o N K W F L (.bool (decide (q<p))):=r_bin ho hx hy fun w=>by simp [go_sem]
theorem r_geqI {k:IntKind}{p q:Int}(ho:o.op= .binOp .geq T x y U)(hx:ev F x=some (.int k p))(hy:ev F y=some (.int k q)):Rn P o N K W F L (.bool (decide (q≤p))):=r_bin ho hx hy fun w=>by simp [go_sem]
theorem r_eqlI {k:IntKind}{p q:Int}(ho:o.op= .binOp .eql T x y U)(hx:ev F x=some (.int k p))(hy:ev F y=some (.int k q)):Rn P o N K W F L (.bool (decide (p=q))):=r_bin ho hx hy fun w=>by simp [go_sem];rfl
theorem r_neqI {k:IntKind}{p q:Int}(ho:o.op= .binOp .neq T x y U)(hx:ev F x=some (.int k p))(hy:ev F y=some (.int k q)):Rn P o N K W F L (.bool (decide (p≠q))):=r_bin ho hx hy fun w=>by
 simp [go_sem,bne];rfl
theorem r_lssN {k:IntKind}{p q:Nat}(ho:o.op= .binOp .lss T x y U)(hx:ev F x=some (.int k (p:Int)))(hy:ev F y=some (.int k (q:Int))):Rn P o N K W F L (.bool (decide (p<q))):=by
 have:=r_lssI (P:=P) (N:=N) (K:=K) (W:=W) (L:=L) ho hx hy;simpa using this
theorem r_leqN {k:IntKind}{p q:Nat}(ho:o.op= .binOp .leq T x y U)(hx:ev F x=some (.int k (p:Int)))(hy:ev F y=some (.int k (q:Int))):Rn P o N K W F L (.bool (decide (p≤q))):=by
 have:=r_leqI (P:=P) (N:=N) (K:=K) (W:=W) (L:=L) ho hx hy;simpa using this
theorem r_gtrN {k:IntKind}{p q:Nat}(ho:o.op= .binOp .gtr T x y U)(hx:ev F x=some (.int k (p:Int)))(hy:ev F y=some (.int k (q:Int))):Rn P o N K W F L (.bool (decide (q<p))):=by
 have:=r_gtrI (P:=P) (N:=N) (K:=K) (W:=W) (L:=L) ho hx hy;simpa using this
theorem r_eqlN {k:IntKind}{p q:Nat}(ho:o.op= .binOp .eql T x y U)(hx:ev F x=some (.int k (p:Int)))(hy:ev F y=some (.int k (q:Int))):Rn P o N K W F L (.bool (decide (p=q))):=by
 have:=r_eqlI (P:=P) (N:=N) (K:=K) (W:=W) (L:=L) ho hx hy
 have e:decide ((p:Int)=(q:Int))=decide (p=q):=by simp;omega
 rwa [e] at this
theorem r_neqN {k:IntKind}{p q:Nat}(ho:o.op= .binOp .neq T x y U)(hx:ev F x=some (.int k (p:Int)))(hy:ev F y=some (.int k (q:Int))):Rn P o N K W F L (.bool (decide (p≠q))):=by
 have:=r_neqI (P:=P) (N:=N) (K:=K) (W:=W) (L:=L) ho hx hy
 have e:decide ((p:Int)≠(q:Int))=decide (p≠q):=by simp;omega
 rwa [e] at this
end
end
def aggD :TypeDesc→Bool
 | .struct _| .array _ _=>true
 |_=>false
def tyI (P:Program)(T:TypeId):Option (Bool×Nat×Nat×List Value):=match P.info? T,P.underlying T with
 |some i,some d=>match i.zero with
  |some z=>some (aggD d,i.size,i.bytes,z.cells.toList)
  |none=>none
 |_,_=>none
def slI (P:Program)(T:TypeId):Option TypeId:=match P.underlying T with
 |some (.slice e)=>some e
 |_=>none
def flI (P:Program)(T:TypeId)(f:Nat):Option Nat:=match P.underlying T with
 |some (.struct fs)=>match fs[f]? with
  |some fd=>match P.info? fd.type with
   |some i=>if i.size=0 then none else some fd.offset
   |none=>none
  |none=>none
 |_=>none
def bodyI (P:Program)(f:FuncId):Bool:=match P.funcs[f]? with
 |some fn=> !(fn.name== "runtime.NumGoroutine")&&fn.body.isSome
 |none=>false
section
variable {P:Program}{N:Nat}{K:Nat→Prop}{W w:World}{a:Act}{F F' :List (Nat×Value)}{L L' :List Asn}{o:Oper}{ops:Array Oper}{rest:List Oper}{Q:Exit→Act→World→Prop}
theorem tyI_parts {T:TypeId}{g:Bool}{n by_:Nat}{z:List Value}(h:tyI P T=some (g,n,by_,z)):
  ∃i d zv,P.info? T=some i∧P.underlying T=some d∧aggD d=g∧i.size=n∧i.bytes=by_∧i.zero=some zv∧zv.cells.toList=z:=by
 unfold tyI at h
 split at h
 ·rename_i i d h1 h2
  split at h
  ·rename_i zv hz
   simp only [Option.some.injEq,Prod.mk.injEq] at h
   exact ⟨i,d,zv,h1,h2,h.1,h.2.1,h.2.2.1,hz,h.2.2.2⟩
  ·cases h
 ·cases h
theorem slI_parts {T e:TypeId}(h:slI P T=some e):P.underlying T=some (.slice e):=by
 unfold slI at h
 split at h
 ·simp at h;subst h;assumption
 ·cases h
theorem run_sizeOf {T:TypeId}{i:TypeInfo}(h:P.info? T=some i)(w:World):(sizeOf T).run P w= .ok i.size w:=by simp [sizeOf,typeInfo,h]
theorem run_zero {T:TypeId}{i:TypeInfo}{z:Value}(h:P.info? T=some i)(hz:i.zero=some z)(w:World):(zeroValue T).run P w= .ok z w:=by simp [zeroValue,typeInfo,h,hz]
theorem run_isAgg {T:TypeId}{d:TypeDesc}(h:P.underlying T=some d)(w:World):(isAgg T).run P w= .ok (aggD d) w:=by
 unfold isAgg
 rw [Sem.run_bind,run_underlying h]
 cases d<;>rfl
theorem run_fieldAt {T:TypeId}{f k:Nat}{p:Addr}(h:flI P T f=some k)(w:World):(Instr.fieldAt T (.pointer (some p)) f).run P w= .ok (.pointer (some (p.add k))) w:=by
 unfold flI at h
 split at h
 ·rename_i fs hfs
  split at h
  ·rename_i fd hfd
   split at h
   ·rename_i i hi
    split at h
    ·cases h
    ·rename_i hne
     simp only [Option.some.injEq] at h
     subst h
     simp [Instr.fieldAt,run_underlying hfs,hfd,Instr.sureAddr,fieldPlace,run_sizeOf hi,hne]
   ·cases h
  ·cases h
 ·cases h
theorem r_fieldB {T:TypeId}{x:Operand}{f k g q r:Nat}(hT:flI P T f=some k)(ho:o.op= .fieldAddr T x f)(hx:ev F x=some (.pointer (some ⟨g,q,none⟩)))(hr:q+k=r):Rn P o N K W F L (.pointer (some ⟨g,r,none⟩)):=fun a w h=>by
 subst hr
 unfold execOp;simp only [ho,h.fr.ev hx,Sem.run_bind,run_fieldAt hT,Addr.add_lit,Result.andThen_ok,Sem.run_pure]
theorem r_fieldE {T:TypeId}{x:Operand}{f k sz i j r:Nat}{v:Value}(hT:flI P T f=some k)(ho:o.op= .fieldAddr T x f)(hx:ev F x=some (.pointer (some (padr v sz i j))))(hr:j+k=r):Rn P o N K W F L (.pointer (some (padr v sz i r))):=fun a w h=>by
 subst hr
 unfold execOp;simp only [ho,h.fr.ev hx,Sem.run_bind,run_fieldAt hT,padr_add,Result.andThen_ok,Sem.run_pure]
section
variable {α:Type}[Enc α]
theorem run_index {T e:TypeId}{g:Bool}{n by_:Nat}{z:List Value}{s:Ls α}{kd:IntKind}{q:Int}(hT:slI P T=some e)(he:tyI P e=some (g,n,by_,z))(hat:s.At w)(h0:0≤q)(h1:q<s.l.length):
  (Instr.indexAt T s.v (.int kd q)).run P w= .ok (.pointer (some (padr s.v n q.toNat 0))) w:=by
 obtain ⟨i,d,zv,hi,hd,_,rfl,_⟩:=tyI_parts he
 obtain ⟨A,cap,hv,hA⟩:=hat
 obtain ⟨b,hb,hs⟩:=hA.some (show 0<s.l.length by omega)
 have hu:=slI_parts hT
 have hel:P.elem T=e:=by simp [Program.elem,hu]
 simp only at hb
 subst hb
 rw [hv,run_indexAt_slice (h:=by rw [hel];exact hu),if_pos ⟨h0,h1⟩,hel,run_sizeOf hi]
 obtain ⟨blk,off,sp⟩:=b
 simp only at hs
 subst hs
 simp [Result.andThen_ok,padr,vblk,voff,Addr.add_lit]
theorem r_ixI {T e:TypeId}{g:Bool}{n by_:Nat}{z:List Value}{s:Ls α}{kd:IntKind}{q:Int}{x y:Operand}(hT:slI P T=some e)(he:tyI P e=some (g,n,by_,z))(ho:o.op= .indexAddr T x y)(hx:ev F x=some s.v)(hy:ev F y=some (.int kd q))(hat:∀w,Sh K W w L→s.At w)
  (hb:0≤q∧q<s.l.length):Rn P o N K W F L (.pointer (some (padr s.v n q.toNat 0))):=fun a w h=>by
 unfold execOp;simp only [ho,h.fr.ev hx,h.fr.ev hy,Sem.run_bind,run_index hT he (hat w h.sh) hb.1 hb.2,Result.andThen_ok,Sem.run_pure]
theorem r_ixN {T e:TypeId}{g:Bool}{n by_:Nat}{z:List Value}{s:Ls α}{kd:IntKind}{q:Nat}{x y:Operand}(hT:slI P T=some e)(he:tyI P e=some (g,n,by_,z))(ho:o.op= .indexAddr T x y)(hx:ev F x=some s.v)(hy:ev F y=some (.int kd (q:Int)))(hat:∀w,Sh K W w L→s.At w)
  (hb:q<s.l.length):Rn P o N K W F L (.pointer (some (padr s.v n q 0))):=by
 simpa using r_ixI (P:=P) (N:=N) (K:=K) (W:=W) (L:=L) hT he ho hx hy hat ⟨by omega,by omega⟩
theorem r_len {T e:TypeId}{s:Ls α}{x:Operand}{n:Nat}(hT:slI P T=some e)(ho:o.op= .call ⟨.builtin .len, #[x], #[T]⟩)(hx:ev F x=some s.v)(hat:∀w,Sh K W w L→s.At w)(hn:s.l.length=n):Rn P o N K W F L (.int .i64 (n:Int)):=fun a w h=>by
 subst hn
 obtain ⟨A,cap,hv,_⟩:=hat w h.sh
 have hu:=slI_parts hT
 have hel:P.elem T=e:=by simp [Program.elem,hu]
 unfold execOp
 have e1:=h.fr.ev hx
 rw [hv] at e1
 simp [ho,resolve,invoke,builtin,e1,run_len_slice _ _ _ _ _ _ (show P.underlying T=some (.slice (P.elem T)) by rw [hel];exact hu),goInt]
theorem run_load1 {T:TypeId}{n by_:Nat}{z:List Value}{p:Addr}{v:Value}(hT:tyI P T=some (false,n,by_,z))(hc:w.cell? p=some v):(Instr.loadAt T (.pointer (some p))).run P w= .ok v w:=by
 obtain ⟨i,d,zv,hi,hd,hg,_⟩:=tyI_parts hT
 simp [Instr.loadAt,Instr.sureAddr,loadVar,run_isAgg hd,hg,hc]
theorem run_loadN {T:TypeId}{n by_:Nat}{z:List Value}{p:Addr}{vs:List Value}(hT:tyI P T=some (true,n,by_,z))(hn:vs.length=n)(hc:∀(j:Nat) (v:Value),vs[j]? =some v→w.cell? (p.add j)=some v):(Instr.loadAt T (.pointer (some p))).run P w= .ok (.agg vs.toArray) w:=by
 obtain ⟨i,d,zv,hi,hd,hg,hs,_⟩:=tyI_parts hT
 subst hn
 simp [Instr.loadAt,Instr.sureAddr,loadVar,run_isAgg hd,hg,run_sizeOf hi,hs,run_loadCells_list (P:=P) w p vs hc]
theorem r_ldb {T:TypeId}{n by_:Nat}{z:List Value}{x:Operand}{g q i:Nat}{E:TypeId}{cs:List Value}{v:Value}(hT:tyI P T=some (false,n,by_,z))(ho:o.op= .load T x)(hx:ev F x=some (.pointer (some ⟨g,q,none⟩)))
  (hi:L[i]? =some (.blk g E cs)) (hv:cs[q]? =some v):Rn P o N K W F L v:=fun a w h=>by
 have hc:w.cell? ⟨g,q,none⟩=some v:=by rw [(h.sh.blk i hi).cell q];simpa using hv
 unfold execOp;simp only [ho,h.fr.ev hx,Sem.run_bind,run_load1 hT hc,Result.andThen_ok,Sem.run_pure]
theorem r_ldbw {T:TypeId}{n by_:Nat}{z:List Value}{x:Operand}{g q i:Nat}{E:TypeId}{cs vs:List Value}(hT:tyI P T=some (true,n,by_,z))(ho:o.op= .load T x)(hx:ev F x=some (.pointer (some ⟨g,q,none⟩)))
  (hi:L[i]? =some (.blk g E cs)) (hv:(cs.drop q).take n=vs) (hn:vs.length=n):Rn P o N K W F L (.agg vs.toArray):=fun a w h=>by
 have hc:∀(j:Nat) (v:Value),vs[j]? =some v→w.cell? ((⟨g,q,none⟩:Addr).add j)=some v:=by
  intro j v hj
  rw [Addr.add_lit,(h.sh.blk i hi).cell (q+j)]
  rw [←hv,List.getElem?_take] at hj
  split at hj
  ·rw [List.getElem?_drop] at hj;simpa using hj
  ·cases hj
 unfold execOp;simp only [ho,h.fr.ev hx,Sem.run_bind,run_loadN hT hn hc,Result.andThen_ok,Sem.run_pure]
theorem r_lde {T:TypeId}{n by_:Nat}{z:List Value}{x:Operand}{i j sz:Nat}{s:Ls α}{v:Value}(hT:tyI P T=some (false,n,by_,z))(ho:o.op= .load T x)(hx:ev F x=some (.pointer (some (padr s.v sz i j))))
  (hsz:Enc.sz α=sz) (hat:∀w,Sh K W w L→s.At w) (hi:i<s.l.length) (hj:j<sz) (hv:Enc.cell (nth s.l i) j=v):Rn P o N K W F L v:=fun a w h=>by
 subst hsz
 have hc:=(hat w h.sh).cell i j hi hj
 rw [hv] at hc
 unfold execOp;simp only [ho,h.fr.ev hx,Sem.run_bind,run_load1 hT hc,Result.andThen_ok,Sem.run_pure]
theorem r_ldew {T:TypeId}{n by_:Nat}{z:List Value}{x:Operand}{i j sz:Nat}{s:Ls α}{vs:List Value}(hT:tyI P T=some (true,n,by_,z))(ho:o.op= .load T x)(hx:ev F x=some (.pointer (some (padr s.v sz i j))))
  (hsz:Enc.sz α=sz) (hat:∀w,Sh K W w L→s.At w) (hi:i<s.l.length) (hj:j+n≤sz) (hv:(List.range n).map (fun q=>Enc.cell (nth s.l i) (j+q))=vs):Rn P o N K W F L (.agg vs.toArray):=fun a w h=>by
 subst hsz
 subst hv
 have hc:∀(q:Nat) (v:Value),((List.range n).map (fun q=>Enc.cell (nth s.l i) (j+q)))[q]? =some v→w.cell? ((padr s.v (Enc.sz α) i j).add q)=some v:=by
  intro q v hq
  have hqn:q<n:=by
   have:=(List.getElem?_eq_some_iff.1 hq).1
   simpa using this
  rw [padr_add,(hat w h.sh).cell i (j+q) hi (by omega)]
  simpa [hqn] using hq
 unfold execOp;simp only [ho,h.fr.ev hx,Sem.run_bind,run_loadN hT (by simp) hc,Result.andThen_ok,Sem.run_pure]
end
theorem St.push_blk {d g:Nat}{v:Value}{T:TypeId}{cs:List Value}(h:St N K W a w F L)(hd:Nat.blt d N=true):
  St N K W (a.put (some d) (.pointer (some ⟨w.heap.size,0,none⟩))) (w.alloc (.cells cs.toArray T)) ((d, .pointer (some ⟨w.heap.size,0,none⟩))::F) (.blk w.heap.size T cs::L):=
 ⟨h.fr.put d (by simpa [Nat.blt_eq] using hd) _,h.sh.push (Chg.alloc _ w _) (Blk.new w T cs.toArray) (fun b hb=>by rw [show b=w.heap.size from hb];exact Nat.le_refl _) (fun b hb=>hb.elim) (fun b _ hb=>hb)⟩
theorem x_alloc {d:Nat}{T:TypeId}{g:Bool}{n by_:Nat}{z:List Value}(h:St N K W a w F L)(hT:tyI P T=some (g,n,by_,z))(ho:o.op= .alloc T)(hd:o.dst=some d)(hdN:Nat.blt d N=true):
  Ex P o a w (fun a' w' =>∃b:Nat,St N K W a' w' ((d, .pointer (some ⟨b,0,none⟩))::F) (.blk b T z::L)):=by
 obtain ⟨i,e,zv,hi,he,_,_,_,hz,hzc⟩:=tyI_parts hT
 refine Ex.of_run (v:= .pointer (some ⟨w.heap.size,0,none⟩)) (w' :=w.alloc (.cells z.toArray T)) ?_ ⟨w.heap.size, ?_⟩
 ·unfold execOp
  simp only [ho,Sem.run_bind,Instr.alloc,run_zero hi hz,Result.andThen_ok,newVar,newRow,run_newObj,Sem.run_pure]
  rw [←hzc];rfl
 ·rw [hd];exact h.push_blk (g:=0) (v:=undef) hdN
theorem x_box {d:Nat}{T:TypeId}{x:Operand}{v:Value}{cs:List Value}(h:St N K W a w F L)(ho:o.op= .box T x)(hx:ev F x=some v)(hv:v.cells=cs.toArray)(hd:o.dst=some d)(hdN:Nat.blt d N=true):
  Ex P o a w (fun a' w' =>∃b:Nat,St N K W a' w' ((d, .pointer (some ⟨b,0,none⟩))::F) (.blk b T cs::L)):=by
 refine Ex.of_run (v:= .pointer (some ⟨w.heap.size,0,none⟩)) (w' :=w.alloc (.cells cs.toArray T)) ?_ ⟨w.heap.size, ?_⟩
 ·unfold execOp
  simp only [ho,h.fr.ev hx,Instr.box,newVar,newRow,hv,Sem.run_bind,run_newObj,Result.andThen_ok,Sem.run_pure]
  rfl
 ·rw [hd];exact h.push_blk (g:=0) (v:=undef) hdN
def splice (cs:List Value)(q:Nat)(vs:List Value):List Value:=cs.take q++vs++cs.drop (q+vs.length)
theorem x_stb {T:TypeId}{gg:Bool}{n by_:Nat}{z:List Value}{x y:Operand}{g q i:Nat}{E:TypeId}{cs cs' vs:List Value}{v:Value}(h:St N K W a w F L)(hT:tyI P T=some (gg,n,by_,z))(ho:o.op= .store T x y)(hd:o.dst=none)
  (hx:ev F x=some (.pointer (some ⟨g,q,none⟩))) (hy:ev F y=some v) (hi:L[i]? =some (.blk g E cs)) (hv:v.cells.toList=vs) (hn:vs.length=n) (h1:vs.all (·.oneCell')=true) (hq:q+n≤cs.length) (hcs:splice cs q vs=cs'):
  Ex P o a w (fun a' w' =>St N K W a' w' F (L.set i (.blk g E cs'))):=by
 obtain ⟨ti,e,zv,hti,he,_,hs,_⟩:=tyI_parts hT
 have hB:=h.sh.blk i hi
 have hvs:v.cells=vs.toArray:=by rw [←hv]
 have hrun:=run_storeCells_at P g q E vs 0 cs.toArray w hB (by simp;omega) (fun u hu=>(List.all_eq_true.1 h1) u hu)
 refine Ex.of_skip (w' :=w.setRow g cs'.toArray) ?_ ?_
 ·unfold execOp
  have hsz:v.cells.size=ti.size:=by rw [hvs];simp;omega
  simp only [ho,h.fr.ev hx,h.fr.ev hy,Instr.storeAt,Instr.sureAddr,storeVar,Sem.run_bind,Sem.run_pure,Result.andThen_ok,run_sizeOf hti]
  simp only [hsz,ne_eq,not_true_eq_false,if_false,hv,Nat.add_zero] at hrun⊢
  rw [←hcs]
  simp at hrun
  rw [hrun]
  simp [splice]
 ·rw [hd]
  refine ⟨h.fr,h.sh.put hi ⟨rfl,rfl,rfl,by simp [World.setRow],fun b hb hne=>setRow_other w g b _ hne⟩ ?_ (fun b hb=> .inl hb) (fun b hb=>hb.elim) (fun b _ hb=>hb)⟩
  exact setRow_heap w g _ _ E (0,0) hB
end
section
variable {α:Type}[Enc α]
theorem encL_out (l:List α)(k:Nat)(h:l.length*Enc.sz α≤k):(encL l)[k]? =none:=List.getElem?_eq_none (by rw [length_encL];exact h)
theorem encL_set (l:List α)(i j:Nat)(x:α)(v:Value)(hi:i<l.length)(hj:j<Enc.sz α)(hx:∀q,q<Enc.sz α→Enc.cell x q=if q=j then v else Enc.cell (nth l i) q):
  encL (l.set i x)=(encL l).set (i*Enc.sz α+j) v:=by
 have hs:0<Enc.sz α:=by omega
 apply List.ext_getElem?
 intro k
 by_cases hk:k<l.length*Enc.sz α
 ·have hq:k/Enc.sz α<l.length:=(Nat.div_lt_iff_lt_mul hs).2 hk
  have hr:k%Enc.sz α<Enc.sz α:=Nat.mod_lt _ hs
  have hkk:k=(k/Enc.sz α)*Enc.sz α+k%Enc.sz α:=by rw [Nat.mul_comm];exact (Nat.div_add_mod _ _).symm
  have h1:=encL_at (l.set i x) (k/Enc.sz α) (k%Enc.sz α) (by simpa using hq) hr
  have h2:=encL_at l (k/Enc.sz α) (k%Enc.sz α) hq hr
  rw [←hkk] at h1 h2
  rw [h1,List.getElem?_set]
  by_cases hki:k/Enc.sz α=i
  ·have hn:nth (l.set i x) (k/Enc.sz α)=x:=by rw [hki];simp [nth,hi]
   rw [hn,hx _ hr]
   by_cases hkj:k%Enc.sz α=j
   ·have e:i*Enc.sz α+j=k:=by rw [hkk,hki,hkj]
    rw [if_pos hkj,if_pos e,if_pos (by rw [length_encL,e];exact hk)]
   ·have e:¬i*Enc.sz α+j=k:=by intro e;rw [hki] at hkk;omega
    rw [if_neg hkj,if_neg e,h2,hki]
  ·have hn:nth (l.set i x) (k/Enc.sz α)=nth l (k/Enc.sz α):=by
    have:¬i=k/Enc.sz α:=fun e=>hki e.symm
    simp [nth,List.getD,List.getElem?_set,this]
   have e:¬i*Enc.sz α+j=k:=by
    intro e
    apply hki
    rw [←e,Nat.mul_comm,Nat.mul_add_div hs,Nat.div_eq_of_lt hj,Nat.add_zero]
   rw [hn,if_neg e,h2]
 ·rw [encL_out _ _ (by simpa using hk),List.getElem?_set]
  have e:¬i*Enc.sz α+j=k:=by
   intro e
   apply hk
   have:(i+1)*Enc.sz α≤l.length*Enc.sz α:=Nat.mul_le_mul_right _ hi
   rw [Nat.add_mul,Nat.one_mul] at this
   omega
  rw [if_neg e,encL_out _ _ (by omega)]
theorem nth_set (l:List α)(i k:Nat)(x:α):nth (l.set i x) k=if i=k∧i<l.length then x else nth l k:=by
 simp only [nth,List.getD,List.getElem?_set]
 by_cases h:i=k
 ·subst h
  by_cases h2:i<l.length<;>simp [h2]
 ·simp [h]
theorem nth_append (l m:List α)(k:Nat):nth (l++m) k=if k<l.length then nth l k else nth m (k-l.length):=by
 simp only [nth,List.getD]
 by_cases h:k<l.length
 ·rw [List.getElem?_append_left h,if_pos h]
 ·rw [List.getElem?_append_right (by omega),if_neg h]
end
def evp (F:List (Nat×Value)):List (Nat×Operand)→Option (List (Nat×Value))
 | []=>some []
 |(i,x)::r=>match ev F x with
  |some v=>match evp F r with
   |some vs=>some ((i,v)::vs)
   |none=>none
  |none=>none
theorem Fr.evp {N:Nat}{a:Act}{F:List (Nat×Value)}(h:Fr N a F):∀ {xs:List (Nat×Operand)} {vs:List (Nat×Value)},evp F xs=some vs→(xs.toArray.map fun (i,x)=>(i,a.eval x)).toList=vs:=by
 intro xs
 have key:∀(xs:List (Nat×Operand)) (vs:List (Nat×Value)),Go.Proofs.Ytmbfcgpneflbmaa.evp F xs=some vs→(xs.map fun (i,x)=>(i,a.eval x))=vs:=by
  intro xs
  induction xs with
  |nil=>intro vs hx;simp [Go.Proofs.Ytmbfcgpneflbmaa.evp] at hx;simp [hx]
  |cons x r ih=>
   obtain ⟨i,x⟩:=x
   intro vs hx
   unfold Go.Proofs.Ytmbfcgpneflbmaa.evp at hx
   split at hx
   ·rename_i v hv
    split at hx
    ·rename_i us hu
     simp only [Option.some.injEq] at hx
     subst hx
     simp [h.ev hv,ih us hu]
    ·cases hx
   ·cases hx
 intro vs hx
 have:=key xs vs hx
 simpa using this
section
variable {P:Program}{N:Nat}{K:Nat→Prop}{W w:World}{a:Act}{F F' :List (Nat×Value)}{L L' :List Asn}{o:Oper}{ops:Array Oper}{rest:List Oper}{Q:Exit→Act→World→Prop}
section
variable {α:Type}[Enc α]
theorem x_ste {T:TypeId}{gg:Bool}{by_:Nat}{z:List Value}{x y:Operand}{i j sz r:Nat}{E:TypeId}{s:Ls α}{x' :α}{v:Value}(h:St N K W a w F L)(hT:tyI P T=some (gg,1,by_,z))(ho:o.op= .store T x y)(hd:o.dst=none)
  (hx:ev F x=some (.pointer (some (padr s.v sz i j)))) (hsz:Enc.sz α=sz) (hr:L[r]? =some (.own E s)) (hi:i<s.l.length) (hj:j<sz) (hy:ev F y=some v) (hv:v.cells.toList= [v]) (h1:v.oneCell' =true)
  (hc:∀q,q<sz→Enc.cell x' q=if q=j then v else Enc.cell (nth s.l i) q)
  (hin:∀w,Sh K W w L→Enc.inner x' w) (hon:∀b,Enc.on x' b→s.v.ownBlock≠some b∧∃B∈L,B.rd b):
  Ex P o a w (fun a' w' =>St N K W a' w' F (L.set r (.own E ⟨s.v,s.l.set i x'⟩))):=by
 subst hsz
 obtain ⟨ti,e,zv,hti,he,_,hs,_⟩:=tyI_parts hT
 have hok:=h.sh.ok _ (List.mem_of_getElem? hr)
 obtain ⟨hown,hlen,hinn⟩:=hok
 rcases hown.2 with ⟨_,h0⟩|⟨g,cap,cur,hsv,hb0,hg,hn,hm,hcs,htk⟩
 ·omega
 have hp:padr s.v (Enc.sz α) i j=⟨g,i*Enc.sz α+j,none⟩:=by rw [hsv];simp [padr,vblk,voff]
 have hat:=own_at (h.sh.ok _ (List.mem_of_getElem? hr))
 have hcell:=hat.cell i j hi hj
 rw [hp] at hcell
 have hfz:w.frozen? ⟨g,i*Enc.sz α+j,none⟩=false:=frozen_of_row w g _ cur E hg
 refine Ex.of_skip (w' :=w.setCell ⟨g,i*Enc.sz α+j,none⟩ v) ?_ ?_
 ·unfold execOp
  have hcz:v.cells.size=ti.size:=by rw [hs,←Array.length_toList,hv];rfl
  simp only [ho,h.fr.ev hx,h.fr.ev hy,Instr.storeAt,Instr.sureAddr,storeVar,Sem.run_bind,Sem.run_pure,Result.andThen_ok,run_sizeOf hti,hcz,hp]
  simp [hv,storeCells,run_store P w _ v _ h1,hcell,hfz,Addr.add_zero']
 ·rw [hd]
  have hst:=World.ownsRow.stored (w:=w) (base:=0) (e:=E) (size:=Enc.sz α) (n:=s.l.length) (xs:=encL s.l) (g:=g) (cap:=cap) (by rw [←hsv];exact hown) (i*Enc.sz α+j) v
  have hfp:(Asn.own E s).fp g:=by show s.v.ownBlock=some g;rw [hsv];rfl
  have hse:=h.sh.self _ (List.mem_of_getElem? hr)
  refine ⟨h.fr,h.sh.put hr (Chg.setCell w _ hfp v) ⟨?_,by simpa using hlen,fun q hq=> ?_⟩ (fun b hb=> .inl hb) (fun b hb=> ?_) (fun b hb hb' => ?_)⟩
  ·show World.ownsRow _ 0 E (Enc.sz α) s.v (s.l.set i x').length (encL (s.l.set i x'))
   rw [encL_set s.l i j x' v hi hj hc,List.length_set,hsv]
   exact hst.1
  ·have key:∀y:α,Enc.inner y w→(∀b,Enc.on y b→g≠b)→Enc.inner y (w.setCell ⟨g,i*Enc.sz α+j,none⟩ v):=fun y hy hb=>
    Enc.keep y w _ hy fun b hb' =>Below.heap_setCell w _ v b (fun e=>hb b hb' e.symm)
   have hq' :q<s.l.length:=by simpa using hq
   show Enc.inner (nth (s.l.set i x') q) _
   rw [nth_set]
   split
   ·exact key _ (hin w h.sh) fun b hb e=>(hon b hb).1 (by rw [hsv,e];rfl)
   ·exact key _ (hinn q hq') fun b hb e=>hse g hfp ⟨q,hq',e▸hb⟩
  ·obtain ⟨q,hq,hb⟩:=hb
   simp only [nth_set] at hb
   split at hb
   ·exact .inr (.inr (.inl (hon b hb).2))
   ·exact .inr (.inl ⟨q,by simpa using hq,hb⟩)
  ·obtain ⟨q,hq,hb'⟩:=hb'
   simp only [nth_set] at hb'
   split at hb'
   ·exact (hon b hb').1 hb
   ·exact hse b hb ⟨q,by simpa using hq,hb'⟩
theorem made_eq (z:List Value)(x:α)(n:Nat)(hz:z=cellsOf x):(madeCells z.toArray (n*Enc.sz α)).toList=encL (List.replicate n x):=by
 apply List.ext_getElem?
 intro k
 by_cases hs:Enc.sz α=0
 ·have h1:(madeCells z.toArray (n*Enc.sz α)).toList= []:=by apply List.eq_nil_of_length_eq_zero;simp [size_madeCells,hs]
  have h2:encL (List.replicate n x)= []:=by apply List.eq_nil_of_length_eq_zero;rw [length_encL,hs,Nat.mul_zero]
  rw [h1,h2]
 have hs:0<Enc.sz α:=by omega
 by_cases hk:k<n*Enc.sz α
 ·have hq:k/Enc.sz α<n:=(Nat.div_lt_iff_lt_mul hs).2 hk
  have hr:k%Enc.sz α<Enc.sz α:=Nat.mod_lt _ hs
  have hkk:k=(k/Enc.sz α)*Enc.sz α+k%Enc.sz α:=by rw [Nat.mul_comm];exact (Nat.div_add_mod _ _).symm
  have h2:=encL_at (List.replicate n x) (k/Enc.sz α) (k%Enc.sz α) (by simpa using hq) hr
  rw [←hkk] at h2
  have hn:nth (List.replicate n x) (k/Enc.sz α)=x:=by simp [nth,hq]
  rw [h2,hn]
  have hzs:z.length=Enc.sz α:=by rw [hz,length_cellsOf]
  have hmk:k%z.toArray.size<z.toArray.size:=by simp only [List.size_toArray,hzs];exact hr
  have:(madeCells z.toArray (n*Enc.sz α)).toList[k]? =some (z.toArray[k%z.toArray.size]!):=by simp [madeCells,hk]
  rw [this,getElem!_pos (c:=z.toArray) (i:=k%z.toArray.size) hmk]
  subst hz
  simp [cellsOf]
 ·rw [encL_out _ _ (by simpa using hk),List.getElem?_eq_none (by simp [size_madeCells];omega)]
theorem x_make {d:Nat}{T e:TypeId}{gg:Bool}{sz by_ n:Nat}{z:List Value}{x y:Operand}(x0:α)(h:St N K W a w F L)(hT:slI P T=some e)(he:tyI P e=some (gg,sz,by_,z))(ho:o.op= .makeSlice T x y)(hx:ev F x=some (.int .i64 (n:Int)))(hy:ev F y=some (.int .i64 (n:Int)))
  (hz:z=cellsOf x0) (hsz:Enc.sz α=sz) (hn:by_*n≤140737488355328∧n≤140737488355328) (hin:∀w,Enc.inner x0 w) (hon:∀b,¬Enc.on x0 b) (hd:o.dst=some d) (hdN:Nat.blt d N=true):
  Ex P o a w (fun a' w' =>∃v:Value,St N K W a' w' ((d,v)::F) (.own e (⟨v,List.replicate n x0⟩:Ls α)::L)):=by
 subst hsz
 obtain ⟨i,ed,zv,hi,hed,_,hsz,hby,hzz,hzc⟩:=tyI_parts he
 obtain ⟨w1,hrun,hown,hgr⟩:=run_make_full w 0 T e i zv (Enc.sz α) (slI_parts hT) hi hzz hsz .i64 .i64 n (by rw [hby];omega) (by unfold maxLen;omega) (Nat.zero_le _)
 have hzz:zv.cells=z.toArray:=by rw [←hzc]
 rw [hzz,made_eq z x0 n hz] at hown
 refine Ex.of_run (v:= .slice (some ⟨w.heap.size,0,none⟩) n n) (w' :=w1) ?_ ⟨.slice (some ⟨w.heap.size,0,none⟩) n n, ?_⟩
 ·unfold execOp
  simp only [ho,h.fr.ev hx,h.fr.ev hy,Sem.run_bind,hrun,Result.andThen_ok,Sem.run_pure]
 ·rw [hd]
  refine ⟨h.fr.put d (by simpa [Nat.blt_eq] using hdN) _,h.sh.push (Chg.grown hgr (by simp)) ⟨by simpa using hown,by simpa using hn.2,fun q hq=> ?_⟩ (fun b hb=> ?_) (fun b hb=> ?_) (fun b _ hb=> ?_)⟩
  ·have hq' :q<n:=by simpa using hq
   have:nth (List.replicate n x0) q=x0:=by simp [nth,hq']
   rw [this];exact hin _
  ·have:w.heap.size=b:=by simpa [Asn.own,Value.ownBlock] using hb
   omega
  all_goals
   obtain ⟨q,hq,hb⟩:=hb
   have hq' :q<n:=by simpa using hq
   have:nth (List.replicate n x0) q=x0:=by simp [nth,hq']
   simp only [this] at hb
   exact (hon b hb).elim
theorem x_lit {d:Nat}{T e:TypeId}{gg:Bool}{sz by_ n:Nat}{z:List Value}{parts:List (Nat×Operand)}{pv:List (Nat×Value)}{cs:List Value}(l:List α)(h:St N K W a w F L)(hT:slI P T=some e)(he:tyI P e=some (gg,sz,by_,z))(ho:o.op= .buildSlice T n parts.toArray)
  (hn:l.length=n) (hsz:Enc.sz α=sz) (hpos:0<n*sz∧n*sz≤1000) (hx:evp F parts=some pv)
  (hf:Instr.fill (fun i=>some (i*sz,sz)) ((Array.range (n*sz)).map (z.toArray[· %z.toArray.size]!)) pv=some cs.toArray) (hcs:cs=encL l)
  (hin:∀q,q<l.length→∀w,Sh K W w L→Enc.inner (nth l q) w) (hon:∀q,q<l.length→∀b,Enc.on (nth l q) b→∃B∈L,B.rd b) (hd:o.dst=some d) (hdN:Nat.blt d N=true):
  Ex P o a w (fun a' w' =>∃v:Value,St N K W a' w' ((d,v)::F) (.own e (⟨v,l⟩:Ls α)::L)):=by
 subst hsz
 subst hn
 obtain ⟨i,ed,zv,hi,hed,_,hsz,hby,hzz,hzc⟩:=tyI_parts he
 have hzv:zv.cells=z.toArray:=by rw [←hzc]
 have hsp:0<Enc.sz α:=Nat.pos_of_ne_zero (by rintro e;simp [e] at hpos)
 have hl1:l.length≤1000:=Nat.le_trans (Nat.le_mul_of_pos_right l.length hsp) hpos.2
 have hrun:=run_buildSlice (P:=P) w T e l.length (parts.toArray.map fun (i,x)=>(i,a.eval x)) cs.toArray i zv (slI_parts hT) hi hzz (by rw [hsz];omega) (by rw [hsz];omega) (by rw [hsz,hzv,h.fr.evp hx];exact hf)
 refine Ex.of_run (v:= .slice (some ⟨w.heap.size,0,none⟩) l.length l.length) (w' :=w.alloc (.cells cs.toArray e)) ?_ ⟨.slice (some ⟨w.heap.size,0,none⟩) l.length l.length, ?_⟩
 ·unfold execOp
  simp only [ho,Sem.run_bind,hrun,Result.andThen_ok,Sem.run_pure]
 ·rw [hd]
  have hold:∀q,q<l.length→∀b,Enc.on (nth l q) b→b<w.heap.size:=fun q hq b hb=>Enc.lt _ w (hin q hq w h.sh) b hb
  refine ⟨h.fr.put d (by simpa [Nat.blt_eq] using hdN) _,h.sh.push (Chg.alloc _ w _) ⟨⟨by rw [length_encL], .inr ⟨w.heap.size,l.length,cs.toArray,rfl,Nat.zero_le _,Go.heap_alloc_new w _,Nat.le_refl _,by unfold maxLen;omega, ?_, ?_⟩⟩,by show l.length≤_;omega,fun q hq=> ?_⟩ (fun b hb=> ?_) (fun b hb=> ?_) (fun b hb hb' => ?_)⟩
  ·simp [hcs,length_encL]
  ·simp only [hcs];rw [List.take_of_length_le (by rw [length_encL];exact Nat.le_refl _)]
  ·exact Enc.keep _ w _ (hin q hq w h.sh) fun b hb=>Below.heap_alloc w _ b (hold q hq b hb)
  ·have:w.heap.size=b:=by simpa [Asn.own,Value.ownBlock] using hb
   omega
  ·obtain ⟨q,hq,hb⟩:=hb
   exact .inl (hon q hq b hb)
  ·have:w.heap.size=b:=by simpa [Asn.own,Value.ownBlock] using hb
   obtain ⟨q,hq,hb'⟩:=hb'
   have:=hold q hq b hb'
   omega
theorem x_lit0 {d:Nat}{T e:TypeId}{gg:Bool}{sz by_:Nat}{z:List Value}(h:St N K W a w F L)(hT:slI P T=some e)(he:tyI P e=some (gg,sz,by_,z))(ho:o.op= .buildSlice T 0 #[])(hd:o.dst=some d)(hdN:Nat.blt d N=true):
  Ex P o a w (fun a' w' =>∃v:Value,St N K W a' w' ((d,v)::F) (.own e (⟨v, []⟩:Ls α)::L)):=by
 obtain ⟨i,ed,zv,hi,hed,_,hsz,hby,hzz,hzc⟩:=tyI_parts he
 refine Ex.of_run (v:= .slice (some ⟨w.heap.size,0,none⟩) 0 0) (w' :=w.alloc (.cells #[] e)) ?_ ⟨.slice (some ⟨w.heap.size,0,none⟩) 0 0, ?_⟩
 ·unfold execOp
  simp [ho,Instr.buildSlice,run_underlying (slI_parts hT),run_sizeOf hi,Instr.fill,newRow,Array.range_zero']
  try rfl
 ·rw [hd]
  refine ⟨h.fr.put d (by simpa [Nat.blt_eq] using hdN) _,h.sh.push (Chg.alloc _ w _) ⟨⟨by simp [encL], .inr ⟨w.heap.size,0, #[],rfl,Nat.zero_le _,Go.heap_alloc_new w _,Nat.le_refl _,by unfold maxLen;omega,by simp,by simp [encL]⟩⟩,Nat.zero_le _,fun q hq=>absurd hq (by simp)⟩ (fun b hb=> ?_) (fun b hb=> ?_) (fun b hb hb' => ?_)⟩
  ·have:w.heap.size=b:=by simpa [Asn.own,Value.ownBlock] using hb
   omega
  ·obtain ⟨q,hq,_⟩:=hb;exact absurd hq (by simp)
  ·obtain ⟨q,hq,_⟩:=hb';exact absurd hq (by simp)
theorem Sh.nil (E:TypeId)(h:Sh K W w L):Sh K W w (.own E (⟨.slice none 0 0, []⟩:Ls α)::L):=
 h.push (Chg.refl _ _) ⟨World.ownsRow_nil w 0 E (Enc.sz α),Nat.zero_le _,fun i hi=>absurd hi (by simp)⟩ (fun b hb=>by simp [Asn.own,Value.ownBlock] at hb) (fun b hb=>by obtain ⟨i,hi,_⟩:=hb;exact absurd hi (by simp)) (fun b hb=>by simp [Asn.own,Value.ownBlock] at hb)
theorem St.nil {α:Type}[Enc α](E:TypeId)(h:St N K W a w F L):St N K W a w F (.own E (⟨.slice none 0 0, []⟩:Ls α)::L):=⟨h.fr,h.sh.nil E⟩
class One (α:Type)[Enc α]:Prop where
 one:∀(x:α) (w:World),Enc.inner x w→∀q,q<Enc.sz α→(Enc.cell x q).oneCell' =true
instance : One Int:=⟨fun _ _ _ _ _=>rfl⟩
instance : One Bool:=⟨fun _ _ _ _ _=>rfl⟩
instance : One Ins:=⟨fun x _ _ q _=>by match q with|0=>rfl|1=>rfl|2=>rfl|_+3=>rfl⟩
theorem Ls.At.one {s:Ls α}{w:World}(h:s.At w):s.v.oneCell' =true:=by
 obtain ⟨A,n,c,hv⟩:=h.form
 rw [hv];rfl
instance {β:Type}[Enc β]:One (Ls β):=⟨fun x w h q _=>Ls.At.one (s:=x) h⟩
theorem cells_one {v:Value}(h:v.oneCell' =true):v.cells= #[v]:=by cases v<;>first|rfl|cases h
theorem cells_oneL {v:Value}(h:v.oneCell' =true):v.cells.toList= [v]:=by rw [cells_one h]
theorem allOne_cons {v:Value}{vs:List Value}(h:v.oneCell' =true)(hs:vs.all (·.oneCell')=true):(v::vs).all (·.oneCell')=true:=by simp only [List.all_cons,h,hs,Bool.and_self]
theorem allOne_nil :([]:List Value).all (·.oneCell')=true:=rfl
theorem x_app {d:Nat}{T e:TypeId}{gg:Bool}{sz by_ r rm:Nat}{z:List Value}{x y:Operand}{s m:Ls α}{B:Asn}{E:TypeId}(h:St N K W a w F L)(hT:slI P T=some e)(he:tyI P e=some (gg,sz,by_,z))(ho:o.op= .call ⟨.builtin .append, #[x,y], #[T,T]⟩)
  (hx:ev F x=some s.v) (hy:ev F y=some m.v) (hr:L[r]? =some (.own E s)) (hE:E=e) (hrm:L[rm]? =some B) (hne:Nat.beq r rm=false) (hat:∀w,Sh K W w L→m.At w) (hon:∀b,m.on b→B.fp b∨B.rd b) (hoi:∀q,q<m.l.length→∀b,Enc.on (nth m.l q) b→B.rd b)
  (hsz:Enc.sz α=sz) (hpos:Nat.blt 0 sz=true) (hzl:z.length=sz) (h1:One α) (hn:(s.l.length+m.l.length)*by_≤140737488355328∧s.l.length+m.l.length≤140737488355328) (hd:o.dst=some d) (hdN:Nat.blt d N=true):
  Ex P o a w (fun a' w' =>∃v:Value,St N K W a' w' ((d,v)::F) (L.set r (.own E ⟨v,s.l++m.l⟩))):=by
 subst hsz
 subst hE
 obtain ⟨i,ed,zv,hi,hed,_,hsz,hby,hzz,hzc⟩:=tyI_parts he
 have hsp:0<Enc.sz α:=by simpa [Nat.blt_eq] using hpos
 obtain ⟨hown,hlen,hinn⟩:=h.sh.ok _ (List.mem_of_getElem? hr)
 have hself:=h.sh.self _ (List.mem_of_getElem? hr)
 have hmat:=hat w h.sh
 have hu:=slI_parts hT
 have hap:(Asn.own E s).Apart B:=by
  obtain ⟨l1,e1⟩:=List.getElem?_eq_some_iff.1 hr
  obtain ⟨l2,e2⟩:=List.getElem?_eq_some_iff.1 hrm
  have hne' :r≠rm:=by rintro rfl;simp at hne
  have hpw:=List.pairwise_iff_getElem.1 h.sh.apart
  rw [←e1,←e2]
  rcases Nat.lt_or_gt_of_ne hne' with hlt|hgt
  ·exact hpw r rm l1 l2 hlt
  ·exact (hpw rm r l2 l1 hgt).symm
 have hzsz:zv.cells.size=Enc.sz α:=by rw [←Array.length_toList,hzc,hzl]
 have key:∃v' w',(Builtin.append_ #[T,T] o.type #[s.v,m.v]).run P w= .ok v' w' ∧w'.ownsRow 0 E (Enc.sz α) v' (s.l.length+m.l.length) (encL s.l++encL m.l)∧w.grownBy w' s.v.ownBlock∧(∀b,v'.ownBlock=some b→s.v.ownBlock=some b∨w.heap.size≤b):=by
  obtain ⟨A,cap,hmv,hmA⟩:=hmat
  cases A with
  |none=>
   have hm0:m.l.length=0:=by
    rcases Nat.eq_zero_or_pos m.l.length with h0|h0
    ·exact h0
    ·obtain ⟨b,hb,_⟩:=hmA.some h0;cases hb
   have hml:m.l= []:=List.eq_nil_of_length_eq_zero hm0
   refine ⟨s.v,w, ?_,by rw [hm0,hml,encL_nil,List.append_nil];exact hown,⟨rfl,rfl,rfl,Nat.le_refl _,fun _ _ _=>rfl⟩,fun b hb=> .inl hb⟩
   rw [hmv,hm0]
   rcases hown.2 with ⟨hv,h0⟩|⟨g,c2,cur,hv,_,_,hnc,_⟩
   ·rw [hv];simp [Builtin.append_,run_underlying hu,sizeOf,typeInfo,hi,Builtin.lenOf,Builtin.firstCells]
   ·rw [hv];simp [Builtin.append_,run_underlying hu,sizeOf,typeInfo,hi,Builtin.lenOf,Builtin.firstCells,hnc,storeCells]
  |some ad=>
   have hnews:∀(j:Nat) (u:Value),(encL m.l)[j]? =some u→w.cell? (ad.add j)=some u:=by
    intro j u hj
    have hjl:j<m.l.length*Enc.sz α:=by
     have:=(List.getElem?_eq_some_iff.1 hj).1
     rwa [length_encL] at this
    have hq:j/Enc.sz α<m.l.length:=(Nat.div_lt_iff_lt_mul hsp).2 hjl
    have hq2:j%Enc.sz α<Enc.sz α:=Nat.mod_lt _ hsp
    have hkk:j=(j/Enc.sz α)*Enc.sz α+j%Enc.sz α:=by rw [Nat.mul_comm];exact (Nat.div_add_mod _ _).symm
    obtain ⟨b,hb,hbs⟩:=hmA.some (Nat.lt_of_le_of_lt (Nat.zero_le _) hq)
    simp only [Option.some.injEq] at hb
    subst hb
    have h2:=encL_at m.l (j/Enc.sz α) (j%Enc.sz α) hq hq2
    rw [←hkk,hj] at h2
    have h3:=hmA.cell (j/Enc.sz α) (j%Enc.sz α) hq hq2
    rw [←h2] at h3
    obtain ⟨blk,off,sp⟩:=ad
    simp only at hbs
    subst hbs
    rw [Addr.add_lit]
    have e:(⟨some ⟨blk,off,none⟩,cap,m.l⟩:Sl α).adr (Enc.sz α) (j/Enc.sz α) (j%Enc.sz α)=⟨blk,off+j,none⟩:=by
     have:off+(j/Enc.sz α)*Enc.sz α+j%Enc.sz α=off+j:=by rw [Nat.add_assoc,←hkk]
     simp [Sl.adr,this]
    rw [←e];exact h3
   have h1c:∀u∈encL m.l,u.oneCell' =true:=by
    intro u hu
    obtain ⟨x,hxm,hx⟩:=List.mem_flatMap.1 hu
    obtain ⟨q,hq,rfl⟩:=List.mem_map.1 hx
    obtain ⟨qi,hqi⟩:=List.getElem?_of_mem hxm
    have hql:=(List.getElem?_eq_some_iff.1 hqi).1
    have hqx:nth m.l qi=x:=by rw [nth_lt _ _ hql];exact (List.getElem?_eq_some_iff.1 hqi).2
    exact h1.one x w (by rw [←hqx];exact hmA.inner qi hql) q (by simpa using hq)
   have h63:s.l.length+m.l.length≤maxLen:=by unfold maxLen;omega
   have hlm:(encL m.l).length=m.l.length*Enc.sz α:=length_encL _
   obtain ⟨v',w',hrun,ho',hg',_⟩:=run_append_own (P:=P) w 0 T o.type E i zv (Enc.sz α) by_ hu hi hzz hsz hby hzsz hsp s.v s.l.length (encL s.l) hown ad m.l.length cap (encL m.l) hlm hnews h1c h63 hn.1 (Nat.zero_le _)
   refine ⟨v',w',by rw [hmv];exact hrun,ho',hg',fun b hb=> ?_⟩
   rcases hown.2 with ⟨hv,h0⟩|⟨g,c2,cur,hv,_,hgc,hnc,hcm,hcs,htk⟩
   ·have hown2:w.ownsRow w.heap.size E (Enc.sz α) s.v s.l.length (encL s.l):=⟨hown.1, .inl ⟨hv,h0⟩⟩
    obtain ⟨v2,w2,hrun2,ho2,_⟩:=run_append_own (P:=P) w w.heap.size T o.type E i zv (Enc.sz α) by_ hu hi hzz hsz hby hzsz hsp s.v s.l.length (encL s.l) hown2 ad m.l.length cap (encL m.l) hlm hnews h1c h63 hn.1 (Nat.le_refl _)
    rw [hrun] at hrun2
    injection hrun2 with e1 e2
    subst e1
    exact .inr (ho2.lt b hb).1
   ·by_cases hroom:s.l.length+m.l.length≤c2
    ·have hr2:=run_append_room (P:=P) w T o.type E i hu hi g s.l.length c2 cur hgc ad m.l.length cap (encL m.l) (by rw [hlm,hsz]) hnews h1c hroom (by rw [hlm,hsz,hcs,←Nat.add_mul];exact Nat.mul_le_mul_right _ hroom)
     rw [hv,hr2] at hrun
     injection hrun with e1 e2
     subst e1
     left;rw [hv];exact hb
    ·have holds:∀(j:Nat) (u:Value),(encL s.l)[j]? =some u→w.cell? ((⟨g,0,none⟩:Addr).add j)=some u:=hown.cells (g:=g) (by rw [hv];rfl)
     have hr2:=run_append_grow (P:=P) w T o.type E i zv hu hi hzz ⟨g,0,none⟩ s.l.length c2 (encL s.l) (by rw [length_encL,hsz]) holds ad m.l.length cap (encL m.l) (by rw [hlm,hsz]) hnews (by omega) (by unfold maxLen at h63;omega) (growslice_fits (by omega) (by rw [hby];exact hn.1))
     rw [hv,hr2] at hrun
     injection hrun with e1 e2
     subst e1
     right
     have:w.heap.size=b:=by simpa [Value.ownBlock] using hb
     omega
 obtain ⟨v',w',hrun,ho',hg',hv'⟩:=key
 refine Ex.of_run (v:=v') (w' :=w') ?_ ⟨v', ?_⟩
 ·unfold execOp
  simp only [ho,resolve,invoke,builtin,Sem.run_bind,Sem.run_pure,Result.andThen_ok,List.map_toArray,List.map_cons,List.map_nil,h.fr.ev hx,h.fr.ev hy,hrun]
 ·rw [hd]
  have hmin:∀q,q<m.l.length→Enc.inner (nth m.l q) w' :=fun q hq=>Enc.keep _ w w' (hmat.inner q hq) fun b hb=>by
   have hbr:=hoi q hq b hb
   refine hg'.block b (h.sh.lt (List.mem_of_getElem? hrm) (.inr hbr)) (fun e=> ?_)
   exact ((hap b).1 e.symm).2 hbr
  have hsin:∀q,q<s.l.length→Enc.inner (nth s.l q) w' :=fun q hq=>Enc.keep _ w w' (hinn q hq) fun b hb=>by
   refine hg'.block b (h.sh.lt (List.mem_of_getElem? hr) (.inr ⟨q,hq,hb⟩)) (fun e=> ?_)
   exact hself b e.symm ⟨q,hq,hb⟩
  have honq:∀b,(∃q,q<(s.l++m.l).length∧Enc.on (nth (s.l++m.l) q) b)→(Asn.own E s).rd b∨B.rd b:=by
   rintro b ⟨q,hq,hb⟩
   rw [nth_append] at hb
   split at hb
   ·exact .inl ⟨q,by assumption,hb⟩
   ·exact .inr (hoi _ (by rw [List.length_append] at hq;omega) b hb)
  refine ⟨h.fr.put d (by simpa [Nat.blt_eq] using hdN) _,h.sh.put hr (Chg.grown hg' (fun k hk=>hk)) ⟨?_, ?_,fun q hq=> ?_⟩ (fun b hb=>hv' b hb) (fun b hb=> ?_) (fun b hb hb' => ?_)⟩
  ·show World.ownsRow _ 0 E _ v' (s.l++m.l).length (encL (s.l++m.l))
   rw [List.length_append,encL_append];exact ho'
  ·show (s.l++m.l).length≤_
   rw [List.length_append];exact hn.2
  ·show Enc.inner (nth (s.l++m.l) q) w'
   rw [nth_append]
   have hq' :q<s.l.length+m.l.length:=by rw [←List.length_append];exact hq
   split
   ·exact hsin q (by assumption)
   ·exact hmin _ (by omega)
  ·rcases honq b hb with hb|hb
   ·exact .inr (.inl hb)
   ·exact .inr (.inr (.inl ⟨B,List.mem_of_getElem? hrm,hb⟩))
  ·rcases honq b hb' with hr' |hr'
   ·rcases hv' b hb with hb|hb
    ·exact hself b hb hr'
    ·have:=h.sh.lt (List.mem_of_getElem? hr) (.inr hr');omega
   ·rcases hv' b hb with hb|hb
    ·exact ((hap b).1 hb).2 hr'
    ·have:=h.sh.lt (List.mem_of_getElem? hrm) (.inr hr');omega
end
def Asn.deep {α:Type}[Enc α](E:TypeId)(s:Ls α):Asn where
 fp b:=s.v.ownBlock=some b∨∃i,i<s.l.length∧Enc.on (nth s.l i) b
 rd _:=False
 ok w:=w.ownsRow 0 E (Enc.sz α) s.v s.l.length (encL s.l)∧s.l.length≤140737488355328∧(∀i,i<s.l.length→Enc.inner (nth s.l i) w)∧∀b,s.v.ownBlock=some b→¬∃i,i<s.l.length∧Enc.on (nth s.l i) b
 keep w w' h hb:=by
  obtain ⟨h1,h2,h3,h4⟩:=h
  refine ⟨⟨h1.1, ?_⟩,h2,fun i hi=>Enc.keep _ w w' (h3 i hi) fun b hb' =>hb b (.inl (.inr ⟨i,hi,hb'⟩)),h4⟩
  rcases h1.2 with hn|⟨g,cap,cur,hv,h0,hg,hr⟩
  ·exact .inl hn
  ·exact .inr ⟨g,cap,cur,hv,h0,(hb g (.inl (.inl (by rw [hv];rfl)))).trans hg,hr⟩
 lt w h b hb:=by
  obtain ⟨h1,h2,h3,_⟩:=h
  rcases hb with (hb|⟨i,hi,hb⟩)|hb
  ·exact (h1.lt b hb).2
  ·exact Enc.lt _ w (h3 i hi) b hb
  ·exact hb.elim
section
variable {α:Type}[Enc α]
theorem deep_at {E:TypeId}{s:Ls α}(h:(Asn.deep E s).ok w):s.At w:=own_at ⟨h.1,h.2.1,h.2.2.1⟩
theorem Sh.deep (h:Sh K W w L)(i:Nat){E:TypeId}{s:Ls α}(hi:L[i]? =some (.deep E s)):s.At w:=deep_at (h.ok _ (List.mem_of_getElem? hi))
theorem Sh.nilDeep (E:TypeId)(h:Sh K W w L):Sh K W w (.deep E (⟨.slice none 0 0, []⟩:Ls α)::L):=
 h.push (Chg.refl _ _) ⟨World.ownsRow_nil w 0 E (Enc.sz α),Nat.zero_le _,fun i hi=>absurd hi (by simp),fun b hb=>by simp [Value.ownBlock] at hb⟩ (fun b hb=>by rcases hb with hb|⟨i,hi,_⟩;(simp [Value.ownBlock] at hb);exact absurd hi (by simp)) (fun b hb=>hb.elim) (fun b _ hb=>hb)
theorem St.nilDeep {α:Type}[Enc α](E:TypeId)(h:St N K W a w F L):St N K W a w F (.deep E (⟨.slice none 0 0, []⟩:Ls α)::L):=⟨h.fr,h.sh.nilDeep E⟩
theorem x_litD {d:Nat}{T e:TypeId}{gg:Bool}{by_:Nat}{z:List Value}{y:Operand}{E:TypeId}{x:Ls α}{A:Asn}(h:St N K W a w F (A::L))(hT:slI P T=some e)(he:tyI P e=some (gg,1,by_,z))(hzl:z.length=1)(ho:o.op= .buildSlice T 1 #[(0,y)])
  (hy:ev F y=some x.v) (hat:x.At w) (hon:∀b,x.on b→A.fp b) (hard:∀b,¬A.rd b) (hd:o.dst=some d) (hdN:Nat.blt d N=true):
  Ex P o a w (fun a' w' =>∃v:Value,St N K W a' w' ((d,v)::F) (.deep e (⟨v, [x]⟩:Ls (Ls α))::L)):=by
 obtain ⟨i,ed,zv,hi,hed,_,hsz,hby,hzz,hzc⟩:=tyI_parts he
 have hzv:zv.cells=z.toArray:=by rw [←hzc]
 have hf:Instr.fill (fun i_1=>some (i_1*i.size,i.size)) ((Array.range (1*i.size)).map (zv.cells[· %zv.cells.size]!)) (#[(0,y)].map fun (i,x)=>(i,a.eval x)).toList=some #[x.v]:=by
  rw [hsz]
  simp [Instr.fill,h.fr.ev hy,cells_one hat.one,Array.range_succ,Array.range_zero']
 have hrun:=run_buildSlice (P:=P) w T e 1 _ #[x.v] i zv (slI_parts hT) hi hzz (by rw [hsz];omega) (by rw [hsz];omega) hf
 refine Ex.of_run (v:= .slice (some ⟨w.heap.size,0,none⟩) 1 1) (w' :=w.alloc (.cells #[x.v] e)) ?_ ⟨.slice (some ⟨w.heap.size,0,none⟩) 1 1, ?_⟩
 ·unfold execOp
  simp only [ho,Sem.run_bind,hrun,Result.andThen_ok,Sem.run_pure]
 ·rw [hd]
  have hlt:∀b,x.on b→b<w.heap.size:=fun b hb=>hat.lt hb
  have honx:∀b,(∃q,q< [x].length∧Enc.on (nth [x] q) b)→x.on b:=by
   rintro b ⟨q,hq,hb⟩
   obtain rfl:q=0:=by simpa using hq
   exact hb
  refine ⟨h.fr.put d (by simpa [Nat.blt_eq] using hdN) _,Sh.step (Lp:= [A]) (L' := [.deep e ⟨.slice (some ⟨w.heap.size,0,none⟩) 1 1, [x]⟩]) h.sh (Chg.alloc _ w _) ?_ ?_ (by simp [Asn.deep]) (by simp [Asn.deep]) (List.pairwise_singleton _ _)⟩
  ·intro B hB
   simp only [List.mem_singleton] at hB
   subst hB
   refine ⟨⟨rfl, .inr ⟨w.heap.size,1, #[x.v],rfl,Nat.zero_le _,Go.heap_alloc_new w _,Nat.le_refl _,by unfold maxLen;omega,rfl,rfl⟩⟩,by show 1≤_;omega,fun q hq=> ?_,fun b hb hb' => ?_⟩
   ·obtain rfl:q=0:=by simpa using hq
    exact hat.keep fun b hb=>Below.heap_alloc w _ b (hlt b hb)
   ·have h1:w.heap.size=b:=by simpa [Value.ownBlock] using hb
    have:=hlt b (honx b hb')
    omega
  ·intro B hB b hb
   simp only [List.mem_singleton] at hB
   subst hB
   rcases hb with hb|hb
   ·have h1:w.heap.size=b:=by simpa [Value.ownBlock] using hb
    right;omega
   ·exact .inl ⟨A,by simp,hon b (honx b hb)⟩
theorem x_appD {d:Nat}{T e:TypeId}{gg:Bool}{sz by_:Nat}{z:List Value}{x y:Operand}{s m:Ls α}{E:TypeId}(h:St N K W a w F (.deep E s:: .deep e m::L))(hT:slI P T=some e)(he:tyI P e=some (gg,sz,by_,z))(ho:o.op= .call ⟨.builtin .append, #[x,y], #[T,T]⟩)
  (hx:ev F x=some s.v) (hy:ev F y=some m.v) (hE:E=e) (hsz:Enc.sz α=sz) (hpos:Nat.blt 0 sz=true) (hzl:z.length=sz) (h1:One α) (hn:(s.l.length+m.l.length)*by_≤140737488355328∧s.l.length+m.l.length≤140737488355328) (hd:o.dst=some d) (hdN:Nat.blt d N=true):
  Ex P o a w (fun a' w' =>∃v:Value,St N K W a' w' ((d,v)::F) (.deep E (⟨v,s.l++m.l⟩:Ls α)::L)):=by
 have hs:=h.sh
 have hsd:=hs.ok (.deep E s) (by simp)
 have hmd:=hs.ok (.deep e m) (by simp)
 have hpw:=List.pairwise_cons.1 hs.apart
 have hpw2:=List.pairwise_cons.1 hpw.2
 have hap:=hpw.1 (.deep e m) (by simp)
 let As:Asn:=⟨fun _=>False,fun b=>∃i,i<s.l.length∧Enc.on (nth s.l i) b,fun w=>∀i,i<s.l.length→Enc.inner (nth s.l i) w,fun w w' h hb i hi=>Enc.keep _ w w' (h i hi) fun b hb' =>hb b (.inr ⟨i,hi,hb'⟩),fun w h b hb=>hb.elim (fun h=>h.elim) fun ⟨i,hi,hb⟩=>Enc.lt _ w (h i hi) b hb⟩
 have hopen:Sh K W w (.own E s:: .own e m::L):=by
  refine Sh.step (Lp:= [.deep E s, .deep e m]) (L' := [.own E s, .own e m]) hs (Chg.refl _ _) ?_ ?_ ?_ ?_ ?_
  ·intro A hA
   simp only [List.mem_cons,List.not_mem_nil,or_false] at hA
   rcases hA with rfl|rfl
   ·exact ⟨hsd.1,hsd.2.1,hsd.2.2.1⟩
   ·exact ⟨hmd.1,hmd.2.1,hmd.2.2.1⟩
  ·intro A hA b hb
   simp only [List.mem_cons,List.not_mem_nil,or_false] at hA
   rcases hA with rfl|rfl
   ·exact .inl ⟨.deep E s,by simp,Or.inl hb⟩
   ·exact .inl ⟨.deep e m,by simp,Or.inl hb⟩
  ·intro A hA b hb
   simp only [List.mem_cons,List.not_mem_nil,or_false] at hA
   rcases hA with rfl|rfl
   ·exact .inl ⟨.deep E s,by simp, .inl (.inr hb)⟩
   ·exact .inl ⟨.deep e m,by simp, .inl (.inr hb)⟩
  ·intro A hA b hb hb'
   simp only [List.mem_cons,List.not_mem_nil,or_false] at hA
   rcases hA with rfl|rfl
   ·exact hsd.2.2.2 b hb hb'
   ·exact hmd.2.2.2 b hb hb'
  ·refine List.pairwise_cons.2 ⟨fun B hB b=> ?_,List.pairwise_singleton _ _⟩
   simp only [List.mem_singleton] at hB
   subst hB
   exact ⟨fun hb=>⟨fun hb' =>((hap b).1 (.inl hb)).1 (.inl hb'),fun hb' =>((hap b).1 (.inl hb)).1 (.inr hb')⟩,fun hb hb' =>((hap b).1 (.inr hb')).1 (.inl hb)⟩
 have hx' :=x_app (r:=0) (rm:=1) (s:=s) (m:=m) (E:=E) (⟨h.fr,hopen⟩:St N K W a w F _) hT he ho hx hy rfl hE rfl rfl (fun w h=>h.own 1 rfl) (fun b hb=>own_on (hopen.ok (.own e m) (by simp)) hb) (fun q hq b hb=>⟨q,hq,hb⟩) hsz hpos hzl h1 hn hd hdN
 intro next Q hnx
 refine hx' next Q fun a' w' ⟨v,hst⟩=>hnx a' w' ⟨v,hst.fr, ?_⟩
 have hp:=List.pairwise_cons.1 hst.sh.apart
 have hp2:=List.pairwise_cons.1 hp.2
 have hself:=hst.sh.self (.own E ⟨v,s.l++m.l⟩) (by simp)
 have honq:∀b,(∃q,q<(s.l++m.l).length∧Enc.on (nth (s.l++m.l) q) b)→(Asn.deep E s).fp b∨(Asn.deep e m).fp b:=by
  rintro b ⟨q,hq,hb⟩
  rw [nth_append] at hb
  split at hb
  ·exact .inl (.inr ⟨q,by assumption,hb⟩)
  ·exact .inr (.inr ⟨_,by rw [List.length_append] at hq;omega,hb⟩)
 refine ⟨hst.sh.chg, ?_, ?_, ?_,List.pairwise_cons.2 ⟨?_,hp2.2⟩⟩
 ·intro A hA
  rcases List.mem_cons.1 hA with rfl|hA
  ·have ho' :=hst.sh.ok (.own E ⟨v,s.l++m.l⟩) (by simp)
   exact ⟨ho'.1,ho'.2.1,ho'.2.2,fun b hb hb' =>hself b hb hb'⟩
  ·exact hst.sh.ok A (by simp [hA])
 ·intro A hA b hb
  rcases List.mem_cons.1 hA with rfl|hA
  ·rcases hb with hb|hb
   ·exact hst.sh.mine (.own E ⟨v,s.l++m.l⟩) (by simp) b hb
   ·rcases honq b hb with hb|hb
    ·exact hs.mine _ (by simp) b hb
    ·exact hs.mine (.deep e m) (by simp) b hb
  ·exact hst.sh.mine A (by simp [hA]) b hb
 ·intro A hA b hb
  rcases List.mem_cons.1 hA with rfl|hA
  ·exact fun h=>h
  ·exact hst.sh.self A (by simp [hA]) b hb
 ·intro B hB b
  have a1:=hp.1 B (by simp [hB]) b
  have a2:=hpw.1 B (by simp [hB]) b
  have a3:=hpw2.1 B hB b
  refine ⟨fun hb=> ?_,fun hb h=>h⟩
  rcases hb with hb|hb
  ·exact a1.1 hb
  ·rcases honq b hb with hb|hb
   ·exact a2.1 hb
   ·exact a3.1 hb
end
theorem r_build {T:TypeId}{parts:List (Nat×Operand)}{pv:List (Nat×Value)}{cs:List Value}(ho:o.op= .build T parts.toArray)(hx:evp F parts=some pv)(hb:P.built T pv=some cs.toArray):Rn P o N K W F L (.agg cs.toArray):=fun a w h=>by
 have hrun:(Instr.build T (parts.toArray.map fun (i,x)=>(i,a.eval x))).run P w= .ok (.agg cs.toArray) w:=by
  exact run_build (P:=P) w T _ cs.toArray (by rw [h.fr.evp hx,hb])
 unfold execOp
 simp only [ho,Sem.run_bind,hrun,Result.andThen_ok,Sem.run_pure]
def nilB (v:Value):Bool:=match v with| .slice none _ _=>true|_=>false
theorem nilB_nil {α:Type}[Enc α]{s:Ls α}{w:World}(h:s.At w)(hn:nilB s.v=true):s.l= []:=by
 obtain ⟨A,cap,hv,hA⟩:=h
 rw [hv] at hn
 cases A with
 |some _=>cases hn
 |none=>
  rcases Nat.eq_zero_or_pos s.l.length with h0|h0
  ·exact List.eq_nil_of_length_eq_zero h0
  ·obtain ⟨b,hb,_⟩:=hA.some h0;cases hb
theorem r_eqnil {α:Type}[Enc α]{T U e:TypeId}{x y:Operand}{s:Ls α}(hT:slI P T=some e)(ho:o.op= .binOp .eql T x y U)(hx:ev F x=some s.v)(hy:ev F y=some (.slice none 0 0))(hat:∀w,Sh K W w L→s.At w):Rn P o N K W F L (.bool (nilB s.v)):=fun a w h=>by
 obtain ⟨A,n,c,hv⟩:=(hat w h.sh).form
 have e1:=h.fr.ev hx
 rw [hv] at e1⊢
 have hr:=Lib.run_eql_slice_nil w T e A n c 0 0 (slI_parts hT)
 unfold execOp
 simp only [ho,e1,h.fr.ev hy,eqGuard_at_slice,Sem.run_bind,Sem.run_pure,Result.andThen_ok,hr]
 cases A<;>rfl
theorem r_eqS {T U:TypeId}{x y:Operand}{u v:Value}{b:Bool}(ho:o.op= .binOp .eql T x y U)(hx:ev F x=some u)(hy:ev F y=some v)(hg:∀w,(eqGuard .eql T x y u v).run P w= .ok () w)(hb:∀w,(binOp .eql T u v).run P w= .ok (.bool b) w):Rn P o N K W F L (.bool b):=fun a w h=>by
 unfold execOp
 simp only [ho,h.fr.ev hx,h.fr.ev hy,Sem.run_bind,Sem.run_pure,Result.andThen_ok,hg,hb]
theorem bodyI_parts {f:FuncId}(h:bodyI P f=true):∃fn,P.funcs[f]? =some fn∧(fn.name== "runtime.NumGoroutine")=false∧fn.body.isNone=false:=by
 unfold bodyI at h
 split at h
 ·rename_i fn hf
  simp only [Bool.and_eq_true,Bool.not_eq_true'] at h
  exact ⟨fn,hf,h.1,by simpa using h.2⟩
 ·cases h
theorem run_callFunc {f:FuncId}(h:bodyI P f=true)(args:Array Value)(w:World):(callFunc f args).run P w= .ok (.enter f args) w:=by
 obtain ⟨fn,hf,h1,h2⟩:=bodyI_parts h
 simp only [callFunc,Sem.run_bind,run_program,Result.andThen_ok,hf,h1,h2,Bool.false_eq_true,if_false,Sem.run_pure]
def Rets (P:Program)(f:FuncId)(vs:List Value)(w:World)(R:Value→World→Prop):Prop:=Calls P f vs.toArray w fun e w' =>∃v,e= .returned v∧R v w'
theorem Rets.mono {f:FuncId}{vs:List Value}{R R' :Value→World→Prop}(h:Rets P f vs w R)(hr:∀v w',R v w' →R' v w'):Rets P f vs w R' :=Calls.mono h fun _ _ ⟨v,e,r⟩=>⟨v,e,hr v _ r⟩
theorem call_wp {f:FuncId}{fo:Operand}{xs:List Operand}{tys:Array TypeId}{us vs ws:List Value}{R:Value→World→Prop}(h:Fr N a F)(hb:bodyI P f=true)(ho:o.op= .call ⟨.value fo,xs.toArray,tys⟩)(hf:ev F fo=some (.func (.func f) us.toArray ws.toArray))
  (hx:evs F xs=some vs) (hc:Rets P f (us++vs++ws) w R):Ex P o a w (fun a' w' =>∃v,R v w' ∧a' =a.put o.dst v):=by
 intro next Q hn
 unfold Oper.wp
 have hrun:(execOp a.eval o).run P w= .ok (.enter f (us++vs++ws).toArray) w:=by
  unfold execOp
  simp [ho,resolve,h.ev hf,h.evs hx,Deferred.ofValue,invoke,run_callFunc hb]
 rw [hrun]
 show Calls P f (us++vs++ws).toArray w _
 exact Calls.mono hc fun e w' ⟨v,he,hr⟩=>by subst he;exact hn _ _ ⟨v,hr,rfl⟩
theorem x_call {d f:Nat}{fo:Operand}{xs:List Operand}{tys:Array TypeId}{us vs ws:List Value}{R:Value→World→Prop}(h:St N K W a w F L)(hb:bodyI P f=true)(ho:o.op= .call ⟨.value fo,xs.toArray,tys⟩)(hf:ev F fo=some (.func (.func f) us.toArray ws.toArray))
  (hx:evs F xs=some vs) (hd:o.dst=some d) (hdN:Nat.blt d N=true) (hc:Rets P f (us++vs++ws) w R):Ex P o a w (fun a' w' =>∃v,R v w' ∧Fr N a' ((d,v)::F)):=
 (call_wp h.fr hb ho hf hx hc).mono fun a' w' ⟨v,hr,e⟩=>⟨v,hr,by rw [e,hd];exact h.fr.put d (by simpa [Nat.blt_eq] using hdN) v⟩
theorem Sh.call {w' :World}(h:Sh K W w L)(h' :Sh0 w w' L')(hrd:∀A∈L',∀b,A.rd b→w.heap.size≤b∨∃B∈L,B.rd b):Sh K W w' (L' ++L):=
 Sh.step (Lp:= []) (Lr:=L) (L' :=L') h (h'.chg.mono fun _ h=>h.elim) h'.ok (fun A hA b hb=> .inr ((h'.mine A hA b hb).resolve_left (fun h=>h)))
  (fun A hA b hb=>(hrd A hA b hb).elim (fun h=> .inr (.inr h)) (fun h=> .inr (.inl h))) h'.self h'.apart
theorem Sh.call0 {w' :World}(h:Sh K W w L)(h' :Sh0 w w' []):Sh K W w' L:=h.call h' (by simp)
theorem Sh0.start (w:World):Sh0 w w []:=⟨Chg.refl _ _,by simp,by simp,by simp, .nil⟩
theorem Sh0.ext {w:World}{L:List Asn}(hok:∀A∈L,A.ok w)(hfp:∀A∈L,∀b,¬A.fp b):Sh0 w w L:=by
 refine ⟨Chg.refl _ _,hok,fun A hA b hb=>(hfp A hA b hb).elim,fun A hA b hb=>(hfp A hA b hb).elim, ?_⟩
 rw [List.pairwise_iff_getElem]
 intro i j hi hj _ b
 exact ⟨fun h=>(hfp _ (List.getElem_mem hi) b h).elim,fun h=>(hfp _ (List.getElem_mem hj) b h).elim⟩
section
variable {α β γ δ:Type}[Enc α][Enc β][Enc γ][Enc δ]{s:Ls α}{t:Ls β}{u:Ls γ}{v:Ls δ}{w:World}
theorem Sh0.ext1 (h1:s.At w):Sh0 w w [.at_ s]:=Sh0.ext (by intro A hA;simp at hA;subst hA;exact h1) (by intro A hA b hb;simp at hA;subst hA;exact hb)
theorem Sh0.ext2 (h1:s.At w)(h2:t.At w):Sh0 w w [.at_ s, .at_ t]:=Sh0.ext (by intro A hA;simp at hA;rcases hA with rfl|rfl;exact h1;exact h2) (by intro A hA b hb;simp at hA;rcases hA with rfl|rfl<;>exact hb)
theorem Sh0.ext3 (h1:s.At w)(h2:t.At w)(h3:u.At w):Sh0 w w [.at_ s, .at_ t, .at_ u]:=Sh0.ext (by intro A hA;simp at hA;rcases hA with rfl|rfl|rfl;exact h1;exact h2;exact h3) (by intro A hA b hb;simp at hA;rcases hA with rfl|rfl|rfl<;>exact hb)
theorem Sh0.ext4 (h1:s.At w)(h2:t.At w)(h3:u.At w)(h4:v.At w):Sh0 w w [.at_ s, .at_ t, .at_ u, .at_ v]:=Sh0.ext (by intro A hA;simp at hA;rcases hA with rfl|rfl|rfl|rfl;exact h1;exact h2;exact h3;exact h4) (by intro A hA b hb;simp at hA;rcases hA with rfl|rfl|rfl|rfl<;>exact hb)
end
class Flat (α:Type)[Enc α]:Prop where
 on:∀(x:α) (b:Nat),¬Enc.on x b
 inner:∀(x:α) (w:World),Enc.inner x w
instance : Flat Int:=⟨fun _ _ h=>h,fun _ _=>trivial⟩
instance : Flat Bool:=⟨fun _ _ h=>h,fun _ _=>trivial⟩
instance : Flat Ins:=⟨fun _ _ h=>h,fun _ _=>trivial⟩
theorem Flat.noRd {α:Type}[Enc α][Flat α]{E:TypeId}{s:Ls α}{X:Prop}{b:Nat}(h:(Asn.own E s).rd b):X:=by
 obtain ⟨i,_,hi⟩:=h
 exact (Flat.on _ _ hi).elim
class NoRd (A:Asn):Prop where
 no:∀b,¬A.rd b
instance {α:Type}[Enc α][Flat α]{E:TypeId}{s:Ls α} :NoRd (.own E s):=⟨fun _ h=>Flat.noRd h⟩
instance {g:Nat}{E:TypeId}{cs:List Value} :NoRd (.blk g E cs):=⟨fun _ h=>h⟩
instance {α:Type}[Enc α]{E:TypeId}{s:Ls α} :NoRd (.deep E s):=⟨fun _ h=>h⟩
class AllNo (L:List Asn):Prop where
 no:∀A∈L,∀b,¬A.rd b
instance : AllNo []:=⟨fun A hA=>(by cases hA)⟩
instance {A:Asn}{L:List Asn}[NoRd A][AllNo L]:AllNo (A::L):=⟨fun B hB b hb=>by
 rcases List.mem_cons.1 hB with rfl|hB
 ·exact NoRd.no b hb
 ·exact AllNo.no B hB b hb⟩
class MemA (A:Asn)(L:List Asn):Prop where
 mem:A∈L
instance {A:Asn}{L:List Asn} :MemA A (A::L):=⟨List.mem_cons_self ..⟩
instance {A B:Asn}{L:List Asn}[h:MemA A L]:MemA A (B::L):=⟨List.mem_cons_of_mem _ h.mem⟩
class RdIn (L' Lp:List Asn):Prop where
 sub:∀C∈L',∀b,C.rd b→∃B∈Lp,B.fp b∨B.rd b
instance {Lp:List Asn} :RdIn [] Lp:=⟨fun A hA=>(by cases hA)⟩
instance {A:Asn}{L Lp:List Asn}[h:MemA A Lp][RdIn L Lp]:RdIn (A::L) Lp:=⟨fun C hC b hb=>by
 rcases List.mem_cons.1 hC with rfl|hC
 ·exact ⟨_,h.mem, .inr hb⟩
 ·exact RdIn.sub C hC b hb⟩
instance {A:Asn}{L Lp:List Asn}[NoRd A][RdIn L Lp]:RdIn (A::L) Lp:=⟨fun C hC b hb=>by
 rcases List.mem_cons.1 hC with rfl|hC
 ·exact (NoRd.no b hb).elim
 ·exact RdIn.sub C hC b hb⟩
theorem Sh.callI {K:Nat→Prop}{W w w' :World}{L L' :List Asn}[AllNo L'](h:Sh K W w L)(h' :Sh0 w w' L'):Sh K W w' (L' ++L):=h.call h' fun A hA b hb=>(AllNo.no A hA b hb).elim
theorem x_loop {c:Code}(I:Nat→Act→World→Prop)(h0:∃n,I n a w)(round:∀n a w,I n a w→c.wp P (Exit.then (fun a' w' =>∃m,m<n∧I m a' w') Q) a w):(Code.loop c).wp P Q a w:=by
 classical
 have least:∀a w,(∃n,I n a w)→∃n,I n a w∧∀m,I m a w→n≤m:=by
  intro a w ⟨n,hn⟩
  induction n using Nat.strongRecOn with
  |_ n ih=>
   by_cases h:∃m,m<n∧I m a w
   ·obtain ⟨m,hm,hI⟩:=h
    exact ih m hm hI
   ·exact ⟨n,hn,fun m hm=>Nat.le_of_not_lt fun hlt=>h ⟨m,hlt,hm⟩⟩
 let μ:Act→World→Nat:=fun a w=>if h:∃n,I n a w then (least a w h).choose else 0
 have hμ:∀a w (h:∃n,I n a w),I (μ a w) a w∧∀m,I m a w→μ a w≤m:=by
  intro a w h
  have e:μ a w=(least a w h).choose:=dif_pos h
  rw [e]
  exact (least a w h).choose_spec
 refine wp_loop (fun a w=>∃n,I n a w) μ h0 fun a w hI=> ?_
 refine Code.wp_mono (fun e a' w' hq=> ?_) (round _ a w (hμ a w hI).1)
 cases e with
 |normal=>
  obtain ⟨m,hm,hI'⟩:=hq
  exact ⟨⟨m,hI'⟩,Nat.lt_of_le_of_lt ((hμ a' w' ⟨m,hI'⟩).2 m hI') hm⟩
 |_=>exact hq
theorem x_seq {x y:Code}(M:Act→World→Prop)(h:x.wp P (Exit.then M Q) a w)(k:∀a w,M a w→y.wp P Q a w):(Code.seq x y).wp P Q a w:=
 wp_seq (Code.wp_mono (fun e a' w' hq=>by cases e<;>first|exact k _ _ hq|exact hq) h)
theorem x_cond {c:Operand}{x y:Code}{b:Bool}(h:St N K W a w F L)(hc:ev F c=some (.bool b))(ht:b=true→x.wp P Q a w)(hf:b=false→y.wp P Q a w):(Code.cond c x y).wp P Q a w:=wp_cond_split (h.fr.ev hc) ht hf
theorem x_condT {c:Operand}{x y:Code}{b:Bool}(h:St N K W a w F L)(hc:ev F c=some (.bool b))(hb:b=true)(ht:x.wp P Q a w):(Code.cond c x y).wp P Q a w:=by subst hb;exact wp_cond_true (h.fr.ev hc) ht
theorem x_condF {c:Operand}{x y:Code}{b:Bool}(h:St N K W a w F L)(hc:ev F c=some (.bool b))(hb:b=false)(hf:y.wp P Q a w):(Code.cond c x y).wp P Q a w:=by subst hb;exact wp_cond_false (h.fr.ev hc) hf
theorem x_again {n:Nat}{I:Nat→Act→World→Prop}{Q:Exit→Act→World→Prop}(h:∃m,m<n∧I m a w):Exit.then (fun a' w' =>∃m,m<n∧I m a' w') Q .normal a w:=h
theorem x_join {M:Act→World→Prop}{Q:Exit→Act→World→Prop}(h:M a w):Exit.then M Q .normal a w:=h
theorem x_enter {f:FuncId}{fn:Func}{c:Code}{vs:List Value}{R:Value→World→Prop}{N:Nat}(hf:P.funcs[f]? =some fn)(hb:fn.body=some c)(hN:fn.ntmps=N)(hl:vs.length≤N)
  (h:∀a,Fr N a ((vs.zipIdx 0).map fun x=>(x.2,x.1))→c.wp P (bodyPost P fn fun e w' =>∃v,e= .returned v∧R v w') a w):Rets P f vs w R:=by
 refine calls_of_wp hf hb (h _ ⟨?_,rfl,fun t v htv=> ?_⟩)
 ·simp [hN];omega
 ·have key:∀(vs:List Value) (k t:Nat) (v:Value),lk ((vs.zipIdx k).map fun x=>(x.2,x.1)) t=some v→k≤t∧vs[t-k]? =some v:=by
   intro vs
   induction vs with
   |nil=>intro k t v h;simp [lk] at h
   |cons x r ih=>
    intro k t v h
    rw [List.zipIdx_cons,List.map_cons,lk_cons] at h
    by_cases e:k=t
    ·subst e;simp at h;simp [h]
    ·rw [if_neg e] at h
     obtain ⟨h1,h2⟩:=ih (k+1) t v h
     refine ⟨by omega, ?_⟩
     have:t-k=(t-(k+1))+1:=by omega
     rw [this,List.getElem?_cons_succ];exact h2
  obtain ⟨_,h2⟩:=key vs 0 t v htv
  rw [Nat.sub_zero] at h2
  have hlt:=(List.getElem?_eq_some_iff.1 h2).1
  rw [Array.getElem?_append_left (by simpa using hlt)]
  simpa using h2
theorem x_ret1 {fn:Func}{t:Nat}{v:Value}{R:Value→World→Prop}(hs:fn.results= #[.tmp t])(h:St N K W a w F L)(ht:lk F t=some v)(hR:R v w):bodyPost P fn (fun e w' =>∃v,e= .returned v∧R v w') .ret a w:=by
 refine ⟨h.fr.defers,v, ?_,v,rfl,hR⟩
 rw [results_tmp hs]
 have:=h.fr.at_ t v ht
 simp [Array.getD_eq_getD_getElem?,this]
theorem x_ret0 {fn:Func}{R:Value→World→Prop}(hs:fn.results= #[])(h:St N K W a w F L)(hR:R (.tuple #[]) w):bodyPost P fn (fun e w' =>∃v,e= .returned v∧R v w') .ret a w:=⟨h.fr.defers,_,results_none hs _ _ _,_,rfl,hR⟩
theorem x_end0 {fn:Func}{R:Value→World→Prop}(hs:fn.results= #[])(h:St N K W a w F L)(hR:R (.tuple #[]) w):bodyPost P fn (fun e w' =>∃v,e= .returned v∧R v w') .normal a w:=⟨h.fr.defers,_,results_none hs _ _ _,_,rfl,hR⟩
theorem x_ret2 {fn:Func}{t u:Nat}{v v' :Value}{R:Value→World→Prop}(hs:fn.results= #[.tmp t, .tmp u])(h:St N K W a w F L)(ht:lk F t=some v)(hu:lk F u=some v')(hR:R (.tuple #[v,v']) w):bodyPost P fn (fun e w' =>∃v,e= .returned v∧R v w') .ret a w:=by
 refine ⟨h.fr.defers, .tuple #[v,v'], ?_,_,rfl,hR⟩
 rw [results_tmp2 hs]
 have h1:=h.fr.at_ t v ht
 have h2:=h.fr.at_ u v' hu
 simp [Array.getD_eq_getD_getElem?,h1,h2]
theorem x_ret2c {fn:Func}{t T g i n by_ t2 T2 g2 i2 n2 by2:Nat}{E E2:TypeId}{z cs z2 cs2:List Value}{R:Value→World→Prop}(hT:tyI P T=some (true,n,by_,z))(hT2:tyI P T2=some (true,n2,by2,z2))(hs:fn.results= #[.cell t T, .cell t2 T2])(h:St N K W a w F L)
  (ht:lk F t=some (.pointer (some ⟨g,0,none⟩))) (ht2:lk F t2=some (.pointer (some ⟨g2,0,none⟩)))
  (hi:L[i]? =some (.blk g E cs)) (hn:cs.length=n) (hi2:L[i2]? =some (.blk g2 E2 cs2)) (hn2:cs2.length=n2) (hR:R (.tuple #[.agg cs.toArray, .agg cs2.toArray]) w):bodyPost P fn (fun e w' =>∃v,e= .returned v∧R v w') .ret a w:=by
 obtain ⟨ti,d,zv,hti,hd,hg,hsz,_⟩:=tyI_parts hT
 obtain ⟨ti2,d2,zv2,hti2,hd2,hg2,hsz2,_⟩:=tyI_parts hT2
 refine ⟨h.fr.defers, .tuple #[.agg cs.toArray, .agg cs2.toArray], ?_,_,rfl,hR⟩
 have hld:=run_loadVar_row (P:=P) w g E T cs.toArray (0,0) d (h.sh.blk i hi) hd (by cases d<;>simp_all [aggD]) (by rw [hti];simp [hsz,hn])
 have hld2:=run_loadVar_row (P:=P) w g2 E2 T2 cs2.toArray (0,0) d2 (h.sh.blk i2 hi2) hd2 (by cases d2<;>simp_all [aggD]) (by rw [hti2];simp [hsz2,hn2])
 have h1:a.tmps[t]?.getD undef= .pointer (some ⟨g,0,none⟩):=by rw [h.fr.at_ t _ ht];rfl
 have h2:a.tmps[t2]?.getD undef= .pointer (some ⟨g2,0,none⟩):=by rw [h.fr.at_ t2 _ ht2];rfl
 simp [results,hs,asAddr,h1,hld,h2,hld2]
end
def upd (S:Nat→Bool)(i:Nat):Nat→Bool:=fun j=>bif Nat.beq j i then true else S j
theorem upd_self (S:Nat→Bool)(i:Nat):upd S i i=true:=by simp [upd]
theorem upd_ne {S:Nat→Bool}{i j:Nat}(h:Nat.beq j i=false):upd S i j=S j:=by simp [upd,h]
theorem upd_true {S:Nat→Bool}{i j:Nat}(h:S j=true):upd S i j=true:=by unfold upd;cases Nat.beq j i<;>simp [h]
def depsLt :List Oper→Nat→Bool
 | [],_=>true
 |o::r,i=>(o.after.all fun e=> !Region.binds .any e||Nat.blt e.on i)&&depsLt r (i+1)
theorem depsLt_at :∀(l:List Oper) (k i:Nat) (o:Oper),depsLt l k=true→l[i]? =some o→∀e∈o.after,Region.binds .any e=true→e.on<k+i
 | [],_,_,_,_,h=>by simp at h
 |x::r,k,0,o,hd,h=>by
  simp only [List.getElem?_cons_zero,Option.some.injEq] at h
  subst h
  intro e he hb
  simp only [depsLt,Bool.and_eq_true] at hd
  have:=(Array.all_eq_true_iff_forall_mem.1 hd.1) e he
  simp only [hb,Bool.not_true,Bool.false_or,Nat.blt_eq] at this
  exact this
 |x::r,k,i+1,o,hd,h=>by
  simp only [List.getElem?_cons_succ] at h
  simp only [depsLt,Bool.and_eq_true] at hd
  intro e he hb
  have:=depsLt_at r (k+1) i o hd.2 h e he hb
  omega
def ClosedB (ops:List Oper)(S:Nat→Bool):Prop:=∀(i:Nat) (o:Oper),ops[i]? =some o→S i=true→∀e∈o.after,Region.binds .any e=true→S e.on=true
section
variable {P:Program}{N:Nat}{K:Nat→Prop}{W w:World}{a:Act}{F F' :List (Nat×Value)}{L L' :List Asn}{o:Oper}{Q:Exit→Act→World→Prop}
def StepOK (P:Program)(ops:List Oper)(Q:Exit→Act→World→Prop)(o:Oper)(a:Act)(w:World)(next:Act→World→Prop):Prop:=
 if Region.wanted o (yielded ops.toArray a.tmps) then o.wp P a w next Q else next (a.put o.dst undef) w
theorem x_any {id:Nat}{ops:List Oper}(I:(Nat→Bool)→Act→World→Prop)(hm:P.follows .mixedOrders=true)(hd:depsLt ops 0=true)(h0:I (fun _=>false) a w.drew)
  (hstep:∀(S:Nat→Bool) (i:Nat) (o:Oper),ops[i]? =some o→S i=false→ClosedB ops S→(∀e∈o.after,Region.binds .any e=true→S e.on=true)→∀a w,I S a w→StepOK P ops Q o a w (I (upd S i)))
  (hend:∀(S:Nat→Bool),(∀i,i<ops.length→S i=true)→∀a w,I S a w→Q .normal a w):(Code.region id ops.toArray true).wp P Q a w:=by
 refine wp_region_any hm ?_
 have key:∀(fuel:Nat) (listed:Array Bool) (a:Act) (w:World),listed.size=ops.length→(listed.toList.count false)≤fuel→ClosedB ops (fun j=>listed.getD j false)→I (fun j=>listed.getD j false) a w→
   wpAny P .any ops.toArray Q fuel listed a w:=by
  have hallt:∀(listed:Array Bool),listed.size=ops.length→Region.ready .any ops.toArray listed= []→∀i,i<ops.length→listed.getD i false=true:=by
   intro listed hsz hr i
   induction i using Nat.strongRecOn with
   |_ i ih=>
    intro hi
    cases hl:listed.getD i false with
    |true=>rfl
    |false=>
     exfalso
     have hmem:i∈Region.ready .any ops.toArray listed:=by
      unfold Region.ready
      rw [List.mem_filter]
      refine ⟨by simpa using hi, ?_⟩
      have hlt:i<listed.size:=by omega
      have e1:listed.getD i true=false:=by
       simp only [Array.getD_eq_getD_getElem?,Array.getElem?_eq_getElem hlt] at hl⊢;exact hl
      have e2:ops.toArray[i]? =some ops[i]:=by simp [hi]
      rw [e1,e2]
      simp only [Bool.not_false,Option.map_some,Option.getD_some,Bool.true_and]
      rw [Array.all_eq_true_iff_forall_mem]
      intro e he
      cases hb:Region.binds .any e with
      |false=>rfl
      |true=>
       have h1:=depsLt_at ops 0 i ops[i] hd (List.getElem?_eq_getElem hi) e he hb
       simp only [Nat.zero_add] at h1
       simp [ih e.on h1 (by omega)]
     rw [hr] at hmem
     cases hmem
  intro fuel
  induction fuel with
  |zero=>
   intro listed a w hsz hc hcl hI
   have hall:∀i,i<ops.length→listed.getD i false=true:=by
    intro i hi
    have hlt:i<listed.size:=by omega
    have hc0:listed.toList.count false=0:=by omega
    rw [List.count_eq_zero] at hc0
    have:listed[i]≠false:=fun e=>hc0 (by rw [←e];simp)
    simp only [Array.getD_eq_getD_getElem?,Array.getElem?_eq_getElem hlt,Option.getD_some]
    cases hh:listed[i]<;>simp_all
   refine ⟨?_,hend _ hall a w hI⟩
   unfold Region.ready
   rw [List.filter_eq_nil_iff]
   intro i hi
   have hi' :i<ops.length:=by simpa using hi
   have hlt:i<listed.size:=by omega
   have:=hall i hi'
   have e1:listed.getD i true=true:=by
    simp only [Array.getD_eq_getD_getElem?,Array.getElem?_eq_getElem hlt] at this⊢;exact this
   simp [e1]
  |succ fuel ih=>
   intro listed a w hsz hc hcl hI
   refine ⟨fun hr=>hend _ (hallt listed hsz hr) a w hI,fun i hi=> ?_⟩
   unfold Region.ready at hi
   rw [List.mem_filter] at hi
   obtain ⟨hi1,hi2⟩:=hi
   have hi' :i<ops.length:=by simpa using hi1
   have hlt:i<listed.size:=by omega
   have e2:ops.toArray[i]? =some ops[i]:=by simp [hi']
   rw [e2] at hi2
   simp only [Option.map_some,Option.getD_some,Bool.and_eq_true,Bool.not_eq_true',Array.all_eq_true_iff_forall_mem] at hi2
   have hSi:listed.getD i false=false:=by
    have:=hi2.1
    simp only [Array.getD_eq_getD_getElem?,Array.getElem?_eq_getElem hlt] at this⊢;exact this
   have hdep:∀e∈ops[i].after,Region.binds .any e=true→listed.getD e.on false=true:=by
    intro e he hb
    have:=hi2.2 e he
    simpa [hb] using this
   have hs:=hstep (fun j=>listed.getD j false) i ops[i] (List.getElem?_eq_getElem hi') hSi hcl hdep a w hI
   have hupd:(fun j=>(listed.setIfInBounds i true).getD j false)=upd (fun j=>listed.getD j false) i:=by
    funext j
    simp only [upd,Array.getD_eq_getD_getElem?,Array.getElem?_setIfInBounds]
    by_cases e:i=j
    ·subst e;simp [hlt]
    ·have e' :j≠i:=fun h=>e h.symm
     simp [e,beq_no e']
   have hnext:∀a' w',I (upd (fun j=>listed.getD j false) i) a' w' →wpAny P .any ops.toArray Q fuel (listed.setIfInBounds i true) a' w' :=by
    intro a' w' h'
    refine ih _ a' w' (by simpa using hsz) ?_ ?_ (by rw [hupd];exact h')
    ·rw [Array.toList_setIfInBounds]
     have hli:listed.toList[i]'(by simpa using hlt)=false:=by
      simp only [Array.getD_eq_getD_getElem?,Array.getElem?_eq_getElem hlt,Option.getD_some] at hSi
      simpa using hSi
     have:=List.count_set (a:=true) (b:=false) (l:=listed.toList) (i:=i) (by simpa using hlt)
     rw [hli] at this
     have hc2:=hc
     simp at this hc2⊢
     omega
    ·rw [hupd]
     intro j oj hj hSj e he hb
     by_cases e1:j=i
     ·subst e1
      rw [List.getElem?_eq_getElem hi'] at hj
      cases hj
      exact upd_true (hdep e he hb)
     ·rw [upd_ne (beq_no e1)] at hSj
      exact upd_true (hcl j oj hj hSj e he hb)
   unfold wpOp
   rw [e2]
   unfold StepOK at hs
   simp only
   split
   ·rename_i hw
    rw [if_pos hw] at hs
    exact .inl (Oper.wp_mono hnext hs)
   ·rename_i hw
    rw [if_neg hw] at hs
    exact hnext _ _ hs
 have hrep:(fun j=>(Array.replicate ops.length false).getD j false)=fun _=>false:=by
  funext j
  simp only [Array.getD_eq_getD_getElem?,Array.getElem?_replicate]
  split<;>rfl
 have:=key ops.length (Array.replicate ops.length false) a w.drew (by simp) (by simp) (by rw [hrep];intro i o _ h;cases h) (by rw [hrep];exact h0)
 simpa using this
structure FrI (N:Nat)(S:Nat→Bool)(F0:List (Nat×Value))(vals:List (Nat×Nat×Value))(a:Act):Prop where
 fr0:Fr N a F0
 at_:∀(k j d:Nat) (v:Value),vals[k]? =some (j,d,v)→S j=true→a.tmps[d]? =some v
theorem FrI.start {F0:List (Nat×Value)}{vals:List (Nat×Nat×Value)}(h:Fr N a F0):FrI N (fun _=>false) F0 vals a:=⟨h,fun _ _ _ _ _ h=>by cases h⟩
theorem Fr.cons {d:Nat}{v:Value}(h:Fr N a F)(hd:a.tmps[d]? =some v):Fr N a ((d,v)::F):=by
 refine ⟨h.size,h.defers,fun t u htu=> ?_⟩
 rw [lk_cons] at htu
 by_cases e:d=t
 ·subst e;simp at htu;subst htu;exact hd
 ·rw [if_neg e] at htu;exact h.at_ t u htu
def nodupB :List Nat→Bool
 | []=>true
 |x::r=> !(r.any (Nat.beq x))&&nodupB r
theorem nodupB_at :∀(l:List Nat) (i j:Nat) (x:Nat),nodupB l=true→l[i]? =some x→l[j]? =some x→i=j
 | [],_,_,_,_,h,_=>by simp at h
 |y::r,i,j,x,hn,hi,hj=>by
  simp only [nodupB,Bool.and_eq_true,Bool.not_eq_true',List.any_eq_false] at hn
  match i,j with
  |0,0=>rfl
  |i+1,j+1=>
   simp only [List.getElem?_cons_succ] at hi hj
   rw [nodupB_at r i j x hn.2 hi hj]
  |0,j+1=>
   simp only [List.getElem?_cons_zero,Option.some.injEq,List.getElem?_cons_succ] at hi hj
   subst hi
   exact absurd (hn.1 _ (List.mem_of_getElem? hj)) (by simp)
  |i+1,0=>
   simp only [List.getElem?_cons_zero,Option.some.injEq,List.getElem?_cons_succ] at hi hj
   subst hj
   exact absurd (hn.1 _ (List.mem_of_getElem? hi)) (by simp)
theorem FrI.step {S:Nat→Bool}{F0:List (Nat×Value)}{vals:List (Nat×Nat×Value)}{a' :Act}{i d:Nat}{v v' :Value}(h:FrI N S F0 vals a)(ht:a'.tmps=(a.put (some d) v').tmps)(hdf:a'.defers= [])(hv:a'.tmps[d]? =some v)(k:Nat)(hk:vals[k]? =some (i,d,v))
  (h0:lk F0 d=none) (hn:nodupB (vals.map (·.1))=true) (hn2:nodupB (vals.map (·.2.1))=true):FrI N (upd S i) F0 vals a' :=by
 have hget:∀t,t≠d→a'.tmps[t]? =a.tmps[t]? :=by
  intro t htd
  rw [ht]
  simp only [Act.put,Array.getElem?_setIfInBounds]
  rw [if_neg (fun e=>htd e.symm)]
 refine ⟨⟨by rw [ht];simp [Act.put,h.fr0.size],hdf,fun t u htu=> ?_⟩,fun q j e u hq hS=> ?_⟩
 ·rw [hget t (fun e=>by subst e;rw [h0] at htu;cases htu)]
  exact h.fr0.at_ t u htu
 ·have hq1:(vals.map (·.1))[q]? =some j:=by simp [hq]
  have hq2:(vals.map (·.2.1))[q]? =some e:=by simp [hq]
  have hk1:(vals.map (·.1))[k]? =some i:=by simp [hk]
  have hk2:(vals.map (·.2.1))[k]? =some d:=by simp [hk]
  by_cases e1:j=i
  ·subst e1
   have:=nodupB_at _ q k j hn hq1 hk1
   subst this
   rw [hq] at hk
   cases hk
   exact hv
  ·have e2:e≠d:=by
    rintro rfl
    have:=nodupB_at _ q k e hn2 hq2 hk2
    subst this
    rw [hq] at hk
    cases hk
    exact e1 rfl
   rw [hget e e2]
   rw [upd_ne (beq_no e1)] at hS
   exact h.at_ q j e u hq hS
theorem FrI.other {S:Nat→Bool}{F0:List (Nat×Value)}{vals:List (Nat×Nat×Value)}{a' :Act}{i d:Nat}{v' :Value}(h:FrI N S F0 vals a)(ht:a'.tmps=(a.put (some d) v').tmps)(hdf:a'.defers= [])
  (h0:lk F0 d=none) (hn:(vals.map (·.1)).all (fun j=> !Nat.beq j i)=true) (hn2:(vals.map (·.2.1)).all (fun e=> !Nat.beq e d)=true):FrI N (upd S i) F0 vals a' :=by
 have hget:∀t,t≠d→a'.tmps[t]? =a.tmps[t]? :=by
  intro t htd
  rw [ht]
  simp only [Act.put,Array.getElem?_setIfInBounds]
  rw [if_neg (fun e=>htd e.symm)]
 refine ⟨⟨by rw [ht];simp [Act.put,h.fr0.size],hdf,fun t u htu=> ?_⟩,fun q j e u hq hS=> ?_⟩
 ·rw [hget t (fun e=>by subst e;rw [h0] at htu;cases htu)]
  exact h.fr0.at_ t u htu
 ·have h1:=(List.all_eq_true.1 hn) j (List.mem_map.2 ⟨_,List.mem_of_getElem? hq,rfl⟩)
  have h2:=(List.all_eq_true.1 hn2) e (List.mem_map.2 ⟨_,List.mem_of_getElem? hq,rfl⟩)
  have h1' :Nat.beq j i=false:=by simpa using h1
  have h2' :e≠d:=by rintro rfl;simp at h2
  rw [hget e h2']
  rw [upd_ne h1'] at hS
  exact h.at_ q j e u hq hS
theorem FrI.none {S:Nat→Bool}{F0:List (Nat×Value)}{vals:List (Nat×Nat×Value)}{a' :Act}{i:Nat}(h:FrI N S F0 vals a)(ht:a'.tmps=a.tmps)(hdf:a'.defers= [])(hn:(vals.map (·.1)).all (fun j=> !Nat.beq j i)=true):FrI N (upd S i) F0 vals a' :=by
 refine ⟨⟨by rw [ht,h.fr0.size],hdf,fun t u htu=>by rw [ht];exact h.fr0.at_ t u htu⟩,fun q j e u hq hS=> ?_⟩
 have h1:=(List.all_eq_true.1 hn) j (List.mem_map.2 ⟨_,List.mem_of_getElem? hq,rfl⟩)
 have h1' :Nat.beq j i=false:=by simpa using h1
 rw [upd_ne h1'] at hS
 rw [ht]
 exact h.at_ q j e u hq hS
theorem FrI.more {S:Nat→Bool}{F0:List (Nat×Value)}{vals vals' :List (Nat×Nat×Value)}(h:FrI N S F0 vals a)(hv:∀(k j d:Nat) (v:Value),vals'[k]? =some (j,d,v)→S j=true→a.tmps[d]? =some v):FrI N S F0 vals' a:=⟨h.fr0,hv⟩
theorem depAt {S:Nat→Bool}{o:Oper}(h:∀e∈o.after,Region.binds .any e=true→S e.on=true)(q:Nat){e:Edge}(he:o.after[q]? =some e)(hb:Region.binds .any e=true):S e.on=true:=h e (Array.mem_of_getElem? he) hb
def depsOf (o:Oper):List Nat:=(o.after.toList.filter (Region.binds .any ·)).map (·.on)
def ancL (ops:List Oper):Nat→List Nat→List Nat
 |0,acc=>acc
 |k+1,acc=>ancL ops k (bif acc.any (Nat.beq k) then (match ops[k]? with
  |some o=>depsOf o++acc
  |none=>acc) else acc)
def ancB (ops:List Oper)(i j:Nat):Bool:=(ancL ops (i+1) [i]).any (Nat.beq j)
theorem ancL_all {ops:List Oper}{S:Nat→Bool}(h:ClosedB ops S):∀(k:Nat) (acc:List Nat),(∀x∈acc,S x=true)→∀x∈ancL ops k acc,S x=true
 |0,acc,ha,x,hx=>ha x hx
 |k+1,acc,ha,x,hx=>by
  refine ancL_all h k _ ?_ x hx
  intro y hy
  cases hb:acc.any (Nat.beq k) with
  |false=>rw [hb] at hy;exact ha y hy
  |true=>
   rw [hb,cond_true] at hy
   split at hy
   ·rename_i o ho
    rcases List.mem_append.1 hy with hy|hy
    ·obtain ⟨e,he,rfl⟩:=List.mem_map.1 hy
     obtain ⟨h1,h2⟩:=List.mem_filter.1 he
     have hk:S k=true:=by
      obtain ⟨z,hz,h3⟩:=List.any_eq_true.1 hb
      rw [Nat.eq_of_beq_eq_true h3];exact ha z hz
     exact h k o ho hk e (by simpa using h1) h2
    ·exact ha y hy
   ·exact ha y hy
theorem cA {ops:List Oper}{S:Nat→Bool}(h:ClosedB ops S)(i j:Nat)(e:ancB ops i j=true)(hi:S i=true):S j=true:=by
 obtain ⟨z,hz,h3⟩:=List.any_eq_true.1 e
 rw [Nat.eq_of_beq_eq_true h3]
 exact ancL_all h _ _ (by simpa using hi) z hz
def pickL (vals:List (Nat×Nat×Value))(is:List Nat):List (Nat×Nat×Value):=is.map fun k=>vals.getD k (0,0,undef)
def wideB (ops:List Oper)(i:Nat)(js:List Nat)(is:List Nat):Bool:=(List.range js.length).all fun k=>is.any (Nat.beq k)||(match js[k]? with
 |some j=>Nat.beq j i||ancB ops j i
 |none=>true)
theorem FrI.wide {ops:List Oper}{S:Nat→Bool}{F0:List (Nat×Value)}{vals vals' :List (Nat×Nat×Value)}{i:Nat}(h:FrI N S F0 vals a)(hcl:ClosedB ops S)(hSi:S i=false)(is:List Nat)(hp:pickL vals' is=vals)(hB:wideB ops i (vals'.map (·.1)) is=true):FrI N S F0 vals' a:=h.more fun k j d v hk hS=>by
 have hlt:k<vals'.length:=(List.getElem?_eq_some_iff.1 hk).1
 have h1:=(List.all_eq_true.1 hB) k (List.mem_range.2 (by simpa using hlt))
 rw [Bool.or_eq_true] at h1
 rcases h1 with h1|h1
 ·obtain ⟨z,hz,h2⟩:=List.any_eq_true.1 h1
  obtain rfl:=Nat.eq_of_beq_eq_true h2
  obtain ⟨q,hq⟩:=List.getElem?_of_mem hz
  refine h.at_ q j d v ?_ hS
  rw [←hp,pickL,List.getElem?_map,hq,Option.map_some,List.getD_eq_getElem?_getD,hk]
  rfl
 ·rw [List.getElem?_map,hk] at h1
  have h3:(Nat.beq j i||ancB ops j i)=true:=h1
  rw [Bool.or_eq_true] at h3
  rcases h3 with h3|h3
  ·rw [Nat.eq_of_beq_eq_true h3,hSi] at hS;cases hS
  ·rw [cA hcl j i h3 hS] at hSi;cases hSi
theorem FrI.stepW {ops:List Oper}{S:Nat→Bool}{F0:List (Nat×Value)}{vals vals' :List (Nat×Nat×Value)}{a' :Act}{i d:Nat}{v v' :Value}(h:FrI N S F0 vals a)(hcl:ClosedB ops S)(hSi:S i=false)(is:List Nat)(hp:pickL vals' is=vals)(hB:wideB ops i (vals'.map (·.1)) is=true)(ht:a'.tmps=(a.put (some d) v').tmps)(hdf:a'.defers= [])
  (hv:a'.tmps[d]? =some v) (k:Nat) (hk:vals'[k]? =some (i,d,v)) (h0:lk F0 d=Option.none) (hn:nodupB (vals'.map (·.1))=true) (hn2:nodupB (vals'.map (·.2.1))=true):FrI N (upd S i) F0 vals' a' :=(h.wide hcl hSi is hp hB).step ht hdf hv k hk h0 hn hn2
theorem FrI.noneW {ops:List Oper}{S:Nat→Bool}{F0:List (Nat×Value)}{vals vals' :List (Nat×Nat×Value)}{a' :Act}{i:Nat}(h:FrI N S F0 vals a)(hcl:ClosedB ops S)(hSi:S i=false)(is:List Nat)(hp:pickL vals' is=vals)(hB:wideB ops i (vals'.map (·.1)) is=true)(ht:a'.tmps=a.tmps)(hdf:a'.defers= [])
  (hn:(vals'.map (·.1)).all (fun j=> !Nat.beq j i)=true):FrI N (upd S i) F0 vals' a' :=(h.wide hcl hSi is hp hB).none ht hdf hn
theorem no_way {b:Bool}{X:Prop}(h:b=true)(h' :b=false):X:=by rw [h] at h';cases h'
theorem Ex.strong {R:Act→World→Prop}(h:Ex P o a w R):Ex P o a w (fun a' w' =>R a' w' ∧∃v,a'.tmps=(a.put o.dst v).tmps):=by
 intro next Q hn
 unfold Oper.wp
 have h1:=h (fun a' w' =>R a' w') Q (fun _ _ h=>h)
 unfold Oper.wp at h1
 generalize (execOp a.eval o).run P w=r at h1⊢
 cases r with
 |halt x w' =>cases x<;>exact h1
 |ok n w' =>
  cases n
  case value v=>exact hn _ _ ⟨h1,v,rfl⟩
  case skip=>exact hn _ _ ⟨h1,undef,rfl⟩
  case defer d=>exact hn _ _ ⟨h1,undef,by cases o.dst<;>rfl⟩
  case enter f args=>exact Calls.mono h1 fun e w'' he=>by cases e<;>first|exact hn _ _ ⟨he,_,rfl⟩|exact he
  case row r args=>exact Rows.mono h1 fun v w'' he=>hn _ _ ⟨he,v,rfl⟩
  all_goals exact h1
theorem step_val {ops:List Oper}{d:Nat}{v:Value}{next:Act→World→Prop}(h:St N K W a w F L)(hr:Rn P o N K W F L v)(hw:Region.wanted o (yielded ops.toArray a.tmps)=true)(hd:o.dst=some d)(hdN:Nat.blt d N=true)
  (k:∀a',a'.tmps=(a.put (some d) v).tmps→Fr N a' ((d,v)::F)→next a' w):StepOK P ops Q o a w next:=by
 unfold StepOK
 rw [if_pos hw]
 unfold Oper.wp
 rw [hr a w h]
 exact k _ (by rw [hd]) (by rw [hd];exact h.fr.put d (by simpa [Nat.blt_eq] using hdN) v)
theorem step_ex {ops:List Oper}{R:Act→World→Prop}{next:Act→World→Prop}(hx:Ex P o a w R)(hw:Region.wanted o (yielded ops.toArray a.tmps)=true)
  (k:∀a' w',R a' w' →(∃v,a'.tmps=(a.put o.dst v).tmps)→next a' w'):StepOK P ops Q o a w next:=by
 unfold StepOK
 rw [if_pos hw]
 exact hx.strong next Q fun a' w' ⟨h1,h2⟩=>k a' w' h1 h2
theorem un {S:Nat→Bool}{i j:Nat}{b:Bool}(e:Nat.beq j i=false)(h:S j=b):upd S i j=b:=(upd_ne e).trans h
theorem sq {ops:List Oper}{S:Nat→Bool}{F0:List (Nat×Value)}{vals:List (Nat×Nat×Value)}{i d:Nat}{v:Value}{next:Act→World→Prop}(h:FrI N S F0 vals a)(hF:Fr N a F)(hs:Sh K W w L)(hr:Rn P o N K W F L v)(k:Nat)
  (hd:o.dst=some d) (hc:okg o d N=true) (hk:vals[k]? =some (i,d,v)) (h0:lk F0 d=none) (hn:nodupB (vals.map (·.1))=true) (hn2:nodupB (vals.map (·.2.1))=true) (hx:∀a',FrI N (upd S i) F0 vals a' →next a' w):StepOK P ops Q o a w next:=by
 simp only [okg,Bool.and_eq_true,Option.isNone_iff_eq_none] at hc
 exact step_val ⟨hF,hs⟩ hr (wanted_none hc.1 _) hd hc.2 fun a' ht hf=>hx _ (h.step ht hf.defers (hf.at_ d _ (by rw [lk_cons,if_pos rfl])) k hk h0 hn hn2)
end
def Asn.rblk (g:Nat)(E:TypeId)(cs:List Value):Asn where
 fp _:=False
 rd b:=b=g
 ok w:=Blk w g E cs.toArray
 keep w w' h hb:=(hb g (.inr rfl)).trans h
 lt w h b hb:=by rcases hb with hb|rfl;exact hb.elim;exact h.lt
def Asn.ro (L:List Asn):Asn where
 fp _:=False
 rd b:=∃A∈L,A.fp b∨A.rd b
 ok w:=∀A∈L,A.ok w
 keep w w' h hb A hA:=A.keep w w' (h A hA) fun b hb' =>hb b (.inr ⟨A,hA,hb'⟩)
 lt w h b hb:=by rcases hb with hb|⟨A,hA,hb⟩;exact hb.elim;exact A.lt w (h A hA) b hb
def Asn.big (L:List Asn):Asn where
 fp b:=∃A∈L,A.fp b
 rd b:=∃A∈L,A.rd b
 ok w:=(∀A∈L,A.ok w)∧L.Pairwise Asn.Apart∧∀A∈L,∀b,A.fp b→¬A.rd b
 keep w w' h hb:=⟨fun A hA=>A.keep w w' (h.1 A hA) fun b hb' =>hb b (hb'.imp (fun h=>⟨A,hA,h⟩) (fun h=>⟨A,hA,h⟩)),h.2⟩
 lt w h b hb:=by rcases hb with ⟨A,hA,hb⟩|⟨A,hA,hb⟩;exact A.lt w (h.1 A hA) b (.inl hb);exact A.lt w (h.1 A hA) b (.inr hb)
section
variable {P:Program}{N:Nat}{K:Nat→Prop}{W w:World}{a:Act}{F F' :List (Nat×Value)}{L L' B:List Asn}{o:Oper}{ops:Array Oper}{rest:List Oper}{Q:Exit→Act→World→Prop}
theorem Sh.rblk (h:Sh K W w L)(i:Nat){g:Nat}{E:TypeId}{cs:List Value}(hi:L[i]? =some (.rblk g E cs)):Blk w g E cs.toArray:=h.ok _ (List.mem_of_getElem? hi)
theorem Sh.open_ (h:Sh K W w (.big B::L)):Sh K W w (B++L):=by
 obtain ⟨h1,h2,h3⟩:=h.ok (.big B) (by simp)
 have hp:=List.pairwise_cons.1 h.apart
 refine ⟨h.chg, ?_, ?_, ?_,List.pairwise_append.2 ⟨h2,hp.2,fun A hA C hC b=> ?_⟩⟩
 ·intro A hA
  rcases List.mem_append.1 hA with hA|hA
  ·exact h1 A hA
  ·exact h.ok A (by simp [hA])
 ·intro A hA b hb
  rcases List.mem_append.1 hA with hA|hA
  ·exact h.mine (.big B) (by simp) b ⟨A,hA,hb⟩
  ·exact h.mine A (by simp [hA]) b hb
 ·intro A hA
  rcases List.mem_append.1 hA with hA|hA
  ·exact h3 A hA
  ·exact h.self A (by simp [hA])
 ·have:=hp.1 C hC b
  exact ⟨fun hb=>this.1 ⟨A,hA,hb⟩,fun hb hr=>this.2 hb ⟨A,hA,hr⟩⟩
theorem Sh.close_ (h:Sh K W w (B++L))(hbr:∀A∈B,∀C∈B,∀b,A.fp b→¬C.rd b:=by intros;assumption):Sh K W w (.big B::L):=by
 have hp:=List.pairwise_append.1 h.apart
 refine ⟨h.chg, ?_, ?_, ?_,List.pairwise_cons.2 ⟨fun C hC b=> ?_,hp.2.1⟩⟩
 ·intro A hA
  rcases List.mem_cons.1 hA with rfl|hA
  ·exact ⟨fun A hA=>h.ok A (by simp [hA]),hp.1,fun A hA=>h.self A (by simp [hA])⟩
  ·exact h.ok A (by simp [hA])
 ·intro A hA b hb
  rcases List.mem_cons.1 hA with rfl|hA
  ·obtain ⟨A,hA,hb⟩:=hb
   exact h.mine A (by simp [hA]) b hb
  ·exact h.mine A (by simp [hA]) b hb
 ·intro A hA b hb hr
  rcases List.mem_cons.1 hA with rfl|hA
  ·obtain ⟨A,hA,hb⟩:=hb
   obtain ⟨C,hC,hr⟩:=hr
   exact hbr A hA C hC b hb hr
  ·exact h.self A (by simp [hA]) b hb hr
 ·refine ⟨?_, ?_⟩
  ·rintro ⟨A,hA,hb⟩
   exact (hp.2.2 A hA C hC b).1 hb
  ·rintro hb ⟨A,hA,hr⟩
   exact (hp.2.2 A hA C hC b).2 hb hr
theorem Sh.apartRd (h:Sh K W w L):∀A∈L,∀C∈L,∀b,A.fp b→¬C.rd b:=by
 intro A hA C hC b hb hr
 rcases apart_of_mem h.apart hA hC with rfl|hac
 ·exact h.self _ hA b hb hr
 ·exact ((hac b).1 hb).2 hr
theorem Sh.close (h:Sh K W w (B++L)):Sh K W w (.big B::L):=h.close_ fun A hA C hC=>h.apartRd A (by simp [hA]) C (by simp [hC])
theorem Sh.pass (h:Sh K W w L)(i:Nat){A:Asn}(hi:L[i]? =some A):Sh A.fp w w [A]:=
 ⟨Chg.refl _ _,by simpa using h.ok A (List.mem_of_getElem? hi),by simpa using fun b hb=> .inl hb,by simpa using h.self A (List.mem_of_getElem? hi),List.pairwise_singleton _ _⟩
theorem Sh.back {w' :World}{A:Asn}(h:Sh K W w (A::L))(h' :Sh A.fp w w' L')(hrd:∀C∈L',∀b,C.rd b→(A.fp b∨A.rd b)∨(∃D∈L,D.rd b)∨w.heap.size≤b):Sh K W w' (L' ++L):=
 Sh.step (Lp:= [A]) (Lr:=L) (L' :=L') h (h'.chg.mono fun b hb=>⟨A,by simp,hb⟩) h'.ok (fun C hC b hb=>(h'.mine C hC b hb).imp (fun h=>⟨A,by simp,h⟩) (fun h=>h))
  (fun C hC b hb=>(hrd C hC b hb).imp (fun h=>⟨A,by simp,h⟩) (fun h=>h)) h'.self h'.apart
theorem r_ldbR {T:TypeId}{n by_:Nat}{z:List Value}{x:Operand}{g q:Nat}{E:TypeId}{cs:List Value}{v:Value}(hT:tyI P T=some (false,n,by_,z))(ho:o.op= .load T x)(hx:ev F x=some (.pointer (some ⟨g,q,none⟩)))
  (hB:∀w,Sh K W w L→Blk w g E cs.toArray) (hv:cs[q]? =some v):Rn P o N K W F L v:=fun a w h=>by
 have hc:w.cell? ⟨g,q,none⟩=some v:=by rw [(hB w h.sh).cell q];simpa using hv
 unfold execOp;simp only [ho,h.fr.ev hx,Sem.run_bind,run_load1 hT hc,Result.andThen_ok,Sem.run_pure]
theorem r_ldbwR {T:TypeId}{n by_:Nat}{z:List Value}{x:Operand}{g q:Nat}{E:TypeId}{cs vs:List Value}(hT:tyI P T=some (true,n,by_,z))(ho:o.op= .load T x)(hx:ev F x=some (.pointer (some ⟨g,q,none⟩)))
  (hB:∀w,Sh K W w L→Blk w g E cs.toArray) (hv:(cs.drop q).take n=vs) (hn:vs.length=n):Rn P o N K W F L (.agg vs.toArray):=fun a w h=>by
 have hc:∀(j:Nat) (v:Value),vs[j]? =some v→w.cell? ((⟨g,q,none⟩:Addr).add j)=some v:=by
  intro j v hj
  rw [Addr.add_lit,(hB w h.sh).cell (q+j)]
  rw [←hv,List.getElem?_take] at hj
  split at hj
  ·rw [List.getElem?_drop] at hj;simpa using hj
  ·cases hj
 unfold execOp;simp only [ho,h.fr.ev hx,Sem.run_bind,run_loadN hT hn hc,Result.andThen_ok,Sem.run_pure]
theorem x_retct {fn:Func}{t T g i n by_ u:Nat}{E:TypeId}{z cs:List Value}{v' :Value}{R:Value→World→Prop}(hT:tyI P T=some (true,n,by_,z))(hs:fn.results= #[.cell t T, .tmp u])(h:St N K W a w F L)(ht:lk F t=some (.pointer (some ⟨g,0,none⟩)))
  (hu:lk F u=some v') (hi:L[i]? =some (.blk g E cs)) (hn:cs.length=n) (hR:R (.tuple #[.agg cs.toArray,v']) w):bodyPost P fn (fun e w' =>∃v,e= .returned v∧R v w') .ret a w:=by
 obtain ⟨ti,d,zv,hti,hd,hg,hsz,_⟩:=tyI_parts hT
 refine ⟨h.fr.defers, .tuple #[.agg cs.toArray,v'], ?_,_,rfl,hR⟩
 have hld:=run_loadVar_row (P:=P) w g E T cs.toArray (0,0) d (h.sh.blk i hi) hd (by cases d<;>simp_all [aggD]) (by rw [hti];simp [hsz,hn])
 have h1:a.tmps[t]?.getD undef= .pointer (some ⟨g,0,none⟩):=by rw [h.fr.at_ t _ ht];rfl
 have h2:a.tmps[u]?.getD undef=v' :=by rw [h.fr.at_ u _ hu];rfl
 simp [results,hs,asAddr,h1,hld,h2]
theorem x_rettc {fn:Func}{t T g i n by_ u:Nat}{E:TypeId}{z cs:List Value}{v' :Value}{R:Value→World→Prop}(hT:tyI P T=some (true,n,by_,z))(hs:fn.results= #[.tmp u, .cell t T])(h:St N K W a w F L)(ht:lk F t=some (.pointer (some ⟨g,0,none⟩)))
  (hu:lk F u=some v') (hi:L[i]? =some (.blk g E cs)) (hn:cs.length=n) (hR:R (.tuple #[v', .agg cs.toArray]) w):bodyPost P fn (fun e w' =>∃v,e= .returned v∧R v w') .ret a w:=by
 obtain ⟨ti,d,zv,hti,hd,hg,hsz,_⟩:=tyI_parts hT
 refine ⟨h.fr.defers, .tuple #[v', .agg cs.toArray], ?_,_,rfl,hR⟩
 have hld:=run_loadVar_row (P:=P) w g E T cs.toArray (0,0) d (h.sh.blk i hi) hd (by cases d<;>simp_all [aggD]) (by rw [hti];simp [hsz,hn])
 have h1:a.tmps[t]?.getD undef= .pointer (some ⟨g,0,none⟩):=by rw [h.fr.at_ t _ ht];rfl
 have h2:a.tmps[u]?.getD undef=v' :=by rw [h.fr.at_ u _ hu];rfl
 simp [results,hs,asAddr,h1,hld,h2]
end
structure Wt where
 lock:Bool
 wh:Int
 what:Int
 deriving DecidableEq
instance : Inhabited Wt:=⟨⟨false,0,0⟩⟩
structure Th where
 pc:Int
 regs:List Int
 wait:List Wt
 deriving DecidableEq
instance : Inhabited Th:=⟨⟨0, [], []⟩⟩
structure MSt where
 ths:List Th
 words:List Int
 owner:List Int
 prints:List Int
 deriving DecidableEq
instance : Inhabited MSt:=⟨⟨[], [], [], []⟩⟩
structure Pg where
 code:List (List Ins)
 words:List Int
 locks:Int
 regs:Int
instance : Inhabited Pg:=⟨⟨[], [],0,0⟩⟩
structure TS where
 pc:Int
 regs:List Int
 wait:List Wt
 words:List Int
 owner:List Int
 prints:List Int
 fell:Bool
instance : Inhabited TS:=⟨⟨0, [], [], [], [], [],false⟩⟩
def begin_ (p:Pg):MSt:=⟨p.code.map fun _=>⟨0,List.replicate p.regs.toNat 0, []⟩,p.words,List.replicate p.locks.toNat (-1), []⟩
def MSt.view (s:MSt)(n:Nat):TS:=⟨(nth s.ths n).pc,(nth s.ths n).regs,(nth s.ths n).wait,s.words,s.owner,s.prints,false⟩
def MSt.putT (s:MSt)(n:Nat)(x:TS):MSt:=⟨s.ths.set n ⟨x.pc,x.regs,x.wait⟩,x.words,x.owner,x.prints⟩
def nextIns (c:List Ins)(pc:Int):Ins:=if pc<c.length then nth c pc.toNat else ⟨0,0,0,0⟩
theorem nextIns_t {c:List Ins}{pc:Int}(h:pc<c.length):nextIns c pc=nth c pc.toNat:=by unfold nextIns;rw [if_pos h]
theorem nextIns_f {c:List Ins}{pc:Int}(h:¬pc<c.length):nextIns c pc=⟨0,0,0,0⟩:=by unfold nextIns;rw [if_neg h]
def ableL (owner:List Int)(n:Nat)(i:Ins):Bool:=
 if i.op=9∨i.op=11∨i.op=18 then decide (n<3)
 else if i.op=12∨i.op=13 then decide (n=0)
 else if i.op=17 then decide (n=0)&&decide (nth owner i.a.toNat= -1)
 else true
def ableV (c:List Ins)(x:TS):Bool:=decide (x.pc<(c.length:Int))&&ableL x.owner x.wait.length (nextIns c x.pc)
def mayK (m:Int)(l:List Wt)(k:Nat):Bool:=
 decide (k=0)||(!(decide (m=1)||(nth l k).lock)&&(List.range k).all fun i=> !((nth l i).lock||decide ((nth l i).wh=(nth l k).wh)))
def mvOK (m:Int)(c:List Ins)(x:TS)(k:Nat):Bool:=if k=0 then ableV c x else decide (k≤x.wait.length)&&mayK m x.wait (k-1)
def findsL (l:List Wt)(words:List Int)(w:Int):Int:=match l.reverse.find? (fun x=> !x.lock&&decide (x.wh=w)) with
 |some x=>x.what
 |none=>nth words w.toNat
def bit (b:Bool):Int:=if b then 1 else 0
def TS.done (x:TS)(w:Wt):TS:= { x with words:=if w.lock=true then x.words else x.words.set w.wh.toNat w.what,owner:=if w.lock=true then x.owner.set w.wh.toNat (-1) else x.owner }
def TS.store (m:Int)(x:TS)(w:Wt):TS:=if 0<m then { x with wait:=x.wait++ [w] } else x.done w
def TS.reg (x:TS)(k:Int):Int:=nth x.regs k.toNat
def TS.put (x:TS)(k:Int)(v:Int):TS:= { x with regs:=x.regs.set k.toNat v }
def TS.isWord (x:TS)(n:Int):Bool:=decide (0≤n∧n<x.words.length)
def TS.finds (x:TS)(w:Int):Int:=findsL x.wait x.words w
def TS.holds (x:TS)(a:Int):Bool:=x.wait.any fun w=>w.lock&&decide (w.wh=a)
def execT (m:Int)(n:Nat)(i:Ins)(x:TS):TS:=
  if i.op=1 then x.put i.a i.b
  else if i.op=2 then x.put i.a (x.reg i.b)
  else if i.op=3 then x.put i.a (wrap64 (x.reg i.b+x.reg i.c))
  else if i.op=4 then x.put i.a (wrap64 (x.reg i.b-x.reg i.c))
  else if i.op=5 then x.put i.a (wrap64 (x.reg i.b*x.reg i.c))
  else if i.op=6 then x.put i.a (bit (decide (x.reg i.b<x.reg i.c)))
  else if i.op=7 then x.put i.a (bit (decide (x.reg i.b=x.reg i.c)))
  else if i.op=8 then x.put i.a (x.finds i.b)
  else if i.op=9 then x.store m ⟨false,i.a,x.reg i.b⟩
  else if i.op=10 then (if x.isWord (x.reg i.b) then x.put i.a (x.finds (x.reg i.b)) else { x with fell:=true })
  else if i.op=11 then (if x.isWord (x.reg i.a) then x.store m ⟨false,x.reg i.a,x.reg i.b⟩ else { x with fell:=true })
  else if i.op=13 then
    (if nth x.words i.a.toNat=x.reg i.b then { x with words:=x.words.set i.a.toNat (x.reg i.c),regs:=x.regs.set i.b.toNat 1 } else x.put i.b 0)
  else if i.op=14 then { x with pc:=i.a }
  else if i.op=15 then (if x.reg i.a=0 then { x with pc:=i.b } else x)
  else if i.op=16 then { x with prints:=x.prints++ [(n:Int),x.reg i.a] }
  else if i.op=17 then { x with owner:=x.owner.set i.a.toNat n }
  else if i.op=18 then
    (if nth x.owner i.a.toNat≠n then { x with fell:=true }
     else if x.holds i.a then { x with fell:=true }
     else x.store m ⟨true,i.a,0⟩)
  else x
def doT (m:Int)(n:Nat)(c:List Ins)(k:Nat)(x:TS):TS:=
 if 0<k then { x.done (nth x.wait (k-1)) with wait:=x.wait.eraseIdx (k-1) } else execT m n (nextIns c x.pc) { x with pc:=x.pc+1 }
def mvs (m:Int)(c:List Ins)(t:Nat)(x:TS):List Int:=(if ableV c x=true then [((8*t:Nat):Int)] else [])++((List.range x.wait.length).filter (mayK m x.wait)).map fun k=>((8*t+k+1:Nat):Int)
def moves (p:Pg)(m:Int)(s:MSt):List Int:=(List.range p.code.length).flatMap fun t=>mvs m (nth p.code t) t (s.view t)
def ended (p:Pg)(s:MSt):Bool:=(List.range p.code.length).all fun t=>decide (¬(nth s.ths t).pc<((nth p.code t).length:Int))&&decide ((nth s.ths t).wait.length=0)
def stepT (p:Pg)(m:Int)(s:MSt)(t k:Nat):TS:=doT m t (nth p.code t) k (s.view t)
def nameB (op:Int):ByteArray:=
 if op=1 then ⟨#[99,111,110,115,116]⟩ else
 if op=2 then ⟨#[109,111,118,101]⟩ else
 if op=3 then ⟨#[97,100,100]⟩ else
 if op=4 then ⟨#[115,117,98]⟩ else
 if op=5 then ⟨#[109,117,108]⟩ else
 if op=6 then ⟨#[108,101,115,115]⟩ else
 if op=7 then ⟨#[115,97,109,101]⟩ else
 if op=8 then ⟨#[108,111,97,100]⟩ else
 if op=9 then ⟨#[115,116,111,114,101]⟩ else
 if op=10 then ⟨#[108,111,97,100,97,116]⟩ else
 if op=11 then ⟨#[115,116,111,114,101,97,116]⟩ else
 if op=12 then ⟨#[102,101,110,99,101]⟩ else
 if op=13 then ⟨#[99,97,115]⟩ else
 if op=14 then ⟨#[106,117,109,112]⟩ else
 if op=15 then ⟨#[122,101,114,111]⟩ else
 if op=16 then ⟨#[112,114,105,110,116]⟩ else
 if op=17 then ⟨#[108,111,99,107]⟩ else
 if op=18 then ⟨#[117,110,108,111,99,107]⟩ else
 ⟨#[]⟩
def kindsB (op:Int):ByteArray:=
 if op=1 then ⟨#[114,110]⟩ else
 if op=2 then ⟨#[114,114]⟩ else
 if op=3 then ⟨#[114,114,114]⟩ else
 if op=4 then ⟨#[114,114,114]⟩ else
 if op=5 then ⟨#[114,114,114]⟩ else
 if op=6 then ⟨#[114,114,114]⟩ else
 if op=7 then ⟨#[114,114,114]⟩ else
 if op=8 then ⟨#[114,119]⟩ else
 if op=9 then ⟨#[119,114]⟩ else
 if op=10 then ⟨#[114,114]⟩ else
 if op=11 then ⟨#[114,114]⟩ else
 if op=12 then ⟨#[]⟩ else
 if op=13 then ⟨#[119,114,114]⟩ else
 if op=14 then ⟨#[99]⟩ else
 if op=15 then ⟨#[114,99]⟩ else
 if op=16 then ⟨#[114]⟩ else
 if op=17 then ⟨#[108]⟩ else
 if op=18 then ⟨#[108]⟩ else
 ⟨#[]⟩
set_option maxHeartbeats 1000000 in
theorem name_any (op:Int)(w:World):
  Calls Try.prog 34 #[.int .i64 op] w fun e w' =>e= .returned (.tuple #[.string (nameB op), .string (kindsB op)])∧w=w' :=by
 go_enter Try.func34,Try.ntmps34
 go_wp2
 all_goals
  go_ret2
  refine ⟨?_,rfl⟩
  simp_all [nameB,kindsB]
set_option maxHeartbeats 1000000 in
theorem refNumbers_any (x:Ins)(w:World):
  Calls Try.prog 35 #[x.val] w fun e w' =>∃g,w.heap.size≤g∧e= .returned (.slice (some ⟨g,0,none⟩) 3 3)∧w'.heap[g]? =some (.cells #[.int .i64 x.a, .int .i64 x.b, .int .i64 x.c] 3)∧Below w.heap.size w w' :=by
 unfold Ins.val
 go_enter Try.func35,Try.ntmps35
 go_wp2
 go_ret
 exact ⟨w.heap.size+1,by omega,rfl,heap_alloc2_new _ _ _,((Below.refl _ _).alloc (Nat.le_refl _) _).alloc (by simp) _⟩
def fitsB (p:PR)(size kind n:Int):Bool:=
 if kind=110 then true else
 let most:=if kind=114 then p.regs else if kind=119 then (p.words.l.length:Int) else if kind=108 then p.locks else if kind=99 then wrap64 (size+1) else 0
 decide (0≤n)&&decide (n<most)
set_option maxHeartbeats 1000000 in
theorem refFits_any (p:PR)(size kind n:Int)(w:World)(h:p.At w):
  Calls Try.prog 36 #[p.val, .int .i64 size, .int .u8 kind, .int .i64 n] w fun e w' =>e= .returned (.bool (fitsB p size kind n))∧Below w.heap.size w w' :=by
 unfold PR.val
 go_enter Try.func36,Try.ntmps36
 go_wp2
 all_goals
  go_ret
  refine ⟨?_,(Below.refl _ _).alloc (Nat.le_refl _) _⟩
  simp_all [fitsB]
  try omega
def Ins.num (x:Ins)(k:Nat):Int:=match k with|0=>x.a|1=>x.b|_=>x.c
def okNum (p:PR)(size:Int)(x:Ins)(k:Nat):Bool:=
 if h:k<(kindsB x.op).size then fitsB p size (((kindsB x.op)[k]).toNat:Int) (x.num k) else x.num k==0
def insFault (p:PR)(size:Int)(x:Ins):Option Int:=
 if (nameB x.op).toList.isEmpty then some 2 else if okNum p size x 0&&okNum p size x 1&&okNum p size x 2 then none else some 3
def first {β:Type}(f:Nat→Option β):Nat→Nat→Option β
 |0,_=>none
 |k+1,i=>match f i with
  |some b=>some b
  |none=>first f k (i+1)
theorem first_next {β:Type}{f:Nat→Option β}{n i:Nat}(hi:i<n)(h:f i=none):first f (n-i) i=first f (n-(i+1)) (i+1):=by
 obtain ⟨k,hk⟩:∃k,n-i=k+1:=⟨n-i-1,by omega⟩
 have:n-(i+1)=k:=by omega
 rw [hk,this,first,h]
theorem first_hit {β:Type}{f:Nat→Option β}{n i:Nat}{b:β}(hi:i<n)(h:f i=some b):first f (n-i) i=some b:=by
 obtain ⟨k,hk⟩:∃k,n-i=k+1:=⟨n-i-1,by omega⟩
 rw [hk,first,h]
structure Flt where
 code:Int
 thread:Int
 at_:Int
 deriving DecidableEq
def Flt.val (f:Flt):Value:= .agg #[.int .i64 f.code, .int .i64 f.thread, .int .i64 f.at_]
def threadFault (p:PR)(t:Nat):Option Flt:=
 if 400<(nth p.code.l t).l.length then some ⟨1,t,0⟩ else
 first (fun at_=>(insFault p (nth p.code.l t).l.length (nth (nth p.code.l t).l at_)).map fun e=>⟨e,t,at_⟩) ((nth p.code.l t).l.length-0) 0
def checkF (p:PR):Flt:=
 if p.code.l.length<1∨4<p.code.l.length∨64<p.words.l.length then ⟨1,0,0⟩ else
 if p.locks<0∨4<p.locks∨p.regs<1∨200<p.regs then ⟨3,0,0⟩ else
 (first (threadFault p) (p.code.l.length-0) 0).getD ⟨0,0,0⟩
theorem checkF_size (p:PR)(h:p.code.l.length<1∨4<p.code.l.length∨64<p.words.l.length):checkF p=⟨1,0,0⟩:=by
 unfold checkF;rw [if_pos h]
theorem checkF_range (p:PR)(h:¬(p.code.l.length<1∨4<p.code.l.length∨64<p.words.l.length))(h2:p.locks<0∨4<p.locks∨p.regs<1∨200<p.regs):checkF p=⟨3,0,0⟩:=by
 unfold checkF;rw [if_neg h,if_pos h2]
theorem checkF_first (p:PR)(h:¬(p.code.l.length<1∨4<p.code.l.length∨64<p.words.l.length))(h2:¬(p.locks<0∨4<p.locks∨p.regs<1∨200<p.regs)):
  checkF p=(first (threadFault p) (p.code.l.length-0) 0).getD ⟨0,0,0⟩:=by
 unfold checkF;rw [if_neg h,if_neg h2]
def threadScan (p:PR)(t i:Nat):Option Flt:=
 first (fun at_=>(insFault p (nth p.code.l t).l.length (nth (nth p.code.l t).l at_)).map fun e=>⟨e,t,at_⟩) ((nth p.code.l t).l.length-i) i
set_option maxRecDepth 100000 in
set_option maxHeartbeats 2000000 in
theorem refCheck_any (p:PR)(w:World)(h:p.At w):
  Calls Try.prog 11 #[p.val] w fun e w' =>e= .returned (checkF p).val∧Below w.heap.size w w' :=by
 have hc:=h.code
 have hw:=h.words
 have hno0:=hc.noHead
 have hno1:=hc.no (w.heap.size+1) (by omega)
 have hcl:=hc.len
 have hwl:=h.words.len
 unfold PR.val
 by_cases h1:p.code.l.length<1∨4<p.code.l.length∨64<p.words.l.length
 ·have Hf:=hid (checkF_size p h1)
  go_enter Try.func11,Try.ntmps11
  go_wp2
  all_goals
   refine bodyPost_ret (v:=Flt.val ⟨1,0,0⟩) (by simp [results,Try.results11,go_sem,Flt.val]) rfl ⟨by rw [Hf.out], ?_⟩
   exact (((Below.refl _ _).alloc (Nat.le_refl _) _).alloc (by simp) _)
 ·by_cases h2:p.locks<0∨4<p.locks∨p.regs<1∨200<p.regs
  ·have Hf:=hid (checkF_range p h1 h2)
   go_enter Try.func11,Try.ntmps11
   go_wp2
   all_goals
    refine bodyPost_ret (v:=Flt.val ⟨3,0,0⟩) (by simp [results,Try.results11,go_sem,Flt.val]) rfl ⟨by rw [Hf.out], ?_⟩
    exact (((Below.refl _ _).alloc (Nat.le_refl _) _).alloc (by simp) _)
  ·have Hf:=hid (checkF_first p h1 h2)
   go_enter Try.func11,Try.ntmps11
   go_wp2
   have hW0:=(Below.refl w.heap.size w).alloc (Nat.le_refl _) (Obj.cells #[Value.slice p.code.A p.code.l.length p.code.cap,Value.slice p.words.A p.words.l.length p.words.cap,Value.int IntKind.i64 p.locks,Value.int IntKind.i64 p.regs] 25)
   have hW1:=hW0.alloc (by simp) (Obj.cells #[Value.int IntKind.i64 0,Value.int IntKind.i64 0,Value.int IntKind.i64 0] 30)
   have hB0:=(Blk.new w 25 #[Value.slice p.code.A p.code.l.length p.code.cap,Value.slice p.words.A p.words.l.length p.words.cap,Value.int IntKind.i64 p.locks,Value.int IntKind.i64 p.regs]).alloc (Obj.cells #[Value.int IntKind.i64 0,Value.int IntKind.i64 0,Value.int IntKind.i64 0] 30)
   have hB1:=Blk.new (w.alloc (Obj.cells #[Value.slice p.code.A p.code.l.length p.code.cap,Value.slice p.words.A p.words.l.length p.words.cap,Value.int IntKind.i64 p.locks,Value.int IntKind.i64 p.regs] 25)) 30 #[Value.int IntKind.i64 0,Value.int IntKind.i64 0,Value.int IntKind.i64 0]
   rw [World.size_alloc] at hB1
   clear hW0
   generalize (w.alloc _).alloc _=w1 at*
   go_loopw [3] (fun i wr=>∃t:Nat,t≤p.code.l.length∧i= .int .i64 t∧Below w1.heap.size w1 wr∧Hid (checkF p=(first (threadFault p) (p.code.l.length-t) t).getD ⟨0,0,0⟩)) (fun i _=>p.code.l.length-(intOf i).toNat)
   case atStart=>exact ⟨0,by omega,rfl,Below.refl _ _,Hf⟩
   case round=>
    obtain ⟨t,ht,rfl,hbr,hF⟩:=hrel
    clear Hf
    have hcr:=(hc.below' hW1).below' hbr
    have hwr:=(hw.below' hW1).below' hbr
    have hB0r:=hB0.below' hbr
    have hB1r:=hB1.below' hbr
    obtain ⟨c00,c01,c02,c03⟩:=hB0r.cells4
    obtain ⟨c10,c11,c12⟩:=hB1r.cells3
    obtain ⟨f10,f11,f12⟩:=hB1r.frozen3
    have hWr:=bstep hW1 hbr hW1.size
    have hl0:=hB0r.lt
    have hl1:=hB1r.lt
    by_cases hlt:t<p.code.l.length
    ·have hrl:=(hcr.inner t hlt).len
     by_cases h400:400<(nth p.code.l t).l.length
     ·have hT:=hid (show checkF p=⟨1,t,0⟩ by rw [hF.out,first_hit hlt (by unfold threadFault;rw [if_pos h400])];rfl)
      go_wp2
      refine bodyPost_ret (v:=Flt.val ⟨1,t,0⟩) (by simp [results,Try.results11,go_sem,Flt.val,c10,c11,c12,f10,f11,f12]) rfl ⟨by rw [hT.out], ?_⟩
      exact (by repeat (first|assumption|exact Below.refl _ _|refine bset ?_ (by first|omega|(simp;done)|(simp;omega)) _|refine Below.alloc ?_ (by first|omega|(simp;done)|(simp;omega)) _|refine Below.drew ?_))
     ·have hT:=hid (show threadFault p t=threadScan p t 0 by unfold threadFault threadScan;rw [if_neg h400])
      go_wp2
      have hsr:p.code.l.length≤4:=by omega
      clear c00 c01 c02 c03 c10 c11 c12 f10 f11 f12
      obtain ⟨wo,rfl⟩:∃wo,wo=wr:=⟨_,rfl⟩
      go_loopw [4] (fun i ws=>∃k:Nat,k≤(nth p.code.l t).l.length∧i= .int .i64 k∧Below wo.heap.size wo ws∧Hid (threadFault p t=threadScan p t k)) (fun i _=>(nth p.code.l t).l.length-(intOf i).toNat)
      case atStart=>exact ⟨0,by omega,rfl,Below.refl _ _,hT⟩
      case round=>
       obtain ⟨k,hk,rfl,hbs,hF2⟩:=hrel
       clear hT
       have hcs:=hcr.below' hbs
       have hws:=hwr.below' hbs
       have hB0s:=hB0r.below' hbs
       have hB1s:=hB1r.below' hbs
       obtain ⟨c00,c01,c02,c03⟩:=hB0s.cells4
       obtain ⟨c10,c11,c12⟩:=hB1s.cells3
       obtain ⟨f10,f11,f12⟩:=hB1s.frozen3
       have hWs:=bstep hWr hbs hWr.size
       have hl0:=hB0s.lt
       have hl1:=hB1s.lt
       by_cases hkt:k<(nth p.code.l t).l.length
       ·by_cases he:(nameB (nth (nth p.code.l t).l k).op).toList.isEmpty=true
        ·have hS:=hid (show checkF p=⟨2,t,k⟩ by
          have e1:threadFault p t=some ⟨2,t,k⟩:=by
           rw [hF2.out,threadScan,first_hit hkt (b:=⟨2,t,k⟩) (by unfold insFault;rw [if_pos he];rfl)]
          rw [hF.out,first_hit hlt e1];rfl)
         go_wp2_with (go_at_call 34;refine (name_any _ _).mono ?_;rintro e w' ⟨rfl,rfl⟩)
         refine bodyPost_ret (v:=Flt.val ⟨2,t,k⟩) (by simp [results,Try.results11,go_sem,Flt.val,c10,c11,c12,f10,f11,f12,hl1]) rfl ⟨by rw [hS.out], ?_⟩
         exact (by repeat (first|assumption|exact Below.refl _ _|refine bset ?_ (by first|omega|(simp;done)|(simp;omega)) _|refine Below.alloc ?_ (by first|omega|(simp;done)|(simp;omega)) _|refine Below.drew ?_))
        ·have he' :(nameB (nth (nth p.code.l t).l k).op).toList.isEmpty=false:=by simpa using he
         have hS:=hid he'
         clear he
         go_wp2_with (go_at_call 34;refine (name_any _ _).mono ?_;rintro e w' ⟨rfl,rfl⟩)
         refine (refNumbers_any (nth (nth p.code.l t).l k) _).mono ?_
         rintro e w3 ⟨g,hg,rfl,hBg,hbn⟩
         have hb3:Below wr.heap.size wr w3:=((Below.refl _ _).alloc (Nat.le_refl _) _).trans (hbn.mono (by simp))
         have hc3:=hcs.below' hb3
         have hB03:=hB0s.below' hb3
         have hB13:=hB1s.below' hb3
         have hW3:=bstep hWs hb3 hWs.size
         clear hbn c00 c01 c02 c03 c10 c11 c12 f10 f11 f12
         go_wp2
         obtain ⟨wp,rfl⟩:∃wp,wp=wr:=⟨_,rfl⟩
         go_loopw [9] (fun i ws=>∃m:Nat,m≤3∧i= .int .i64 m∧Below w3.heap.size w3 ws∧Hid (∀j,j<m→okNum p (nth p.code.l t).l.length (nth (nth p.code.l t).l k) j=true)) (fun i _=>3-(intOf i).toNat)
         case atStart=>exact ⟨0,by omega,rfl,Below.refl _ _,hid (fun j hj=>absurd hj (by omega))⟩
         case round=>
          obtain ⟨m,hm,rfl,hbm,hF3⟩:=hrel
          have hcm:=hc3.below' hbm
          have hwm:=(hws.below' hb3).below' hbm
          have hB0m:=hB03.below' hbm
          have hB1m:=hB13.below' hbm
          have hBgm:=Blk.below' hBg hbm
          have hWm:=bstep hW3 hbm hW3.size
          by_cases hm3:m<3
          ·have hcg:wr.cell? ⟨g,m,none⟩=some (.int .i64 ((nth (nth p.code.l t).l k).num m)):=by
            rw [hBgm.cell m]
            match m,hm3 with
            |0,_=>rfl
            |1,_=>rfl
            |2,_=>rfl
           have hl1' :=hB1m.lt
           have hl0' :=hB0m.lt
           by_cases hok:okNum p (nth p.code.l t).l.length (nth (nth p.code.l t).l k) m=true
           ·by_cases hmk:m<(kindsB (nth (nth p.code.l t).l k).op).size
            ·have ho:=hok
             unfold okNum at ho
             rw [dif_pos hmk] at ho
             have X0:∀x:XW wr,p.code.At x.w:=fun x=>hcm.below' x.h
             have X1:∀x:XW wr,p.words.At x.w:=fun x=>hwm.below' x.h
             have X2:∀x:XW wr,x.w.cell? ⟨w.heap.size,0,none⟩=_:=fun x=>(hB0m.below' x.h).cells4.1
             have X3:∀x:XW wr,x.w.cell? ⟨w.heap.size,1,none⟩=_:=fun x=>(hB0m.below' x.h).cells4.2.1
             have X4:∀x:XW wr,x.w.cell? ⟨w.heap.size,2,none⟩=_:=fun x=>(hB0m.below' x.h).cells4.2.2.1
             have X5:∀x:XW wr,x.w.cell? ⟨w.heap.size,3,none⟩=_:=fun x=>(hB0m.below' x.h).cells4.2.2.2
             have X6:∀x:XW wr,x.w.cell? ⟨g,m,none⟩=some (.int .i64 ((nth (nth p.code.l t).l k).num m)):=fun x=>by rw [x.h.cell (show g<wr.heap.size from hBgm.lt)];exact hcg
             go_wp2
             refine wp_region_x (by kernel_rfl) (by kernel_rfl) ?_
             repeat (go_big_quiet_step ((go_at_call 36;exact Calls.x_of (refFits_any p _ _ _ _ ⟨X0 _,X1 _⟩))))
             refine wpQuiet_nil ?_
             intro _ hx
             obtain ⟨x,rfl⟩:=hx
             have hb:=x.h
             go_wp2
             go_roundw
             case rel=>exact ⟨m+1,by omega,by go_num,bstep hbm hb hbm.size,hid (fun j hj=>by rcases Nat.lt_or_ge j m with h' |h';exact hF3.out j h';have:j=m:=(by omega);subst this;exact hok)⟩
             case measure=>simp [intOf];omega
            ·have ho:((nth (nth p.code.l t).l k).num m==0)=true:=by unfold okNum at hok;rwa [dif_neg hmk] at hok
             go_wp2
             go_roundw
             case rel=>exact ⟨m+1,by omega,by go_num,hbm,hid (fun j hj=>by rcases Nat.lt_or_ge j m with h' |h';exact hF3.out j h';have:j=m:=(by omega);subst this;exact hok)⟩
             case measure=>simp [intOf];omega
           ·have hS3:=hid (show checkF p=⟨3,t,k⟩ by
             have e0:insFault p (nth p.code.l t).l.length (nth (nth p.code.l t).l k)=some 3:=by
              unfold insFault
              rw [if_neg (by rw [hS.out];simp),if_neg]
              intro hall
              simp only [Bool.and_eq_true] at hall
              match m,hm3,hok with
              |0,_,hok=>exact hok hall.1.1
              |1,_,hok=>exact hok hall.1.2
              |2,_,hok=>exact hok hall.2
             have e1:threadFault p t=some ⟨3,t,k⟩:=by
              rw [hF2.out,threadScan,first_hit hkt (b:=⟨3,t,k⟩) (by rw [e0];rfl)]
             rw [hF.out,first_hit hlt e1];rfl)
            obtain ⟨c10,c11,c12⟩:=hB1m.cells3
            obtain ⟨f10,f11,f12⟩:=hB1m.frozen3
            by_cases hmk:m<(kindsB (nth (nth p.code.l t).l k).op).size
            ·have ho:fitsB p (nth p.code.l t).l.length ((kindsB (nth (nth p.code.l t).l k).op)[m].toNat:Int) ((nth (nth p.code.l t).l k).num m)=false:=by
              unfold okNum at hok
              rw [dif_pos hmk] at hok
              simpa using hok
             have X0:∀x:XW wr,p.code.At x.w:=fun x=>hcm.below' x.h
             have X1:∀x:XW wr,p.words.At x.w:=fun x=>hwm.below' x.h
             have X2:∀x:XW wr,x.w.cell? ⟨w.heap.size,0,none⟩=_:=fun x=>(hB0m.below' x.h).cells4.1
             have X3:∀x:XW wr,x.w.cell? ⟨w.heap.size,1,none⟩=_:=fun x=>(hB0m.below' x.h).cells4.2.1
             have X4:∀x:XW wr,x.w.cell? ⟨w.heap.size,2,none⟩=_:=fun x=>(hB0m.below' x.h).cells4.2.2.1
             have X5:∀x:XW wr,x.w.cell? ⟨w.heap.size,3,none⟩=_:=fun x=>(hB0m.below' x.h).cells4.2.2.2
             have X6:∀x:XW wr,x.w.cell? ⟨g,m,none⟩=some (.int .i64 ((nth (nth p.code.l t).l k).num m)):=fun x=>by rw [x.h.cell (show g<wr.heap.size from hBgm.lt)];exact hcg
             go_wp2
             refine wp_region_x (by kernel_rfl) (by kernel_rfl) ?_
             repeat (go_big_quiet_step ((go_at_call 36;exact Calls.x_of (refFits_any p _ _ _ _ ⟨X0 _,X1 _⟩))))
             refine wpQuiet_nil ?_
             intro _ hx
             obtain ⟨x,rfl⟩:=hx
             have hb:=x.h
             have hB1x:=hB1m.below' hb
             obtain ⟨c10,c11,c12⟩:=hB1x.cells3
             obtain ⟨f10,f11,f12⟩:=hB1x.frozen3
             have hWx:=bstep hWm hb hWm.size
             go_wp2
             refine bodyPost_ret (v:=Flt.val ⟨3,t,k⟩) (by simp [results,Try.results11,go_sem,Flt.val,c10,c11,c12,f10,f11,f12]) rfl ⟨by rw [hS3.out], ?_⟩
             exact (by repeat (first|assumption|exact Below.refl _ _|refine bset ?_ (by first|omega|(simp;done)|(simp;omega)) _|refine Below.alloc ?_ (by first|omega|(simp;done)|(simp;omega)) _|refine Below.drew ?_))
            ·have ho:((nth (nth p.code.l t).l k).num m==0)=false:=by unfold okNum at hok;rw [dif_neg hmk] at hok;simpa using hok
             go_wp2
             refine bodyPost_ret (v:=Flt.val ⟨3,t,k⟩) (by simp [results,Try.results11,go_sem,Flt.val,c10,c11,c12,f10,f11,f12]) rfl ⟨by rw [hS3.out], ?_⟩
             exact (by repeat (first|assumption|exact Below.refl _ _|refine bset ?_ (by first|omega|(simp;done)|(simp;omega)) _|refine Below.alloc ?_ (by first|omega|(simp;done)|(simp;omega)) _|refine Below.drew ?_))
          ·have hall:insFault p (nth p.code.l t).l.length (nth (nth p.code.l t).l k)=none:=by
            unfold insFault
            rw [if_neg (by rw [hS.out];simp),if_pos]
            simp only [hF3.out 0 (by omega),hF3.out 1 (by omega),hF3.out 2 (by omega),Bool.and_self]
           go_wp2
           go_roundw
           case rel=>exact ⟨k+1,by omega,by go_num,bstep (bstep hbs hb3 hbs.size) hbm (bstep hbs hb3 hbs.size).size,hid (by rw [hF2.out];unfold threadScan;exact first_next hkt (by rw [hall];rfl))⟩
           case measure=>simp [intOf];omega
       ·have hT2:=hid (show threadFault p t=none by
         have e:(nth p.code.l t).l.length-k=0:=by omega
         rw [hF2.out,threadScan,e,first])
        go_wp2
        go_roundw
        case rel=>exact ⟨t+1,by omega,by go_num,bstep hbr hbs hbr.size,hid (by rw [hF.out,first_next hlt hT2.out])⟩
        case measure=>simp [intOf];omega
    ·go_wp2
     refine bodyPost_ret (v:=Flt.val ⟨0,0,0⟩) (by simp [results,Try.results11,go_sem,Flt.val,c10,c11,c12]) rfl ⟨?_,(by repeat (first|assumption|exact Below.refl _ _|refine bset ?_ (by first|omega|(simp;done)|(simp;omega)) _|refine Below.alloc ?_ (by first|omega|(simp;done)|(simp;omega)) _|refine Below.drew ?_))⟩
     have e:p.code.l.length-t=0:=by omega
     rw [hF.out,e]
     rfl
def pairsOf (es:Array MapEntry):List (Value×Value):=es.toList.map fun e=>(e.key,e.val)
def keysI (l:List (Int×Value)):List (Value×Value):=l.map fun x=>(.int .i64 x.1,x.2)
def MapI (w:World)(g:Nat)(l:List (Int×Value)):Prop:=∃es clock,w.heap[g]? =some (.map es clock)∧pairsOf es=keysI l
theorem MapI.of_block {w w' :World}{g:Nat}{l:List (Int×Value)}(h:MapI w g l)(hb:w'.heap[g]? =w.heap[g]?):MapI w' g l:=by
 obtain ⟨es,c,h1,h2⟩:=h
 exact ⟨es,c,hb.trans h1,h2⟩
theorem MapI.lt {w:World}{g:Nat}{l:List (Int×Value)}(h:MapI w g l):g<w.heap.size:=by
 obtain ⟨es,c,h1,_⟩:=h
 exact (Array.getElem?_eq_some_iff.1 h1).1
@[go_sem] theorem MapI.alloc {w:World} {g:Nat} {l:List (Int×Value)} (h:MapI w g l) (o:Obj):MapI (w.alloc o) g l:=h.of_block (Below.heap_alloc w o g h.lt)
@[go_sem] theorem MapI.drew {w:World} {g:Nat} {l:List (Int×Value)} (h:MapI w g l):MapI w.drew g l:=h.of_block rfl
theorem MapI.below {w w' :World}{B g:Nat}{l:List (Int×Value)}(h:MapI w g l)(hb:Below B w w')(hg:g<B):MapI w' g l:=h.of_block (hb.block g hg)
theorem MapI.setCell {w:World}{g:Nat}{l:List (Int×Value)}(h:MapI w g l){p:Addr}(hp:g≠p.block)(v:Value):MapI (w.setCell p v) g l:=h.of_block (Below.heap_setCell w p v g hp)
theorem MapI.made (w:World):MapI (w.alloc (.map #[] 0)) w.heap.size []:=⟨#[],0,Go.heap_alloc_new w _,rfl⟩
def atKey (k:Int):List (Int×Value)→Nat→Option (Nat×Value)
 | [],_=>none
 |(j,v)::r,i=>if k=j then some (i,v) else atKey k r (i+1)
theorem findNow_int (k:Int):∀(es:List MapEntry) (l:List (Int×Value)) (i:Nat),(es.map fun e=>(e.key,e.val))=keysI l→Instr.findNow (.int .i64) (.int .i64 k) es i=some (atKey k l i)
 | [], [],_,_=>rfl
 | [],_::_,_,h=>by simp [keysI] at h
 |_::_, [],_,h=>by simp [keysI] at h
 |e::es,(j,v)::l,i,h=>by
  simp only [keysI,List.map_cons,List.cons.injEq,Prod.mk.injEq] at h
  obtain ⟨⟨hk,hv⟩,hr⟩:=h
  have ih:=findNow_int k es l (i+1) hr
  simp only [Instr.findNow,hk,Instr.sameNow,if_true]
  by_cases hkj:k=j
  ·simp [hkj,atKey,hv]
  ·have:(k==j)=false:=by simpa using hkj
   simp [this,atKey,hkj,ih]
section
variable {P:Program}(w:World)
theorem run_findKey_int (K:TypeId)(k:Int)(es:Array MapEntry)(l:List (Int×Value))(hK:P.underlying K=some (.int .i64))(h:pairsOf es=keysI l):
  (Instr.findKey K (.int .i64 k) es.toList).run P w= .ok (atKey k l 0) w:=by
 simp [Instr.findKey,run_underlying hK,findNow_int k es.toList l 0 h]
theorem run_checkKey_int (b:Bool)(n:Nat)(K:TypeId)(k:Int)(hK:P.underlying K=some (.int .i64)):(Instr.checkKey b (n+1) K (.int .i64 k)).run P w= .ok () w:=by
 simp [Instr.checkKey,run_underlying hK]
theorem run_lookup_ok (T K E:TypeId)(g:Nat)(k:Int)(l:List (Int×Value))(z:Value)(hT:P.underlying T=some (.map K E))(hK:P.underlying K=some (.int .i64))
  (hz:(zeroValue E).run P w= .ok z w) (h:MapI w g l):
  (Instr.lookup T (.map (some g)) (.int .i64 k) true).run P w= .ok (.tuple #[((atKey k l 0).map (·.2)).getD z, .bool (atKey k l 0).isSome]) w:=by
 obtain ⟨es,c,h1,h2⟩:=h
 have e0:(getObj g).run P w= .ok (.map es c) w:=by simp [getObj,Sem.run,h1]
 have e1:=run_findKey_int (P:=P) w K k es l hK h2
 have e2:=run_checkKey_int (P:=P) w es.isEmpty 9999 K k hK
 cases ha:atKey k l 0 with
 |none=>rw [ha] at e1;simp [Instr.lookup,run_underlying hT,e0,e1,e2,hz]
 |some x=>rw [ha] at e1;simp [Instr.lookup,run_underlying hT,e0,e1,e2]
theorem run_lookup_int (T K E:TypeId)(g:Nat)(k:Int)(l:List (Int×Value))(z:Value)(hT:P.underlying T=some (.map K E))(hK:P.underlying K=some (.int .i64))
  (hz:(zeroValue E).run P w= .ok z w) (h:MapI w g l):
  (Instr.lookup T (.map (some g)) (.int .i64 k) false).run P w= .ok (((atKey k l 0).map (·.2)).getD z) w:=by
 obtain ⟨es,c,h1,h2⟩:=h
 have e0:(getObj g).run P w= .ok (.map es c) w:=by simp [getObj,Sem.run,h1]
 have e1:=run_findKey_int (P:=P) w K k es l hK h2
 have e2:=run_checkKey_int (P:=P) w es.isEmpty 9999 K k hK
 cases ha:atKey k l 0 with
 |none=>rw [ha] at e1;simp [Instr.lookup,run_underlying hT,e0,e1,e2,hz]
 |some x=>rw [ha] at e1;simp [Instr.lookup,run_underlying hT,e0,e1,e2]
def World.setMap (w:World)(g:Nat)(es:Array MapEntry)(c:Nat):World:= { w with heap:=w.heap.setIfInBounds g (.map es c) }
@[go_sem] def mapK (P:Program) (T:TypeId):TypeId:=match P.underlying T with|some (.map k _)=>k|_=>0
@[go_sem] def mapE (P:Program) (T:TypeId):TypeId:=match P.underlying T with|some (.map _ e)=>e|_=>0
@[go_sem] def freshI (k:Int):List MapEntry→Bool
 | []=>true
 |e::es=>(match e.key with| .int .i64 j=> !(k==j)|_=>false)&&freshI k es
theorem findNow_fresh (k:Int):∀(es:List MapEntry) (i:Nat),freshI k es=true→Instr.findNow (.int .i64) (.int .i64 k) es i=some none
 | [],_,_=>rfl
 |e::es,i,h=>by
  simp only [freshI,Bool.and_eq_true] at h
  obtain ⟨h1,h2⟩:=h
  have ih:=findNow_fresh k es (i+1) h2
  split at h1
  ·rename_i j hj
   have:(k==j)=false:=by simpa using h1
   simp [Instr.findNow,hj,Instr.sameNow,this,ih]
  ·cases h1
def laterRun (P:Program)(w:World)(T:TypeId)(g:Nat)(k:Int)(v:Value):Result Unit:=(Instr.mapUpdate T (.map (some g)) (.int .i64 k) v).run P w
@[go_sem] theorem run_mapUpdate_lit (T:TypeId) (g:Nat) (k:Int) (v:Value) (es:List MapEntry) (c:Nat) (hT:P.underlying T=some (.map (mapK P T) (mapE P T))) (hK:P.underlying (mapK P T)=some (.int .i64))
  (hg:g=w.heap.size):
  (Instr.mapUpdate T (.map (some g)) (.int .i64 k) v).run P (w.alloc (.map es.toArray c))=
   if freshI k es=true then .ok () (w.alloc (.map (es++ [(⟨.int .i64 k,v,c⟩:MapEntry)]).toArray (c+1))) else laterRun P (w.alloc (.map es.toArray c)) T g k v:=by
 by_cases hnew:freshI k es=true
 case neg=>rw [if_neg hnew];rfl
 rw [if_pos hnew]
 subst hg
 have h1:(w.alloc (.map es.toArray c)).heap[w.heap.size]? =some (.map es.toArray c):=Go.heap_alloc_new w _
 have e0:(getObj w.heap.size).run P (w.alloc (.map es.toArray c))= .ok (.map es.toArray c) (w.alloc (.map es.toArray c)):=by simp only [getObj,Sem.run,h1]
 have e1:(Instr.findKey (mapK P T) (.int .i64 k) es).run P (w.alloc (.map es.toArray c))= .ok none (w.alloc (.map es.toArray c)):=by
  simp [Instr.findKey,run_underlying hK,findNow_fresh k es 0 hnew]
 have e2:=run_checkKey_int (P:=P) (w.alloc (.map es.toArray c)) false 9999 (mapK P T) k hK
 have e3:∀o:Obj,(setObj w.heap.size o).run P (w.alloc (.map es.toArray c))= .ok () (w.alloc o):=by
  intro o
  simp only [setObj,Sem.run,h1]
  have:(w.alloc (.map es.toArray c)).heap.setIfInBounds w.heap.size o=w.heap.push o:=by
   show (w.heap.push _).setIfInBounds w.heap.size o=_
   apply Array.ext_getElem?
   intro i
   simp only [Array.getElem?_setIfInBounds,Array.getElem?_push,Array.size_push]
   by_cases hi:w.heap.size=i
   ·simp [hi]
   ·have:¬i=w.heap.size:=fun e=>hi e.symm
    simp [hi,this]
  simp only [this]
  rfl
 simp [Instr.mapUpdate,run_underlying hT,e0,e1,e2,e3]
end
def shapeV (op:Int):Value:= .agg #[.string (nameB op), .string (kindsB op)]
def shapesL :List (Int×Value):=(List.range 18).map fun i:Nat=>((i:Int)+1,shapeV ((i:Int)+1))
set_option maxHeartbeats 2000000 in
theorem shapes_any (w:World):
  Calls Try.prog 54 #[] w fun e w' =>∃g,w.heap.size≤g∧e= .returned (.map (some g))∧MapI w' g shapesL∧Below w.heap.size w w' :=by
 have hmm:= @run_makeMap Try.prog
 go_enter Try.func54,Try.ntmps54
 go_wp2
 go_ret
 exact ⟨w.heap.size,Nat.le_refl _,rfl,⟨_,_,Go.heap_alloc_new w _,by kernel_rfl⟩,(Below.refl _ _).alloc (Nat.le_refl _) _⟩
def opB (op:Int):Bool:=decide (1≤op∧op≤18)
theorem cases18 (op:Int)(h:1≤op∧op≤18):op=1∨op=2∨op=3∨op=4∨op=5∨op=6∨op=7∨op=8∨op=9∨op=10∨op=11∨op=12∨op=13∨op=14∨op=15∨op=16∨op=17∨op=18:=by omega
theorem nameB_none (op:Int)(h:¬(1≤op∧op≤18)):nameB op=⟨#[]⟩:=by
 unfold nameB
 iterate 18 rw [if_neg (by omega)]
theorem kindsB_none (op:Int)(h:¬(1≤op∧op≤18)):kindsB op=⟨#[]⟩:=by
 unfold kindsB
 iterate 18 rw [if_neg (by omega)]
theorem nameB_empty (op:Int):(nameB op).toList.isEmpty= !opB op:=by
 unfold opB
 by_cases h:1≤op∧op≤18
 ·rw [decide_eq_true h]
  rcases cases18 op h with h|h|h|h|h|h|h|h|h|h|h|h|h|h|h|h|h|h<;>subst h<;>first|(simp [nameB];done)|(unfold nameB;decide+kernel)
 ·rw [decide_eq_false h,nameB_none op h];first|(simp;done)|decide+kernel
theorem atKey_none (k:Int):∀(l:List (Int×Value)) (i:Nat),(∀x∈l,x.1≠k)→atKey k l i=none
 | [],_,_=>rfl
 |x::l,i,h=>by
  rw [atKey,if_neg (fun e=>h x (by simp) e.symm),atKey_none k l (i+1) fun y hy=>h y (by simp [hy])]
theorem shapes_at (op:Int):(atKey op shapesL 0).isSome=opB op∧((atKey op shapesL 0).map (·.2)).getD (.agg #[.string ⟨#[]⟩, .string ⟨#[]⟩])=shapeV op:=by
 unfold opB
 by_cases h:1≤op∧op≤18
 ·rw [decide_eq_true h]
  rcases cases18 op h with h|h|h|h|h|h|h|h|h|h|h|h|h|h|h|h|h|h<;>subst h<;>exact ⟨rfl,rfl⟩
 ·rw [decide_eq_false h,atKey_none]
  ·exact ⟨rfl,by simp [shapeV,nameB_none op h,kindsB_none op h]⟩
  ·intro x hx
   simp only [shapesL,List.mem_map,List.mem_range] at hx
   obtain ⟨i,hi,rfl⟩:=hx
   dsimp only
   omega
theorem shapes_lookup (w:World)(g:Nat)(op:Int)(h:MapI w g shapesL):
  (Instr.lookup 108 (.map (some g)) (.int .i64 op) true).run Try.prog w= .ok (.tuple #[.agg #[.string (nameB op), .string (kindsB op)], .bool (opB op)]) w:=by
 have h1:=run_lookup_ok (P:=Try.prog) w 108 3 106 g op shapesL (.agg #[.string ⟨#[]⟩, .string ⟨#[]⟩]) (by simp) (by simp) (by simp) h
 rw [(shapes_at op).1,(shapes_at op).2] at h1
 exact h1
theorem shapes_lookup1 (w:World)(g:Nat)(op:Int)(h:MapI w g shapesL):
  (Instr.lookup 108 (.map (some g)) (.int .i64 op) false).run Try.prog w= .ok (.agg #[.string (nameB op), .string (kindsB op)]) w:=by
 have h1:=run_lookup_int (P:=Try.prog) w 108 3 106 g op shapesL (.agg #[.string ⟨#[]⟩, .string ⟨#[]⟩]) (by simp) (by simp) (by simp) h
 rw [(shapes_at op).2] at h1
 exact h1
set_option maxHeartbeats 1000000 in
theorem asmNumbers_any (x:Ins)(w:World):
  Calls Try.prog 55 #[x.val] w fun e w' =>e= .returned (.agg #[.int .i64 x.a, .int .i64 x.b, .int .i64 x.c])∧Below w.heap.size w w' :=by
 unfold Ins.val
 go_enter Try.func55,Try.ntmps55
 go_wp2
 refine bodyPost_ret (v:= .agg #[.int .i64 x.a, .int .i64 x.b, .int .i64 x.c]) (by simp [results,Try.results55,go_sem]) rfl ⟨rfl, ?_⟩
 exact (by repeat (first|assumption|exact Below.refl _ _|refine bset ?_ (by first|omega|(simp;done)|(simp;omega)) _|refine Below.alloc ?_ (by first|omega|(simp;done)|(simp;omega)) _|refine Below.drew ?_))
set_option maxHeartbeats 1000000 in
theorem asmFits_any (p:PR)(c:Sl Ins)(kind n:Int)(w:World)(h:p.At w)(hc:c.l.length≤140737488355328):
  Calls Try.prog 56 #[p.val, .slice c.A c.l.length c.cap, .int .u8 kind, .int .i64 n] w fun e w' =>e= .returned (.bool (fitsB p c.l.length kind n))∧Below w.heap.size w w' :=by
 have e:wrap64 ((c.l.length:Int)+1)=c.l.length+1:=IntWalk.wrap64_in _ ⟨by omega,by omega⟩
 have E:=hid e
 clear e
 unfold PR.val
 go_enter Try.func56,Try.ntmps56
 go_wp2
 all_goals
  go_ret
  refine ⟨?_,(by repeat (first|assumption|exact Below.refl _ _|refine bset ?_ (by first|omega|(simp;done)|(simp;omega)) _|refine Below.alloc ?_ (by first|omega|(simp;done)|(simp;omega)) _|refine Below.drew ?_))⟩
  simp_all [fitsB,E.out]
  try omega
theorem index3 (x:Ins)(m:Nat)(hm:m<3)(w:World):(Instr.index 110 (.agg #[.int .i64 x.a, .int .i64 x.b, .int .i64 x.c]) (.int .i64 (m:Int))).run Try.prog w= .ok (.int .i64 (x.num m)) w:=by
 match m,hm with
 |0,_=>show _=_;kernel_rfl
 |1,_=>show _=_;kernel_rfl
 |2,_=>show _=_;kernel_rfl
set_option maxRecDepth 100000 in
set_option maxHeartbeats 2000000 in
theorem asmCheck_any (p:PR)(w:World)(h:p.At w):
  Calls Try.prog 27 #[p.val] w fun e w' =>e= .returned (checkF p).val∧Below w.heap.size w w' :=by
 have hc:=h.code
 have hw:=h.words
 have hno0:=hc.noHead
 have hno1:=hc.no (w.heap.size+1) (by omega)
 have hcl:=hc.len
 have hwl:=h.words.len
 unfold PR.val
 by_cases h1:p.code.l.length<1∨4<p.code.l.length∨64<p.words.l.length
 ·have Hf:=hid (checkF_size p h1)
  go_enter Try.func27,Try.ntmps27
  go_wp2
  all_goals
   refine bodyPost_ret (v:=Flt.val ⟨1,0,0⟩) (by simp [results,Try.results27,go_sem,Flt.val]) rfl ⟨by rw [Hf.out], ?_⟩
   exact (by repeat (first|assumption|exact Below.refl _ _|refine bset ?_ (by first|omega|(simp;done)|(simp;omega)) _|refine Below.alloc ?_ (by first|omega|(simp;done)|(simp;omega)) _|refine Below.drew ?_))
 ·by_cases h2:p.locks<0∨4<p.locks∨p.regs<1∨200<p.regs
  ·have Hf:=hid (checkF_range p h1 h2)
   go_enter Try.func27,Try.ntmps27
   go_wp2
   all_goals
    refine bodyPost_ret (v:=Flt.val ⟨3,0,0⟩) (by simp [results,Try.results27,go_sem,Flt.val]) rfl ⟨by rw [Hf.out], ?_⟩
    exact (by repeat (first|assumption|exact Below.refl _ _|refine bset ?_ (by first|omega|(simp;done)|(simp;omega)) _|refine Below.alloc ?_ (by first|omega|(simp;done)|(simp;omega)) _|refine Below.drew ?_))
  ·have Hf:=hid (checkF_first p h1 h2)
   go_enter Try.func27,Try.ntmps27
   go_wp2
   have hW1:Below w.heap.size w ((w.alloc (Obj.cells #[Value.slice p.code.A p.code.l.length p.code.cap,Value.slice p.words.A p.words.l.length p.words.cap,Value.int IntKind.i64 p.locks,Value.int IntKind.i64 p.regs] 25)).alloc (Obj.cells #[Value.int IntKind.i64 0,Value.int IntKind.i64 0,Value.int IntKind.i64 0] 30)):=(by repeat (first|assumption|exact Below.refl _ _|refine bset ?_ (by first|omega|(simp;done)|(simp;omega)) _|refine Below.alloc ?_ (by first|omega|(simp;done)|(simp;omega)) _|refine Below.drew ?_))
   have hB0:=(Blk.new w 25 #[Value.slice p.code.A p.code.l.length p.code.cap,Value.slice p.words.A p.words.l.length p.words.cap,Value.int IntKind.i64 p.locks,Value.int IntKind.i64 p.regs]).alloc (Obj.cells #[Value.int IntKind.i64 0,Value.int IntKind.i64 0,Value.int IntKind.i64 0] 30)
   have hB1:=Blk.new (w.alloc (Obj.cells #[Value.slice p.code.A p.code.l.length p.code.cap,Value.slice p.words.A p.words.l.length p.words.cap,Value.int IntKind.i64 p.locks,Value.int IntKind.i64 p.regs] 25)) 30 #[Value.int IntKind.i64 0,Value.int IntKind.i64 0,Value.int IntKind.i64 0]
   rw [World.size_alloc] at hB1
   generalize (w.alloc _).alloc _=w1 at*
   go_loopw [52] (fun i wr=>∃t:Nat,t≤p.code.l.length∧i= .int .i64 t∧Below w1.heap.size w1 wr∧Hid (checkF p=(first (threadFault p) (p.code.l.length-t) t).getD ⟨0,0,0⟩)) (fun i _=>p.code.l.length-(intOf i).toNat)
   case atStart=>exact ⟨0,by omega,rfl,Below.refl _ _,Hf⟩
   case round=>
    obtain ⟨t,ht,rfl,hbr,hF⟩:=hrel
    clear Hf
    have hcr:=(hc.below' hW1).below' hbr
    have hwr:=(hw.below' hW1).below' hbr
    have hB0r:=hB0.below' hbr
    have hB1r:=hB1.below' hbr
    obtain ⟨c10,c11,c12⟩:=hB1r.cells3
    obtain ⟨f10,f11,f12⟩:=hB1r.frozen3
    have hWr:=bstep hW1 hbr hW1.size
    have hl0:=hB0r.lt
    have hl1:=hB1r.lt
    by_cases hlt:t<p.code.l.length
    ·have hrl:=(hcr.inner t hlt).len
     by_cases h400:400<(nth p.code.l t).l.length
     ·have hT:=hid (show checkF p=⟨1,t,0⟩ by rw [hF.out,first_hit hlt (by unfold threadFault;rw [if_pos h400])];rfl)
      go_wp2
      refine bodyPost_ret (v:=Flt.val ⟨1,t,0⟩) (by simp [results,Try.results27,go_sem,Flt.val,c10,c11,c12,f10,f11,f12]) rfl ⟨by rw [hT.out], ?_⟩
      exact (by repeat (first|assumption|exact Below.refl _ _|refine bset ?_ (by first|omega|(simp;done)|(simp;omega)) _|refine Below.alloc ?_ (by first|omega|(simp;done)|(simp;omega)) _|refine Below.drew ?_))
     ·have hT:=hid (show threadFault p t=threadScan p t 0 by unfold threadFault threadScan;rw [if_neg h400])
      go_wp2
      have hsr:p.code.l.length≤4:=by omega
      clear c10 c11 c12 f10 f11 f12
      obtain ⟨wo,rfl⟩:∃wo,wo=wr:=⟨_,rfl⟩
      go_loopw [64] (fun i ws=>∃k:Nat,k≤(nth p.code.l t).l.length∧i= .int .i64 k∧Below wo.heap.size wo ws∧Hid (threadFault p t=threadScan p t k)) (fun i _=>(nth p.code.l t).l.length-(intOf i).toNat)
      case atStart=>exact ⟨0,by omega,rfl,Below.refl _ _,hT⟩
      case round=>
       obtain ⟨k,hk,rfl,hbs,hF2⟩:=hrel
       clear hT
       have hcs:=hcr.below' hbs
       have hws:=hwr.below' hbs
       have hB0s:=hB0r.below' hbs
       have hB1s:=hB1r.below' hbs
       have hWs:=bstep hWr hbs hWr.size
       have hl0:=hB0s.lt
       have hl1:=hB1s.lt
       by_cases hkt:k<(nth p.code.l t).l.length
       ·go_wp2
        have hA4:=Blk.new wr 47 #[.int .i64 (nth (nth p.code.l t).l k).op, .int .i64 (nth (nth p.code.l t).l k).a, .int .i64 (nth (nth p.code.l t).l k).b, .int .i64 (nth (nth p.code.l t).l k).c]
        have hb4:Below wr.heap.size wr (wr.alloc (Obj.cells #[.int .i64 (nth (nth p.code.l t).l k).op, .int .i64 (nth (nth p.code.l t).l k).a, .int .i64 (nth (nth p.code.l t).l k).b, .int .i64 (nth (nth p.code.l t).l k).c] 47)):=(by repeat (first|assumption|exact Below.refl _ _|refine bset ?_ (by first|omega|(simp;done)|(simp;omega)) _|refine Below.alloc ?_ (by first|omega|(simp;done)|(simp;omega)) _|refine Below.drew ?_))
        have hl2:=hA4.lt
        generalize (wr.alloc _)=w4 at*
        go_cut [7,8] (fun s ok wc=>∃g,s= .pointer (some ⟨g,0,none⟩)∧w4.heap.size≤g∧Blk wc g 106 #[.string (nameB (nth (nth p.code.l t).l k).op), .string (kindsB (nth (nth p.code.l t).l k).op)]∧ok= .bool (opB (nth (nth p.code.l t).l k).op)∧Below w4.heap.size w4 wc)
        case first=>
         have hl2' :wr.heap.size<w4.heap.size+1:=by omega
         have hcell:w4.cell? ⟨wr.heap.size,0,none⟩=some (.int .i64 (nth (nth p.code.l t).l k).op):=hA4.cell 0
         go_region_with ((go_at_call 54;refine (shapes_any _).mono ?_;rintro e w' ⟨g,hg,rfl,hM,hb⟩;have hlk:=fun W=>shapes_lookup W g (nth (nth p.code.l t).l k).op;obtain ⟨hcc,hff⟩:=bcell hb;have hl3:w4.heap.size≤w'.heap.size:=(by have:=hb.size;simp at this;omega);have hl4:g<w'.heap.size:=hM.lt;have hl5:wr.heap.size<w'.heap.size:=(by omega);have hbw:Below w4.heap.size w4 w' :=(by refine Below.trans ?_ (hb.mono ?_);exact (by repeat (first|assumption|exact Below.refl _ _|refine bset ?_ (by first|omega|(simp;done)|(simp;omega)) _|refine Below.alloc ?_ (by first|omega|(simp;done)|(simp;omega)) _|refine Below.drew ?_));simp)))
         all_goals
          go_wp2
          go_meet
          case rel=>
           first
            |exact ⟨_,rfl,hl3,Blk.new _ _ _,rfl,(by repeat (first|assumption|exact Below.refl _ _|refine bset ?_ (by first|omega|(simp;done)|(simp;omega)) _|refine Below.alloc ?_ (by first|omega|(simp;done)|(simp;omega)) _|refine Below.drew ?_))⟩
            |exact ⟨_,rfl,Nat.le_refl _,((Blk.below' (Blk.drew (Blk.new w4 _ _)) hb).set_ 0 _).set_ 1 _,rfl,(by repeat (first|assumption|exact Below.refl _ _|refine bset ?_ (by first|omega|(simp;done)|(simp;omega)) _|refine Below.alloc ?_ (by first|omega|(simp;done)|(simp;omega)) _|refine Below.drew ?_))⟩
            |trace_state
        case rest=>
         obtain ⟨g,rfl,hg,hBg,rfl,hbc⟩:=hcut
         have hbw:Below wr.heap.size wr wc:=bstep hb4 hbc hb4.size
         have hAc:=hA4.below' hbc
         have hcc:=hcs.below' hbw
         have hwc:=hws.below' hbw
         have hB0c:=hB0s.below' hbw
         have hB1c:=hB1s.below' hbw
         have hWc:=bstep hWs hbw hWs.size
         by_cases ho:opB (nth (nth p.code.l t).l k).op=true
         case neg=>
          have ho' :opB (nth (nth p.code.l t).l k).op=false:=by simpa using ho
          have hS:=hid (show checkF p=⟨2,t,k⟩ by
           have e1:threadFault p t=some ⟨2,t,k⟩:=by
            rw [hF2.out,threadScan,first_hit hkt (b:=⟨2,t,k⟩) (by unfold insFault;rw [if_pos (by rw [nameB_empty,ho'];rfl)];rfl)]
           rw [hF.out,first_hit hlt e1];rfl)
          obtain ⟨c10,c11,c12⟩:=hB1c.cells3
          obtain ⟨f10,f11,f12⟩:=hB1c.frozen3
          clear ho
          go_wp2
          refine bodyPost_ret (v:=Flt.val ⟨2,t,k⟩) (by simp [results,Try.results27,go_sem,Flt.val,c10,c11,c12,f10,f11,f12]) rfl ⟨by rw [hS.out], ?_⟩
          exact (by repeat (first|assumption|exact Below.refl _ _|refine bset ?_ (by first|omega|(simp;done)|(simp;omega)) _|refine Below.alloc ?_ (by first|omega|(simp;done)|(simp;omega)) _|refine Below.drew ?_))
         case pos=>
          obtain ⟨a0,a1,a2,a3⟩:=hAc.cells4
          have hS:=hid ho
          go_wp2_with fail
          refine (asmNumbers_any (nth (nth p.code.l t).l k) _).mono ?_
          rintro e w3 ⟨rfl,hbn⟩
          have hc3:=hcc.below' hbn
          have hw3:=hwc.below' hbn
          have hB03:=hB0c.below' hbn
          have hB13:=hB1c.below' hbn
          have hBg3:=hBg.below' hbn
          have hW3:=bstep hWc hbn hWc.size
          have hb3:=bstep hbw hbn hbw.size
          clear a0 a1 a2 a3
          go_wp2
          obtain ⟨wp,rfl⟩:∃wp,wp=wr:=⟨_,rfl⟩
          go_loopw [83] (fun i ws=>∃m:Nat,m≤3∧i= .int .i64 m∧Below w3.heap.size w3 ws∧Hid (∀j,j<m→okNum p (nth p.code.l t).l.length (nth (nth p.code.l t).l k) j=true)) (fun i _=>3-(intOf i).toNat)
          case atStart=>exact ⟨0,by omega,rfl,Below.refl _ _,hid (fun j hj=>absurd hj (by omega))⟩
          case round=>
           obtain ⟨m,hm,rfl,hbm,hF3⟩:=hrel
           have hcm:=hc3.below' hbm
           have hwm:=hw3.below' hbm
           have hB0m:=hB03.below' hbm
           have hB1m:=hB13.below' hbm
           have hBgm:=hBg3.below' hbm
           have hWm:=bstep hW3 hbm hW3.size
           by_cases hm3:m<3
           ·have hix:=index3 (nth (nth p.code.l t).l k) m hm3
            have X0:∀x:XW wr,p.code.At x.w:=fun x=>hcm.below' x.h
            have X1:∀x:XW wr,p.words.At x.w:=fun x=>hwm.below' x.h
            have X2:∀x:XW wr,x.w.cell? ⟨w.heap.size,0,none⟩=_:=fun x=>(hB0m.below' x.h).cells4.1
            have X3:∀x:XW wr,x.w.cell? ⟨w.heap.size,1,none⟩=_:=fun x=>(hB0m.below' x.h).cells4.2.1
            have X4:∀x:XW wr,x.w.cell? ⟨w.heap.size,2,none⟩=_:=fun x=>(hB0m.below' x.h).cells4.2.2.1
            have X5:∀x:XW wr,x.w.cell? ⟨w.heap.size,3,none⟩=_:=fun x=>(hB0m.below' x.h).cells4.2.2.2
            have X6:∀x:XW wr,x.w.cell? ⟨g,1,none⟩=_:=fun x=>(hBgm.below' x.h).cells2.2
            by_cases hmk:m<(kindsB (nth (nth p.code.l t).l k).op).size
            ·by_cases hok:okNum p (nth p.code.l t).l.length (nth (nth p.code.l t).l k) m=true
             ·have hof:=hok
              unfold okNum at hof
              rw [dif_pos hmk] at hof
              have hge:decide (((kindsB (nth (nth p.code.l t).l k).op).size:Int)≤(m:Int))=false:=decide_eq_false (by omega)
              have hge' :decide ((kindsB (nth (nth p.code.l t).l k).op).size≤m)=false:=decide_eq_false (by omega)
              go_wp2
              refine wp_region_x (by kernel_rfl) (by kernel_rfl) ?_
              repeat (go_big_quiet_step ((go_at_call 56;exact Calls.x_of (asmFits_any p _ _ _ _ ⟨X0 _,X1 _⟩ hrl))))
              refine wpQuiet_nil ?_
              intro _ hx
              obtain ⟨x,rfl⟩:=hx
              have hbx:=x.h
              go_wp2
              go_roundw
              case rel=>exact ⟨m+1,by omega,by go_num,bstep hbm hbx hbm.size,hid (fun j hj=>by rcases Nat.lt_or_ge j m with h' |h';exact hF3.out j h';have:j=m:=(by omega);subst this;exact hok)⟩
              case measure=>simp [intOf];omega
             ·have hof:fitsB p (nth p.code.l t).l.length ((kindsB (nth (nth p.code.l t).l k).op)[m].toNat:Int) ((nth (nth p.code.l t).l k).num m)=false:=by
               unfold okNum at hok
               rw [dif_pos hmk] at hok
               simpa using hok
              have hS3:=hid (show checkF p=⟨3,t,k⟩ by
               have e0:insFault p (nth p.code.l t).l.length (nth (nth p.code.l t).l k)=some 3:=by
                unfold insFault
                rw [if_neg (by rw [nameB_empty,hS.out];simp),if_neg]
                intro hall
                simp only [Bool.and_eq_true] at hall
                match m,hm3,hok with
                |0,_,hok=>exact hok hall.1.1
                |1,_,hok=>exact hok hall.1.2
                |2,_,hok=>exact hok hall.2
               have e1:threadFault p t=some ⟨3,t,k⟩:=by
                rw [hF2.out,threadScan,first_hit hkt (b:=⟨3,t,k⟩) (by rw [e0];rfl)]
               rw [hF.out,first_hit hlt e1];rfl)
              go_wp2
              refine wp_region_x (by kernel_rfl) (by kernel_rfl) ?_
              repeat (go_big_quiet_step ((go_at_call 56;exact Calls.x_of (asmFits_any p _ _ _ _ ⟨X0 _,X1 _⟩ hrl))))
              refine wpQuiet_nil ?_
              intro _ hx
              obtain ⟨x,rfl⟩:=hx
              have hbx:=x.h
              obtain ⟨c10,c11,c12⟩:=(hB1m.below' hbx).cells3
              obtain ⟨f10,f11,f12⟩:=(hB1m.below' hbx).frozen3
              have hWx:=bstep hWm hbx hWm.size
              go_wp2
              refine bodyPost_ret (v:=Flt.val ⟨3,t,k⟩) (by simp [results,Try.results27,go_sem,Flt.val,c10,c11,c12,f10,f11,f12]) rfl ⟨by rw [hS3.out], ?_⟩
              exact (by repeat (first|assumption|exact Below.refl _ _|refine bset ?_ (by first|omega|(simp;done)|(simp;omega)) _|refine Below.alloc ?_ (by first|omega|(simp;done)|(simp;omega)) _|refine Below.drew ?_))
            ·have hge:decide (((kindsB (nth (nth p.code.l t).l k).op).size:Int)≤(m:Int))=true:=decide_eq_true (by omega)
             have hge' :decide ((kindsB (nth (nth p.code.l t).l k).op).size≤m)=true:=decide_eq_true (by omega)
             by_cases hok:okNum p (nth p.code.l t).l.length (nth (nth p.code.l t).l k) m=true
             ·have hof:((nth (nth p.code.l t).l k).num m==0)=true:=by unfold okNum at hok;rwa [dif_neg hmk] at hok
              have hof' :((nth (nth p.code.l t).l k).num m !=0)=false:=by simpa using hof
              go_wp2
              refine wp_region_x (by kernel_rfl) (by kernel_rfl) ?_
              repeat (go_big_quiet_step (fail))
              refine wpQuiet_nil ?_
              intro _ hx
              obtain ⟨x,rfl⟩:=hx
              have hbx:=x.h
              go_wp2
              go_roundw
              case rel=>exact ⟨m+1,by omega,by go_num,bstep hbm hbx hbm.size,hid (fun j hj=>by rcases Nat.lt_or_ge j m with h' |h';exact hF3.out j h';have:j=m:=(by omega);subst this;exact hok)⟩
              case measure=>simp [intOf];omega
             ·have hof:((nth (nth p.code.l t).l k).num m==0)=false:=by unfold okNum at hok;rw [dif_neg hmk] at hok;simpa using hok
              have hof' :((nth (nth p.code.l t).l k).num m !=0)=true:=by simpa using hof
              have hS3:=hid (show checkF p=⟨3,t,k⟩ by
               have e0:insFault p (nth p.code.l t).l.length (nth (nth p.code.l t).l k)=some 3:=by
                unfold insFault
                rw [if_neg (by rw [nameB_empty,hS.out];simp),if_neg]
                intro hall
                simp only [Bool.and_eq_true] at hall
                match m,hm3,hok with
                |0,_,hok=>exact hok hall.1.1
                |1,_,hok=>exact hok hall.1.2
                |2,_,hok=>exact hok hall.2
               have e1:threadFault p t=some ⟨3,t,k⟩:=by
                rw [hF2.out,threadScan,first_hit hkt (b:=⟨3,t,k⟩) (by rw [e0];rfl)]
               rw [hF.out,first_hit hlt e1];rfl)
              go_wp2
              refine wp_region_x (by kernel_rfl) (by kernel_rfl) ?_
              repeat (go_big_quiet_step (fail))
              refine wpQuiet_nil ?_
              intro _ hx
              obtain ⟨x,rfl⟩:=hx
              have hbx:=x.h
              obtain ⟨c10,c11,c12⟩:=(hB1m.below' hbx).cells3
              obtain ⟨f10,f11,f12⟩:=(hB1m.below' hbx).frozen3
              have hWx:=bstep hWm hbx hWm.size
              go_wp2
              refine bodyPost_ret (v:=Flt.val ⟨3,t,k⟩) (by simp [results,Try.results27,go_sem,Flt.val,c10,c11,c12,f10,f11,f12]) rfl ⟨by rw [hS3.out], ?_⟩
              exact (by repeat (first|assumption|exact Below.refl _ _|refine bset ?_ (by first|omega|(simp;done)|(simp;omega)) _|refine Below.alloc ?_ (by first|omega|(simp;done)|(simp;omega)) _|refine Below.drew ?_))
           ·have hall:insFault p (nth p.code.l t).l.length (nth (nth p.code.l t).l k)=none:=by
             unfold insFault
             rw [if_neg (by rw [nameB_empty,hS.out];simp),if_pos]
             simp only [hF3.out 0 (by omega),hF3.out 1 (by omega),hF3.out 2 (by omega),Bool.and_self]
            go_wp2
            go_roundw
            case rel=>exact ⟨k+1,by omega,by go_num,bstep (bstep hbs hb3 hbs.size) hbm (bstep hbs hb3 hbs.size).size,hid (by rw [hF2.out];unfold threadScan;exact first_next hkt (by rw [hall];rfl))⟩
            case measure=>simp [intOf];omega
       ·have hT2:=hid (show threadFault p t=none by
         have e:(nth p.code.l t).l.length-k=0:=by omega
         rw [hF2.out,threadScan,e,first])
        go_wp2
        go_roundw
        case rel=>exact ⟨t+1,by omega,by go_num,bstep hbr hbs hbr.size,hid (by rw [hF.out,first_next hlt hT2.out])⟩
        case measure=>simp [intOf];omega
    ·go_wp2
     refine bodyPost_ret (v:=Flt.val ⟨0,0,0⟩) (by simp [results,Try.results27,go_sem,Flt.val,c10,c11,c12]) rfl ⟨?_,(by repeat (first|assumption|exact Below.refl _ _|refine bset ?_ (by first|omega|(simp;done)|(simp;omega)) _|refine Below.alloc ?_ (by first|omega|(simp;done)|(simp;omega)) _|refine Below.drew ?_))⟩
     have e:p.code.l.length-t=0:=by omega
     rw [hF.out,e]
     rfl
def vastN (p:PR)(t:Nat):Int:=p.code.l.length+p.words.l.length+((p.code.l.take t).map fun s=>(s.l.length:Int)).sum
theorem vastN_succ (p:PR)(t:Nat)(h:t<p.code.l.length):vastN p (t+1)=vastN p t+(nth p.code.l t).l.length:=by
 simp only [vastN]
 rw [List.take_add_one,getElem?_nth _ _ h]
 simp [Int.add_assoc]
theorem vastN_bound (p:PR)(w:World)(h:p.At w)(t:Nat)(ht:t≤p.code.l.length):0≤vastN p t∧vastN p t≤(t+2)*140737488355328:=by
 induction t with
 |zero=>
  have:=h.code.len
  have:=h.words.len
  simp [vastN]
  omega
 |succ t ih=>
  have:=ih (by omega)
  rw [vastN_succ p t (by omega)]
  have:=(h.code.inner t (by omega)).len
  omega
def isVast (p:PR):Bool:=decide (vastN p (min p.code.l.length 100)>5000)||decide ((p.code.l.length:Int)>100)
set_option maxHeartbeats 1000000 in
theorem vast_any (p:PR)(w:World)(h:p.At w):
  Calls Try.prog 8 #[p.val] w fun e w' =>e= .returned (.bool (isVast p))∧Below w.heap.size w w' :=by
 have hc:=h.code
 have hno:=hc.noHead
 have hcl:=hc.len
 have hwl:=h.words.len
 unfold PR.val
 go_enter Try.func8,Try.ntmps8
 go_wp2
 go_loop [3,4] (fun n i=>∃t:Nat,t≤p.code.l.length∧t≤100∧i= .int .i64 t∧n= .int .i64 (vastN p t)) (fun _ i=>100-(intOf i).toNat)
 case atStart=>exact ⟨0,by omega,by omega,rfl,by simp [vastN]⟩
 case round=>
  obtain ⟨t,ht1,ht2,rfl,rfl⟩:=hrel
  have hb1:=vastN_bound p w h t ht1
  have hlt:t<p.code.l.length→(nth p.code.l t).l.length≤140737488355328:=fun hh=>(h.code.inner t hh).len
  by_cases h1:t<p.code.l.length
  ·by_cases h2:t<100
   ·have hl:=hlt h1
    have Hs:=hid (vastN_succ p t h1)
    clear hlt
    go_wp2
    go_round
    case rel=>exact ⟨t+1,by omega,by omega,by go_num,by rw [Hs.out]⟩
    case measure=>simp [intOf];omega
   ·have e:min p.code.l.length 100=t:=by omega
    have Hv:=hid (show isVast p=(decide (vastN p t>5000)||decide ((p.code.l.length:Int)>100)) by rw [isVast,e])
    clear e hlt
    go_wp2
    all_goals
     go_ret
     refine ⟨?_,(Below.refl _ _).alloc (Nat.le_refl _) _⟩
     rw [Hv.out]
     simp [*]
     try omega
  ·have e:min p.code.l.length 100=t:=by omega
   have Hv:=hid (show isVast p=(decide (vastN p t>5000)||decide ((p.code.l.length:Int)>100)) by rw [isVast,e])
   clear e hlt
   go_wp2
   all_goals
    go_ret
    refine ⟨?_,(Below.refl _ _).alloc (Nat.le_refl _) _⟩
    rw [Hv.out]
    simp [*]
    try omega
def fitsG (p:Pg)(size kind n:Int):Bool:=
 if kind=110 then true else
 let most:=if kind=114 then p.regs else if kind=119 then (p.words.length:Int) else if kind=108 then p.locks else if kind=99 then wrap64 (size+1) else 0
 decide (0≤n)&&decide (n<most)
def okNumG (p:Pg)(size:Int)(x:Ins)(k:Nat):Bool:=
 if h:k<(kindsB x.op).size then fitsG p size (((kindsB x.op)[k]).toNat:Int) (x.num k) else x.num k==0
def insFaultG (p:Pg)(size:Int)(x:Ins):Option Int:=
 if (nameB x.op).toList.isEmpty then some 2 else if okNumG p size x 0&&okNumG p size x 1&&okNumG p size x 2 then none else some 3
def threadFaultG (p:Pg)(t:Nat):Option Flt:=
 if 400<(nth p.code t).length then some ⟨1,t,0⟩ else
 first (fun at_=>(insFaultG p (nth p.code t).length (nth (nth p.code t) at_)).map fun e=>⟨e,t,at_⟩) ((nth p.code t).length-0) 0
def checkG (p:Pg):Flt:=
 if p.code.length<1∨4<p.code.length∨64<p.words.length then ⟨1,0,0⟩ else
 if p.locks<0∨4<p.locks∨p.regs<1∨200<p.regs then ⟨3,0,0⟩ else
 (first (threadFaultG p) (p.code.length-0) 0).getD ⟨0,0,0⟩
theorem nth_map' {α β:Type}[Inhabited α][Inhabited β](f:α→β)(l:List α)(i:Nat)(h:i<l.length):nth (l.map f) i=f (nth l i):=by simp [nth,h]
theorem first_congr {β:Type}{f g:Nat→Option β} :∀(n i:Nat),(∀j,i≤j→j<i+n→f j=g j)→first f n i=first g n i
 |0,_,_=>rfl
 |n+1,i,h=>by
  rw [first,first,h i (Nat.le_refl _) (by omega),first_congr n (i+1) fun j h1 h2=>h j (by omega) (by omega)]
section
variable {α:Type}[Enc α]
def toSl (x:Ls α):Sl α:=match x.v with| .slice A _ c=>⟨A,c,x.l⟩|_=>⟨none,0,x.l⟩
theorem toSl_l {β:Type}(x:Ls β):(toSl x).l=x.l:=by unfold toSl;split<;>rfl
theorem toSl_at {x:Ls α}{w:World}(h:x.At w):(toSl x).At w∧x.v= .slice (toSl x).A (toSl x).l.length (toSl x).cap:=by
 obtain ⟨A,cap,hv,hA⟩:=h
 have e:toSl x=⟨A,cap,x.l⟩:=by unfold toSl;rw [hv]
 rw [e]
 exact ⟨hA,hv⟩
theorem toSl_at2 {x:Ls (Ls α)}{w:World}(h:x.At w):(⟨(toSl x).A,(toSl x).cap,x.l.map toSl⟩:Sl (Sl α)).At w:=by
 obtain ⟨hA,hv⟩:=toSl_at h
 have hl:=toSl_l x
 refine ⟨by simpa [hl] using hA.le,hA.max,by simpa [hl] using hA.len,by simpa [hl] using hA.some,by simpa [hl] using hA.lt',fun i j hi hj=> ?_,fun i hi=> ?_⟩
 ·have hi' :i<x.l.length:=by simpa using hi
  have h1:=hA.cell i j (by rw [hl];exact hi') hj
  show w.cell? _=some (Enc.cell (nth (x.l.map toSl) i) j)
  rw [nth_map' toSl _ _ hi']
  have hx:=(toSl_at (hA.inner i (by rw [hl];exact hi')))
  rw [hl] at h1 hx
  show _=some (Value.slice (toSl (nth x.l i)).A (toSl (nth x.l i)).l.length (toSl (nth x.l i)).cap)
  rw [←hx.2]
  exact h1
 ·have hi' :i<x.l.length:=by simpa using hi
  show Enc.inner (nth (x.l.map toSl) i) w
  rw [nth_map' toSl _ _ hi']
  have:=hA.inner i (by rw [hl];exact hi')
  rw [hl] at this
  exact (toSl_at this).1
end
def pgOf (code:Ls (Ls Ins))(words:Ls Int)(locks regs:Int):Pg:=⟨code.l.map (·.l),words.l,locks,regs⟩
def prOf (code:Ls (Ls Ins))(words:Ls Int)(locks regs:Int):PR:=⟨⟨(toSl code).A,(toSl code).cap,code.l.map toSl⟩,toSl words,locks,regs⟩
section
variable {code:Ls (Ls Ins)}{words:Ls Int}{locks regs:Int}{W:World}
theorem prOf_at (hc:code.At W)(hw:words.At W):(prOf code words locks regs).At W:=⟨toSl_at2 hc,(toSl_at hw).1⟩
theorem prOf_val (hc:code.At W)(hw:words.At W):(prOf code words locks regs).val= .agg #[code.v,words.v, .int .i64 locks, .int .i64 regs]:=by
 have h1:=(toSl_at hc).2
 have h2:=(toSl_at hw).2
 rw [toSl_l] at h1
 simp only [PR.val,prOf,List.length_map]
 rw [←h1,←h2]
theorem fits_eq (size kind n:Int):fitsB (prOf code words locks regs) size kind n=fitsG (pgOf code words locks regs) size kind n:=by
 unfold fitsB fitsG
 have e1:(prOf code words locks regs).words.l.length=(pgOf code words locks regs).words.length:=by simp [prOf,pgOf,toSl_l]
 rw [e1]
 rfl
theorem checkF_eq :checkF (prOf code words locks regs)=checkG (pgOf code words locks regs):=by
 have hcl:(prOf code words locks regs).code.l.length=code.l.length:=by simp [prOf]
 have hwl:(prOf code words locks regs).words.l.length=words.l.length:=by simp [prOf,toSl_l]
 have hgl:(pgOf code words locks regs).code.length=code.l.length:=by simp [pgOf]
 have hgw:(pgOf code words locks regs).words.length=words.l.length:=by simp [pgOf]
 unfold checkF checkG
 rw [hcl,hwl,hgl,hgw]
 have e1:(prOf code words locks regs).locks=locks:=rfl
 have e2:(prOf code words locks regs).regs=regs:=rfl
 have e3:(pgOf code words locks regs).locks=locks:=rfl
 have e4:(pgOf code words locks regs).regs=regs:=rfl
 rw [e1,e2,e3,e4]
 congr 3
 refine first_congr _ _ fun t _ ht=> ?_
 have ht' :t<code.l.length:=by omega
 unfold threadFault threadFaultG
 have e5:(nth (prOf code words locks regs).code.l t).l=nth (pgOf code words locks regs).code t:=by
  show (nth (code.l.map toSl) t).l=nth (code.l.map (·.l)) t
  rw [nth_map' _ _ _ ht',nth_map' _ _ _ ht',toSl_l]
 rw [e5]
 split
 ·rfl
 ·refine first_congr _ _ fun j _ _=> ?_
  have:∀(size:Int) (x:Ins),insFault (prOf code words locks regs) size x=insFaultG (pgOf code words locks regs) size x:=by
   intro size x
   simp only [insFault,insFaultG,okNum,okNumG,fits_eq]
   rfl
  rw [this]
theorem refCheck_c (hc:code.At W)(hw:words.At W):Rets Try.prog 11 [.agg #[code.v,words.v, .int .i64 locks, .int .i64 regs]] W (fun v w' =>v=(checkG (pgOf code words locks regs)).val∧Sh0 W w' []):=by
 have h:=refCheck_any (prOf code words locks regs) W (prOf_at hc hw)
 rw [prOf_val hc hw,checkF_eq] at h
 exact Calls.mono h fun e w' ⟨he,hb⟩=>⟨_,he,rfl,Chg.below hb,by simp,by simp,by simp, .nil⟩
theorem asmCheck_c (hc:code.At W)(hw:words.At W):Rets Try.prog 27 [.agg #[code.v,words.v, .int .i64 locks, .int .i64 regs]] W (fun v w' =>v=(checkG (pgOf code words locks regs)).val∧Sh0 W w' []):=by
 have h:=asmCheck_any (prOf code words locks regs) W (prOf_at hc hw)
 rw [prOf_val hc hw,checkF_eq] at h
 exact Calls.mono h fun e w' ⟨he,hb⟩=>⟨_,he,rfl,Chg.below hb,by simp,by simp,by simp, .nil⟩
def vastG (code:List (List Ins))(words:List Int):Bool:=
 decide (((code.length:Int)+words.length+((code.take 100).map fun s=>(s.length:Int)).sum)>5000)||decide ((code.length:Int)>100)
theorem isVast_eq :isVast (prOf code words locks regs)=vastG (code.l.map (·.l)) words.l:=by
 have hwl:(prOf code words locks regs).words.l.length=words.l.length:=by simp [prOf,toSl_l]
 unfold isVast vastG vastN
 rw [hwl]
 simp only [prOf,List.length_map,List.map_take,List.map_map]
 have e:(code.l.map ((fun s:Sl Ins=>(s.l.length:Int))∘toSl))=code.l.map ((fun s:List Ins=>(s.length:Int))∘(·.l)):=by
  apply List.map_congr_left
  intro x _
  simp [toSl_l]
 rw [e]
 have e2:(code.l.map ((fun s:List Ins=>(s.length:Int))∘(·.l))).take (min code.l.length 100)=(code.l.map ((fun s:List Ins=>(s.length:Int))∘(·.l))).take 100:=by
  rcases Nat.le_total code.l.length 100 with h|h
  ·rw [Nat.min_eq_left h,List.take_of_length_le (by simp),List.take_of_length_le (by simpa using h)]
  ·rw [Nat.min_eq_right h]
 rw [e2]
theorem vast_c (hc:code.At W)(hw:words.At W):Rets Try.prog 8 [.agg #[code.v,words.v, .int .i64 locks, .int .i64 regs]] W (fun v w' =>v= .bool (vastG (code.l.map (·.l)) words.l)∧Sh0 W w' []):=by
 have h:=vast_any (prOf code words locks regs) W (prOf_at hc hw)
 rw [prOf_val hc hw,isVast_eq] at h
 exact Calls.mono h fun e w' ⟨he,hb⟩=>⟨_,he,rfl,Chg.below hb,by simp,by simp,by simp, .nil⟩
end
theorem eq_flt (f g:Flt)(w:World):(binOp .eql 30 f.val g.val).run Try.prog w= .ok (.bool (decide (f=g))) w:=by
 obtain ⟨a,b,c⟩:=f
 obtain ⟨a',b',c'⟩:=g
 simp [binOp,Flt.val,Op.equal,Op.maxDepth,go_sem]
 by_cases h1:a=a' <;>by_cases h2:b=b' <;>by_cases h3:c=c' <;>simp [h1,h2,h3]
theorem eq_fltG (x y:Operand)(f g:Flt)(w:World):(eqGuard .eql 30 x y f.val g.val).run Try.prog w= .ok () w:=by
 simp [eqGuard,Flt.val]
 try kernel_rfl
structure OkIns (p:Pg)(size:Int)(x:Ins):Prop where
 op:1≤x.op∧x.op≤18
 n0:okNumG p size x 0=true
 n1:okNumG p size x 1=true
 n2:okNumG p size x 2=true
structure OkPg (p:Pg):Prop where
 code:1≤p.code.length∧p.code.length≤4
 words:p.words.length≤64
 locks:0≤p.locks∧p.locks≤4
 regs:1≤p.regs∧p.regs≤200
 len:∀t,t<p.code.length→(nth p.code t).length≤400
 ins:∀t i,t<p.code.length→i<(nth p.code t).length→OkIns p (nth p.code t).length (nth (nth p.code t) i)
theorem first_none {β:Type}{f:Nat→Option β} :∀(n i:Nat),first f n i=none↔∀j,i≤j→j<i+n→f j=none
 |0,i=>by simp [first];omega
 |n+1,i=>by
  rw [first]
  cases h:f i with
  |some b=>
   simp only [reduceCtorEq,false_iff]
   intro hh
   have:=hh i (Nat.le_refl _) (by omega)
   rw [h] at this;cases this
  |none=>
   simp only
   rw [first_none n (i+1)]
   constructor
   ·intro hh j h1 h2
    rcases Nat.eq_or_lt_of_le h1 with rfl|h3
    ·exact h
    ·exact hh j h3 (by omega)
   ·intro hh j h1 h2
    exact hh j (by omega) (by omega)
theorem first_some {β:Type}{f:Nat→Option β}{b:β} :∀(n i:Nat),first f n i=some b→∃j,i≤j∧j<i+n∧f j=some b
 |0,i,h=>by simp [first] at h
 |n+1,i,h=>by
  rw [first] at h
  cases hf:f i with
  |some c=>rw [hf] at h;exact ⟨i,Nat.le_refl _,by omega,by rw [hf];exact h⟩
  |none=>
   rw [hf] at h
   obtain ⟨j,h1,h2,h3⟩:=first_some n (i+1) h
   exact ⟨j,by omega,by omega,h3⟩
theorem insFaultG_none {p:Pg}{size:Int}{x:Ins} :insFaultG p size x=none↔OkIns p size x:=by
 unfold insFaultG
 rw [nameB_empty]
 constructor
 ·intro h
  split at h
  ·cases h
  ·rename_i hop
   split at h
   ·rename_i hall
    simp only [Bool.and_eq_true] at hall
    refine ⟨?_,hall.1.1,hall.1.2,hall.2⟩
    have:opB x.op=true:=by simpa using hop
    simpa [opB] using this
   ·cases h
 ·intro h
  rw [if_neg (by simp [opB,h.op.1,h.op.2]),if_pos (by simp [h.n0,h.n1,h.n2])]
theorem checkG_code_pos {p:Pg} :(checkG p).code=0↔OkPg p:=by
 unfold checkG
 split
 ·rename_i h
  simp only [Int.reduceEq,false_iff]
  intro hk
  have:=hk.code;have:=hk.words;omega
 ·split
  ·rename_i h
   simp only [Int.reduceEq,false_iff]
   intro hk
   have:=hk.locks;have:=hk.regs;omega
  ·rename_i h1 h2
   have key:first (threadFaultG p) (p.code.length-0) 0=none↔OkPg p:=by
    rw [first_none]
    constructor
    ·intro hh
     have ht:∀t,t<p.code.length→threadFaultG p t=none:=fun t ht=>hh t (Nat.zero_le _) (by omega)
     refine ⟨by omega,by omega,by omega,by omega,fun t h=> ?_,fun t i h hi=> ?_⟩
     ·have:=ht t h
      unfold threadFaultG at this
      split at this
      ·cases this
      ·omega
     ·have:=ht t h
      unfold threadFaultG at this
      split at this
      ·cases this
      ·have:=(first_none _ _).1 this i (Nat.zero_le _) (by omega)
       simp only [Option.map_eq_none_iff] at this
       exact insFaultG_none.1 this
    ·intro hk t _ ht
     unfold threadFaultG
     rw [if_neg (by have:=hk.len t (by omega);omega),first_none]
     intro i _ hi
     rw [Option.map_eq_none_iff]
     exact insFaultG_none.2 (hk.ins t i (by omega) (by omega))
   rw [←key]
   cases hf:first (threadFaultG p) (p.code.length-0) 0 with
   |none=>simp
   |some b=>
    simp only [Option.getD_some,reduceCtorEq,iff_false]
    obtain ⟨t,_,_,h3⟩:=first_some _ _ hf
    unfold threadFaultG at h3
    split at h3
    ·simp only [Option.some.injEq] at h3;subst h3;simp
    ·obtain ⟨i,_,_,h4⟩:=first_some _ _ h3
     simp only [Option.map_eq_some_iff] at h4
     obtain ⟨e,he,rfl⟩:=h4
     unfold insFaultG at he
     split at he
     ·simp at he;subst he;simp
     ·split at he
      ·cases he
      ·simp at he;subst he;simp
theorem checkG_ok {p:Pg}(h:OkPg p):checkG p=⟨0,0,0⟩:=by
 have h0:=checkG_code_pos.2 h
 unfold checkG at h0⊢
 split at h0
 ·cases h0
 ·split at h0
  ·cases h0
  ·rename_i h1 h2
   rw [if_neg h1,if_neg h2]
   cases hf:first (threadFaultG p) (p.code.length-0) 0 with
   |none=>rfl
   |some b=>
    exfalso
    rw [hf] at h0
    obtain ⟨t,_,_,h3⟩:=first_some _ _ hf
    unfold threadFaultG at h3
    split at h3
    ·simp only [Option.some.injEq] at h3;subst h3;simp at h0
    ·obtain ⟨i,_,_,h4⟩:=first_some _ _ h3
     simp only [Option.map_eq_some_iff] at h4
     obtain ⟨e,he,rfl⟩:=h4
     unfold insFaultG at he
     split at he
     ·simp at he;subst he;simp at h0
     ·split at he
      ·cases he
      ·simp at he;subst he;simp at h0
def Wt.cell (x:Wt):Nat→Value
 |0=> .bool x.lock
 |1=> .int .i64 x.wh
 |_=> .int .i64 x.what
def Wt.val (x:Wt):Value:= .agg #[.bool x.lock, .int .i64 x.wh, .int .i64 x.what]
instance : Enc Wt where
 sz:=3
 cell:=Wt.cell
 whole:=Wt.val
 agg:=true
 inner _ _:=True
 on _ _:=False
 one h:=by cases h
 many _ _:=rfl
 keep _ _ _ h _:=h
 lt _ _ _ _ h:=h.elim
instance : Flat Wt:=⟨fun _ _ h=>h,fun _ _=>trivial⟩
structure ThV where
 pc:Int
 rv:Value
 wv:Value
instance : Inhabited ThV:=⟨⟨0, .slice none 0 0, .slice none 0 0⟩⟩
def ThV.cell (x:ThV):Nat→Value
 |0=> .int .i64 x.pc
 |1=>x.rv
 |_=>x.wv
def ThV.val (x:ThV):Value:= .agg #[.int .i64 x.pc,x.rv,x.wv]
instance : Enc ThV where
 sz:=3
 cell:=ThV.cell
 whole:=ThV.val
 agg:=true
 inner _ _:=True
 on _ _:=False
 one h:=by cases h
 many _ _:=rfl
 keep _ _ _ h _:=h
 lt _ _ _ _ h:=h.elim
instance : Flat ThV:=⟨fun _ _ h=>h,fun _ _=>trivial⟩
structure ThL where
 pc:Int
 regs:Ls Int
 wait:Ls Wt
instance : Inhabited ThL:=⟨⟨0,default,default⟩⟩
def ThL.cell (x:ThL):Nat→Value
 |0=> .int .i64 x.pc
 |1=>x.regs.v
 |_=>x.wait.v
def ThL.val (x:ThL):Value:= .agg #[.int .i64 x.pc,x.regs.v,x.wait.v]
instance : Enc ThL where
 sz:=3
 cell:=ThL.cell
 whole:=ThL.val
 agg:=true
 inner x w:=x.regs.At w∧x.wait.At w
 on x b:=x.regs.on b∨x.wait.on b
 one h:=by cases h
 many _ _:=rfl
 keep _ _ _ h hb:=⟨h.1.keep fun b hb' =>hb b (.inl hb'),h.2.keep fun b hb' =>hb b (.inr hb')⟩
 lt _ _ h _ hb:=hb.elim (fun hb=>h.1.lt hb) (fun hb=>h.2.lt hb)
def ThL.toV (x:ThL):ThV:=⟨x.pc,x.regs.v,x.wait.v⟩
theorem ThL.cell_toV (x:ThL)(j:Nat):Enc.cell x.toV j=Enc.cell x j:=by
 rcases j with _|_|j<;>rfl
theorem ThL.atV {s:Ls ThL}{w:World}(h:s.At w):(⟨s.v,s.l.map ThL.toV⟩:Ls ThV).At w:=by
 obtain ⟨A,cap,hv,h⟩:=h
 refine ⟨A,cap,by rw [hv];simp, ?_⟩
 refine ⟨by simpa using h.le,h.max,by simpa using h.len,by simpa using h.some,by simpa using h.lt',fun i j hi hj=> ?_,fun i hi=>trivial⟩
 have hi' :i<s.l.length:=by simpa using hi
 have:=h.cell i j hi' hj
 rw [show nth (s.l.map ThL.toV) i=(nth s.l i).toV from nth_map' _ _ _ hi',ThL.cell_toV]
 exact this
theorem ThV.atL {v:Value}{t:List ThV}{l:List ThL}{w:World}(h:(⟨v,t⟩:Ls ThV).At w)(e:l.map ThL.toV=t)(hi:∀i,i<l.length→(nth l i).regs.At w∧(nth l i).wait.At w):(⟨v,l⟩:Ls ThL).At w:=by
 subst e
 obtain ⟨A,cap,hv,h⟩:=h
 refine ⟨A,cap,by rw [show v=_ from hv];simp, ?_⟩
 refine ⟨by simpa using h.le,h.max,by simpa using h.len,by simpa using h.some,by simpa using h.lt',fun i j hi hj=> ?_,fun i h' =>hi i h'⟩
 have hi' :i<(l.map ThL.toV).length:=by simpa using hi
 have:=h.cell i j hi' hj
 rw [show nth (l.map ThL.toV) i=(nth l i).toV from nth_map' _ _ _ hi,ThL.cell_toV] at this
 exact this
def ThL.th (x:ThL):Th:=⟨x.pc,x.regs.l,x.wait.l⟩
theorem Sh.passL {K:Nat→Prop}{W w:World}{Lp Lr:List Asn}(h:Sh K W w (Lp++Lr)):Sh (fun b=>∃A∈Lp,A.fp b) w w Lp:=
 ⟨Chg.refl _ _,fun A hA=>h.ok A (List.mem_append.2 (.inl hA)),fun A hA b hb=> .inl ⟨A,hA,hb⟩,fun A hA=>h.self A (List.mem_append.2 (.inl hA)),(List.pairwise_append.1 h.apart).1⟩
theorem Sh.backL {K:Nat→Prop}{W w w' :World}{Lp Lr L' :List Asn}(h:Sh K W w (Lp++Lr))(h' :Sh (fun b=>∃A∈Lp,A.fp b) w w' L')(hrd:∀C∈L',∀b,C.rd b→(∃B∈Lp,B.fp b∨B.rd b)∨(∃B∈Lr,B.rd b)∨w.heap.size≤b):Sh K W w' (L' ++Lr):=
 Sh.step h h'.chg h'.ok h'.mine hrd h'.self h'.apart
theorem Sh.backI {K:Nat→Prop}{W w w' :World}{Lp Lr L' :List Asn}[RdIn L' Lp](h:Sh K W w (Lp++Lr))(h' :Sh (fun b=>∃A∈Lp,A.fp b) w w' L'):Sh K W w' (L' ++Lr):=h.backL h' fun C hC b hb=> .inl (RdIn.sub C hC b hb)
section
variable {P:Program}{o:Oper}{N:Nat}{K:Nat→Prop}{W:World}{F:List (Nat×Value)}{L:List Asn}
end
theorem ready_all {ops:List Oper}(hd:depsLt ops 0=true){listed:Array Bool}(hsz:listed.size=ops.length)(hr:Region.ready .any ops.toArray listed= []):∀i,i<ops.length→listed.getD i false=true:=by
 intro i
 induction i using Nat.strongRecOn with
 |_ i ih=>
  intro hi
  cases hl:listed.getD i false with
  |true=>rfl
  |false=>
   exfalso
   have hmem:i∈Region.ready .any ops.toArray listed:=by
    refine mem_ready.2 ⟨?_,ops[i],by simp [hi],fun e he hb=> ?_⟩
    ·have hlt:i<listed.size:=by omega
     simp only [Array.getD_eq_getD_getElem?,Array.getElem?_eq_getElem hlt] at hl⊢;exact hl
    ·have h1:=depsLt_at ops 0 i ops[i] hd (List.getElem?_eq_getElem hi) e he hb
     simp only [Nat.zero_add] at h1
     exact ih e.on h1 (by omega)
   rw [hr] at hmem
   cases hmem
instance : One Wt:=⟨fun x w _ q hq=>by rcases q with _|_|q<;>rfl⟩
def edgeB (o:Oper)(j:Nat):Bool:=o.after.any fun e=>Region.binds .any e&&Nat.beq e.on j
theorem edgeB_at {o:Oper}{j:Nat}(h:edgeB o j=true):∃e∈o.after,Region.binds .any e=true∧e.on=j:=by
 obtain ⟨k,hk,h4⟩:=Array.any_eq_true.1 h
 simp only [Bool.and_eq_true,Nat.beq_eq] at h4
 exact ⟨_,Array.getElem_mem hk,h4.1,h4.2⟩
def covB (ops:List Oper)(ps:List Nat)(o:Oper):Nat→List Nat→Bool
 |0,_=>true
 |j+1,acc=>(ps.contains j||edgeB o j||acc.any fun k=>match ops[k]? with
  |some ok=>edgeB ok j
  |none=>false)&&covB ops ps o j (j::acc)
theorem covB_at {ops:List Oper}{ps:List Nat}{o:Oper}{S:Nat→Bool}(hps:∀p∈ps,S p=true)(hcl:ClosedB ops S)(ho:∀e∈o.after,Region.binds .any e=true→S e.on=true):∀(n:Nat) (acc:List Nat),covB ops ps o n acc=true→(∀k∈acc,S k=true)→∀j,j<n→S j=true
 |0,_,_,_,j,hj=>absurd hj (by omega)
 |n+1,acc,h,ha,j,hj=>by
  simp only [covB,Bool.and_eq_true,Bool.or_eq_true] at h
  have hn:S n=true:=by
   rcases h.1 with (h1|h1)|h1
   ·exact hps n (by simpa using h1)
   ·obtain ⟨e,he,hb,hon⟩:=edgeB_at h1
    rw [←hon];exact ho e he hb
   ·obtain ⟨k,hk,h2⟩:=List.any_eq_true.1 h1
    split at h2
    ·rename_i ok hok
     obtain ⟨e,he,hb,hon⟩:=edgeB_at h2
     rw [←hon];exact hcl k ok hok (ha k hk) e he hb
    ·cases h2
  rcases Nat.lt_or_ge j n with hlt|hge
  ·exact covB_at hps hcl ho n (n::acc) h.2 (fun k hk=>(List.mem_cons.1 hk).elim (fun e=>e▸hn) (ha k)) j hlt
  ·obtain rfl:j=n:=by omega
   exact hn
def coverB (ops:List Oper)(ps:List Nat)(m:Nat):Bool:=(List.range ops.length).all fun i=>Nat.blt i m||match ops[i]? with
 |some o=>covB ops ps o i []
 |none=>true
theorem coverB_at {ops:List Oper}{ps:List Nat}{m:Nat}(h:coverB ops ps m=true){S:Nat→Bool}(hps:∀p∈ps,S p=true)(hcl:ClosedB ops S){i:Nat}{o:Oper}(ho:ops[i]? =some o)(hm:m≤i)(hdep:∀e∈o.after,Region.binds .any e=true→S e.on=true)(j:Nat)(hj:j<i):S j=true:=by
 have hi:i<ops.length:=(List.getElem?_eq_some_iff.1 ho).1
 have h1:=(List.all_eq_true.1 h) i (by simpa using hi)
 rw [ho] at h1
 have h2:Nat.blt i m=false:=by
  cases hb:Nat.blt i m
  ·rfl
  ·rw [Nat.blt_eq] at hb;omega
 rw [h2,Bool.false_or] at h1
 exact covB_at hps hcl hdep i [] h1 (by simp) j hj
theorem set_up {listed:Array Bool}{i j:Nat}(hj:listed.getD j false=true):(listed.setIfInBounds i true).getD j false=true:=by
 simp only [Array.getD_eq_getD_getElem?,Array.getElem?_setIfInBounds] at hj⊢
 by_cases e:i=j
 ·subst e
  by_cases hlt:i<listed.size
  ·simp [hlt]
  ·simp [Array.getElem?_eq_none (by omega:listed.size≤i)] at hj
 ·simpa [e] using hj
theorem closed_set {ops:List Oper}{listed:Array Bool}{i:Nat}{o:Oper}(hcl:ClosedB ops (fun j=>listed.getD j false))(ho:ops[i]? =some o)(hdep:∀e∈o.after,Region.binds .any e=true→listed.getD e.on false=true):ClosedB ops (fun j=>(listed.setIfInBounds i true).getD j false):=by
 have up:∀j,listed.getD j false=true→(listed.setIfInBounds i true).getD j false=true:=fun j hj=>set_up hj
 intro j oj hj hS e he hb
 by_cases e1:j=i
 ·subst e1
  rw [ho] at hj
  cases hj
  exact up _ (hdep e he hb)
 ·refine up _ (hcl j oj hj ?_ e he hb)
  have hS' :(listed.setIfInBounds i true).getD j false=true:=hS
  simp only [Array.getD_eq_getD_getElem?,Array.getElem?_setIfInBounds,if_neg (show¬i=j from fun h=>e1 h.symm)] at hS'
  simpa [Array.getD_eq_getD_getElem?] using hS'
section
variable {P:Program}{Q:Exit→Act→World→Prop}
theorem any_seq {ops:List Oper}{ps:List Nat}{m:Nat}(hpm:∀p∈ps,p<m)(hd:depsLt ops 0=true)(hc:coverB ops ps m=true):∀(r fuel k:Nat) (listed:Array Bool) (a:Act) (w:World),ops.length-k=r→m≤k→k≤ops.length→r≤fuel→listed.size=ops.length→
  (∀j,j<k→listed.getD j false=true)→(∀j,k≤j→j<ops.length→listed.getD j false=false)→wpList P ops.toArray Q (ops.drop k) a w→wpAny P .any ops.toArray Q fuel listed a w:=by
 have hget:∀(listed:Array Bool) (j:Nat),j<listed.size→listed.getD j true=listed.getD j false:=by
  intro listed j hj
  simp [Array.getD_eq_getD_getElem?,Array.getElem?_eq_getElem hj]
 intro r
 induction r with
 |zero=>
  intro fuel k listed a w hr hm hk hf hsz ht hfl h
  have hk' :k=ops.length:=by omega
  subst hk'
  rw [List.drop_length] at h
  have hready:Region.ready .any ops.toArray listed= []:=by
   apply List.eq_nil_iff_forall_not_mem.2
   intro i hi
   obtain ⟨h1,o,ho,_⟩:=mem_ready.1 hi
   have hi' :i<ops.length:=by
    rcases Nat.lt_or_ge i ops.length with h|h
    ·exact h
    ·simp [Array.getElem?_eq_none,h] at ho
   rw [hget _ _ (by omega),ht i hi'] at h1
   cases h1
  cases fuel with
  |zero=>exact ⟨hready,h⟩
  |succ fuel=>exact ⟨fun _=>h,fun i hi=>by rw [hready] at hi;cases hi⟩
 |succ r ih=>
  intro fuel k listed a w hr hm hk hf hsz ht hfl h
  have hlt:k<ops.length:=by omega
  obtain ⟨fuel,rfl⟩:∃f,fuel=f+1:=⟨fuel-1,by omega⟩
  have hko:ops[k]? =some ops[k]:=List.getElem?_eq_getElem hlt
  have hkr:k∈Region.ready .any ops.toArray listed:=by
   refine mem_ready.2 ⟨by rw [hget _ _ (by omega)];exact hfl k (Nat.le_refl _) hlt,ops[k],by simp [hlt],fun e he hb=> ?_⟩
   have h1:=depsLt_at ops 0 k ops[k] hd hko e he hb
   exact ht _ (by omega)
  refine ⟨fun h0=>(by rw [h0] at hkr;cases hkr),fun i hi=> ?_⟩
  obtain ⟨h1,o,ho,hall⟩:=mem_ready.1 hi
  have hi' :i<ops.length:=by
   rcases Nat.lt_or_ge i ops.length with h|h
   ·exact h
   ·simp [Array.getElem?_eq_none,h] at ho
  have hik:i=k:=by
   rcases Nat.lt_trichotomy i k with hh|hh|hh
   ·rw [hget _ _ (by omega),ht i hh] at h1;cases h1
   ·exact hh
   ·have hcl:ClosedB ops (fun j=>listed.getD j false):=fun j oj hj hS e he hb=>by
     have h1:=depsLt_at ops 0 j oj hd hj e he hb
     have hj' :j<ops.length:=(List.getElem?_eq_some_iff.1 hj).1
     rcases Nat.lt_or_ge j k with h|h
     ·exact ht _ (by omega)
     ·have hS' :listed.getD j false=true:=hS
      rw [hfl j h hj'] at hS';cases hS'
    have:=coverB_at hc (fun p hp=>ht p (by have:=hpm p hp;omega)) hcl (by simpa using ho) (by omega) hall k hh
    rw [hfl k (Nat.le_refl _) hlt] at this
    cases this
  subst hik
  rw [List.drop_eq_getElem_cons hlt] at h
  have hnext:∀a' w',wpList P ops.toArray Q (ops.drop (i+1)) a' w' →wpAny P .any ops.toArray Q fuel (listed.setIfInBounds i true) a' w' :=by
   intro a' w' h'
   refine ih fuel (i+1) _ a' w' (by omega) (by omega) (by omega) (by omega) (by simpa using hsz) (fun j hj=> ?_) (fun j hj hj2=> ?_) h'
   ·simp only [Array.getD_eq_getD_getElem?,Array.getElem?_setIfInBounds]
    by_cases e:i=j
    ·subst e;simp [hsz,hi']
    ·have:=ht j (by omega)
     simpa [e] using this
   ·have:=hfl j (by omega) hj2
    have e:i≠j:=by omega
    simp only [Array.getD_eq_getD_getElem?,Array.getElem?_setIfInBounds]
    simpa [e] using this
  unfold wpOp
  rw [show ops.toArray[i]? =some ops[i] by simp [hlt]]
  unfold wpList at h
  simp only
  split
  ·rename_i hw
   rw [if_pos hw] at h
   rcases h with h|h
   ·exact .inl (Oper.wp_mono hnext h)
   ·exact .inr h
  ·rename_i hw
   rw [if_neg hw] at h
   exact hnext _ _ h
theorem any_tail {ops:List Oper}{ps:List Nat}{m:Nat}{C:World→Prop}(hpm:∀p∈ps,p<m)(hm:m≤ops.length)(hd:depsLt ops 0=true)(hc:coverB ops ps m=true):∀(fuel:Nat) (listed listed' :Array Bool) (a:Act) (w:World),C w→(∀p∈ps,listed.getD p false=true)→ClosedB ops (fun j=>listed.getD j false)→listed.size=ops.length→listed'.size=ops.length→
  (∀j,j<m→listed.getD j false=listed'.getD j false)→(∀j,m≤j→j<ops.length→listed.getD j false=false∧listed'.getD j false=true)→
  wpAnyQ P .any ops.toArray C (fun a' =>∀w',C w' →wpList P ops.toArray Q (ops.drop m) a' w') fuel listed' a→wpAny P .any ops.toArray Q (fuel+(ops.length-m)) listed a w:=by
 have hget:∀(listed:Array Bool) (j:Nat),j<listed.size→listed.getD j true=listed.getD j false:=by
  intro listed j hj
  simp [Array.getD_eq_getD_getElem?,Array.getElem?_eq_getElem hj]
 have fin:∀(f:Nat) (listed listed' :Array Bool) (a:Act) (w:World),ops.length-m≤f→listed.size=ops.length→listed'.size=ops.length→
   (∀j,j<m→listed.getD j false=listed'.getD j false)→(∀j,m≤j→j<ops.length→listed.getD j false=false∧listed'.getD j false=true)→Region.ready .any ops.toArray listed' = []→
   wpList P ops.toArray Q (ops.drop m) a w→wpAny P .any ops.toArray Q f listed a w:=by
  intro f listed listed' a w hf hs hs' h1 h2 hr h
  refine any_seq hpm hd hc (ops.length-m) f m listed a w rfl (Nat.le_refl _) hm hf hs (fun j hj=> ?_) (fun j hj hj2=>(h2 j hj hj2).1) h
  rw [h1 j hj]
  exact ready_all hd hs' hr j (by omega)
 intro fuel
 induction fuel with
 |zero=>
  intro listed listed' a w hw _ _ hs hs' h1 h2 h
  exact fin _ listed listed' a w (by omega) hs hs' h1 h2 h.1 (h.2 w hw)
 |succ fuel ih=>
  intro listed listed' a w hw hps hcl hs hs' h1 h2 h
  by_cases hr:Region.ready .any ops.toArray listed' = []
  ·exact fin _ listed listed' a w (by omega) hs hs' h1 h2 hr (h.1 hr w hw)
  rw [show fuel+1+(ops.length-m)=(fuel+(ops.length-m))+1 by omega]
  have key:∀i,i∈Region.ready .any ops.toArray listed' →i<m:=by
   intro i hi
   obtain ⟨h3,o,ho,_⟩:=mem_ready.1 hi
   have hi' :i<ops.length:=by
    rcases Nat.lt_or_ge i ops.length with h|h
    ·exact h
    ·simp [Array.getElem?_eq_none,h] at ho
   rcases Nat.lt_or_ge i m with h|h
   ·exact h
   ·rw [hget _ _ (by omega),(h2 i h hi').2] at h3;cases h3
  have tr:∀i,i<m→(i∈Region.ready .any ops.toArray listed' ↔i∈Region.ready .any ops.toArray listed):=by
   intro i hi
   have hi' :i<ops.length:=by omega
   have hdep:∀e∈(ops[i]).after,Region.binds .any e=true→e.on<m:=fun e he hb=>by
    have:=depsLt_at ops 0 i ops[i] hd (List.getElem?_eq_getElem hi') e he hb
    omega
   constructor
   ·intro h
    obtain ⟨h3,o,ho,hall⟩:=mem_ready.1 h
    obtain rfl:ops[i]=o:=by simpa [hi'] using ho
    exact mem_ready.2 ⟨by rw [hget _ _ (by omega)] at h3⊢;rw [h1 i hi];exact h3,ops[i],ho,fun e he hb=>by rw [h1 _ (hdep e he hb)];exact hall e he hb⟩
   ·intro h
    obtain ⟨h3,o,ho,hall⟩:=mem_ready.1 h
    obtain rfl:ops[i]=o:=by simpa [hi'] using ho
    exact mem_ready.2 ⟨by rw [hget _ _ (by omega)] at h3⊢;rw [←h1 i hi];exact h3,ops[i],ho,fun e he hb=>by rw [←h1 _ (hdep e he hb)];exact hall e he hb⟩
  refine ⟨fun h0=> ?_,fun i hi=> ?_⟩
  ·exfalso
   apply hr
   apply List.eq_nil_iff_forall_not_mem.2
   intro i hi
   have:=(tr i (key i hi)).1 hi
   rw [h0] at this
   cases this
  ·have him:i<m:=by
    rcases Nat.lt_or_ge i m with h|h
    ·exact h
    exfalso
    obtain ⟨h3,o,ho,hall⟩:=mem_ready.1 hi
    apply hr
    apply List.eq_nil_iff_forall_not_mem.2
    intro j hj
    have hjm:=key j hj
    obtain ⟨h4,_⟩:=mem_ready.1 hj
    have:listed.getD j false=true:=coverB_at hc hps hcl (by simpa using ho) h hall j (by omega)
    rw [h1 j hjm] at this
    rw [hget _ _ (by omega),this] at h4
    cases h4
   have h5:=h.2 i ((tr i him).2 hi)
   refine wpOp_of_qOp hw (fun a' w' hw' hh=>ih (listed.setIfInBounds i true) (listed'.setIfInBounds i true) a' w' hw' (fun p hp=>set_up (hps p hp)) (by obtain ⟨_,o,ho,hall⟩:=mem_ready.1 hi;exact closed_set hcl (by simpa using ho) hall) (by simpa using hs) (by simpa using hs') (fun j hj=> ?_) (fun j hj hj2=> ?_) hh) h5
   ·simp only [Array.getD_eq_getD_getElem?,Array.getElem?_setIfInBounds]
    have:=h1 j hj
    simp only [Array.getD_eq_getD_getElem?] at this
    by_cases e:i=j
    ·subst e;simp [hs,hs',show i<ops.length by omega]
    ·simp only [e,if_false];exact this
   ·have:=h2 j hj hj2
    have e:i≠j:=by omega
    simp only [Array.getD_eq_getD_getElem?,Array.getElem?_setIfInBounds,e,if_false] at this⊢
    exact this
def opsAt (ops:Array Oper)(is:List Nat):List Oper:=is.filterMap fun i=>ops[i]?
def lexIs (ops:Array Oper):List Nat→Array Bool→Bool
 | [],listed=>(Region.ready .any ops listed).isEmpty
 |k::is,listed=>(Region.ready .any ops listed).contains k&&Region.free .any ops listed k&&lexIs ops is (listed.setIfInBounds k true)
theorem ready_op {ops:Array Oper}{listed:Array Bool}{k:Nat}(h:(Region.ready .any ops listed).contains k=true):∃o,ops[k]? =some o:=by
 obtain ⟨_,o,ho,_⟩:=mem_ready.1 (by simpa using h)
 exact ⟨o,ho⟩
theorem anyQ_is {ops:Array Oper}{C:World→Prop}{Q:Act→Prop}(hs:Region.noSelect ops=true):∀(is:List Nat) (listed:Array Bool) (a:Act),
  lexIs ops is listed=true→wpQuiet P ops C Q (opsAt ops is) a→wpAnyQ P .any ops C Q is.length listed a
 | [],_,_,hB,h=>⟨by simpa [lexIs] using hB,h⟩
 |k::is,listed,a,hB,h=>by
  simp only [lexIs,Bool.and_eq_true] at hB
  obtain ⟨⟨hr,hf⟩,hB'⟩:=hB
  obtain ⟨o,h0⟩:=ready_op hr
  have e:opsAt ops (k::is)=o::opsAt ops is:=by simp [opsAt,h0]
  rw [e] at h
  have hst:qOp P ops C k (wpQuiet P ops C Q (opsAt ops is)) a:=by unfold qOp;simp only [h0];exact h
  obtain ⟨v,hy,hK⟩:=yieldsIn_of_qOp h0 hst
  exact wpAnyQ_first h0 (Region.noSelect_spec hs) is.length listed a (Region.free_spec h0 hf) (by simpa using hr) hy (anyQ_is hs is _ _ hB' hK)
def pureIs (ops:Array Oper):List Nat→Array Bool→Option (Array Bool)
 | [],listed=>some listed
 |k::is,listed=>match ops[k]? with
  |some o=>match o.op with
   | .move _=>bif o.guard.isNone&&(o.after.all fun e=> !Region.binds .any e)&&(Region.ready .any ops listed).contains k&&Region.free .any ops listed k then pureIs ops is (listed.setIfInBounds k true) else none
   |_=>none
  |none=>none
theorem any_pure {ops:Array Oper}{C:World→Prop}{Z:Act→Prop}{rest:List Oper}(hs:Region.noSelect ops=true)(hQ:∀c a w,¬Q (.panic c) a w):∀(ps:List Nat) (fuel:Nat) (listed listed' :Array Bool) (a:Act) (w:World),C w→
  pureIs ops ps listed=some listed' →wpQuiet P ops C Z (opsAt ops ps++rest) a→(∀a',wpQuiet P ops C Z rest a' →wpAny P .any ops Q fuel listed' a' w)→wpAny P .any ops Q (fuel+ps.length) listed a w
 | [],fuel,listed,listed',a,w,hw,hp,h,k=>by
  simp only [pureIs,Option.some.injEq] at hp
  subst hp
  exact k a (by simpa [opsAt] using h)
 |p::ps,fuel,listed,listed',a,w,hw,hp,h,k=>by
  unfold pureIs at hp
  split at hp
  ·rename_i o ho
   split at hp
   ·rename_i x hx
    cases hc:(o.guard.isNone&&(o.after.all fun e=> !Region.binds .any e)&&(Region.ready .any ops listed).contains p&&Region.free .any ops listed p) with
    |false=>rw [hc] at hp;cases hp
    |true=>
     rw [hc] at hp
     simp only [Bool.and_eq_true,Option.isNone_iff_eq_none] at hc
     obtain ⟨⟨⟨hg,haf⟩,hr⟩,hf⟩:=hc
     have e:opsAt ops (p::ps)++rest=o::(opsAt ops ps++rest):=by simp [opsAt,ho]
     rw [e] at h
     unfold wpQuiet at h
     rw [if_pos (wanted_none hg _)] at h
     obtain ⟨v,h1,h2⟩:=h
     have hv:v=a.eval x:=by
      have:=h1 w hw
      unfold Oper.quietAt at this
      unfold execOp at this
      simp only [hx,Sem.run_pure] at this
      exact this.2.symm
     subst hv
     have hy:Yields P ops o (a.eval x) a:= .inl ⟨wanted_none hg _,fun w=>by unfold execOp;simp [hx]⟩
     rw [show fuel+(p::ps).length=(fuel+ps.length)+1 by simp;omega]
     exact wpAny_first ho (Region.noSelect_spec hs) (fun c a' w' hh=>absurd hh (hQ c _ w')) _ listed a w (Region.free_spec ho hf) (by simpa using hr) hy (any_pure hs hQ ps fuel _ listed' _ w hw hp h2 k)
   ·cases hp
  ·cases hp
theorem pureIs_spec {ops:List Oper} :∀(ps:List Nat) (listed listed' :Array Bool),pureIs ops.toArray ps listed=some listed' →ClosedB ops (fun j=>listed.getD j false)→
  ClosedB ops (fun j=>listed'.getD j false)∧listed'.size=listed.size∧(∀j,listed.getD j false=true→listed'.getD j false=true)∧(listed.size=ops.length→∀p∈ps,listed'.getD p false=true)∧(∀j,j∉ps→listed'.getD j false=listed.getD j false)
 | [],listed,listed',h,hc=>by
  simp only [pureIs,Option.some.injEq] at h
  subst h
  exact ⟨hc,rfl,fun _ h=>h,by simp,fun _ _=>rfl⟩
 |p::ps,listed,listed',h,hc=>by
  unfold pureIs at h
  split at h
  ·rename_i o ho
   split at h
   ·rename_i x hx
    cases hb:(o.guard.isNone&&(o.after.all fun e=> !Region.binds .any e)&&(Region.ready .any ops.toArray listed).contains p&&Region.free .any ops.toArray listed p) with
    |false=>rw [hb] at h;cases h
    |true=>
     rw [hb] at h
     simp only [Bool.and_eq_true,Option.isNone_iff_eq_none] at hb
     obtain ⟨⟨⟨hg,haf⟩,hr⟩,hf⟩:=hb
     have ho' :ops[p]? =some o:=by simpa using ho
     have hc' :=closed_set (i:=p) hc ho' (fun e he hbd=>by
      have:=(Array.all_eq_true_iff_forall_mem.1 haf) e he
      rw [hbd] at this;cases this)
     obtain ⟨h1,h2,h3,h4,h5⟩:=pureIs_spec ps _ listed' h hc'
     have hpl:p<ops.length:=(List.getElem?_eq_some_iff.1 ho').1
     refine ⟨h1,by simpa using h2,fun j hj=>h3 j (set_up hj),fun hsz q hq=> ?_,fun j hj=> ?_⟩
     ·rcases List.mem_cons.1 hq with rfl|hq
      ·exact h3 q (by simp [Array.getD_eq_getD_getElem?,Array.getElem?_setIfInBounds,hsz,hpl])
      ·exact h4 (by simpa using hsz) q hq
     ·simp only [List.mem_cons,not_or] at hj
      rw [h5 j hj.2]
      simp only [Array.getD_eq_getD_getElem?,Array.getElem?_setIfInBounds,if_neg (show¬p=j from fun h=>hj.1 h.symm)]
   ·cases h
  ·cases h
def orTail (l:Array Bool)(m:Nat):Array Bool:=((List.range l.size).map fun j=>l.getD j false||Nat.ble m j).toArray
def quietIs (m:Nat)(ps:List Nat):List Nat:=(List.range m).filter fun i=> !ps.contains i
def tailB (ops:List Oper)(m:Nat)(ps:List Nat):Bool:=Nat.ble m ops.length&&(depsLt ops 0&&(coverB ops ps m&&(Region.noSelect ops.toArray&&((ps.all (Nat.blt · m))&&(Nat.beq ((quietIs m ps).length+ps.length) m&&
 match pureIs ops.toArray ps (Array.replicate ops.length false) with
 |some l=>lexIs ops.toArray (quietIs m ps) (orTail l m)
 |none=>false)))))
variable {N:Nat}{K:Nat→Prop}{W w:World}{a:Act}{F:List (Nat×Value)}{L:List Asn}
theorem x_tail {id:Nat}{l:List Oper}(m:Nat)(ps:List Nat)(hm:P.follows .mixedOrders=true)(hB:tailB l m ps=true)(h:St N K W a w F L)
  (k:∀Z:Act→Prop,(∀a',(∀w',Sh K W w' L→wpList P l.toArray (fun e a w=>match e with| .normal=>Q .normal a w|_=>False) (l.drop m) a' w')→Z a')→wpQuiet P l.toArray (fun w' =>Sh K W w' L) Z (opsAt l.toArray ps++opsAt l.toArray (quietIs m ps)) a):(Code.region id l.toArray true).wp P Q a w:=by
 simp only [tailB,Bool.and_eq_true,Nat.ble_eq] at hB
 obtain ⟨h1,h2,h3,h4,h5,h6,h7⟩:=hB
 have hpm:∀p∈ps,p<m:=fun p hp=>by simpa using (List.all_eq_true.1 h5) p hp
 refine Code.wp_mono (Q:=fun e a w=>match e with| .normal=>Q .normal a w|_=>False) (fun e a w he=>by cases e<;>first|exact he|exact he.elim) ?_
 refine wp_region_any hm ?_
 split at h7
 ·rename_i lp hlp
  have hq:=k _ (fun _ h=>h)
  have hcl0:ClosedB l (fun j=>(Array.replicate l.length false).getD j false):=by
   intro i o _ hS;simp only [Array.getD_eq_getD_getElem?,Array.getElem?_replicate] at hS;split at hS<;>cases hS
  obtain ⟨c1,c2,c3,c4,c5⟩:=pureIs_spec ps _ lp hlp hcl0
  have hsz:lp.size=l.length:=by simpa using c2
  have hlen:l.toArray.size=((quietIs m ps).length+(l.length-m))+ps.length:=by
   have:=Nat.eq_of_beq_eq_true h6
   simp;omega
  rw [hlen]
  rw [show Array.replicate ((quietIs m ps).length+(l.length-m)+ps.length) false=Array.replicate l.length false by rw [←hlen];simp]
  refine any_pure (C:=fun w' =>Sh K W w' L) h4 (fun c a w h=>h) ps _ _ lp a w.drew h.sh.drew hlp hq fun a' hq' => ?_
  have h8:=anyQ_is (P:=P) h4 (quietIs m ps) _ a' h7 hq'
  have hot:∀j,j<l.length→(orTail lp m).getD j false=(lp.getD j false||Nat.ble m j):=by
   intro j hj
   simp [orTail,Array.getD_eq_getD_getElem?,hsz,hj]
  refine any_tail (C:=fun w' =>Sh K W w' L) hpm h1 h2 h3 _ lp (orTail lp m) a' w.drew h.sh.drew (c4 (by simp)) c1 hsz (by simp [orTail,hsz]) (fun j hj=> ?_) (fun j hj hj2=> ?_) h8
  ·rw [hot j (by omega)]
   cases hb:Nat.ble m j
   ·simp
   ·rw [Nat.ble_eq] at hb;omega
  ·refine ⟨?_,by rw [hot j hj2,show Nat.ble m j=true by rw [Nat.ble_eq];exact hj];simp⟩
   rw [c5 j (fun hp=>by have:=hpm j hp;omega)]
   simp [Array.getD_eq_getD_getElem?,Array.getElem?_replicate,hj2]
 ·cases h7
end
def vtake (v:Value)(j:Nat):Value:=match v with
 | .slice A _ c=> .slice A j c
 |v=>v
def vdrop (v:Value)(sz k:Nat):Value:=match v with
 | .slice A n c=> .slice (if c=k then A else A.map (·.add (k*sz))) (n-k) (c-k)
 |v=>v
section
variable {P:Program}{o:Oper}{N:Nat}{K:Nat→Prop}{W w:World}{a:Act}{F:List (Nat×Value)}{L:List Asn}{α:Type}[Enc α]
theorem r_slH {T e:TypeId}{g:Bool}{n by_:Nat}{z:List Value}{x y:Operand}{s:Ls α}{j:Nat}(hT:slI P T=some e)(he:tyI P e=some (g,n,by_,z))(ho:o.op= .slice T x none (some y) none)(hx:ev F x=some s.v)(hy:ev F y=some (.int .i64 (j:Int)))
  (hat:∀w,Sh K W w L→s.At w) (hj:j≤s.l.length) (hpos:0<s.l.length):Rn P o N K W F L (vtake s.v j):=fun a w h=>by
 obtain ⟨A,cap,hv,hA⟩:=hat w h.sh
 obtain ⟨b,hb,hs⟩:=hA.some hpos
 have hle:=hA.le
 simp only at hb hle
 subst hb
 obtain ⟨i,d,zv,hi,hd,_,rfl,_⟩:=tyI_parts he
 have hu:=slI_parts hT
 have hel:P.elem T=e:=by simp [Program.elem,hu]
 have hu' :P.underlying T=some (.slice (P.elem T)):=by rw [hel];exact hu
 have hc0:¬cap=0:=by omega
 obtain ⟨blk,off,sp⟩:=b
 simp only at hs
 subst hs
 have e1:=run_sliceAt_slice (P:=P) w T (.slice (some ⟨blk,off,none⟩) s.l.length cap) none (some (.int .i64 (j:Int))) none hu'
 have e2:=run_slice_h (P:=P) w T (some ⟨blk,off,none⟩) s.l.length cap hu' .i64 (j:Int) (by omega) (by omega)
 rw [hel,run_sizeOf hi,Result.andThen_ok] at e2
 rw [e2] at e1
 unfold execOp
 simp only [ho,h.fr.ev hx,h.fr.ev hy,Option.map_some,Option.map_none,hv,Sem.run_bind,e1,Result.andThen_ok,Sem.run_pure,sliced,vtake]
 simp [Addr.add_lit,hc0]
theorem r_slL {T e:TypeId}{g:Bool}{n by_:Nat}{z:List Value}{x y:Operand}{s:Ls α}{k:Nat}(hT:slI P T=some e)(he:tyI P e=some (g,n,by_,z))(ho:o.op= .slice T x (some y) none none)(hx:ev F x=some s.v)(hy:ev F y=some (.int .i64 (k:Int)))
  (hat:∀w,Sh K W w L→s.At w) (hk:k≤s.l.length):Rn P o N K W F L (vdrop s.v n k):=fun a w h=>by
 obtain ⟨A,cap,hv,hA⟩:=hat w h.sh
 have hle:=hA.le
 simp only at hle
 obtain ⟨i,d,zv,hi,hd,_,rfl,_⟩:=tyI_parts he
 have hu:=slI_parts hT
 have hel:P.elem T=e:=by simp [Program.elem,hu]
 have hu' :P.underlying T=some (.slice (P.elem T)):=by rw [hel];exact hu
 have e1:=run_sliceAt_slice (P:=P) w T (.slice A s.l.length cap) (some (.int .i64 (k:Int))) none none hu'
 have e2:=run_slice_l (P:=P) w T A s.l.length cap hu' .i64 (k:Int) (by omega) (by omega)
 rw [hel,run_sizeOf hi,Result.andThen_ok] at e2
 rw [e2] at e1
 unfold execOp
 simp only [ho,h.fr.ev hx,h.fr.ev hy,Option.map_some,Option.map_none,hv,Sem.run_bind,e1,Result.andThen_ok,Sem.run_pure,sliced,vdrop]
 simp
theorem Rn.same {v v' :Value}(h:Rn P o N K W F L v)(e:v=v'):Rn P o N K W F L v' :=by subst e;exact h
theorem encL_take (l:List α)(j:Nat):encL (l.take j)=(encL l).take (j*Enc.sz α):=by
 by_cases h:j≤l.length
 ·conv=>rhs;rw [←List.take_append_drop j l,encL_append]
  rw [List.take_left' (by rw [length_encL,List.length_take,Nat.min_eq_left h])]
 ·rw [List.take_of_length_le (by omega),List.take_of_length_le]
  rw [length_encL]
  exact Nat.mul_le_mul_right _ (by omega)
theorem encL_drop (l:List α)(j:Nat):encL (l.drop j)=(encL l).drop (j*Enc.sz α):=by
 by_cases h:j≤l.length
 ·conv=>rhs;rw [←List.take_append_drop j l,encL_append]
  rw [List.drop_left' (by rw [length_encL,List.length_take,Nat.min_eq_left h])]
 ·rw [List.drop_eq_nil_of_le (by omega),List.drop_eq_nil_of_le]
  ·rfl
  rw [length_encL]
  exact Nat.mul_le_mul_right _ (by omega)
theorem x_del {d:Nat}{T e:TypeId}{gg:Bool}{sz by_ r j k:Nat}{z:List Value}{x y:Operand}{s:Ls α}{E:TypeId}[Flat α](h:St N K W a w F L)(hT:slI P T=some e)(he:tyI P e=some (gg,sz,by_,z))(ho:o.op= .call ⟨.builtin .append, #[x,y], #[T,T]⟩)
  (hx:ev F x=some (vtake s.v j)) (hy:ev F y=some (vdrop s.v sz k)) (hr:L[r]? =some (.own E s)) (hE:E=e) (hsz:Enc.sz α=sz) (h1:One α) (hjk:j≤k∧k≤s.l.length∧0<s.l.length) (hd:o.dst=some d) (hdN:Nat.blt d N=true):
  Ex P o a w (fun a' w' =>∃v:Value,St N K W a' w' ((d,v)::F) (L.set r (.own E ⟨v,s.l.take j++s.l.drop k⟩))):=by
 subst hsz
 subst hE
 obtain ⟨i,ed,zv,hi,hed,_,hs,hby,hzz,hzc⟩:=tyI_parts he
 obtain ⟨hown,hlen,hinn⟩:=h.sh.ok _ (List.mem_of_getElem? hr)
 obtain ⟨hjk,hk,hpos⟩:=hjk
 have hown0:=hown
 rcases hown.2 with ⟨_,h0⟩|⟨g,cap,cur,hsv,hb0,hg,hn,hm,hcs,htk⟩
 ·omega
 have hcur:cur.size=cap*Enc.sz α:=hcs
 have hownT:w.ownsRow 0 E (Enc.sz α) (.slice (some ⟨g,0,none⟩) j cap) j (encL (s.l.take j)):=by
  refine ⟨by rw [length_encL,List.length_take,Nat.min_eq_left (by omega)], .inr ⟨g,cap,cur,rfl,hb0,hg,by omega,hm,hcs, ?_⟩⟩
  rw [encL_take,←htk,List.take_take]
  congr 1
  exact (Nat.min_eq_left (Nat.mul_le_mul_right _ (by omega))).symm
 have hcell:∀q u,(encL s.l)[q]? =some u→w.cell? ⟨g,q,none⟩=some u:=by
  intro q u hq
  rw [hsv] at hown0
  have hlt:q<s.l.length*Enc.sz α:=by
   have:=(List.getElem?_eq_some_iff.1 hq).1
   rwa [length_encL] at this
  rw [hown0.cellAt q hlt,hq]
 have hone:∀u∈encL (s.l.drop k),u.oneCell' =true:=by
  intro u hu
  obtain ⟨q,hq⟩:=List.getElem?_of_mem hu
  have hlt:q<(s.l.drop k).length*Enc.sz α:=by
   have:=(List.getElem?_eq_some_iff.1 hq).1
   rwa [length_encL] at this
  have hszp:0<Enc.sz α:=by
   rcases Nat.eq_zero_or_pos (Enc.sz α) with h|h
   ·rw [h] at hlt;omega
   ·exact h
  have h2:=encL_at (s.l.drop k) (q/Enc.sz α) (q%Enc.sz α) ((Nat.div_lt_iff_lt_mul hszp).2 hlt) (Nat.mod_lt _ hszp)
  rw [show q/Enc.sz α*Enc.sz α+q%Enc.sz α=q by rw [Nat.mul_comm];exact Nat.div_add_mod _ _,hq] at h2
  cases h2
  exact h1.one _ w (Flat.inner _ _) _ (Nat.mod_lt _ hszp)
 have happ:∀(A2:Addr) (c2:Nat),(∀q u,(encL (s.l.drop k))[q]? =some u→w.cell? (A2.add q)=some u)→∃w',(Builtin.append_ #[T,T] o.type #[.slice (some ⟨g,0,none⟩) j cap, .slice (some A2) (s.l.length-k) c2]).run P w= .ok (.slice (some ⟨g,0,none⟩) (j+(s.l.length-k)) cap) w' ∧
   w'.ownsRow 0 E (Enc.sz α) (.slice (some ⟨g,0,none⟩) (j+(s.l.length-k)) cap) (j+(s.l.length-k)) (encL (s.l.take j)++encL (s.l.drop k))∧w.grownBy w' (some g):=fun A2 c2 hc2=>
  run_append_fits (P:=P) w 0 T o.type E i (Enc.sz α) (slI_parts hT) hi hs g j cap _ hownT A2 (s.l.length-k) c2 (encL (s.l.drop k)) (by rw [length_encL,List.length_drop]) hc2 hone (by omega)
 have hfin:∃w' y',vdrop s.v (Enc.sz α) k=y' ∧(Builtin.append_ #[T,T] o.type #[.slice (some ⟨g,0,none⟩) j cap,y']).run P w= .ok (.slice (some ⟨g,0,none⟩) (j+(s.l.length-k)) cap) w' ∧
   w'.ownsRow 0 E (Enc.sz α) (.slice (some ⟨g,0,none⟩) (j+(s.l.length-k)) cap) (j+(s.l.length-k)) (encL (s.l.take j)++encL (s.l.drop k))∧w.grownBy w' (some g):=by
  rw [hsv]
  by_cases hck:cap=k
  ·have hkk:s.l.drop k= []:=List.drop_eq_nil_of_le (by omega)
   obtain ⟨w',h3⟩:=happ ⟨g,0,none⟩ (cap-k) (by rw [hkk];intro q u hq;simp [encL] at hq)
   exact ⟨w',_,by simp only [vdrop,if_pos hck],h3⟩
  ·obtain ⟨w',h3⟩:=happ ((⟨g,0,none⟩:Addr).add (k*Enc.sz α)) (cap-k) (by
    intro q u hq
    rw [encL_drop,List.getElem?_drop] at hq
    have:=hcell _ _ hq
    simpa [Addr.add_lit] using this)
   exact ⟨w',_,by simp only [vdrop,if_neg hck,Option.map_some],h3⟩
 obtain ⟨w',y',hy',hrun,ho',hg'⟩:=hfin
 have hx' :vtake s.v j= .slice (some ⟨g,0,none⟩) j cap:=by rw [hsv];rfl
 refine Ex.of_run (v:= .slice (some ⟨g,0,none⟩) (j+(s.l.length-k)) cap) (w' :=w') ?_ ⟨.slice (some ⟨g,0,none⟩) (j+(s.l.length-k)) cap, ?_⟩
 ·unfold execOp
  simp only [ho,resolve,invoke,builtin,Sem.run_bind,Sem.run_pure,Result.andThen_ok,List.map_toArray,List.map_cons,List.map_nil,h.fr.ev hx,h.fr.ev hy,hx',hy',hrun]
 ·rw [hd]
  have hob:s.v.ownBlock=some g:=by rw [hsv];rfl
  have hfp:∀b,(Asn.own E (⟨.slice (some ⟨g,0,none⟩) (j+(s.l.length-k)) cap,s.l.take j++s.l.drop k⟩:Ls α)).fp b→(Asn.own E s).fp b∨w.heap.size≤b:=by
   intro b hb
   have:g=b:=by simpa [Asn.own,Value.ownBlock] using hb
   subst this
   exact .inl hob
  refine ⟨h.fr.put d (by simpa [Nat.blt_eq] using hdN) _,h.sh.put hr (Chg.grown hg' (fun b hb=>by cases hb;exact hob)) ⟨?_, ?_,fun q hq=>Flat.inner _ _⟩ hfp (fun b hb=> ?_) (fun b hb hb' => ?_)⟩
  ·show World.ownsRow _ 0 E _ _ (s.l.take j++s.l.drop k).length (encL (s.l.take j++s.l.drop k))
   rw [encL_append,List.length_append,List.length_take,List.length_drop,Nat.min_eq_left (by omega)];exact ho'
  ·show (s.l.take j++s.l.drop k).length≤_
   rw [List.length_append,List.length_take,List.length_drop,Nat.min_eq_left (by omega)];omega
  ·obtain ⟨q,_,hb⟩:=hb;exact (Flat.on _ _ hb).elim
  ·obtain ⟨q,_,hb⟩:=hb';exact (Flat.on _ _ hb).elim
theorem St.relist {i:Nat}{E:TypeId}{v:Value}{l l' :List α}(h:St N K W a w F L)(hi:L[i]? =some (.own E (⟨v,l⟩:Ls α)))(e:l=l'):St N K W a w F (L.set i (.own E (⟨v,l'⟩:Ls α))):=by
 subst e
 have:L.set i (.own E (⟨v,l⟩:Ls α))=L:=by
  obtain ⟨hlt,e⟩:=List.getElem?_eq_some_iff.1 hi
  rw [←e];exact List.set_getElem_self hlt
 rw [this];exact h
theorem wq_call {ops:Array Oper}{rest:List Oper}{Q:Act→Prop}{d f:Nat}{fo:Operand}{xs:List Operand}{tys:Array TypeId}{us vs ws:List Value}{v:Value}(h:Fr N a F)(hb:bodyI P f=true)(ho:o.op= .call ⟨.value fo,xs.toArray,tys⟩)(hf:ev F fo=some (.func (.func f) us.toArray ws.toArray))
  (hx:evs F xs=some vs) (hw:Region.wanted o (yielded ops a.tmps)=true) (hd:o.dst=some d) (hdN:Nat.blt d N=true) (hc:∀w,Sh K W w L→Rets P f (us++vs++ws) w (fun v' w' =>v' =v∧Sh0 w w' []))
  (k:∀a',Fr N a' ((d,v)::F)→wpQuiet P ops (fun w=>Sh K W w L) Q rest a'):wpQuiet P ops (fun w=>Sh K W w L) Q (o::rest) a:=by
 unfold wpQuiet
 rw [if_pos hw]
 refine ⟨v,fun w hw=> ?_,k _ (by rw [hd];exact h.put d (by simpa [Nat.blt_eq] using hdN) v)⟩
 unfold Oper.quietAt
 have hrun:(execOp a.eval o).run P w= .ok (.enter f (us++vs++ws).toArray) w:=by
  unfold execOp
  simp [ho,resolve,h.ev hf,h.evs hx,Deferred.ofValue,invoke,run_callFunc hb]
 rw [hrun]
 refine ⟨rfl,Calls.mono (hc w hw) fun e w' ⟨v',he,hv',hr⟩=> ?_⟩
 subst hv'
 exact ⟨he,hw.call0 hr⟩
end
theorem lens9 :(∀ {α:Type} (l m:List α),(l++m).length=l.length+m.length)∧(∀ {α:Type} (a:α) (l:List α),(a::l).length=l.length+1)∧(∀ {α:Type},([]:List α).length=0)∧(∀ {α:Type} (l:List α) (i:Nat) (a:α),(l.set i a).length=l.length)∧(∀ {α:Type} (n:Nat) (a:α),(List.replicate n a).length=n)∧(∀ {α β:Type} (f:α→β) (l:List α),(l.map f).length=l.length)∧(∀n:Nat,(List.range n).length=n):=
 ⟨fun l m=>List.length_append,fun a l=>List.length_cons,List.length_nil,fun l i a=>List.length_set,fun n a=>List.length_replicate,fun f l=>List.length_map f,fun n=>List.length_range⟩
theorem om9 {p:Prop}(h:p:=by first|omega|(simp only [lens9];omega)):p:=h
inductive Runs (P:Program)(ops:Array Oper)(N:Nat)(K:Nat→Prop)(W:World)(L:List Asn):List Oper→List (Nat×Value)→List Oper→List (Nat×Value)→Prop
 |nl {l:List Oper} {F:List (Nat×Value)} :Runs P ops N K W L l F l F
 |cn {o:Oper} {l l' :List Oper} {F F' :List (Nat×Value)} {d:Nat} {v:Value} (hr:Rn P o N K W F L v) (hw:∀a,Fr N a F→Region.wanted o (yielded ops a.tmps)=true) (hd:o.dst=some d) (hN:Nat.blt d N=true) (k:Runs P ops N K W L l ((d,v)::F) l' F'):Runs P ops N K W L (o::l) F l' F'
 |sk {o:Oper} {l l' :List Oper} {F F' :List (Nat×Value)} {d:Nat} (hw:∀a,Fr N a F→Region.wanted o (yielded ops a.tmps)=false) (hd:o.dst=some d) (hN:Nat.blt d N=true) (k:Runs P ops N K W L l ((d,undef)::F) l' F'):Runs P ops N K W L (o::l) F l' F'
section
variable {P:Program}{N:Nat}{K:Nat→Prop}{W w:World}{a:Act}{F F' F2:List (Nat×Value)}{L L' :List Asn}{o:Oper}{ops:Array Oper}{l l' l2 rest:List Oper}{Q:Exit→Act→World→Prop}{c c' :Code}{R:Act→World→Prop}
theorem Runs.go (r:Runs P ops N K W L l F l' F'):∀ {a:Act},St N K W a w F L→(∀a,St N K W a w F' L→wpList P ops Q l' a w)→wpList P ops Q l a w:=by
 induction r with
 |nl=>exact fun h k=>k _ h
 |cn hr hw hd hN _ ih=>exact fun h k=>wl_val h hr (hw _ h.fr) hd hN fun a h=>ih h k
 |sk hw hd hN _ ih=>exact fun h k=>wl_skip h (hw _ h.fr) hd hN fun a h=>ih h k
theorem Runs.goQ {Z:Act→Prop}(r:Runs P ops N K W L l F l' F'):∀ {a:Act},Fr N a F→(∀a,Fr N a F' →wpQuiet P ops (fun w=>Sh K W w L) Z l' a)→wpQuiet P ops (fun w=>Sh K W w L) Z l a:=by
 induction r with
 |nl=>exact fun h k=>k _ h
 |cn hr hw hd hN _ ih=>exact fun h k=>wq_val h hr (hw _ h) hd hN fun a h=>ih h k
 |sk hw hd hN _ ih=>exact fun h k=>wq_skip h (hw _ h) hd hN fun a h=>ih h k
theorem gG (h:St N K W a w F L)(k:∀a w,St N K W a w F L→R a w):R a w:=k a w h
theorem gRn (r:Runs P ops N K W L l F l' F')(k:∀a w,St N K W a w F' L→wpList P ops Q l' a w):∀a w,St N K W a w F L→wpList P ops Q l a w:=fun _ w h=>r.go h fun a h=>k a w h
theorem sG {id:Nat}(r:Runs P l.toArray N K W L l F [] F')(k:∀a w,St N K W a w F' L→c.wp P Q a w):∀a w,St N K W a w F L→(Code.seq (.region id l.toArray false) c).wp P Q a w:=
 fun _ w h=>wp_seq_k fun _ hK=>wp_region_lit (r.go h fun a h=>wpList_nil (hK _ _ (k a w h)))
theorem sK {id:Nat}(k:∀R:Act→World→Prop,(∀a w,c.wp P Q a w→R a w)→∀a w,St N K W a w F L→wpList P l.toArray (Exit.then R Q) l a w):∀a w,St N K W a w F L→(Code.seq (.region id l.toArray false) c).wp P Q a w:=
 fun _ w h=>wp_seq_k fun R hK=>wp_region_lit (k R hK _ w h)
theorem nK {Q0:Exit→Act→World→Prop}(hk:∀a w,c.wp P Q a w→Q0 .normal a w)(k:∀a w,St N K W a w F L→c.wp P Q a w):∀a w,St N K W a w F L→wpList P ops Q0 [] a w:=fun _ w h=>wpList_nil (hk _ _ (k _ w h))
theorem hK {X:Act→World→Prop}(hk:∀a w,c.wp P Q a w→X a w)(k:∀a w,St N K W a w F L→c.wp P Q a w):∀a w,St N K W a w F L→X a w:=fun _ w h=>hk _ _ (k _ w h)
theorem gK (k:∀R:Act→World→Prop,(∀a w,c'.wp P Q a w→R a w)→∀a w,St N K W a w F L→c.wp P (Exit.then R Q) a w):∀a w,St N K W a w F L→(Code.seq c c').wp P Q a w:=
 fun _ w h=>wp_seq_k fun R hK=>k R hK _ w h
theorem gL {id:Nat}(k:∀a w,St N K W a w F L→wpList P l.toArray Q l a w):∀a w,St N K W a w F L→(Code.region id l.toArray false).wp P Q a w:=fun _ w h=>wp_region_lit (k _ w h)
theorem nN (k:∀a w,St N K W a w F L→Q .normal a w):∀a w,St N K W a w F L→wpList P ops Q [] a w:=fun _ w h=>wpList_nil (k _ w h)
theorem gCb {x:Operand}{b:Bool}(hc:ev F x=some (.bool b))(ht:b=true→∀a w,St N K W a w F L→c.wp P Q a w)(hf:b=false→∀a w,St N K W a w F L→c'.wp P Q a w):∀a w,St N K W a w F L→(Code.cond x c c').wp P Q a w:=
 fun _ w h=>x_cond h hc (fun hb=>ht hb _ w h) (fun hb=>hf hb _ w h)
theorem gcd {x:Operand}{p:Prop}[Decidable p](hc:ev F x=some (.bool (decide p)))(ht:decide p=true→p→∀a w,St N K W a w F L→c.wp P Q a w)(hf:decide p=false→¬p→∀a w,St N K W a w F L→c'.wp P Q a w):∀a w,St N K W a w F L→(Code.cond x c c').wp P Q a w:=
 gCb hc (fun hb=>ht hb (of_decide_eq_true hb)) fun hb=>hf hb (of_decide_eq_false hb)
theorem dsp (p:Prop)[Decidable p]:(decide p=true∧p)∨(decide p=false∧¬p):=by
 by_cases h:p
 ·exact .inl ⟨decide_eq_true h,h⟩
 ·exact .inr ⟨decide_eq_false h,h⟩
theorem gcT {x:Operand}{b:Bool}(hc:ev F x=some (.bool b))(hb:b=true)(k:∀a w,St N K W a w F L→c.wp P Q a w):∀a w,St N K W a w F L→(Code.cond x c c').wp P Q a w:=fun _ w h=>x_condT h hc hb (k _ w h)
theorem gcF {x:Operand}{b:Bool}(hc:ev F x=some (.bool b))(hb:b=false)(k:∀a w,St N K W a w F L→c'.wp P Q a w):∀a w,St N K W a w F L→(Code.cond x c c').wp P Q a w:=fun _ w h=>x_condF h hc hb (k _ w h)
theorem gB {id:Nat}(k:∀a w,St N K W a w F L→c.wp P (Exit.inBlock id Q) a w):∀a w,St N K W a w F L→(Code.block id c).wp P Q a w:=fun _ w h=>wp_block (k _ w h)
theorem gS (k:∀a w,St N K W a w F L→Q .normal a w):∀a w,St N K W a w F L→Code.skip.wp P Q a w:=fun _ w h=>wp_skip (k _ w h)
theorem gX {id:Nat}(k:∀a w,St N K W a w F L→Q (.exit id) a w):∀a w,St N K W a w F L→(Code.exit id).wp P Q a w:=fun _ w h=>wp_exit (k _ w h)
theorem gR (k:∀a w,St N K W a w F L→Q .ret a w):∀a w,St N K W a w F L→Code.ret.wp P Q a w:=fun _ w h=>wp_ret (k _ w h)
def argF :List Value→Option (List (Nat×Value))
 | []=>some []
 | [a]=>some [(0,a)]
 | [a,b]=>some [(0,a),(1,b)]
 | [a,b,c]=>some [(0,a),(1,b),(2,c)]
 | [a,b,c,d]=>some [(0,a),(1,b),(2,c),(3,d)]
 | [a,b,c,d,e]=>some [(0,a),(1,b),(2,c),(3,d),(4,e)]
 | [a,b,c,d,e,f]=>some [(0,a),(1,b),(2,c),(3,d),(4,e),(5,f)]
 | [a,b,c,d,e,f,g]=>some [(0,a),(1,b),(2,c),(3,d),(4,e),(5,f),(6,g)]
 | [a,b,c,d,e,f,g,h]=>some [(0,a),(1,b),(2,c),(3,d),(4,e),(5,f),(6,g),(7,h)]
 | [a,b,c,d,e,f,g,h,i]=>some [(0,a),(1,b),(2,c),(3,d),(4,e),(5,f),(6,g),(7,h),(8,i)]
 | [a,b,c,d,e,f,g,h,i,j]=>some [(0,a),(1,b),(2,c),(3,d),(4,e),(5,f),(6,g),(7,h),(8,i),(9,j)]
 |_=>none
theorem argF_eq {vs:List Value}{F:List (Nat×Value)}(h:argF vs=some F):((vs.zipIdx 0).map fun x=>(x.2,x.1))=F:=by
 unfold argF at h
 split at h<;>cases h<;>rfl
theorem gen {f:FuncId}{fn:Func}{vs:List Value}{X:Value→World→Prop}(hf:P.funcs[f]? =some fn)(hN:fn.ntmps=N)(hS:Sh K W W L)(e:(fn.body,argF vs,Nat.ble vs.length N)=(some c,some F,true))(k:∀a,St N K W a W F L→c.wp P (bodyPost P fn fun e w' =>∃v,e= .returned v∧X v w') a W):Rets P f vs W X:=by
 simp only [Prod.mk.injEq] at e
 exact x_enter hf e.1 hN (Nat.le_of_ble_eq_true e.2.2) fun a h=>k a ⟨by rw [argF_eq e.2.1] at h;exact h,hS⟩
theorem uT {X:Act→World→Prop}(k:∀a w,St N K W a w F L→Q .ret a w):∀a w,St N K W a w F L→Exit.then X Q .ret a w:=k
theorem uB {id:Nat}(k:∀a w,St N K W a w F L→Q .ret a w):∀a w,St N K W a w F L→Exit.inBlock id Q .ret a w:=k
theorem gNl {α:Type}[Enc α]{s:Ls α}(hat:∀w,Sh K W w L→s.At w)(k:s.l.length≤140737488355328→∀a w,St N K W a w F L→R a w):∀a w,St N K W a w F L→R a w:=fun a w h=>k (hat w h.sh).len a w h
theorem gE {L2:List Asn}(hx:∀a w,St N K W a w F L→Ex P o a w (fun a' w' =>St N K W a' w' F2 L2))(hg:o.guard=none)(k:∀a w,St N K W a w F2 L2→wpList P ops Q rest a w):∀a w,St N K W a w F L→wpList P ops Q (o::rest) a w:=
 fun _ w h=>wl_ex (hx _ w h) (wanted_none hg _) fun a w h=>k a w h
theorem gE1 {α:Sort 1}{F2:α→List (Nat×Value)}{L2:α→List Asn}(hx:∀a w,St N K W a w F L→Ex P o a w (fun a' w' =>∃b:α,St N K W a' w' (F2 b) (L2 b)))(hg:o.guard=none)(k:∀b a w,St N K W a w (F2 b) (L2 b)→wpList P ops Q rest a w):∀a w,St N K W a w F L→wpList P ops Q (o::rest) a w:=
 fun _ w h=>wl_ex (hx _ w h) (wanted_none hg _) fun a w ⟨b,h⟩=>k b a w h
def pickF (F:List (Nat×Value)):List Nat→Option (List (Nat×Value))
 | []=>some []
 |t::r=>match lk F t with
  |some v=>match pickF F r with
   |some F' =>some ((t,v)::F')
   |none=>none
  |none=>none
theorem pickF_ok :∀ {ts:List Nat} {F' :List (Nat×Value)},pickF F ts=some F' →frOK F F'
 | [],F',e=>by cases e;trivial
 |t::r,F',e=>by
  unfold pickF at e
  split at e
  ·rename_i v hv
   split at e
   ·rename_i F2 hF
    cases e
    exact ⟨hv,pickF_ok hF⟩
   ·cases e
  ·cases e
theorem gF (ts:List Nat)(e:pickF F ts=some F')(k:∀a w,St N K W a w F' L→R a w):∀a w,St N K W a w F L→R a w:=fun a w h=>k a w (h.nf (pickF_ok e))
theorem gO (is:List Nat)(e2:selB L is=some L')(k:∀a w,St N K W a w F L' →R a w):∀a w,St N K W a w F L→R a w:=fun a w h=>k a w (h.sel is e2)
theorem qQ {Y:Act→Prop}(h:Fr N a F)(k:∀a,Fr N a F→Y a):Y a:=k a h
theorem qRn {Z:Act→Prop}(r:Runs P ops N K W L l F l' F')(k:∀a,Fr N a F' →wpQuiet P ops (fun w=>Sh K W w L) Z l' a):∀a,Fr N a F→wpQuiet P ops (fun w=>Sh K W w L) Z l a:=fun _ h=>r.goQ h k
theorem qN {Z:Act→Prop}(z:∀a,(∀w,Sh K W w L→R a w)→Z a)(k:∀a w,St N K W a w F L→R a w):∀a,Fr N a F→wpQuiet P ops (fun w=>Sh K W w L) Z [] a:=fun a h=>wpQuiet_nil (z a fun w hw=>k a w ⟨h,hw⟩)
theorem rQ {id:Nat}(r:Runs P l.toArray N K W L l F [] F')(k:∀a w,St N K W a w F' L→Q .normal a w)(hm:P.follows .mixedOrders=true:=by kernel_rfl)(hB:Region.lexB .any l.toArray=true:=by kernel_rfl):∀a w,St N K W a w F L→(Code.region id l.toArray true).wp P Q a w:=
 fun _ w h=>x_quiet hm hB h fun Z hZ=>r.goQ h.fr fun a hf=>wpQuiet_nil (hZ a fun w hw=>k a w ⟨hf,hw⟩)
theorem rT {id:Nat}(m:Nat)(ps:List Nat)(r:Runs P l.toArray N K W L (opsAt l.toArray ps++opsAt l.toArray (quietIs m ps)) F [] F')
  (k:∀a w,St N K W a w F' L→wpList P l.toArray (fun e a w=>match e with| .normal=>Q .normal a w|_=>False) (l.drop m) a w) (hm:P.follows .mixedOrders=true:=by kernel_rfl) (hB:tailB l m ps=true:=by kernel_rfl):∀a w,St N K W a w F L→(Code.region id l.toArray true).wp P Q a w:=
 fun _ w h=>x_tail m ps hm hB h fun Z hZ=>r.goQ h.fr fun a hf=>wpQuiet_nil (hZ a fun w hw=>k a w ⟨hf,hw⟩)
section
variable {d g k q r j n by_ sz i2:Nat}{T E e:TypeId}{x y:Operand}{v:Value}{z cs vs:List Value}
theorem wn (hg:o.guard=none):∀a,Fr N a F→Region.wanted o (yielded ops a.tmps)=true:=fun _ _=>wanted_none hg _
theorem oV (hr:Rn P o N K W F L v)(e:(o.dst,o.guard,Nat.blt d N)=(some d,none,true))(k:Runs P ops N K W L l ((d,v)::F) l' F'):Runs P ops N K W L (o::l) F l' F' :=by
 simp only [Prod.mk.injEq] at e
 exact .cn hr (wn e.2.1) e.1 e.2.2 k
theorem oG {b want:Bool}{t:Nat}{oj:Oper}(hb:b=want)(hr:Rn P o N K W F L v)(e:(o.dst,o.guard,ops[j]?,oj.dst,lk F t,Nat.blt d N)=(some d,some (j,want),some oj,some t,some (.bool b),true))(k:Runs P ops N K W L l ((d,v)::F) l' F'):Runs P ops N K W L (o::l) F l' F' :=by
 simp only [Prod.mk.injEq] at e
 exact .cn hr (fun a h=>wanted_yes h e.2.1 e.2.2.1 e.2.2.2.1 e.2.2.2.2.1 hb) e.1 e.2.2.2.2.2 k
theorem oK {b want:Bool}{t:Nat}{oj:Oper}(hb:b= !want)(e:(o.dst,o.guard,ops[j]?,oj.dst,lk F t,Nat.blt d N)=(some d,some (j,want),some oj,some t,some (.bool b),true))(k:Runs P ops N K W L l ((d,undef)::F) l' F'):Runs P ops N K W L (o::l) F l' F' :=by
 simp only [Prod.mk.injEq] at e
 exact .sk (fun a h=>wanted_no h e.2.1 e.2.2.1 e.2.2.2.1 e.2.2.2.2.1 hb) e.1 e.2.2.2.2.2 k
theorem oK2 {want:Bool}{t:Nat}{oj:Oper}(e:(o.dst,o.guard,ops[j]?,oj.dst,lk F t,Nat.blt d N)=(some d,some (j,want),some oj,some t,some undef,true))(k:Runs P ops N K W L l ((d,undef)::F) l' F'):Runs P ops N K W L (o::l) F l' F' :=by
 simp only [Prod.mk.injEq] at e
 exact .sk (fun a h=>wanted_no2 h e.2.1 e.2.2.1 e.2.2.2.1 e.2.2.2.2.1) e.1 e.2.2.2.2.2 k
def skF (N j t:Nat)(want:Bool):Nat→List Oper→List (Nat×Value)→Option (List Oper×List (Nat×Value))
 |0,l,F=>some (l,F)
 |n+1,o::l,F=>match o.guard with
  |some (j',w')=>bif Nat.beq j' j&&(w' ==want) then match o.dst with
   |some d=>bif Nat.blt d N&& !(Nat.beq d t) then skF N j t want n l ((d,undef)::F) else none
   |none=>none
   else none
  |none=>none
 |_+1, [],_=>none
theorem oKs (n:Nat){b want:Bool}{j t:Nat}{oj:Oper}(hb:b= !want)(e:(o.guard,ops[j]?,oj.dst,lk F t)=(some (j,want),some oj,some t,some (.bool b)))(hs:skF N j t want n (o::l) F=some (l2,F2))(k:Runs P ops N K W L l2 F2 l' F'):Runs P ops N K W L (o::l) F l' F' :=by
 simp only [Prod.mk.injEq] at e
 obtain ⟨_,e1,e2,e3⟩:=e
 generalize o::l=m at hs⊢
 induction n generalizing m F with
 |zero=>cases hs;exact k
 |succ n ih=>
  cases m with
  |nil=>cases hs
  |cons o m=>
   unfold skF at hs
   split at hs
   ·rename_i j' w' hg
    cases hc:Nat.beq j' j&&(w' ==want) with
    |false=>rw [hc] at hs;cases hs
    |true=>
     rw [hc,cond_true] at hs
     obtain ⟨h1,h2⟩:=Bool.and_eq_true_iff.1 hc
     cases Nat.eq_of_beq_eq_true h1
     obtain rfl:w' =want:=by simpa using h2
     split at hs
     ·rename_i d hd
      cases hc2:Nat.blt d N&& !(Nat.beq d t) with
      |false=>rw [hc2] at hs;cases hs
      |true=>
       rw [hc2,cond_true] at hs
       obtain ⟨h3,h4⟩:=Bool.and_eq_true_iff.1 hc2
       have h5:d≠t:=fun e=>by subst e;simp at h4
       exact .sk (fun a h=>wanted_no h hg e1 e2 e3 hb) hd h3 (ih (by rw [lk_cons,if_neg h5];exact e3) m hs)
     ·cases hs
   ·cases hs
theorem oM (n:Nat)(e:mvN N n l F=some (l2,F2))(k:Runs P ops N K W L l2 F2 l' F'):Runs P ops N K W L l F l' F' :=by
 induction n generalizing l F with
 |zero=>cases e;exact k
 |succ n ih=>
  cases l with
  |nil=>cases e
  |cons o l=>
   unfold mvN at e
   split at e
   ·rename_i d x hg hd ho
    split at e
    ·rename_i v hv
     cases hb:Nat.blt d N with
     |false=>rw [hb] at e;cases e
     |true=>rw [hb] at e;exact .cn (r_move ho hv) (wn hg) hd hb (ih e)
    ·cases e
   ·rename_i d x hg hd ho
    split at e
    ·rename_i v hv
     cases hb:Nat.blt d N with
     |false=>rw [hb] at e;cases e
     |true=>rw [hb] at e;exact .cn (r_assign ho hv) (wn hg) hd hb (ih e)
    ·cases e
   ·cases e
theorem onl {p:Addr}(e:(o.dst,o.op,ev F x,okg o d N)=(some d, .nilCheck x,some (.pointer (some p)),true))(k:Runs P ops N K W L l ((d, .pointer (some p))::F) l' F'):Runs P ops N K W L (o::l) F l' F' :=by
 simp only [Prod.mk.injEq,okg,Bool.and_eq_true,Option.isNone_iff_eq_none] at e
 exact .cn (r_nil e.2.1 e.2.2.1) (wn e.2.2.2.1) e.1 e.2.2.2.2 k
theorem ofB {f:Nat}(hT:flI P T f=some k)(e:(o.dst,o.op,ev F x,okg o d N)=(some d, .fieldAddr T x f,some (.pointer (some ⟨g,0,none⟩)),true))(kk:Runs P ops N K W L l ((d, .pointer (some ⟨g,k,none⟩))::F) l' F'):Runs P ops N K W L (o::l) F l' F' :=by
 simp only [Prod.mk.injEq,okg,Bool.and_eq_true,Option.isNone_iff_eq_none] at e
 exact .cn (r_fieldB hT e.2.1 e.2.2.1 (Nat.zero_add k)) (wn e.2.2.2.1) e.1 e.2.2.2.2 kk
theorem onf {o2:Oper}{f d2:Nat}{p:Addr}{y:Operand}(hT:flI P T f=some k)(e:(o.dst,o.op,ev F x,okg o d N,o2.dst,o2.op,ev ((d, .pointer (some p))::F) y,okg o2 d2 N)=(some d, .nilCheck x,some (.pointer (some p)),true,some d2, .fieldAddr T y f,some (.pointer (some ⟨g,0,none⟩)),true))
  (kk:Runs P ops N K W L l ((d2, .pointer (some ⟨g,k,none⟩))::(d, .pointer (some p))::F) l' F'):Runs P ops N K W L (o::o2::l) F l' F' :=by
 simp only [Prod.mk.injEq] at e
 obtain ⟨e1,e2,e3,e4,e5,e6,e7,e8⟩:=e
 exact onl (by rw [e1,e2,e3,e4]) (ofB hT (by rw [e5,e6,e7,e8]) kk)
theorem olB (i:Nat)(hT:tyI P T=some (false,n,by_,z))(hi:L[i]? =some (.blk g E cs))(e:(o.dst,o.op,ev F x,okg o d N,cs[q]?)=(some d, .load T x,some (.pointer (some ⟨g,q,none⟩)),true,some v))(k:Runs P ops N K W L l ((d,v)::F) l' F'):Runs P ops N K W L (o::l) F l' F' :=by
 simp only [Prod.mk.injEq,okg,Bool.and_eq_true,Option.isNone_iff_eq_none] at e
 exact .cn (r_ldb hT e.2.1 e.2.2.1 hi e.2.2.2.2) (wn e.2.2.2.1.1) e.1 e.2.2.2.1.2 k
theorem olR (i:Nat)(hT:tyI P T=some (false,n,by_,z))(hi:L[i]? =some (.rblk g E cs))(e:(o.dst,o.op,ev F x,okg o d N,cs[q]?)=(some d, .load T x,some (.pointer (some ⟨g,q,none⟩)),true,some v))(k:Runs P ops N K W L l ((d,v)::F) l' F'):Runs P ops N K W L (o::l) F l' F' :=by
 simp only [Prod.mk.injEq,okg,Bool.and_eq_true,Option.isNone_iff_eq_none] at e
 exact .cn (r_ldbR hT e.2.1 e.2.2.1 (fun w h=>h.rblk i hi) e.2.2.2.2) (wn e.2.2.2.1.1) e.1 e.2.2.2.1.2 k
theorem onfl (i:Nat){o2 o3:Oper}{f d2 d3:Nat}{T' :TypeId}{p:Addr}{y u:Operand}(hT:flI P T f=some k)(hT' :tyI P T' =some (false,n,by_,z))(hi:L[i]? =some (.blk g E cs))
  (e:(o.dst,o.op,ev F x,okg o d N,o2.dst,o2.op,ev ((d, .pointer (some p))::F) y,okg o2 d2 N,o3.dst,o3.op,ev ((d2, .pointer (some ⟨g,k,none⟩))::(d, .pointer (some p))::F) u,okg o3 d3 N,cs[k]?)=(some d, .nilCheck x,some (.pointer (some p)),true,some d2, .fieldAddr T y f,some (.pointer (some ⟨g,0,none⟩)),true,some d3, .load T' u,some (.pointer (some ⟨g,k,none⟩)),true,some v))
  (kk:Runs P ops N K W L l ((d3,v)::(d2, .pointer (some ⟨g,k,none⟩))::(d, .pointer (some p))::F) l' F'):Runs P ops N K W L (o::o2::o3::l) F l' F' :=by
 simp only [Prod.mk.injEq] at e
 obtain ⟨e1,e2,e3,e4,e5,e6,e7,e8,e9,f1,f2,f3,f4⟩:=e
 exact onl (by rw [e1,e2,e3,e4]) (ofB hT (by rw [e5,e6,e7,e8]) (olB i hT' hi (by rw [e9,f1,f2,f3,f4]) kk))
def takeO :List Value→Nat→Nat→Option (List Value)
 |_,_,0=>some []
 | [],_,_+1=>none
 |_::r,q+1,n+1=>takeO r q (n+1)
 |v::r,0,n+1=>match takeO r 0 n with
  |some l=>some (v::l)
  |none=>none
theorem takeO_eq :∀ {cs:List Value} {q n:Nat} {vs:List Value},takeO cs q n=some vs→(cs.drop q).take n=vs∧vs.length=n
 |cs,q,0,vs,h=>by unfold takeO at h;cases h;simp
 | [],q,n+1,vs,h=>by cases q<;>cases h
 |_::r,q+1,n+1,vs,h=>by
  unfold takeO at h
  simpa using takeO_eq h
 |v::r,0,n+1,vs,h=>by
  unfold takeO at h
  split at h
  ·next l hl=>
   cases h
   obtain ⟨h1,h2⟩:=takeO_eq hl
   refine ⟨?_,by simp [h2]⟩
   rw [List.drop_zero] at h1⊢
   rw [List.take_succ_cons,h1]
  ·cases h
theorem olw (i:Nat)(hT:tyI P T=some (true,n,by_,z))(hi:L[i]? =some (.blk g E cs))(e:(o.dst,o.op,ev F x,okg o d N,takeO cs q n)=(some d, .load T x,some (.pointer (some ⟨g,q,none⟩)),true,some vs))(k:Runs P ops N K W L l ((d, .agg vs.toArray)::F) l' F'):Runs P ops N K W L (o::l) F l' F' :=by
 simp only [Prod.mk.injEq,okg,Bool.and_eq_true,Option.isNone_iff_eq_none] at e
 exact .cn (r_ldbw hT e.2.1 e.2.2.1 hi (takeO_eq e.2.2.2.2).1 (takeO_eq e.2.2.2.2).2) (wn e.2.2.2.1.1) e.1 e.2.2.2.1.2 k
theorem oxt {i:Nat}{vs:Array Value}(e:(o.dst,o.op,ev F x,okg o d N,vs[i]?)=(some d, .extract x i,some (.tuple vs),true,some v))(k:Runs P ops N K W L l ((d,v)::F) l' F'):Runs P ops N K W L (o::l) F l' F' :=by
 simp only [Prod.mk.injEq,okg,Bool.and_eq_true,Option.isNone_iff_eq_none] at e
 exact .cn (r_extract e.2.1 e.2.2.1 e.2.2.2.2) (wn e.2.2.2.1.1) e.1 e.2.2.2.1.2 k
theorem opT {b:Bool}{c x y:Operand}(hb:b=true)(e:(o.dst,o.op,ev F c,ev F x,okg o d N)=(some d, .pick c x y,some (.bool b),some v,true))(k:Runs P ops N K W L l ((d,v)::F) l' F'):Runs P ops N K W L (o::l) F l' F' :=by
 simp only [Prod.mk.injEq,okg,Bool.and_eq_true,Option.isNone_iff_eq_none] at e
 exact .cn (r_pickT e.2.1 e.2.2.1 hb e.2.2.2.1) (wn e.2.2.2.2.1) e.1 e.2.2.2.2.2 k
theorem opF {b:Bool}{c x y:Operand}(hb:b=false)(e:(o.dst,o.op,ev F c,ev F y,okg o d N)=(some d, .pick c x y,some (.bool b),some v,true))(k:Runs P ops N K W L l ((d,v)::F) l' F'):Runs P ops N K W L (o::l) F l' F' :=by
 simp only [Prod.mk.injEq,okg,Bool.and_eq_true,Option.isNone_iff_eq_none] at e
 exact .cn (r_pickF e.2.1 e.2.2.1 hb e.2.2.2.1) (wn e.2.2.2.2.1) e.1 e.2.2.2.2.2 k
theorem ont {b:Bool}(e:(o.dst,o.op,ev F x,okg o d N)=(some d, .unOp .not T x,some (.bool b),true))(k:Runs P ops N K W L l ((d, .bool (!b))::F) l' F'):Runs P ops N K W L (o::l) F l' F' :=by
 simp only [Prod.mk.injEq,okg,Bool.and_eq_true,Option.isNone_iff_eq_none] at e
 exact .cn (r_not e.2.1 e.2.2.1) (wn e.2.2.2.1) e.1 e.2.2.2.2 k
section
variable {α:Type}[Enc α]{s:Ls α}{gb:Bool}
theorem oxN {kd:IntKind}(hT:slI P T=some e)(he:tyI P e=some (gb,n,by_,z))(hat:∀w,Sh K W w L→s.At w)(q:Nat)(hb:q<s.l.length)(e' :(o.dst,o.op,ev F x,ev F y,okg o d N)=(some d, .indexAddr T x y,some s.v,some (.int kd (q:Int)),true))
  (k:Runs P ops N K W L l ((d, .pointer (some (padr s.v n q 0)))::F) l' F'):Runs P ops N K W L (o::l) F l' F' :=by
 simp only [Prod.mk.injEq,okg,Bool.and_eq_true,Option.isNone_iff_eq_none] at e'
 exact .cn (r_ixN hT he e'.2.1 e'.2.2.1 e'.2.2.2.1 hat hb) (wn e'.2.2.2.2.1) e'.1 e'.2.2.2.2.2 k
theorem oxI {kd:IntKind}{q:Int}(hT:slI P T=some e)(he:tyI P e=some (gb,n,by_,z))(hat:∀w,Sh K W w L→s.At w)(hb:0≤q∧q<s.l.length)(e' :(o.dst,o.op,ev F x,ev F y,okg o d N)=(some d, .indexAddr T x y,some s.v,some (.int kd q),true))
  (k:Runs P ops N K W L l ((d, .pointer (some (padr s.v n q.toNat 0)))::F) l' F'):Runs P ops N K W L (o::l) F l' F' :=by
 simp only [Prod.mk.injEq,okg,Bool.and_eq_true,Option.isNone_iff_eq_none] at e'
 exact .cn (r_ixI hT he e'.2.1 e'.2.2.1 e'.2.2.2.1 hat hb) (wn e'.2.2.2.2.1) e'.1 e'.2.2.2.2.2 k
theorem ofE {f i:Nat}(hT:flI P T f=some k)(e:(o.dst,o.op,ev F x,okg o d N)=(some d, .fieldAddr T x f,some (.pointer (some (padr v sz i 0))),true))(kk:Runs P ops N K W L l ((d, .pointer (some (padr v sz i k)))::F) l' F'):Runs P ops N K W L (o::l) F l' F' :=by
 simp only [Prod.mk.injEq,okg,Bool.and_eq_true,Option.isNone_iff_eq_none] at e
 exact .cn (r_fieldE hT e.2.1 e.2.2.1 (Nat.zero_add k)) (wn e.2.2.2.1) e.1 e.2.2.2.2 kk
theorem olE {i:Nat}(v:Value)(hT:tyI P T=some (false,n,by_,z))(hat:∀w,Sh K W w L→s.At w)(hi:i<s.l.length)(e:(o.dst,o.op,ev F x,okg o d N,Enc.sz α,Nat.blt j sz,Enc.cell (nth s.l i) j)=(some d, .load T x,some (.pointer (some (padr s.v sz i j))),true,sz,true,v))(k:Runs P ops N K W L l ((d,v)::F) l' F'):Runs P ops N K W L (o::l) F l' F' :=by
 simp only [Prod.mk.injEq,okg,Bool.and_eq_true,Option.isNone_iff_eq_none] at e
 exact .cn (r_lde hT e.2.1 e.2.2.1 e.2.2.2.2.1 hat hi (by simpa [Nat.blt_eq] using e.2.2.2.2.2.1) e.2.2.2.2.2.2) (wn e.2.2.2.1.1) e.1 e.2.2.2.1.2 k
theorem olI {i:Nat}{kd:IntKind}{u:Int}(hT:tyI P T=some (false,n,by_,z))(hat:∀w,Sh K W w L→s.At w)(hi:i<s.l.length)(e:(o.dst,o.op,ev F x,okg o d N,Enc.sz α,Nat.blt j sz,Enc.cell (nth s.l i) j)=(some d, .load T x,some (.pointer (some (padr s.v sz i j))),true,sz,true, .int kd u))(k:Runs P ops N K W L l ((d, .int kd u)::F) l' F'):Runs P ops N K W L (o::l) F l' F' :=olE (.int kd u) hT hat hi e k
theorem olw2 {i:Nat}(vs:List Value)(hT:tyI P T=some (true,n,by_,z))(hat:∀w,Sh K W w L→s.At w)(hi:i<s.l.length)(e:(o.dst,o.op,ev F x,okg o d N,Enc.sz α,Nat.ble (j+n) sz,(List.range n).map (fun q=>Enc.cell (nth s.l i) (j+q)))=(some d, .load T x,some (.pointer (some (padr s.v sz i j))),true,sz,true,vs))(k:Runs P ops N K W L l ((d, .agg vs.toArray)::F) l' F'):Runs P ops N K W L (o::l) F l' F' :=by
 simp only [Prod.mk.injEq,okg,Bool.and_eq_true,Option.isNone_iff_eq_none] at e
 exact .cn (r_ldew hT e.2.1 e.2.2.1 e.2.2.2.2.1 hat hi (Nat.le_of_ble_eq_true e.2.2.2.2.2.1) e.2.2.2.2.2.2) (wn e.2.2.2.1.1) e.1 e.2.2.2.1.2 k
theorem oln {n:Nat}(hT:slI P T=some e)(hat:∀w,Sh K W w L→s.At w)(e' :(o.dst,o.op,ev F x,okg o d N,s.l.length)=(some d, .call ⟨.builtin .len, #[x], #[T]⟩,some s.v,true,n))(k:Runs P ops N K W L l ((d, .int .i64 (n:Int))::F) l' F'):Runs P ops N K W L (o::l) F l' F' :=by
 simp only [Prod.mk.injEq,okg,Bool.and_eq_true,Option.isNone_iff_eq_none] at e'
 exact .cn (r_len hT e'.2.1 e'.2.2.1 hat e'.2.2.2.2) (wn e'.2.2.2.1.1) e'.1 e'.2.2.2.1.2 k
end
section
variable {U:TypeId}{kd:IntKind}
theorem oltN (p q:Nat)(e:(o.dst,o.op,ev F x,ev F y,okg o d N)=(some d, .binOp .lss T x y U,some (.int kd (p:Int)),some (.int kd (q:Int)),true))(k:Runs P ops N K W L l ((d, .bool (decide (p<q)))::F) l' F'):Runs P ops N K W L (o::l) F l' F' :=by
 simp only [Prod.mk.injEq,okg,Bool.and_eq_true,Option.isNone_iff_eq_none] at e
 exact .cn (r_lssN e.2.1 e.2.2.1 e.2.2.2.1) (wn e.2.2.2.2.1) e.1 e.2.2.2.2.2 k
theorem oltI (p q:Int)(e:(o.dst,o.op,ev F x,ev F y,okg o d N)=(some d, .binOp .lss T x y U,some (.int kd p),some (.int kd q),true))(k:Runs P ops N K W L l ((d, .bool (decide (p<q)))::F) l' F'):Runs P ops N K W L (o::l) F l' F' :=by
 simp only [Prod.mk.injEq,okg,Bool.and_eq_true,Option.isNone_iff_eq_none] at e
 exact .cn (r_lssI e.2.1 e.2.2.1 e.2.2.2.1) (wn e.2.2.2.2.1) e.1 e.2.2.2.2.2 k
theorem oleN (p q:Nat)(e:(o.dst,o.op,ev F x,ev F y,okg o d N)=(some d, .binOp .leq T x y U,some (.int kd (p:Int)),some (.int kd (q:Int)),true))(k:Runs P ops N K W L l ((d, .bool (decide (p≤q)))::F) l' F'):Runs P ops N K W L (o::l) F l' F' :=by
 simp only [Prod.mk.injEq,okg,Bool.and_eq_true,Option.isNone_iff_eq_none] at e
 exact .cn (r_leqN e.2.1 e.2.2.1 e.2.2.2.1) (wn e.2.2.2.2.1) e.1 e.2.2.2.2.2 k
theorem oleI (p q:Int)(e:(o.dst,o.op,ev F x,ev F y,okg o d N)=(some d, .binOp .leq T x y U,some (.int kd p),some (.int kd q),true))(k:Runs P ops N K W L l ((d, .bool (decide (p≤q)))::F) l' F'):Runs P ops N K W L (o::l) F l' F' :=by
 simp only [Prod.mk.injEq,okg,Bool.and_eq_true,Option.isNone_iff_eq_none] at e
 exact .cn (r_leqI e.2.1 e.2.2.1 e.2.2.2.1) (wn e.2.2.2.2.1) e.1 e.2.2.2.2.2 k
theorem ogtN (p q:Nat)(e:(o.dst,o.op,ev F x,ev F y,okg o d N)=(some d, .binOp .gtr T x y U,some (.int kd (p:Int)),some (.int kd (q:Int)),true))(k:Runs P ops N K W L l ((d, .bool (decide (q<p)))::F) l' F'):Runs P ops N K W L (o::l) F l' F' :=by
 simp only [Prod.mk.injEq,okg,Bool.and_eq_true,Option.isNone_iff_eq_none] at e
 exact .cn (r_gtrN e.2.1 e.2.2.1 e.2.2.2.1) (wn e.2.2.2.2.1) e.1 e.2.2.2.2.2 k
theorem ogtI (p q:Int)(e:(o.dst,o.op,ev F x,ev F y,okg o d N)=(some d, .binOp .gtr T x y U,some (.int kd p),some (.int kd q),true))(k:Runs P ops N K W L l ((d, .bool (decide (q<p)))::F) l' F'):Runs P ops N K W L (o::l) F l' F' :=by
 simp only [Prod.mk.injEq,okg,Bool.and_eq_true,Option.isNone_iff_eq_none] at e
 exact .cn (r_gtrI e.2.1 e.2.2.1 e.2.2.2.1) (wn e.2.2.2.2.1) e.1 e.2.2.2.2.2 k
theorem ogeI (p q:Int)(e:(o.dst,o.op,ev F x,ev F y,okg o d N)=(some d, .binOp .geq T x y U,some (.int kd p),some (.int kd q),true))(k:Runs P ops N K W L l ((d, .bool (decide (q≤p)))::F) l' F'):Runs P ops N K W L (o::l) F l' F' :=by
 simp only [Prod.mk.injEq,okg,Bool.and_eq_true,Option.isNone_iff_eq_none] at e
 exact .cn (r_geqI e.2.1 e.2.2.1 e.2.2.2.1) (wn e.2.2.2.2.1) e.1 e.2.2.2.2.2 k
theorem oeqN (p q:Nat)(e:(o.dst,o.op,ev F x,ev F y,okg o d N)=(some d, .binOp .eql T x y U,some (.int kd (p:Int)),some (.int kd (q:Int)),true))(k:Runs P ops N K W L l ((d, .bool (decide (p=q)))::F) l' F'):Runs P ops N K W L (o::l) F l' F' :=by
 simp only [Prod.mk.injEq,okg,Bool.and_eq_true,Option.isNone_iff_eq_none] at e
 exact .cn (r_eqlN e.2.1 e.2.2.1 e.2.2.2.1) (wn e.2.2.2.2.1) e.1 e.2.2.2.2.2 k
theorem oeqI (p q:Int)(e:(o.dst,o.op,ev F x,ev F y,okg o d N)=(some d, .binOp .eql T x y U,some (.int kd p),some (.int kd q),true))(k:Runs P ops N K W L l ((d, .bool (decide (p=q)))::F) l' F'):Runs P ops N K W L (o::l) F l' F' :=by
 simp only [Prod.mk.injEq,okg,Bool.and_eq_true,Option.isNone_iff_eq_none] at e
 exact .cn (r_eqlI e.2.1 e.2.2.1 e.2.2.2.1) (wn e.2.2.2.2.1) e.1 e.2.2.2.2.2 k
theorem oneN (p q:Nat)(e:(o.dst,o.op,ev F x,ev F y,okg o d N)=(some d, .binOp .neq T x y U,some (.int kd (p:Int)),some (.int kd (q:Int)),true))(k:Runs P ops N K W L l ((d, .bool (decide (p≠q)))::F) l' F'):Runs P ops N K W L (o::l) F l' F' :=by
 simp only [Prod.mk.injEq,okg,Bool.and_eq_true,Option.isNone_iff_eq_none] at e
 exact .cn (r_neqN e.2.1 e.2.2.1 e.2.2.2.1) (wn e.2.2.2.2.1) e.1 e.2.2.2.2.2 k
theorem oneI (p q:Int)(e:(o.dst,o.op,ev F x,ev F y,okg o d N)=(some d, .binOp .neq T x y U,some (.int kd p),some (.int kd q),true))(k:Runs P ops N K W L l ((d, .bool (decide (p≠q)))::F) l' F'):Runs P ops N K W L (o::l) F l' F' :=by
 simp only [Prod.mk.injEq,okg,Bool.and_eq_true,Option.isNone_iff_eq_none] at e
 exact .cn (r_neqI e.2.1 e.2.2.1 e.2.2.2.1) (wn e.2.2.2.2.1) e.1 e.2.2.2.2.2 k
theorem oadN (p q:Nat)(hb:p+q<9223372036854775808)(e:(o.dst,o.op,ev F x,ev F y,okg o d N)=(some d, .binOp .add T x y U,some (.int .i64 (p:Int)),some (.int .i64 (q:Int)),true))(k:Runs P ops N K W L l ((d, .int .i64 ((p+q:Nat):Int))::F) l' F'):Runs P ops N K W L (o::l) F l' F' :=by
 simp only [Prod.mk.injEq,okg,Bool.and_eq_true,Option.isNone_iff_eq_none] at e
 exact .cn (r_addN e.2.1 e.2.2.1 e.2.2.2.1 hb) (wn e.2.2.2.2.1) e.1 e.2.2.2.2.2 k
theorem oadI (p q:Int)(hb: -9223372036854775808≤p+q∧p+q<9223372036854775808)(e:(o.dst,o.op,ev F x,ev F y,okg o d N)=(some d, .binOp .add T x y U,some (.int .i64 p),some (.int .i64 q),true))(k:Runs P ops N K W L l ((d, .int .i64 (p+q))::F) l' F'):Runs P ops N K W L (o::l) F l' F' :=by
 simp only [Prod.mk.injEq,okg,Bool.and_eq_true,Option.isNone_iff_eq_none] at e
 exact .cn (r_addI e.2.1 e.2.2.1 e.2.2.2.1 hb) (wn e.2.2.2.2.1) e.1 e.2.2.2.2.2 k
theorem osbN (p q:Nat)(hb:q≤p∧p<9223372036854775808)(e:(o.dst,o.op,ev F x,ev F y,okg o d N)=(some d, .binOp .sub T x y U,some (.int .i64 (p:Int)),some (.int .i64 (q:Int)),true))(k:Runs P ops N K W L l ((d, .int .i64 ((p-q:Nat):Int))::F) l' F'):Runs P ops N K W L (o::l) F l' F' :=by
 simp only [Prod.mk.injEq,okg,Bool.and_eq_true,Option.isNone_iff_eq_none] at e
 exact .cn (r_subN e.2.1 e.2.2.1 e.2.2.2.1 hb) (wn e.2.2.2.2.1) e.1 e.2.2.2.2.2 k
theorem osbI (p q:Int)(hb: -9223372036854775808≤p-q∧p-q<9223372036854775808)(e:(o.dst,o.op,ev F x,ev F y,okg o d N)=(some d, .binOp .sub T x y U,some (.int .i64 p),some (.int .i64 q),true))(k:Runs P ops N K W L l ((d, .int .i64 (p-q))::F) l' F'):Runs P ops N K W L (o::l) F l' F' :=by
 simp only [Prod.mk.injEq,okg,Bool.and_eq_true,Option.isNone_iff_eq_none] at e
 exact .cn (r_subI e.2.1 e.2.2.1 e.2.2.2.1 hb) (wn e.2.2.2.2.1) e.1 e.2.2.2.2.2 k
theorem omlN (p q:Nat)(hb:p*q<9223372036854775808)(e:(o.dst,o.op,ev F x,ev F y,okg o d N)=(some d, .binOp .mul T x y U,some (.int .i64 (p:Int)),some (.int .i64 (q:Int)),true))(k:Runs P ops N K W L l ((d, .int .i64 ((p*q:Nat):Int))::F) l' F'):Runs P ops N K W L (o::l) F l' F' :=by
 simp only [Prod.mk.injEq,okg,Bool.and_eq_true,Option.isNone_iff_eq_none] at e
 exact .cn (r_mulN e.2.1 e.2.2.1 e.2.2.2.1 hb) (wn e.2.2.2.2.1) e.1 e.2.2.2.2.2 k
theorem oquN (p q:Nat)(hb:0<q∧p<9223372036854775808)(e:(o.dst,o.op,ev F x,ev F y,okg o d N)=(some d, .binOp .quo T x y U,some (.int .i64 (p:Int)),some (.int .i64 (q:Int)),true))(k:Runs P ops N K W L l ((d, .int .i64 ((p/q:Nat):Int))::F) l' F'):Runs P ops N K W L (o::l) F l' F' :=by
 simp only [Prod.mk.injEq,okg,Bool.and_eq_true,Option.isNone_iff_eq_none] at e
 exact .cn (r_quoN e.2.1 e.2.2.1 e.2.2.2.1 hb) (wn e.2.2.2.2.1) e.1 e.2.2.2.2.2 k
theorem ormN (p q:Nat)(hb:0<q∧p<9223372036854775808)(e:(o.dst,o.op,ev F x,ev F y,okg o d N)=(some d, .binOp .rem T x y U,some (.int .i64 (p:Int)),some (.int .i64 (q:Int)),true))(k:Runs P ops N K W L l ((d, .int .i64 ((p%q:Nat):Int))::F) l' F'):Runs P ops N K W L (o::l) F l' F' :=by
 simp only [Prod.mk.injEq,okg,Bool.and_eq_true,Option.isNone_iff_eq_none] at e
 exact .cn (r_remN e.2.1 e.2.2.1 e.2.2.2.1 hb) (wn e.2.2.2.2.1) e.1 e.2.2.2.2.2 k
end
theorem r_buildS {parts:List (Nat×Operand)}{pv:List (Nat×Value)}{cs:List Value}(ho:o.op= .build T parts.toArray)(hx:evp F parts=some pv)(hb:∀w,Sh K W w L→P.built T pv=some cs.toArray):Rn P o N K W F L (.agg cs.toArray):=fun a w h=>r_build ho hx (hb w h.sh) a w h
def setO :List Value→Nat→Value→Option (List Value)
 | [],_,_=>none
 |_::r,0,v=>some (v::r)
 |u::r,q+1,v=>match setO r q v with
  |some l=>some (u::l)
  |none=>none
theorem setO_eq :∀ {cs:List Value} {q:Nat} {v:Value} {cs' :List Value},setO cs q v=some cs' →q+1≤cs.length∧splice cs q [v]=cs'
 | [],_,_,_,h=>by cases h
 |u::r,0,v,_,h=>by cases h;exact ⟨by simp,by simp [splice]⟩
 |u::r,q+1,v,cs',h=>by
  unfold setO at h
  split at h
  ·next l hl=>
   cases h
   obtain ⟨h1,h2⟩:=setO_eq hl
   refine ⟨by simpa using h1, ?_⟩
   rw [←h2]
   simp [splice,Nat.add_right_comm q 1 1]
  ·cases h
def putO :List Asn→Nat→Asn→Option (List Asn)
 | [],_,_=>none
 |_::r,0,v=>some (v::r)
 |u::r,q+1,v=>match putO r q v with
  |some l=>some (u::l)
  |none=>none
theorem putO_eq :∀ {L:List Asn} {q:Nat} {A:Asn} {L' :List Asn},putO L q A=some L' →L.set q A=L'
 | [],_,_,_,h=>by cases h
 |u::r,0,v,_,h=>by cases h;rfl
 |u::r,q+1,v,cs',h=>by
  unfold putO at h
  split at h
  ·next l hl=>cases h;rw [List.set_cons_succ,putO_eq hl]
  ·cases h
theorem gst (i:Nat){gg:Bool}{cs' :List Value}{L2:List Asn}(hT:tyI P T=some (gg,1,by_,z))(hi:L[i]? =some (.blk g E cs))(e:(o.op,o.dst,o.guard,ev F x,ev F y,setO cs q v,putO L i (.blk g E cs'))=(.store T x y,none,none,some (.pointer (some ⟨g,q,none⟩)),some v,some cs',some L2))(h1:v.oneCell' =true)
  (k:∀a w,St N K W a w F L2→wpList P ops Q rest a w):∀a w,St N K W a w F L→wpList P ops Q (o::rest) a w:=by
 simp only [Prod.mk.injEq] at e
 obtain ⟨e1,e2,e3,e4,e5,e6,e7⟩:=e
 intro a w h
 obtain ⟨h3,h4⟩:=setO_eq e6
 refine wl_ex (x_stb (vs:= [v]) h hT e1 e2 e4 e5 hi (cells_oneL h1) rfl (allOne_cons h1 allOne_nil) h3 h4) (wanted_none e3 _) fun a' w' h' => ?_
 rw [putO_eq e7] at h'
 exact k _ _ h'
theorem gal {gg:Bool}(hT:tyI P T=some (gg,n,by_,z))(e:(o.op,o.dst,o.guard,Nat.blt d N)=(.alloc T,some d,none,true))(k:∀(b:Nat) (a:Act) (w:World),St N K W a w ((d, .pointer (some ⟨b,0,none⟩))::F) (.blk b T z::L)→wpList P ops Q rest a w):∀a w,St N K W a w F L→wpList P ops Q (o::rest) a w:=by
 simp only [Prod.mk.injEq] at e
 intro a w h
 exact wl_ex (x_alloc h hT e.1 e.2.1 e.2.2.2) (wanted_none e.2.2.1 _) fun a w ⟨b,h⟩=>k b a w h
theorem gsr {α:Type}[Enc α]{s:Ls α}(i:Nat){gg:Bool}{cs' :List Value}{L2:List Asn}(hT:tyI P T=some (gg,1,by_,z))(hi:L[i]? =some (.blk g E cs))(hat:∀w,Sh K W w L→s.At w)(e:(o.op,o.dst,o.guard,ev F x,ev F y,setO cs q s.v,putO L i (.blk g E cs'))=(.store T x y,none,none,some (.pointer (some ⟨g,q,none⟩)),some s.v,some cs',some L2))
  (k:∀a w,St N K W a w F L2→wpList P ops Q rest a w):∀a w,St N K W a w F L→wpList P ops Q (o::rest) a w:=fun a w h=>gst i hT hi e (hat w h.sh).one k a w h
def forceL :List Value→Option (List Value)
 | []=>some []
 |v::r=>match forceL r with
  |some l=>some (v::l)
  |none=>none
theorem forceL_eq :∀ {l l' :List Value},forceL l=some l' →l=l'
 | [],_,h=>by cases h;rfl
 |v::r,_,h=>by
  unfold forceL at h
  split at h
  ·next l hl=>cases h;rw [forceL_eq hl]
  ·cases h
theorem gsw (i:Nat){gg:Bool}{cs' :List Value}{L2:List Asn}(hT:tyI P T=some (gg,n,by_,z))(hi:L[i]? =some (.blk g E cs))(e:(o.op,o.dst,o.guard,ev F x,ev F y,Nat.beq vs.length n,Nat.ble (q+n) cs.length,forceL (splice cs q vs),putO L i (.blk g E cs'))=(.store T x y,none,none,some (.pointer (some ⟨g,q,none⟩)),some (.agg vs.toArray),true,true,some cs',some L2))(h1:vs.all (·.oneCell')=true)
  (k:∀a w,St N K W a w F L2→wpList P ops Q rest a w):∀a w,St N K W a w F L→wpList P ops Q (o::rest) a w:=by
 simp only [Prod.mk.injEq] at e
 obtain ⟨e1,e2,e3,e4,e5,e6,e7,e8,e9⟩:=e
 intro a w h
 refine wl_ex (x_stb (vs:=vs) h hT e1 e2 e4 e5 hi (by simp [Value.cells]) (Nat.eq_of_beq_eq_true e6) h1 (Nat.le_of_ble_eq_true e7) (forceL_eq e8)) (wanted_none e3 _) fun a' w' h' => ?_
 rw [putO_eq e9] at h'
 exact k _ _ h'
theorem gbx (e:(o.op,o.dst,o.guard,ev F x,Nat.blt d N)=(.box T x,some d,none,some v,true))(hv:v.cells=cs.toArray)(k:∀(b:Nat) (a:Act) (w:World),St N K W a w ((d, .pointer (some ⟨b,0,none⟩))::F) (.blk b T cs::L)→wpList P ops Q rest a w):∀a w,St N K W a w F L→wpList P ops Q (o::rest) a w:=by
 simp only [Prod.mk.injEq] at e
 intro a w h
 exact wl_ex (x_box h e.1 e.2.2.2.1 hv e.2.1 e.2.2.2.2) (wanted_none e.2.2.1 _) fun a w ⟨b,h⟩=>k b a w h
theorem gte {α:Type}[Enc α][Flat α]{s:Ls α}{i j:Nat}{gg:Bool}{L2:List Asn}(r:Nat)(x' :α)(hT:tyI P T=some (gg,1,by_,z))(hi:i<s.l.length)(e:(o.op,o.dst,o.guard,L[r]?,ev F x,ev F y,Enc.sz α,Nat.blt j sz,putO L r (.own E ⟨s.v,s.l.set i x'⟩))=(.store T x y,none,none,some (.own E s),some (.pointer (some (padr s.v sz i j))),some v,sz,true,some L2))(h1:v.oneCell' =true)
  (k:∀a w,St N K W a w F L2→wpList P ops Q rest a w) (hx:∀q,q<sz→Enc.cell x' q=if q=j then v else Enc.cell (nth s.l i) q:=by intro q hq;rcases q with _|_|_|_|q<;>first|rfl|omega):∀a w,St N K W a w F L→wpList P ops Q (o::rest) a w:=by
 simp only [Prod.mk.injEq] at e
 obtain ⟨e1,e2,e3,e4,e5,e6,e7,e8,e9⟩:=e
 intro a w h
 refine wl_ex (x_ste h hT e1 e2 e5 e7 e4 hi (by simpa [Nat.blt_eq] using e8) e6 (cells_oneL h1) h1 hx (fun w h=>Flat.inner _ _) (fun b hb=>(Flat.on _ _ hb).elim)) (wanted_none e3 _) fun a' w' h' => ?_
 rw [putO_eq e9] at h'
 exact k _ _ h'
theorem gtr {α β:Type}[Enc α][Flat α][Enc β]{s:Ls α}{u:Ls β}{i j:Nat}{gg:Bool}{L2:List Asn}(r:Nat)(x' :α)(hT:tyI P T=some (gg,1,by_,z))(hi:i<s.l.length)(hat:∀w,Sh K W w L→u.At w)(e:(o.op,o.dst,o.guard,L[r]?,ev F x,ev F y,Enc.sz α,Nat.blt j sz,putO L r (.own E ⟨s.v,s.l.set i x'⟩))=(.store T x y,none,none,some (.own E s),some (.pointer (some (padr s.v sz i j))),some u.v,sz,true,some L2))
  (k:∀a w,St N K W a w F L2→wpList P ops Q rest a w) (hx:∀q,q<sz→Enc.cell x' q=if q=j then u.v else Enc.cell (nth s.l i) q:=by intro q hq;rcases q with _|_|_|_|q<;>first|rfl|omega):∀a w,St N K W a w F L→wpList P ops Q (o::rest) a w:=fun a w h=>gte r x' hT hi e (hat w h.sh).one k hx a w h
theorem xCl {f:Nat}{fo:Operand}{xs:List Operand}{tys:Array TypeId}{us vs ws:List Value}{R:Value→World→Prop}(h:St N K W a w F L)(hb:bodyI P f=true)(e:(o.op,o.dst,Nat.blt d N,ev F fo,evs F xs)=(.call ⟨.value fo,xs.toArray,tys⟩,some d,true,some (.func (.func f) us.toArray ws.toArray),some vs))(hc:Rets P f (us++vs++ws) w R):Ex P o a w (fun a' w' =>∃v,R v w' ∧Fr N a' ((d,v)::F)):=by
 simp only [Prod.mk.injEq] at e
 exact x_call h hb e.1 e.2.2.2.1 e.2.2.2.2 e.2.1 e.2.2.1 hc
theorem gP (hx:∀a w,St N K W a w F L→Ex P o a w (fun a' w' =>∃u,(u=v∧Sh0 w w' [])∧Fr N a' ((d,u)::F)))(hg:o.guard=none)(k:∀a w,St N K W a w ((d,v)::F) L→wpList P ops Q rest a w):∀a w,St N K W a w F L→wpList P ops Q (o::rest) a w:=
 fun _ w h=>wl_ex (hx _ w h) (wanted_none hg _) fun a w' ⟨u,⟨hu,hs⟩,hf⟩=>by subst hu;exact k a w' ⟨hf,h.sh.call0 hs⟩
def splO :List Asn→Nat→Option (List Asn×List Asn)
 |l,0=>some ([],l)
 | [],_+1=>none
 |A::r,n+1=>match splO r n with
  |some (p,q)=>some (A::p,q)
  |none=>none
theorem splO_eq :∀ {L:List Asn} {n:Nat} {Lp Lr:List Asn},splO L n=some (Lp,Lr)→L=Lp++Lr
 |l,0,_,_,h=>by unfold splO at h;cases h;rfl
 | [],_+1,_,_,h=>by cases h
 |A::r,n+1,_,_,h=>by
  unfold splO at h
  split at h
  ·next p q hp=>cases h;rw [splO_eq hp];rfl
  ·cases h
def appO :List Asn→List Asn→Option (List Asn)
 | [],M=>some M
 |A::r,M=>match appO r M with
  |some l=>some (A::l)
  |none=>none
theorem appO_eq :∀ {L M L' :List Asn},appO L M=some L' →L++M=L'
 | [],M,_,h=>by unfold appO at h;cases h;rfl
 |A::r,M,_,h=>by
  unfold appO at h
  split at h
  ·next l hl=>cases h;rw [List.cons_append,appO_eq hl]
  ·cases h
theorem pKl {Lp Lr:List Asn}(m:Nat)(h:St N K W a w F L)(eL:splO L m=some (Lp,Lr)):Sh (fun b=>∃A∈Lp,A.fp b) w w Lp:=by
 have:=h.sh
 rw [splO_eq eL] at this
 exact this.passL
theorem gM {Rr:World→Value→World→Prop}{Lp Lr:List Asn}(m:Nat)(eL:splO L m=some (Lp,Lr))(hx:∀a w,St N K W a w F L→Ex P o a w (fun a' w' =>∃v,Rr w v w' ∧Fr N a' ((d,v)::F)))(hg:o.guard=none)
  (k:∀w v w',Rr w v w' →∃L' L2,Sh (fun b=>∃A∈Lp,A.fp b) w w' L' ∧RdIn L' Lp∧appO L' Lr=some L2∧∀a,St N K W a w' ((d,v)::F) L2→wpList P ops Q rest a w'):∀a w,St N K W a w F L→wpList P ops Q (o::rest) a w:=
 fun _ w h=>wl_ex (hx _ w h) (wanted_none hg _) fun a w' ⟨v,hr,hf⟩=>by
  obtain ⟨L',L2,hs,hi,e,k⟩:=k _ _ _ hr
  have h0:=h.sh
  rw [splO_eq eL] at h0
  have:=h0.backI hs
  rw [appO_eq e] at this
  exact k a ⟨hf,this⟩
theorem gBk {Lp Lr L' L2:List Asn}{w w' :World}{X:Act→Prop}{F:List (Nat×Value)}[hi:RdIn L' Lp](hs:Sh (fun b=>∃A∈Lp,A.fp b) w w' L')(e:appO L' Lr=some L2)(k:∀a,St N K W a w' F L2→X a):∃L' L2,Sh (fun b=>∃A∈Lp,A.fp b) w w' L' ∧RdIn L' Lp∧appO L' Lr=some L2∧∀a,St N K W a w' F L2→X a:=⟨_,_,hs,hi,e,k⟩
theorem gC {Rr:World→Value→World→Prop}(hx:∀a w,St N K W a w F L→Ex P o a w (fun a' w' =>∃v,Rr w v w' ∧Fr N a' ((d,v)::F)))(hg:o.guard=none)
  (k:∀w v w',Rr w v w' →∃L' L2,Sh0 w w' L' ∧AllNo L' ∧appO L' L=some L2∧∀a,St N K W a w' ((d,v)::F) L2→wpList P ops Q rest a w'):∀a w,St N K W a w F L→wpList P ops Q (o::rest) a w:=
 fun _ w h=>wl_ex (hx _ w h) (wanted_none hg _) fun a w' ⟨v,hr,hf⟩=>by
  obtain ⟨L',L2,hs,hi,e,k⟩:=k _ _ _ hr
  have:=h.sh.callI hs
  rw [appO_eq e] at this
  exact k a ⟨hf,this⟩
theorem gWk {L' L2 M:List Asn}{w w' :World}{X:Act→Prop}{F:List (Nat×Value)}[hi:AllNo L'](hs:Sh0 w w' L')(e:appO L' M=some L2)(k:∀a,St N K W a w' F L2→X a):∃L' L2,Sh0 w w' L' ∧AllNo L' ∧appO L' M=some L2∧∀a,St N K W a w' F L2→X a:=⟨_,_,hs,hi,e,k⟩
theorem gU {w:World}(k:∀a w,St N K W a w F L→R a w):∀a,St N K W a w F L→R a w:=fun a h=>k a w h
theorem qPg {Z:Act→Prop}{f j t:Nat}{b want:Bool}{oj:Oper}{fo:Operand}{xs:List Operand}{tys:Array TypeId}{us vs ws:List Value}(hg:b=want)(hb:bodyI P f=true)(e:(o.op,o.guard,ops[j]?,oj.dst,lk F t,o.dst,Nat.blt d N,ev F fo,evs F xs)=(.call ⟨.value fo,xs.toArray,tys⟩,some (j,want),some oj,some t,some (.bool b),some d,true,some (.func (.func f) us.toArray ws.toArray),some vs))(hc:∀w,Sh K W w L→Rets P f (us++vs++ws) w (fun v' w' =>v' =v∧Sh0 w w' []))
  (k:∀a,Fr N a ((d,v)::F)→wpQuiet P ops (fun w=>Sh K W w L) Z rest a):∀a,Fr N a F→wpQuiet P ops (fun w=>Sh K W w L) Z (o::rest) a:=by
 simp only [Prod.mk.injEq] at e
 obtain ⟨e1,e2,e3,e4,e5,e6,e7,e8,e9⟩:=e
 exact fun a h=>wq_call h hb e1 e8 e9 (wanted_yes h e2 e3 e4 e5 hg) e6 e7 hc k
theorem qP {Z:Act→Prop}{f:Nat}{fo:Operand}{xs:List Operand}{tys:Array TypeId}{us vs ws:List Value}(hb:bodyI P f=true)(e:(o.op,o.guard,o.dst,Nat.blt d N,ev F fo,evs F xs)=(.call ⟨.value fo,xs.toArray,tys⟩,none,some d,true,some (.func (.func f) us.toArray ws.toArray),some vs))(hc:∀w,Sh K W w L→Rets P f (us++vs++ws) w (fun v' w' =>v' =v∧Sh0 w w' []))
  (k:∀a,Fr N a ((d,v)::F)→wpQuiet P ops (fun w=>Sh K W w L) Z rest a):∀a,Fr N a F→wpQuiet P ops (fun w=>Sh K W w L) Z (o::rest) a:=by
 simp only [Prod.mk.injEq] at e
 exact fun a h=>wq_call h hb e.1 e.2.2.2.2.1 e.2.2.2.2.2 (wanted_none e.2.1 _) e.2.2.1 e.2.2.2.1 hc k
end
theorem aO {α:Type}[Enc α]{E:TypeId}{s:Ls α}(i:Nat)(hi:L[i]? =some (.own E s)):∀w,Sh K W w L→s.At w:=fun w h=>h.own i hi
theorem aA {α:Type}[Enc α]{s:Ls α}(i:Nat)(hi:L[i]? =some (.at_ s)):∀w,Sh K W w L→s.At w:=fun w h=>h.at i hi
theorem aD {α:Type}[Enc α]{E:TypeId}{s:Ls α}(i:Nat)(hi:L[i]? =some (.deep E s)):∀w,Sh K W w L→s.At w:=fun w h=>h.deep i hi
end
end Go.Proofs.Ytmbfcgpneflbmaa
