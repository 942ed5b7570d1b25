/- Part 2 of the texts. -/
import Derived.Test.YtmbfcgpneflbmaaQ1
import Derived.Shelf.SlSortCmp.NoneTotal
import Derived.Laws.RangeString
import Derived.Shelf.SlLaysF0
import Derived.Laws.Bits64b
import Derived.Maps.RangeRun
import Derived.Laws.Externs
import Derived.ArgAppend
namespace Go.Proofs.Ytmbfcgpneflbmaa
open Go.RowKit
set_option linter.unusedSimpArgs false
set_option linter.unusedVariables false
theorem lens9 :(∀ {α:Type} (l m:List α),(l++m).length=l.length+m.length)∧(∀ {α:Type} (a:α) (l:List α),(a::l).length=l.length+1)∧(∀ {α:Type},([]:List α).length=0)∧(∀ {α:Type} (l:List α) (i:Nat) (a:α),(l.set i a).length=l.length)∧(∀ {α:Type} (n:Nat) (a:α),(List.replicate n a).length=n)∧(∀ {α β:Type} (f:α→β) (l:List α),(l.map f).length=l.length)∧(∀n:Nat,(List.range n).length=n):=
 ⟨fun l m=>List.length_append,fun a l=>List.length_cons,List.length_nil,fun l i a=>List.length_set,fun n a=>List.length_replicate,fun f l=>List.length_map f,fun n=>List.length_range⟩
theorem om9 {p:Prop}(h:p:=by first|omega|(simp only [lens9];omega)):p:=h
inductive Runs (P:Program)(ops:Array Oper)(N:Nat)(K:Nat→Prop)(W:World)(L:List Asn):List Oper→List (Nat×Value)→List Oper→List (Nat×Value)→Prop
 |nl {l:List Oper} {F:List (Nat×Value)} :Runs P ops N K W L l F l F
 |cn {o:Oper} {l l' :List Oper} {F F' :List (Nat×Value)} {d:Nat} {v:Value} (hr:Rn P o N K W F L v) (hw:∀a,Fr N a F→Region.wanted o (yielded ops a.tmps)=true) (hd:o.dst=some d) (hN:Nat.blt d N=true) (k:Runs P ops N K W L l ((d,v)::F) l' F'):Runs P ops N K W L (o::l) F l' F'
 |sk {o:Oper} {l l' :List Oper} {F F' :List (Nat×Value)} {d:Nat} (hw:∀a,Fr N a F→Region.wanted o (yielded ops a.tmps)=false) (hd:o.dst=some d) (hN:Nat.blt d N=true) (k:Runs P ops N K W L l ((d,undef)::F) l' F'):Runs P ops N K W L (o::l) F l' F'
section
variable {P:Program}{N:Nat}{K:Nat→Prop}{W w:World}{a:Act}{F F' F2:List (Nat×Value)}{L L' :List Asn}{o:Oper}{ops:Array Oper}{l l' l2 rest:List Oper}{Q:Exit→Act→World→Prop}{c c' :Code}{R:Act→World→Prop}
theorem Runs.go (r:Runs P ops N K W L l F l' F'):∀ {a:Act},St N K W a w F L→(∀a,St N K W a w F' L→wpList P ops Q l' a w)→wpList P ops Q l a w:=by
 induction r with
 |nl=>exact fun h k=>k _ h
 |cn hr hw hd hN _ ih=>exact fun h k=>wl_val h hr (hw _ h.fr) hd hN fun a h=>ih h k
 |sk hw hd hN _ ih=>exact fun h k=>wl_skip h (hw _ h.fr) hd hN fun a h=>ih h k
theorem Runs.goQ {Z:Act→Prop}(r:Runs P ops N K W L l F l' F'):∀ {a:Act},Fr N a F→(∀a,Fr N a F' →wpQuiet P ops (fun w=>Sh K W w L) Z l' a)→wpQuiet P ops (fun w=>Sh K W w L) Z l a:=by
 induction r with
 |nl=>exact fun h k=>k _ h
 |cn hr hw hd hN _ ih=>exact fun h k=>wq_val h hr (hw _ h) hd hN fun a h=>ih h k
 |sk hw hd hN _ ih=>exact fun h k=>wq_skip h (hw _ h) hd hN fun a h=>ih h k
theorem gG (h:St N K W a w F L)(k:∀a w,St N K W a w F L→R a w):R a w:=k a w h
theorem gRn (r:Runs P ops N K W L l F l' F')(k:∀a w,St N K W a w F' L→wpList P ops Q l' a w):∀a w,St N K W a w F L→wpList P ops Q l a w:=fun _ w h=>r.go h fun a h=>k a w h
theorem sG {id:Nat}(r:Runs P l.toArray N K W L l F [] F')(k:∀a w,St N K W a w F' L→c.wp P Q a w):∀a w,St N K W a w F L→(Code.seq (.region id l.toArray false) c).wp P Q a w:=
 fun _ w h=>wp_seq_k fun _ hK=>wp_region_lit (r.go h fun a h=>wpList_nil (hK _ _ (k a w h)))
theorem sK {id:Nat}(k:∀R:Act→World→Prop,(∀a w,c.wp P Q a w→R a w)→∀a w,St N K W a w F L→wpList P l.toArray (Exit.then R Q) l a w):∀a w,St N K W a w F L→(Code.seq (.region id l.toArray false) c).wp P Q a w:=
 fun _ w h=>wp_seq_k fun R hK=>wp_region_lit (k R hK _ w h)
theorem nK {Q0:Exit→Act→World→Prop}(hk:∀a w,c.wp P Q a w→Q0 .normal a w)(k:∀a w,St N K W a w F L→c.wp P Q a w):∀a w,St N K W a w F L→wpList P ops Q0 [] a w:=fun _ w h=>wpList_nil (hk _ _ (k _ w h))
theorem hK {X:Act→World→Prop}(hk:∀a w,c.wp P Q a w→X a w)(k:∀a w,St N K W a w F L→c.wp P Q a w):∀a w,St N K W a w F L→X a w:=fun _ w h=>hk _ _ (k _ w h)
theorem gK (k:∀R:Act→World→Prop,(∀a w,c'.wp P Q a w→R a w)→∀a w,St N K W a w F L→c.wp P (Exit.then R Q) a w):∀a w,St N K W a w F L→(Code.seq c c').wp P Q a w:=
 fun _ w h=>wp_seq_k fun R hK=>k R hK _ w h
theorem gL {id:Nat}(k:∀a w,St N K W a w F L→wpList P l.toArray Q l a w):∀a w,St N K W a w F L→(Code.region id l.toArray false).wp P Q a w:=fun _ w h=>wp_region_lit (k _ w h)
theorem nN (k:∀a w,St N K W a w F L→Q .normal a w):∀a w,St N K W a w F L→wpList P ops Q [] a w:=fun _ w h=>wpList_nil (k _ w h)
theorem gCb {x:Operand}{b:Bool}(hc:ev F x=some (.bool b))(ht:b=true→∀a w,St N K W a w F L→c.wp P Q a w)(hf:b=false→∀a w,St N K W a w F L→c'.wp P Q a w):∀a w,St N K W a w F L→(Code.cond x c c').wp P Q a w:=
 fun _ w h=>x_cond h hc (fun hb=>ht hb _ w h) (fun hb=>hf hb _ w h)
theorem gcd {x:Operand}{p:Prop}[Decidable p](hc:ev F x=some (.bool (decide p)))(ht:decide p=true→p→∀a w,St N K W a w F L→c.wp P Q a w)(hf:decide p=false→¬p→∀a w,St N K W a w F L→c'.wp P Q a w):∀a w,St N K W a w F L→(Code.cond x c c').wp P Q a w:=
 gCb hc (fun hb=>ht hb (of_decide_eq_true hb)) fun hb=>hf hb (of_decide_eq_false hb)
theorem dsp (p:Prop)[Decidable p]:(decide p=true∧p)∨(decide p=false∧¬p):=by
 by_cases h:p
 ·exact .inl ⟨decide_eq_true h,h⟩
 ·exact .inr ⟨decide_eq_false h,h⟩
theorem gcT {x:Operand}{b:Bool}(hc:ev F x=some (.bool b))(hb:b=true)(k:∀a w,St N K W a w F L→c.wp P Q a w):∀a w,St N K W a w F L→(Code.cond x c c').wp P Q a w:=fun _ w h=>x_condT h hc hb (k _ w h)
theorem gcF {x:Operand}{b:Bool}(hc:ev F x=some (.bool b))(hb:b=false)(k:∀a w,St N K W a w F L→c'.wp P Q a w):∀a w,St N K W a w F L→(Code.cond x c c').wp P Q a w:=fun _ w h=>x_condF h hc hb (k _ w h)
theorem gB {id:Nat}(k:∀a w,St N K W a w F L→c.wp P (Exit.inBlock id Q) a w):∀a w,St N K W a w F L→(Code.block id c).wp P Q a w:=fun _ w h=>wp_block (k _ w h)
theorem gS (k:∀a w,St N K W a w F L→Q .normal a w):∀a w,St N K W a w F L→Code.skip.wp P Q a w:=fun _ w h=>wp_skip (k _ w h)
theorem gX {id:Nat}(k:∀a w,St N K W a w F L→Q (.exit id) a w):∀a w,St N K W a w F L→(Code.exit id).wp P Q a w:=fun _ w h=>wp_exit (k _ w h)
theorem gR (k:∀a w,St N K W a w F L→Q .ret a w):∀a w,St N K W a w F L→Code.ret.wp P Q a w:=fun _ w h=>wp_ret (k _ w h)
def argF :List Value→Option (List (Nat×Value))
 | []=>some []
 | [a]=>some [(0,a)]
 | [a,b]=>some [(0,a),(1,b)]
 | [a,b,c]=>some [(0,a),(1,b),(2,c)]
 | [a,b,c,d]=>some [(0,a),(1,b),(2,c),(3,d)]
 | [a,b,c,d,e]=>some [(0,a),(1,b),(2,c),(3,d),(4,e)]
 | [a,b,c,d,e,f]=>some [(0,a),(1,b),(2,c),(3,d),(4,e),(5,f)]
 | [a,b,c,d,e,f,g]=>some [(0,a),(1,b),(2,c),(3,d),(4,e),(5,f),(6,g)]
 | [a,b,c,d,e,f,g,h]=>some [(0,a),(1,b),(2,c),(3,d),(4,e),(5,f),(6,g),(7,h)]
 | [a,b,c,d,e,f,g,h,i]=>some [(0,a),(1,b),(2,c),(3,d),(4,e),(5,f),(6,g),(7,h),(8,i)]
 | [a,b,c,d,e,f,g,h,i,j]=>some [(0,a),(1,b),(2,c),(3,d),(4,e),(5,f),(6,g),(7,h),(8,i),(9,j)]
 |_=>none
theorem argF_eq {vs:List Value}{F:List (Nat×Value)}(h:argF vs=some F):((vs.zipIdx 0).map fun x=>(x.2,x.1))=F:=by
 unfold argF at h
 split at h<;>cases h<;>rfl
theorem gen {f:FuncId}{fn:Func}{vs:List Value}{X:Value→World→Prop}(hf:P.funcs[f]? =some fn)(hN:fn.ntmps=N)(hS:Sh K W W L)(e:(fn.body,argF vs,Nat.ble vs.length N)=(some c,some F,true))(k:∀a,St N K W a W F L→c.wp P (bodyPost P fn fun e w' =>∃v,e= .returned v∧X v w') a W):Rets P f vs W X:=by
 simp only [Prod.mk.injEq] at e
 exact x_enter hf e.1 hN (Nat.le_of_ble_eq_true e.2.2) fun a h=>k a ⟨by rw [argF_eq e.2.1] at h;exact h,hS⟩
theorem uT {X:Act→World→Prop}(k:∀a w,St N K W a w F L→Q .ret a w):∀a w,St N K W a w F L→Exit.then X Q .ret a w:=k
theorem uB {id:Nat}(k:∀a w,St N K W a w F L→Q .ret a w):∀a w,St N K W a w F L→Exit.inBlock id Q .ret a w:=k
theorem gNl {α:Type}[Enc α]{s:Ls α}(hat:∀w,Sh K W w L→s.At w)(k:s.l.length≤140737488355328→∀a w,St N K W a w F L→R a w):∀a w,St N K W a w F L→R a w:=fun a w h=>k (hat w h.sh).len a w h
theorem gE {L2:List Asn}(hx:∀a w,St N K W a w F L→Ex P o a w (fun a' w' =>St N K W a' w' F2 L2))(hg:o.guard=none)(k:∀a w,St N K W a w F2 L2→wpList P ops Q rest a w):∀a w,St N K W a w F L→wpList P ops Q (o::rest) a w:=
 fun _ w h=>wl_ex (hx _ w h) (wanted_none hg _) fun a w h=>k a w h
theorem gE1 {α:Sort 1}{F2:α→List (Nat×Value)}{L2:α→List Asn}(hx:∀a w,St N K W a w F L→Ex P o a w (fun a' w' =>∃b:α,St N K W a' w' (F2 b) (L2 b)))(hg:o.guard=none)(k:∀b a w,St N K W a w (F2 b) (L2 b)→wpList P ops Q rest a w):∀a w,St N K W a w F L→wpList P ops Q (o::rest) a w:=
 fun _ w h=>wl_ex (hx _ w h) (wanted_none hg _) fun a w ⟨b,h⟩=>k b a w h
def pickF (F:List (Nat×Value)):List Nat→Option (List (Nat×Value))
 | []=>some []
 |t::r=>match lk F t with
  |some v=>match pickF F r with
   |some F' =>some ((t,v)::F')
   |none=>none
  |none=>none
theorem pickF_ok :∀ {ts:List Nat} {F' :List (Nat×Value)},pickF F ts=some F' →frOK F F'
 | [],F',e=>by cases e;trivial
 |t::r,F',e=>by
  unfold pickF at e
  split at e
  ·rename_i v hv
   split at e
   ·rename_i F2 hF
    cases e
    exact ⟨hv,pickF_ok hF⟩
   ·cases e
  ·cases e
theorem gF (ts:List Nat)(e:pickF F ts=some F')(k:∀a w,St N K W a w F' L→R a w):∀a w,St N K W a w F L→R a w:=fun a w h=>k a w (h.nf (pickF_ok e))
theorem gO (is:List Nat)(e2:selB L is=some L')(k:∀a w,St N K W a w F L' →R a w):∀a w,St N K W a w F L→R a w:=fun a w h=>k a w (h.sel is e2)
theorem qQ {Y:Act→Prop}(h:Fr N a F)(k:∀a,Fr N a F→Y a):Y a:=k a h
theorem qRn {Z:Act→Prop}(r:Runs P ops N K W L l F l' F')(k:∀a,Fr N a F' →wpQuiet P ops (fun w=>Sh K W w L) Z l' a):∀a,Fr N a F→wpQuiet P ops (fun w=>Sh K W w L) Z l a:=fun _ h=>r.goQ h k
theorem qN {Z:Act→Prop}(z:∀a,(∀w,Sh K W w L→R a w)→Z a)(k:∀a w,St N K W a w F L→R a w):∀a,Fr N a F→wpQuiet P ops (fun w=>Sh K W w L) Z [] a:=fun a h=>wpQuiet_nil (z a fun w hw=>k a w ⟨h,hw⟩)
theorem rQ {id:Nat}(r:Runs P l.toArray N K W L l F [] F')(k:∀a w,St N K W a w F' L→Q .normal a w)(hm:P.follows .mixedOrders=true:=by kernel_rfl)(hB:Region.lexB .any l.toArray=true:=by kernel_rfl):∀a w,St N K W a w F L→(Code.region id l.toArray true).wp P Q a w:=
 fun _ w h=>x_quiet hm hB h fun Z hZ=>r.goQ h.fr fun a hf=>wpQuiet_nil (hZ a fun w hw=>k a w ⟨hf,hw⟩)
theorem rT {id:Nat}(m:Nat)(ps:List Nat)(r:Runs P l.toArray N K W L (opsAt l.toArray ps++opsAt l.toArray (quietIs m ps)) F [] F')
  (k:∀a w,St N K W a w F' L→wpList P l.toArray (fun e a w=>match e with| .normal=>Q .normal a w|_=>False) (l.drop m) a w) (hm:P.follows .mixedOrders=true:=by kernel_rfl) (hB:tailB l m ps=true:=by kernel_rfl):∀a w,St N K W a w F L→(Code.region id l.toArray true).wp P Q a w:=
 fun _ w h=>x_tail m ps hm hB h fun Z hZ=>r.goQ h.fr fun a hf=>wpQuiet_nil (hZ a fun w hw=>k a w ⟨hf,hw⟩)
section
variable {d g k q r j n by_ sz i2:Nat}{T E e:TypeId}{x y:Operand}{v:Value}{z cs vs:List Value}
theorem wn (hg:o.guard=none):∀a,Fr N a F→Region.wanted o (yielded ops a.tmps)=true:=fun _ _=>wanted_none hg _
theorem oV (hr:Rn P o N K W F L v)(e:(o.dst,o.guard,Nat.blt d N)=(some d,none,true))(k:Runs P ops N K W L l ((d,v)::F) l' F'):Runs P ops N K W L (o::l) F l' F' :=by
 simp only [Prod.mk.injEq] at e
 exact .cn hr (wn e.2.1) e.1 e.2.2 k
theorem oG {b want:Bool}{t:Nat}{oj:Oper}(hb:b=want)(hr:Rn P o N K W F L v)(e:(o.dst,o.guard,ops[j]?,oj.dst,lk F t,Nat.blt d N)=(some d,some (j,want),some oj,some t,some (.bool b),true))(k:Runs P ops N K W L l ((d,v)::F) l' F'):Runs P ops N K W L (o::l) F l' F' :=by
 simp only [Prod.mk.injEq] at e
 exact .cn hr (fun a h=>wanted_yes h e.2.1 e.2.2.1 e.2.2.2.1 e.2.2.2.2.1 hb) e.1 e.2.2.2.2.2 k
theorem oK {b want:Bool}{t:Nat}{oj:Oper}(hb:b= !want)(e:(o.dst,o.guard,ops[j]?,oj.dst,lk F t,Nat.blt d N)=(some d,some (j,want),some oj,some t,some (.bool b),true))(k:Runs P ops N K W L l ((d,undef)::F) l' F'):Runs P ops N K W L (o::l) F l' F' :=by
 simp only [Prod.mk.injEq] at e
 exact .sk (fun a h=>wanted_no h e.2.1 e.2.2.1 e.2.2.2.1 e.2.2.2.2.1 hb) e.1 e.2.2.2.2.2 k
theorem oK2 {want:Bool}{t:Nat}{oj:Oper}(e:(o.dst,o.guard,ops[j]?,oj.dst,lk F t,Nat.blt d N)=(some d,some (j,want),some oj,some t,some undef,true))(k:Runs P ops N K W L l ((d,undef)::F) l' F'):Runs P ops N K W L (o::l) F l' F' :=by
 simp only [Prod.mk.injEq] at e
 exact .sk (fun a h=>wanted_no2 h e.2.1 e.2.2.1 e.2.2.2.1 e.2.2.2.2.1) e.1 e.2.2.2.2.2 k
def skF (N j t:Nat)(want:Bool):Nat→List Oper→List (Nat×Value)→Option (List Oper×List (Nat×Value))
 |0,l,F=>some (l,F)
 |n+1,o::l,F=>match o.guard with
  |some (j',w')=>bif Nat.beq j' j&&(w' ==want) then match o.dst with
   |some d=>bif Nat.blt d N&& !(Nat.beq d t) then skF N j t want n l ((d,undef)::F) else none
   |none=>none
   else none
  |none=>none
 |_+1, [],_=>none
theorem oKs (n:Nat){b want:Bool}{j t:Nat}{oj:Oper}(hb:b= !want)(e:(o.guard,ops[j]?,oj.dst,lk F t)=(some (j,want),some oj,some t,some (.bool b)))(hs:skF N j t want n (o::l) F=some (l2,F2))(k:Runs P ops N K W L l2 F2 l' F'):Runs P ops N K W L (o::l) F l' F' :=by
 simp only [Prod.mk.injEq] at e
 obtain ⟨_,e1,e2,e3⟩:=e
 generalize o::l=m at hs⊢
 induction n generalizing m F with
 |zero=>cases hs;exact k
 |succ n ih=>
  cases m with
  |nil=>cases hs
  |cons o m=>
   unfold skF at hs
   split at hs
   ·rename_i j' w' hg
    cases hc:Nat.beq j' j&&(w' ==want) with
    |false=>rw [hc] at hs;cases hs
    |true=>
     rw [hc,cond_true] at hs
     obtain ⟨h1,h2⟩:=Bool.and_eq_true_iff.1 hc
     cases Nat.eq_of_beq_eq_true h1
     obtain rfl:w' =want:=by simpa using h2
     split at hs
     ·rename_i d hd
      cases hc2:Nat.blt d N&& !(Nat.beq d t) with
      |false=>rw [hc2] at hs;cases hs
      |true=>
       rw [hc2,cond_true] at hs
       obtain ⟨h3,h4⟩:=Bool.and_eq_true_iff.1 hc2
       have h5:d≠t:=fun e=>by subst e;simp at h4
       exact .sk (fun a h=>wanted_no h hg e1 e2 e3 hb) hd h3 (ih (by rw [lk_cons,if_neg h5];exact e3) m hs)
     ·cases hs
   ·cases hs
theorem oM (n:Nat)(e:mvN N n l F=some (l2,F2))(k:Runs P ops N K W L l2 F2 l' F'):Runs P ops N K W L l F l' F' :=by
 induction n generalizing l F with
 |zero=>cases e;exact k
 |succ n ih=>
  cases l with
  |nil=>cases e
  |cons o l=>
   unfold mvN at e
   split at e
   ·rename_i d x hg hd ho
    split at e
    ·rename_i v hv
     cases hb:Nat.blt d N with
     |false=>rw [hb] at e;cases e
     |true=>rw [hb] at e;exact .cn (r_move ho hv) (wn hg) hd hb (ih e)
    ·cases e
   ·rename_i d x hg hd ho
    split at e
    ·rename_i v hv
     cases hb:Nat.blt d N with
     |false=>rw [hb] at e;cases e
     |true=>rw [hb] at e;exact .cn (r_assign ho hv) (wn hg) hd hb (ih e)
    ·cases e
   ·cases e
theorem onl {p:Addr}(e:(o.dst,o.op,ev F x,okg o d N)=(some d, .nilCheck x,some (.pointer (some p)),true))(k:Runs P ops N K W L l ((d, .pointer (some p))::F) l' F'):Runs P ops N K W L (o::l) F l' F' :=by
 simp only [Prod.mk.injEq,okg,Bool.and_eq_true,Option.isNone_iff_eq_none] at e
 exact .cn (r_nil e.2.1 e.2.2.1) (wn e.2.2.2.1) e.1 e.2.2.2.2 k
theorem ofB {f:Nat}(hT:flI P T f=some k)(e:(o.dst,o.op,ev F x,okg o d N)=(some d, .fieldAddr T x f,some (.pointer (some ⟨g,0,none⟩)),true))(kk:Runs P ops N K W L l ((d, .pointer (some ⟨g,k,none⟩))::F) l' F'):Runs P ops N K W L (o::l) F l' F' :=by
 simp only [Prod.mk.injEq,okg,Bool.and_eq_true,Option.isNone_iff_eq_none] at e
 exact .cn (r_fieldB hT e.2.1 e.2.2.1 (Nat.zero_add k)) (wn e.2.2.2.1) e.1 e.2.2.2.2 kk
theorem onf {o2:Oper}{f d2:Nat}{p:Addr}{y:Operand}(hT:flI P T f=some k)(e:(o.dst,o.op,ev F x,okg o d N,o2.dst,o2.op,ev ((d, .pointer (some p))::F) y,okg o2 d2 N)=(some d, .nilCheck x,some (.pointer (some p)),true,some d2, .fieldAddr T y f,some (.pointer (some ⟨g,0,none⟩)),true))
  (kk:Runs P ops N K W L l ((d2, .pointer (some ⟨g,k,none⟩))::(d, .pointer (some p))::F) l' F'):Runs P ops N K W L (o::o2::l) F l' F' :=by
 simp only [Prod.mk.injEq] at e
 obtain ⟨e1,e2,e3,e4,e5,e6,e7,e8⟩:=e
 exact onl (by rw [e1,e2,e3,e4]) (ofB hT (by rw [e5,e6,e7,e8]) kk)
theorem olB (i:Nat)(hT:tyI P T=some (false,n,by_,z))(hi:L[i]? =some (.blk g E cs))(e:(o.dst,o.op,ev F x,okg o d N,cs[q]?)=(some d, .load T x,some (.pointer (some ⟨g,q,none⟩)),true,some v))(k:Runs P ops N K W L l ((d,v)::F) l' F'):Runs P ops N K W L (o::l) F l' F' :=by
 simp only [Prod.mk.injEq,okg,Bool.and_eq_true,Option.isNone_iff_eq_none] at e
 exact .cn (r_ldb hT e.2.1 e.2.2.1 hi e.2.2.2.2) (wn e.2.2.2.1.1) e.1 e.2.2.2.1.2 k
theorem olR (i:Nat)(hT:tyI P T=some (false,n,by_,z))(hi:L[i]? =some (.rblk g E cs))(e:(o.dst,o.op,ev F x,okg o d N,cs[q]?)=(some d, .load T x,some (.pointer (some ⟨g,q,none⟩)),true,some v))(k:Runs P ops N K W L l ((d,v)::F) l' F'):Runs P ops N K W L (o::l) F l' F' :=by
 simp only [Prod.mk.injEq,okg,Bool.and_eq_true,Option.isNone_iff_eq_none] at e
 exact .cn (r_ldbR hT e.2.1 e.2.2.1 (fun w h=>h.rblk i hi) e.2.2.2.2) (wn e.2.2.2.1.1) e.1 e.2.2.2.1.2 k
theorem onfl (i:Nat){o2 o3:Oper}{f d2 d3:Nat}{T' :TypeId}{p:Addr}{y u:Operand}(hT:flI P T f=some k)(hT' :tyI P T' =some (false,n,by_,z))(hi:L[i]? =some (.blk g E cs))
  (e:(o.dst,o.op,ev F x,okg o d N,o2.dst,o2.op,ev ((d, .pointer (some p))::F) y,okg o2 d2 N,o3.dst,o3.op,ev ((d2, .pointer (some ⟨g,k,none⟩))::(d, .pointer (some p))::F) u,okg o3 d3 N,cs[k]?)=(some d, .nilCheck x,some (.pointer (some p)),true,some d2, .fieldAddr T y f,some (.pointer (some ⟨g,0,none⟩)),true,some d3, .load T' u,some (.pointer (some ⟨g,k,none⟩)),true,some v))
  (kk:Runs P ops N K W L l ((d3,v)::(d2, .pointer (some ⟨g,k,none⟩))::(d, .pointer (some p))::F) l' F'):Runs P ops N K W L (o::o2::o3::l) F l' F' :=by
 simp only [Prod.mk.injEq] at e
 obtain ⟨e1,e2,e3,e4,e5,e6,e7,e8,e9,f1,f2,f3,f4⟩:=e
 exact onl (by rw [e1,e2,e3,e4]) (ofB hT (by rw [e5,e6,e7,e8]) (olB i hT' hi (by rw [e9,f1,f2,f3,f4]) kk))
def takeO :List Value→Nat→Nat→Option (List Value)
 |_,_,0=>some []
 | [],_,_+1=>none
 |_::r,q+1,n+1=>takeO r q (n+1)
 |v::r,0,n+1=>match takeO r 0 n with
  |some l=>some (v::l)
  |none=>none
theorem takeO_eq :∀ {cs:List Value} {q n:Nat} {vs:List Value},takeO cs q n=some vs→(cs.drop q).take n=vs∧vs.length=n
 |cs,q,0,vs,h=>by unfold takeO at h;cases h;simp
 | [],q,n+1,vs,h=>by cases q<;>cases h
 |_::r,q+1,n+1,vs,h=>by
  unfold takeO at h
  simpa using takeO_eq h
 |v::r,0,n+1,vs,h=>by
  unfold takeO at h
  split at h
  ·next l hl=>
   cases h
   obtain ⟨h1,h2⟩:=takeO_eq hl
   refine ⟨?_,by simp [h2]⟩
   rw [List.drop_zero] at h1⊢
   rw [List.take_succ_cons,h1]
  ·cases h
theorem olw (i:Nat)(hT:tyI P T=some (true,n,by_,z))(hi:L[i]? =some (.blk g E cs))(e:(o.dst,o.op,ev F x,okg o d N,takeO cs q n)=(some d, .load T x,some (.pointer (some ⟨g,q,none⟩)),true,some vs))(k:Runs P ops N K W L l ((d, .agg vs.toArray)::F) l' F'):Runs P ops N K W L (o::l) F l' F' :=by
 simp only [Prod.mk.injEq,okg,Bool.and_eq_true,Option.isNone_iff_eq_none] at e
 exact .cn (r_ldbw hT e.2.1 e.2.2.1 hi (takeO_eq e.2.2.2.2).1 (takeO_eq e.2.2.2.2).2) (wn e.2.2.2.1.1) e.1 e.2.2.2.1.2 k
theorem oxt {i:Nat}{vs:Array Value}(e:(o.dst,o.op,ev F x,okg o d N,vs[i]?)=(some d, .extract x i,some (.tuple vs),true,some v))(k:Runs P ops N K W L l ((d,v)::F) l' F'):Runs P ops N K W L (o::l) F l' F' :=by
 simp only [Prod.mk.injEq,okg,Bool.and_eq_true,Option.isNone_iff_eq_none] at e
 exact .cn (r_extract e.2.1 e.2.2.1 e.2.2.2.2) (wn e.2.2.2.1.1) e.1 e.2.2.2.1.2 k
theorem opT {b:Bool}{c x y:Operand}(hb:b=true)(e:(o.dst,o.op,ev F c,ev F x,okg o d N)=(some d, .pick c x y,some (.bool b),some v,true))(k:Runs P ops N K W L l ((d,v)::F) l' F'):Runs P ops N K W L (o::l) F l' F' :=by
 simp only [Prod.mk.injEq,okg,Bool.and_eq_true,Option.isNone_iff_eq_none] at e
 exact .cn (r_pickT e.2.1 e.2.2.1 hb e.2.2.2.1) (wn e.2.2.2.2.1) e.1 e.2.2.2.2.2 k
theorem opF {b:Bool}{c x y:Operand}(hb:b=false)(e:(o.dst,o.op,ev F c,ev F y,okg o d N)=(some d, .pick c x y,some (.bool b),some v,true))(k:Runs P ops N K W L l ((d,v)::F) l' F'):Runs P ops N K W L (o::l) F l' F' :=by
 simp only [Prod.mk.injEq,okg,Bool.and_eq_true,Option.isNone_iff_eq_none] at e
 exact .cn (r_pickF e.2.1 e.2.2.1 hb e.2.2.2.1) (wn e.2.2.2.2.1) e.1 e.2.2.2.2.2 k
theorem ont {b:Bool}(e:(o.dst,o.op,ev F x,okg o d N)=(some d, .unOp .not T x,some (.bool b),true))(k:Runs P ops N K W L l ((d, .bool (!b))::F) l' F'):Runs P ops N K W L (o::l) F l' F' :=by
 simp only [Prod.mk.injEq,okg,Bool.and_eq_true,Option.isNone_iff_eq_none] at e
 exact .cn (r_not e.2.1 e.2.2.1) (wn e.2.2.2.1) e.1 e.2.2.2.2 k
section
variable {α:Type}[Enc α]{s:Ls α}{gb:Bool}
theorem oxN {kd:IntKind}(hT:slI P T=some e)(he:tyI P e=some (gb,n,by_,z))(hat:∀w,Sh K W w L→s.At w)(q:Nat)(hb:q<s.l.length)(e' :(o.dst,o.op,ev F x,ev F y,okg o d N)=(some d, .indexAddr T x y,some s.v,some (.int kd (q:Int)),true))
  (k:Runs P ops N K W L l ((d, .pointer (some (padr s.v n q 0)))::F) l' F'):Runs P ops N K W L (o::l) F l' F' :=by
 simp only [Prod.mk.injEq,okg,Bool.and_eq_true,Option.isNone_iff_eq_none] at e'
 exact .cn (r_ixN hT he e'.2.1 e'.2.2.1 e'.2.2.2.1 hat hb) (wn e'.2.2.2.2.1) e'.1 e'.2.2.2.2.2 k
theorem oxI {kd:IntKind}{q:Int}(hT:slI P T=some e)(he:tyI P e=some (gb,n,by_,z))(hat:∀w,Sh K W w L→s.At w)(hb:0≤q∧q<s.l.length)(e' :(o.dst,o.op,ev F x,ev F y,okg o d N)=(some d, .indexAddr T x y,some s.v,some (.int kd q),true))
  (k:Runs P ops N K W L l ((d, .pointer (some (padr s.v n q.toNat 0)))::F) l' F'):Runs P ops N K W L (o::l) F l' F' :=by
 simp only [Prod.mk.injEq,okg,Bool.and_eq_true,Option.isNone_iff_eq_none] at e'
 exact .cn (r_ixI hT he e'.2.1 e'.2.2.1 e'.2.2.2.1 hat hb) (wn e'.2.2.2.2.1) e'.1 e'.2.2.2.2.2 k
theorem ofE {f i:Nat}(hT:flI P T f=some k)(e:(o.dst,o.op,ev F x,okg o d N)=(some d, .fieldAddr T x f,some (.pointer (some (padr v sz i 0))),true))(kk:Runs P ops N K W L l ((d, .pointer (some (padr v sz i k)))::F) l' F'):Runs P ops N K W L (o::l) F l' F' :=by
 simp only [Prod.mk.injEq,okg,Bool.and_eq_true,Option.isNone_iff_eq_none] at e
 exact .cn (r_fieldE hT e.2.1 e.2.2.1 (Nat.zero_add k)) (wn e.2.2.2.1) e.1 e.2.2.2.2 kk
theorem olE {i:Nat}(v:Value)(hT:tyI P T=some (false,n,by_,z))(hat:∀w,Sh K W w L→s.At w)(hi:i<s.l.length)(e:(o.dst,o.op,ev F x,okg o d N,Enc.sz α,Nat.blt j sz,Enc.cell (nth s.l i) j)=(some d, .load T x,some (.pointer (some (padr s.v sz i j))),true,sz,true,v))(k:Runs P ops N K W L l ((d,v)::F) l' F'):Runs P ops N K W L (o::l) F l' F' :=by
 simp only [Prod.mk.injEq,okg,Bool.and_eq_true,Option.isNone_iff_eq_none] at e
 exact .cn (r_lde hT e.2.1 e.2.2.1 e.2.2.2.2.1 hat hi (by simpa [Nat.blt_eq] using e.2.2.2.2.2.1) e.2.2.2.2.2.2) (wn e.2.2.2.1.1) e.1 e.2.2.2.1.2 k
theorem olI {i:Nat}{kd:IntKind}{u:Int}(hT:tyI P T=some (false,n,by_,z))(hat:∀w,Sh K W w L→s.At w)(hi:i<s.l.length)(e:(o.dst,o.op,ev F x,okg o d N,Enc.sz α,Nat.blt j sz,Enc.cell (nth s.l i) j)=(some d, .load T x,some (.pointer (some (padr s.v sz i j))),true,sz,true, .int kd u))(k:Runs P ops N K W L l ((d, .int kd u)::F) l' F'):Runs P ops N K W L (o::l) F l' F' :=olE (.int kd u) hT hat hi e k
theorem olw2 {i:Nat}(vs:List Value)(hT:tyI P T=some (true,n,by_,z))(hat:∀w,Sh K W w L→s.At w)(hi:i<s.l.length)(e:(o.dst,o.op,ev F x,okg o d N,Enc.sz α,Nat.ble (j+n) sz,(List.range n).map (fun q=>Enc.cell (nth s.l i) (j+q)))=(some d, .load T x,some (.pointer (some (padr s.v sz i j))),true,sz,true,vs))(k:Runs P ops N K W L l ((d, .agg vs.toArray)::F) l' F'):Runs P ops N K W L (o::l) F l' F' :=by
 simp only [Prod.mk.injEq,okg,Bool.and_eq_true,Option.isNone_iff_eq_none] at e
 exact .cn (r_ldew hT e.2.1 e.2.2.1 e.2.2.2.2.1 hat hi (Nat.le_of_ble_eq_true e.2.2.2.2.2.1) e.2.2.2.2.2.2) (wn e.2.2.2.1.1) e.1 e.2.2.2.1.2 k
theorem oln {n:Nat}(hT:slI P T=some e)(hat:∀w,Sh K W w L→s.At w)(e' :(o.dst,o.op,ev F x,okg o d N,s.l.length)=(some d, .call ⟨.builtin .len, #[x], #[T]⟩,some s.v,true,n))(k:Runs P ops N K W L l ((d, .int .i64 (n:Int))::F) l' F'):Runs P ops N K W L (o::l) F l' F' :=by
 simp only [Prod.mk.injEq,okg,Bool.and_eq_true,Option.isNone_iff_eq_none] at e'
 exact .cn (r_len hT e'.2.1 e'.2.2.1 hat e'.2.2.2.2) (wn e'.2.2.2.1.1) e'.1 e'.2.2.2.1.2 k
end
section
variable {U:TypeId}{kd:IntKind}
theorem oltN (p q:Nat)(e:(o.dst,o.op,ev F x,ev F y,okg o d N)=(some d, .binOp .lss T x y U,some (.int kd (p:Int)),some (.int kd (q:Int)),true))(k:Runs P ops N K W L l ((d, .bool (decide (p<q)))::F) l' F'):Runs P ops N K W L (o::l) F l' F' :=by
 simp only [Prod.mk.injEq,okg,Bool.and_eq_true,Option.isNone_iff_eq_none] at e
 exact .cn (r_lssN e.2.1 e.2.2.1 e.2.2.2.1) (wn e.2.2.2.2.1) e.1 e.2.2.2.2.2 k
theorem oltI (p q:Int)(e:(o.dst,o.op,ev F x,ev F y,okg o d N)=(some d, .binOp .lss T x y U,some (.int kd p),some (.int kd q),true))(k:Runs P ops N K W L l ((d, .bool (decide (p<q)))::F) l' F'):Runs P ops N K W L (o::l) F l' F' :=by
 simp only [Prod.mk.injEq,okg,Bool.and_eq_true,Option.isNone_iff_eq_none] at e
 exact .cn (r_lssI e.2.1 e.2.2.1 e.2.2.2.1) (wn e.2.2.2.2.1) e.1 e.2.2.2.2.2 k
theorem ogtN (p q:Nat)(e:(o.dst,o.op,ev F x,ev F y,okg o d N)=(some d, .binOp .gtr T x y U,some (.int kd (p:Int)),some (.int kd (q:Int)),true))(k:Runs P ops N K W L l ((d, .bool (decide (q<p)))::F) l' F'):Runs P ops N K W L (o::l) F l' F' :=by
 simp only [Prod.mk.injEq,okg,Bool.and_eq_true,Option.isNone_iff_eq_none] at e
 exact .cn (r_gtrN e.2.1 e.2.2.1 e.2.2.2.1) (wn e.2.2.2.2.1) e.1 e.2.2.2.2.2 k
theorem ogtI (p q:Int)(e:(o.dst,o.op,ev F x,ev F y,okg o d N)=(some d, .binOp .gtr T x y U,some (.int kd p),some (.int kd q),true))(k:Runs P ops N K W L l ((d, .bool (decide (q<p)))::F) l' F'):Runs P ops N K W L (o::l) F l' F' :=by
 simp only [Prod.mk.injEq,okg,Bool.and_eq_true,Option.isNone_iff_eq_none] at e
 exact .cn (r_gtrI e.2.1 e.2.2.1 e.2.2.2.1) (wn e.2.2.2.2.1) e.1 e.2.2.2.2.2 k
theorem ogeI (p q:Int)(e:(o.dst,o.op,ev F x,ev F y,okg o d N)=(some d, .binOp .geq T x y U,some (.int kd p),some (.int kd q),true))(k:Runs P ops N K W L l ((d, .bool (decide (q≤p)))::F) l' F'):Runs P ops N K W L (o::l) F l' F' :=by
 simp only [Prod.mk.injEq,okg,Bool.and_eq_true,Option.isNone_iff_eq_none] at e
 exact .cn (r_geqI e.2.1 e.2.2.1 e.2.2.2.1) (wn e.2.2.2.2.1) e.1 e.2.2.2.2.2 k
theorem oeqN (p q:Nat)(e:(o.dst,o.op,ev F x,ev F y,okg o d N)=(some d, .binOp .eql T x y U,some (.int kd (p:Int)),some (.int kd (q:Int)),true))(k:Runs P ops N K W L l ((d, .bool (decide (p=q)))::F) l' F'):Runs P ops N K W L (o::l) F l' F' :=by
 simp only [Prod.mk.injEq,okg,Bool.and_eq_true,Option.isNone_iff_eq_none] at e
 exact .cn (r_eqlN e.2.1 e.2.2.1 e.2.2.2.1) (wn e.2.2.2.2.1) e.1 e.2.2.2.2.2 k
theorem oeqI (p q:Int)(e:(o.dst,o.op,ev F x,ev F y,okg o d N)=(some d, .binOp .eql T x y U,some (.int kd p),some (.int kd q),true))(k:Runs P ops N K W L l ((d, .bool (decide (p=q)))::F) l' F'):Runs P ops N K W L (o::l) F l' F' :=by
 simp only [Prod.mk.injEq,okg,Bool.and_eq_true,Option.isNone_iff_eq_none] at e
 exact .cn (r_eqlI e.2.1 e.2.2.1 e.2.2.2.1) (wn e.2.2.2.2.1) e.1 e.2.2.2.2.2 k
theorem oneN (p q:Nat)(e:(o.dst,o.op,ev F x,ev F y,okg o d N)=(some d, .binOp .neq T x y U,some (.int kd (p:Int)),some (.int kd (q:Int)),true))(k:Runs P ops N K W L l ((d, .bool (decide (p≠q)))::F) l' F'):Runs P ops N K W L (o::l) F l' F' :=by
 simp only [Prod.mk.injEq,okg,Bool.and_eq_true,Option.isNone_iff_eq_none] at e
 exact .cn (r_neqN e.2.1 e.2.2.1 e.2.2.2.1) (wn e.2.2.2.2.1) e.1 e.2.2.2.2.2 k
theorem oneI (p q:Int)(e:(o.dst,o.op,ev F x,ev F y,okg o d N)=(some d, .binOp .neq T x y U,some (.int kd p),some (.int kd q),true))(k:Runs P ops N K W L l ((d, .bool (decide (p≠q)))::F) l' F'):Runs P ops N K W L (o::l) F l' F' :=by
 simp only [Prod.mk.injEq,okg,Bool.and_eq_true,Option.isNone_iff_eq_none] at e
 exact .cn (r_neqI e.2.1 e.2.2.1 e.2.2.2.1) (wn e.2.2.2.2.1) e.1 e.2.2.2.2.2 k
theorem oadN (p q:Nat)(hb:p+q<9223372036854775808)(e:(o.dst,o.op,ev F x,ev F y,okg o d N)=(some d, .binOp .add T x y U,some (.int .i64 (p:Int)),some (.int .i64 (q:Int)),true))(k:Runs P ops N K W L l ((d, .int .i64 ((p+q:Nat):Int))::F) l' F'):Runs P ops N K W L (o::l) F l' F' :=by
 simp only [Prod.mk.injEq,okg,Bool.and_eq_true,Option.isNone_iff_eq_none] at e
 exact .cn (r_addN e.2.1 e.2.2.1 e.2.2.2.1 hb) (wn e.2.2.2.2.1) e.1 e.2.2.2.2.2 k
theorem oadI (p q:Int)(hb: -9223372036854775808≤p+q∧p+q<9223372036854775808)(e:(o.dst,o.op,ev F x,ev F y,okg o d N)=(some d, .binOp .add T x y U,some (.int .i64 p),some (.int .i64 q),true))(k:Runs P ops N K W L l ((d, .int .i64 (p+q))::F) l' F'):Runs P ops N K W L (o::l) F l' F' :=by
 simp only [Prod.mk.injEq,okg,Bool.and_eq_true,Option.isNone_iff_eq_none] at e
 exact .cn (r_addI e.2.1 e.2.2.1 e.2.2.2.1 hb) (wn e.2.2.2.2.1) e.1 e.2.2.2.2.2 k
theorem osbN (p q:Nat)(hb:q≤p∧p<9223372036854775808)(e:(o.dst,o.op,ev F x,ev F y,okg o d N)=(some d, .binOp .sub T x y U,some (.int .i64 (p:Int)),some (.int .i64 (q:Int)),true))(k:Runs P ops N K W L l ((d, .int .i64 ((p-q:Nat):Int))::F) l' F'):Runs P ops N K W L (o::l) F l' F' :=by
 simp only [Prod.mk.injEq,okg,Bool.and_eq_true,Option.isNone_iff_eq_none] at e
 exact .cn (r_subN e.2.1 e.2.2.1 e.2.2.2.1 hb) (wn e.2.2.2.2.1) e.1 e.2.2.2.2.2 k
theorem osbI (p q:Int)(hb: -9223372036854775808≤p-q∧p-q<9223372036854775808)(e:(o.dst,o.op,ev F x,ev F y,okg o d N)=(some d, .binOp .sub T x y U,some (.int .i64 p),some (.int .i64 q),true))(k:Runs P ops N K W L l ((d, .int .i64 (p-q))::F) l' F'):Runs P ops N K W L (o::l) F l' F' :=by
 simp only [Prod.mk.injEq,okg,Bool.and_eq_true,Option.isNone_iff_eq_none] at e
 exact .cn (r_subI e.2.1 e.2.2.1 e.2.2.2.1 hb) (wn e.2.2.2.2.1) e.1 e.2.2.2.2.2 k
theorem omlN (p q:Nat)(hb:p*q<9223372036854775808)(e:(o.dst,o.op,ev F x,ev F y,okg o d N)=(some d, .binOp .mul T x y U,some (.int .i64 (p:Int)),some (.int .i64 (q:Int)),true))(k:Runs P ops N K W L l ((d, .int .i64 ((p*q:Nat):Int))::F) l' F'):Runs P ops N K W L (o::l) F l' F' :=by
 simp only [Prod.mk.injEq,okg,Bool.and_eq_true,Option.isNone_iff_eq_none] at e
 exact .cn (r_mulN e.2.1 e.2.2.1 e.2.2.2.1 hb) (wn e.2.2.2.2.1) e.1 e.2.2.2.2.2 k
theorem oquN (p q:Nat)(hb:0<q∧p<9223372036854775808)(e:(o.dst,o.op,ev F x,ev F y,okg o d N)=(some d, .binOp .quo T x y U,some (.int .i64 (p:Int)),some (.int .i64 (q:Int)),true))(k:Runs P ops N K W L l ((d, .int .i64 ((p/q:Nat):Int))::F) l' F'):Runs P ops N K W L (o::l) F l' F' :=by
 simp only [Prod.mk.injEq,okg,Bool.and_eq_true,Option.isNone_iff_eq_none] at e
 exact .cn (r_quoN e.2.1 e.2.2.1 e.2.2.2.1 hb) (wn e.2.2.2.2.1) e.1 e.2.2.2.2.2 k
theorem ormN (p q:Nat)(hb:0<q∧p<9223372036854775808)(e:(o.dst,o.op,ev F x,ev F y,okg o d N)=(some d, .binOp .rem T x y U,some (.int .i64 (p:Int)),some (.int .i64 (q:Int)),true))(k:Runs P ops N K W L l ((d, .int .i64 ((p%q:Nat):Int))::F) l' F'):Runs P ops N K W L (o::l) F l' F' :=by
 simp only [Prod.mk.injEq,okg,Bool.and_eq_true,Option.isNone_iff_eq_none] at e
 exact .cn (r_remN e.2.1 e.2.2.1 e.2.2.2.1 hb) (wn e.2.2.2.2.1) e.1 e.2.2.2.2.2 k
end
theorem r_buildS {parts:List (Nat×Operand)}{pv:List (Nat×Value)}{cs:List Value}(ho:o.op= .build T parts.toArray)(hx:evp F parts=some pv)(hb:∀w,Sh K W w L→P.built T pv=some cs.toArray):Rn P o N K W F L (.agg cs.toArray):=fun a w h=>r_build ho hx (hb w h.sh) a w h
def setO :List Value→Nat→Value→Option (List Value)
 | [],_,_=>none
 |_::r,0,v=>some (v::r)
 |u::r,q+1,v=>match setO r q v with
  |some l=>some (u::l)
  |none=>none
theorem setO_eq :∀ {cs:List Value} {q:Nat} {v:Value} {cs' :List Value},setO cs q v=some cs' →q+1≤cs.length∧splice cs q [v]=cs'
 | [],_,_,_,h=>by cases h
 |u::r,0,v,_,h=>by cases h;exact ⟨by simp,by simp [splice]⟩
 |u::r,q+1,v,cs',h=>by
  unfold setO at h
  split at h
  ·next l hl=>
   cases h
   obtain ⟨h1,h2⟩:=setO_eq hl
   refine ⟨by simpa using h1, ?_⟩
   rw [←h2]
   simp [splice,Nat.add_right_comm q 1 1]
  ·cases h
def putO :List Asn→Nat→Asn→Option (List Asn)
 | [],_,_=>none
 |_::r,0,v=>some (v::r)
 |u::r,q+1,v=>match putO r q v with
  |some l=>some (u::l)
  |none=>none
theorem putO_eq :∀ {L:List Asn} {q:Nat} {A:Asn} {L' :List Asn},putO L q A=some L' →L.set q A=L'
 | [],_,_,_,h=>by cases h
 |u::r,0,v,_,h=>by cases h;rfl
 |u::r,q+1,v,cs',h=>by
  unfold putO at h
  split at h
  ·next l hl=>cases h;rw [List.set_cons_succ,putO_eq hl]
  ·cases h
theorem gst (i:Nat){gg:Bool}{cs' :List Value}{L2:List Asn}(hT:tyI P T=some (gg,1,by_,z))(hi:L[i]? =some (.blk g E cs))(e:(o.op,o.dst,o.guard,ev F x,ev F y,setO cs q v,putO L i (.blk g E cs'))=(.store T x y,none,none,some (.pointer (some ⟨g,q,none⟩)),some v,some cs',some L2))(h1:v.oneCell' =true)
  (k:∀a w,St N K W a w F L2→wpList P ops Q rest a w):∀a w,St N K W a w F L→wpList P ops Q (o::rest) a w:=by
 simp only [Prod.mk.injEq] at e
 obtain ⟨e1,e2,e3,e4,e5,e6,e7⟩:=e
 intro a w h
 obtain ⟨h3,h4⟩:=setO_eq e6
 refine wl_ex (x_stb (vs:= [v]) h hT e1 e2 e4 e5 hi (cells_oneL h1) rfl (allOne_cons h1 allOne_nil) h3 h4) (wanted_none e3 _) fun a' w' h' => ?_
 rw [putO_eq e7] at h'
 exact k _ _ h'
theorem gal {gg:Bool}(hT:tyI P T=some (gg,n,by_,z))(e:(o.op,o.dst,o.guard,Nat.blt d N)=(.alloc T,some d,none,true))(k:∀(b:Nat) (a:Act) (w:World),St N K W a w ((d, .pointer (some ⟨b,0,none⟩))::F) (.blk b T z::L)→wpList P ops Q rest a w):∀a w,St N K W a w F L→wpList P ops Q (o::rest) a w:=by
 simp only [Prod.mk.injEq] at e
 intro a w h
 exact wl_ex (x_alloc h hT e.1 e.2.1 e.2.2.2) (wanted_none e.2.2.1 _) fun a w ⟨b,h⟩=>k b a w h
theorem gsr {α:Type}[Enc α]{s:Ls α}(i:Nat){gg:Bool}{cs' :List Value}{L2:List Asn}(hT:tyI P T=some (gg,1,by_,z))(hi:L[i]? =some (.blk g E cs))(hat:∀w,Sh K W w L→s.At w)(e:(o.op,o.dst,o.guard,ev F x,ev F y,setO cs q s.v,putO L i (.blk g E cs'))=(.store T x y,none,none,some (.pointer (some ⟨g,q,none⟩)),some s.v,some cs',some L2))
  (k:∀a w,St N K W a w F L2→wpList P ops Q rest a w):∀a w,St N K W a w F L→wpList P ops Q (o::rest) a w:=fun a w h=>gst i hT hi e (hat w h.sh).one k a w h
def forceL :List Value→Option (List Value)
 | []=>some []
 |v::r=>match forceL r with
  |some l=>some (v::l)
  |none=>none
theorem forceL_eq :∀ {l l' :List Value},forceL l=some l' →l=l'
 | [],_,h=>by cases h;rfl
 |v::r,_,h=>by
  unfold forceL at h
  split at h
  ·next l hl=>cases h;rw [forceL_eq hl]
  ·cases h
theorem gsw (i:Nat){gg:Bool}{cs' :List Value}{L2:List Asn}(hT:tyI P T=some (gg,n,by_,z))(hi:L[i]? =some (.blk g E cs))(e:(o.op,o.dst,o.guard,ev F x,ev F y,Nat.beq vs.length n,Nat.ble (q+n) cs.length,forceL (splice cs q vs),putO L i (.blk g E cs'))=(.store T x y,none,none,some (.pointer (some ⟨g,q,none⟩)),some (.agg vs.toArray),true,true,some cs',some L2))(h1:vs.all (·.oneCell')=true)
  (k:∀a w,St N K W a w F L2→wpList P ops Q rest a w):∀a w,St N K W a w F L→wpList P ops Q (o::rest) a w:=by
 simp only [Prod.mk.injEq] at e
 obtain ⟨e1,e2,e3,e4,e5,e6,e7,e8,e9⟩:=e
 intro a w h
 refine wl_ex (x_stb (vs:=vs) h hT e1 e2 e4 e5 hi (by simp [Value.cells]) (Nat.eq_of_beq_eq_true e6) h1 (Nat.le_of_ble_eq_true e7) (forceL_eq e8)) (wanted_none e3 _) fun a' w' h' => ?_
 rw [putO_eq e9] at h'
 exact k _ _ h'
theorem gbx (e:(o.op,o.dst,o.guard,ev F x,Nat.blt d N)=(.box T x,some d,none,some v,true))(hv:v.cells=cs.toArray)(k:∀(b:Nat) (a:Act) (w:World),St N K W a w ((d, .pointer (some ⟨b,0,none⟩))::F) (.blk b T cs::L)→wpList P ops Q rest a w):∀a w,St N K W a w F L→wpList P ops Q (o::rest) a w:=by
 simp only [Prod.mk.injEq] at e
 intro a w h
 exact wl_ex (x_box h e.1 e.2.2.2.1 hv e.2.1 e.2.2.2.2) (wanted_none e.2.2.1 _) fun a w ⟨b,h⟩=>k b a w h
theorem gte {α:Type}[Enc α][Flat α]{s:Ls α}{i j:Nat}{gg:Bool}{L2:List Asn}(r:Nat)(x' :α)(hT:tyI P T=some (gg,1,by_,z))(hi:i<s.l.length)(e:(o.op,o.dst,o.guard,L[r]?,ev F x,ev F y,Enc.sz α,Nat.blt j sz,putO L r (.own E ⟨s.v,s.l.set i x'⟩))=(.store T x y,none,none,some (.own E s),some (.pointer (some (padr s.v sz i j))),some v,sz,true,some L2))(h1:v.oneCell' =true)
  (k:∀a w,St N K W a w F L2→wpList P ops Q rest a w) (hx:∀q,q<sz→Enc.cell x' q=if q=j then v else Enc.cell (nth s.l i) q:=by intro q hq;rcases q with _|_|_|_|q<;>first|rfl|omega):∀a w,St N K W a w F L→wpList P ops Q (o::rest) a w:=by
 simp only [Prod.mk.injEq] at e
 obtain ⟨e1,e2,e3,e4,e5,e6,e7,e8,e9⟩:=e
 intro a w h
 refine wl_ex (x_ste h hT e1 e2 e5 e7 e4 hi (by simpa [Nat.blt_eq] using e8) e6 (cells_oneL h1) h1 hx (fun w h=>Flat.inner _ _) (fun b hb=>(Flat.on _ _ hb).elim)) (wanted_none e3 _) fun a' w' h' => ?_
 rw [putO_eq e9] at h'
 exact k _ _ h'
theorem gtr {α β:Type}[Enc α][Flat α][Enc β]{s:Ls α}{u:Ls β}{i j:Nat}{gg:Bool}{L2:List Asn}(r:Nat)(x' :α)(hT:tyI P T=some (gg,1,by_,z))(hi:i<s.l.length)(hat:∀w,Sh K W w L→u.At w)(e:(o.op,o.dst,o.guard,L[r]?,ev F x,ev F y,Enc.sz α,Nat.blt j sz,putO L r (.own E ⟨s.v,s.l.set i x'⟩))=(.store T x y,none,none,some (.own E s),some (.pointer (some (padr s.v sz i j))),some u.v,sz,true,some L2))
  (k:∀a w,St N K W a w F L2→wpList P ops Q rest a w) (hx:∀q,q<sz→Enc.cell x' q=if q=j then u.v else Enc.cell (nth s.l i) q:=by intro q hq;rcases q with _|_|_|_|q<;>first|rfl|omega):∀a w,St N K W a w F L→wpList P ops Q (o::rest) a w:=fun a w h=>gte r x' hT hi e (hat w h.sh).one k hx a w h
theorem xCl {f:Nat}{fo:Operand}{xs:List Operand}{tys:Array TypeId}{us vs ws:List Value}{R:Value→World→Prop}(h:St N K W a w F L)(hb:bodyI P f=true)(e:(o.op,o.dst,Nat.blt d N,ev F fo,evs F xs)=(.call ⟨.value fo,xs.toArray,tys⟩,some d,true,some (.func (.func f) us.toArray ws.toArray),some vs))(hc:Rets P f (us++vs++ws) w R):Ex P o a w (fun a' w' =>∃v,R v w' ∧Fr N a' ((d,v)::F)):=by
 simp only [Prod.mk.injEq] at e
 exact x_call h hb e.1 e.2.2.2.1 e.2.2.2.2 e.2.1 e.2.2.1 hc
theorem gP (hx:∀a w,St N K W a w F L→Ex P o a w (fun a' w' =>∃u,(u=v∧Sh0 w w' [])∧Fr N a' ((d,u)::F)))(hg:o.guard=none)(k:∀a w,St N K W a w ((d,v)::F) L→wpList P ops Q rest a w):∀a w,St N K W a w F L→wpList P ops Q (o::rest) a w:=
 fun _ w h=>wl_ex (hx _ w h) (wanted_none hg _) fun a w' ⟨u,⟨hu,hs⟩,hf⟩=>by subst hu;exact k a w' ⟨hf,h.sh.call0 hs⟩
def splO :List Asn→Nat→Option (List Asn×List Asn)
 |l,0=>some ([],l)
 | [],_+1=>none
 |A::r,n+1=>match splO r n with
  |some (p,q)=>some (A::p,q)
  |none=>none
theorem splO_eq :∀ {L:List Asn} {n:Nat} {Lp Lr:List Asn},splO L n=some (Lp,Lr)→L=Lp++Lr
 |l,0,_,_,h=>by unfold splO at h;cases h;rfl
 | [],_+1,_,_,h=>by cases h
 |A::r,n+1,_,_,h=>by
  unfold splO at h
  split at h
  ·next p q hp=>cases h;rw [splO_eq hp];rfl
  ·cases h
def appO :List Asn→List Asn→Option (List Asn)
 | [],M=>some M
 |A::r,M=>match appO r M with
  |some l=>some (A::l)
  |none=>none
theorem appO_eq :∀ {L M L' :List Asn},appO L M=some L' →L++M=L'
 | [],M,_,h=>by unfold appO at h;cases h;rfl
 |A::r,M,_,h=>by
  unfold appO at h
  split at h
  ·next l hl=>cases h;rw [List.cons_append,appO_eq hl]
  ·cases h
theorem pKl {Lp Lr:List Asn}(m:Nat)(h:St N K W a w F L)(eL:splO L m=some (Lp,Lr)):Sh (fun b=>∃A∈Lp,A.fp b) w w Lp:=by
 have:=h.sh
 rw [splO_eq eL] at this
 exact this.passL
theorem gM {Rr:World→Value→World→Prop}{Lp Lr:List Asn}(m:Nat)(eL:splO L m=some (Lp,Lr))(hx:∀a w,St N K W a w F L→Ex P o a w (fun a' w' =>∃v,Rr w v w' ∧Fr N a' ((d,v)::F)))(hg:o.guard=none)
  (k:∀w v w',Rr w v w' →∃L' L2,Sh (fun b=>∃A∈Lp,A.fp b) w w' L' ∧RdIn L' Lp∧appO L' Lr=some L2∧∀a,St N K W a w' ((d,v)::F) L2→wpList P ops Q rest a w'):∀a w,St N K W a w F L→wpList P ops Q (o::rest) a w:=
 fun _ w h=>wl_ex (hx _ w h) (wanted_none hg _) fun a w' ⟨v,hr,hf⟩=>by
  obtain ⟨L',L2,hs,hi,e,k⟩:=k _ _ _ hr
  have h0:=h.sh
  rw [splO_eq eL] at h0
  have:=h0.backI hs
  rw [appO_eq e] at this
  exact k a ⟨hf,this⟩
theorem gBk {Lp Lr L' L2:List Asn}{w w' :World}{X:Act→Prop}{F:List (Nat×Value)}[hi:RdIn L' Lp](hs:Sh (fun b=>∃A∈Lp,A.fp b) w w' L')(e:appO L' Lr=some L2)(k:∀a,St N K W a w' F L2→X a):∃L' L2,Sh (fun b=>∃A∈Lp,A.fp b) w w' L' ∧RdIn L' Lp∧appO L' Lr=some L2∧∀a,St N K W a w' F L2→X a:=⟨_,_,hs,hi,e,k⟩
theorem gC {Rr:World→Value→World→Prop}(hx:∀a w,St N K W a w F L→Ex P o a w (fun a' w' =>∃v,Rr w v w' ∧Fr N a' ((d,v)::F)))(hg:o.guard=none)
  (k:∀w v w',Rr w v w' →∃L' L2,Sh0 w w' L' ∧AllNo L' ∧appO L' L=some L2∧∀a,St N K W a w' ((d,v)::F) L2→wpList P ops Q rest a w'):∀a w,St N K W a w F L→wpList P ops Q (o::rest) a w:=
 fun _ w h=>wl_ex (hx _ w h) (wanted_none hg _) fun a w' ⟨v,hr,hf⟩=>by
  obtain ⟨L',L2,hs,hi,e,k⟩:=k _ _ _ hr
  have:=h.sh.callI hs
  rw [appO_eq e] at this
  exact k a ⟨hf,this⟩
theorem gWk {L' L2 M:List Asn}{w w' :World}{X:Act→Prop}{F:List (Nat×Value)}[hi:AllNo L'](hs:Sh0 w w' L')(e:appO L' M=some L2)(k:∀a,St N K W a w' F L2→X a):∃L' L2,Sh0 w w' L' ∧AllNo L' ∧appO L' M=some L2∧∀a,St N K W a w' F L2→X a:=⟨_,_,hs,hi,e,k⟩
theorem gU {w:World}(k:∀a w,St N K W a w F L→R a w):∀a,St N K W a w F L→R a w:=fun a h=>k a w h
theorem qP {Z:Act→Prop}{f:Nat}{fo:Operand}{xs:List Operand}{tys:Array TypeId}{us vs ws:List Value}(hb:bodyI P f=true)(e:(o.op,o.guard,o.dst,Nat.blt d N,ev F fo,evs F xs)=(.call ⟨.value fo,xs.toArray,tys⟩,none,some d,true,some (.func (.func f) us.toArray ws.toArray),some vs))(hc:∀w,Sh K W w L→Rets P f (us++vs++ws) w (fun v' w' =>v' =v∧Sh0 w w' []))
  (k:∀a,Fr N a ((d,v)::F)→wpQuiet P ops (fun w=>Sh K W w L) Z rest a):∀a,Fr N a F→wpQuiet P ops (fun w=>Sh K W w L) Z (o::rest) a:=by
 simp only [Prod.mk.injEq] at e
 exact fun a h=>wq_call h hb e.1 e.2.2.2.2.1 e.2.2.2.2.2 (wanted_none e.2.1 _) e.2.2.1 e.2.2.2.1 hc k
end
theorem aO {α:Type}[Enc α]{E:TypeId}{s:Ls α}(i:Nat)(hi:L[i]? =some (.own E s)):∀w,Sh K W w L→s.At w:=fun w h=>h.own i hi
theorem aA {α:Type}[Enc α]{s:Ls α}(i:Nat)(hi:L[i]? =some (.at_ s)):∀w,Sh K W w L→s.At w:=fun w h=>h.at i hi
theorem aD {α:Type}[Enc α]{E:TypeId}{s:Ls α}(i:Nat)(hi:L[i]? =some (.deep E s)):∀w,Sh K W w L→s.At w:=fun w h=>h.deep i hi
end
def slotsOf (o:Oper):List Nat:=o.op.operands.toList.filterMap fun x=>match x with
 | .tmp t=>some t
 |_=>none
theorem slotsOf_mem {o:Oper}{t:Nat}(h:Operand.tmp t∈o.op.operands):t∈slotsOf o:=List.mem_filterMap.2 ⟨.tmp t,by simpa using h,rfl⟩
def fill (a:Act):List (Nat×Value)→Act
 | []=>a
 |(t,v)::F=>(fill a F).put (some t) v
section
variable {P:Program}{N:Nat}{K:Nat→Prop}{W w:World}{a:Act}{F F' :List (Nat×Value)}{L:List Asn}{o:Oper}{l os:List Oper}{ops:Array Oper}{Q:Exit→Act→World→Prop}
theorem fill_size :∀F:List (Nat×Value),(fill a F).tmps.size=a.tmps.size
 | []=>rfl
 |(t,v)::F=>by simp [fill,Act.put,fill_size F]
theorem fill_defers :∀F:List (Nat×Value),(fill a F).defers=a.defers
 | []=>rfl
 |(t,v)::F=>by simp [fill,Act.put,fill_defers F]
theorem fill_at :∀ {F:List (Nat×Value)},(∀x∈F,x.1<a.tmps.size)→∀t v,lk F t=some v→(fill a F).tmps[t]? =some v
 | [],_,_,_,h=>by cases h
 |(u,x)::F,hF,t,v,h=>by
  rw [lk_cons] at h
  simp only [fill,Act.put,Array.getElem?_setIfInBounds]
  by_cases e:u=t
  ·subst e
   have:=hF _ List.mem_cons_self
   simp only [if_true] at h
   cases h
   simp [fill_size,this]
  ·rw [if_neg e] at h⊢
   exact fill_at (fun x hx=>hF x (List.mem_cons_of_mem _ hx)) t v h
theorem fill_ne :∀ {F:List (Nat×Value)} {t:Nat},lk F t=none→(fill a F).tmps[t]? =a.tmps[t]?
 | [],_,_=>rfl
 |(u,x)::F,t,h=>by
  rw [lk_cons] at h
  by_cases e:u=t
  ·simp [e] at h
  ·rw [if_neg e] at h
   simp only [fill,Act.put,Array.getElem?_setIfInBounds,if_neg e]
   exact fill_ne h
theorem fill_fr (hs:a.tmps.size=N)(hd:a.defers= [])(hF:∀x∈F,x.1<N):Fr N (fill a F) F:=⟨by rw [fill_size,hs],by rw [fill_defers,hd],fill_at (by rw [hs];exact hF)⟩
theorem fill_eval (hF:∀x∈F,x.1<a.tmps.size)(h:∀t∈slotsOf o,∀v,lk F t=some v→a.tmps[t]? =some v):∀x∈o.op.operands,(fill a F).eval x=a.eval x:=by
 intro x hx
 cases x with
 |tmp t=>
  simp only [Act.eval,Array.getD_eq_getD_getElem?]
  cases hl:lk F t with
  |none=>rw [fill_ne hl]
  |some v=>rw [fill_at hF t v hl,h t (slotsOf_mem hx) v hl]
 |const c=>rfl
 |global g=>rfl
 |func f=>rfl
def noSel (o:Oper):Bool:=match o.op with
 | .select _ _=>false
 |_=>true
theorem noSel_ne (h:noSel o=true):∀cs b,o.op≠ .select cs b:=by
 intro cs b e
 simp [noSel,e] at h
structure PhF (P:Program)(N:Nat)(K:Nat→Prop)(W:World)(L:List Asn)(F:List (Nat×Value))(o:Oper)(d:Nat)(v:Value):Prop where
 dst:o.dst=some d
 lt:d<N
 at_:lk F d=some v
 run:∀(a:Act) (w:World),a.tmps.size=N→a.defers= []→(∀t∈slotsOf o,∀u,lk F t=some u→a.tmps[t]? =some u)→Sh K W w L→(execOp a.eval o).run P w= .ok (.value v) w
def ordB :List Oper→Bool
 | []=>true
 |o::r=>noSel o&&o.guard.isNone&&((o::r).all fun x=>match x.dst with
  |some d=>(slotsOf o).all fun t=> !Nat.beq d t
  |none=>true)&&(r.all fun x=>match x.dst,o.dst with
  |some d,some e=> !Nat.beq d e
  |_,_=>true)&&ordB r
theorem Runs.keep (r:Runs P ops N K W L os F [] F'):∀t,(∀o∈os,o.dst≠some t)→lk F' t=lk F t:=by
 generalize hr:([]:List Oper)=rest at r
 induction r with
 |nl=>intros;rfl
 |cn _ _ hd _ _ ih=>
  intro t ht
  rw [ih hr t fun o ho=>ht o (List.mem_cons_of_mem _ ho),lk_cons,if_neg fun e=>ht _ List.mem_cons_self (by rw [hd,e])]
 |sk _ hd _ _ ih=>
  intro t ht
  rw [ih hr t fun o ho=>ht o (List.mem_cons_of_mem _ ho),lk_cons,if_neg fun e=>ht _ List.mem_cons_self (by rw [hd,e])]
theorem Runs.fN {rest:List Oper}(r:Runs P ops N K W L os F rest F'):(∀x∈F,x.1<N)→∀x∈F',x.1<N:=by
 induction r with
 |nl=>exact id
 |cn _ _ _ hN _ ih=>exact fun h=>ih fun x hx=>(List.mem_cons.1 hx).elim (fun e=>by rw [e];simpa [Nat.blt_eq] using hN) (h x)
 |sk _ _ hN _ ih=>exact fun h=>ih fun x hx=>(List.mem_cons.1 hx).elim (fun e=>by rw [e];simpa [Nat.blt_eq] using hN) (h x)
theorem Runs.pf {a0:Act}(h0:a0.tmps.size=N)(h1:a0.defers= [])(r:Runs P ops N K W L os F [] F'):ordB os=true→(∀x∈F,x.1<N)→∀o∈os,∃d v,PhF P N K W L F' o d v:=by
 generalize hr:([]:List Oper)=rest at r
 induction r with
 |nl=>intro _ _ o ho;subst hr;cases ho
 |cn hrn hw hd hN k ih=>
  subst hr
  rename_i o l F F' d v
  intro hB hF x hx
  simp only [ordB,Bool.and_eq_true] at hB
  obtain ⟨⟨⟨⟨hs,hg⟩,hu⟩,hdd⟩,hB⟩:=hB
  have hN' :d<N:=by simpa [Nat.blt_eq] using hN
  have hF2:∀x∈(d,v)::F,x.1<N:=fun x hx=>(List.mem_cons.1 hx).elim (fun e=>by rw [e];exact hN') (hF x)
  rcases List.mem_cons.1 hx with rfl|hx
  ·have hno:∀t∈slotsOf x,∀y∈x::l,y.dst≠some t:=by
    intro t ht y hy e
    have:=List.all_eq_true.1 hu y hy
    rw [e] at this
    have:=List.all_eq_true.1 this t ht
    simp at this
   refine ⟨d,v,hd,hN', ?_,fun a w hsz hdf hsl hsh=> ?_⟩
   ·rw [k.keep d fun y hy e=> ?_,lk_cons,if_pos rfl]
    have:=List.all_eq_true.1 hdd y hy
    rw [e,hd] at this
    simp at this
   ·have hev:=fill_eval (a:=a) (F:=F) (o:=x) (by rw [hsz];exact hF) fun t ht u hu=>hsl t ht u (by
     rw [k.keep t fun y hy=>hno t ht y (List.mem_cons_of_mem _ hy),lk_cons,if_neg fun e=>hno t ht x List.mem_cons_self (by rw [hd,e])];exact hu)
    have:=hrn (fill a F) w ⟨fill_fr hsz hdf hF,hsh⟩
    rwa [execOp_congr x (noSel_ne hs) hev] at this
  ·exact ih rfl hB hF2 x hx
 |sk hw hd hN k ih=>
  intro hB hF x hx
  rename_i o l F F' d
  simp only [ordB,Bool.and_eq_true] at hB
  obtain ⟨⟨⟨⟨hs,hg⟩,hu⟩,hdd⟩,hB⟩:=hB
  have:=hw _ (fill_fr h0 h1 hF)
  rw [wanted_none (by simpa using hg)] at this
  cases this
theorem Ex.move {b:Act}{R:Act→World→Prop}(h:Ex P o b w R)(he:execOp b.eval o=execOp a.eval o):Ex P o a w (fun a' w' =>∃b',R b' w' ∧(∃v,b'.tmps=(b.put o.dst v).tmps∧a'.tmps=(a.put o.dst v).tmps)∧(b'.defers= []→a.defers= []→a'.defers= [])):=by
 intro next Q hn
 have h1:=h R (fun e _ w=>Q e a w) (fun _ _ h=>h)
 unfold Oper.wp at h1⊢
 rw [he] at h1
 generalize (execOp a.eval o).run P w=r at h1⊢
 have hdf:∀v,(a.put o.dst v).defers=a.defers:=fun v=>by cases o.dst<;>rfl
 cases r with
 |halt x w' =>cases x<;>exact h1
 |ok n w' =>
  cases n
  case value v=>exact hn _ _ ⟨_,h1,⟨v,rfl,rfl⟩,fun _ e=>by rw [hdf,e]⟩
  case skip=>exact hn _ _ ⟨_,h1,⟨undef,rfl,rfl⟩,fun _ e=>by rw [hdf,e]⟩
  case defer d=>exact hn _ _ ⟨_,h1,⟨undef,by cases o.dst<;>rfl,by cases o.dst<;>rfl⟩,fun e=>by cases ho:o.dst<;>simp [ho,Act.put] at e⟩
  case enter f args=>
   refine Calls.mono h1 fun e w'' he=> ?_
   cases e with
   |returned v=>exact hn _ _ ⟨_,he,⟨v,rfl,rfl⟩,fun _ e=>by rw [hdf,e]⟩
   |panicked c=>exact he
   |outgrown=>obtain ⟨_,w3,h3⟩:=he;exact ⟨_,w3,h3⟩
  case row r args=>exact Rows.mono h1 fun v w'' he=>hn _ _ ⟨_,he,⟨v,rfl,rfl⟩,fun _ e=>by rw [hdf,e]⟩
  all_goals exact h1
def pickO (l:List Oper):List Nat→Option (List Oper)
 | []=>some []
 |i::r=>match l[i]? with
  |some o=>match pickO l r with
   |some os=>some (o::os)
   |none=>none
  |none=>none
theorem pickO_mem :∀ {is:List Nat} {os:List Oper},pickO l is=some os→(∀o∈os,∃i∈is,l[i]? =some o)∧∀i∈is,∃o∈os,l[i]? =some o
 | [],os,h=>by cases h;exact ⟨fun o ho=>(by cases ho),fun o ho=>(by cases ho)⟩
 |i::r,os,h=>by
  unfold pickO at h
  split at h
  ·rename_i o ho
   split at h
   ·rename_i os' hos
    cases h
    obtain ⟨h1,h2⟩:=pickO_mem hos
    refine ⟨fun x hx=> ?_,fun j hj=> ?_⟩
    ·rcases List.mem_cons.1 hx with rfl|hx
     ·exact ⟨i,List.mem_cons_self,ho⟩
     ·obtain ⟨j,hj,e⟩:=h1 x hx
      exact ⟨j,List.mem_cons_of_mem _ hj,e⟩
    ·rcases List.mem_cons.1 hj with rfl|hj
     ·exact ⟨o,List.mem_cons_self,ho⟩
     ·obtain ⟨x,hx,e⟩:=h2 j hj
      exact ⟨x,List.mem_cons_of_mem _ hx,e⟩
   ·cases h
  ·cases h
def availB (l:List Oper)(ws done rem is:List Nat):Bool:=(List.range l.length).all fun i=>ws.any (Nat.beq i)||is.any (Nat.beq i)||(rem.any fun w=>ancB l i w)||done.any fun w=>ancB l w i
def operB (l:List Oper)(o:Oper):Bool:=(slotsOf o).all fun t=>(l.all fun x=>match x.dst with
  |some d=> !Nat.beq d t
  |none=>true)||o.after.any fun e=>Region.binds .any e&&match l[e.on]? with
 |some x=>(match x.dst with
  |some d=>Nat.beq d t
  |none=>false)
 |none=>false
def noneB (l:List Oper)(t:Nat):Prop:=∀o∈l,o.dst≠some t
def dstB :List Oper→Bool
 | []=>true
 |o::r=>(r.all fun x=>match x.dst,o.dst with
  |some d,some e=> !Nat.beq d e
  |_,_=>true)&&dstB r
theorem dstB_at :∀ {l:List Oper} {i j:Nat} {x y:Oper} {d:Nat},dstB l=true→l[i]? =some x→l[j]? =some y→x.dst=some d→y.dst=some d→i=j
 | [],i,_,_,_,_,_,h,_,_,_=>by simp at h
 |o::r,i,j,x,y,d,hB,hi,hj,hx,hy=>by
  simp only [dstB,Bool.and_eq_true] at hB
  match i,j with
  |0,0=>rfl
  |i+1,j+1=>
   rw [List.getElem?_cons_succ] at hi hj
   exact congrArg (· +1) (dstB_at hB.2 hi hj hx hy)
  |0,j+1=>
   simp only [List.getElem?_cons_zero,Option.some.injEq,List.getElem?_cons_succ] at hi hj
   subst hi
   have:=List.all_eq_true.1 hB.1 y (List.mem_of_getElem? hj)
   rw [hx,hy] at this
   simp at this
  |i+1,0=>
   simp only [List.getElem?_cons_zero,Option.some.injEq,List.getElem?_cons_succ] at hi hj
   subst hj
   have:=List.all_eq_true.1 hB.1 x (List.mem_of_getElem? hi)
   rw [hx,hy] at this
   simp at this
def chainB (l:List Oper):List Nat→Bool
 | []=>true
 |w::ws=>(ws.all fun x=>ancB l x w&& !Nat.beq x w)&&chainB l ws
def regB (l:List Oper)(ws:List Nat):Bool:=depsLt l 0&&dstB l&&(l.all fun o=>noSel o&&o.guard.isNone&&operB l o)&&chainB l ws
def agA (F F' :List (Nat×Value))(os:List Oper):List (Option Value):=os.map fun o=>match o.dst with
 |some d=>(match lk F d with
  |some _=>lk F' d
  |none=>none)
 |none=>none
def agB (F:List (Nat×Value))(os:List Oper):List (Option Value):=os.map fun o=>match o.dst with
 |some d=>(match lk F d with
  |some v=>some v
  |none=>none)
 |none=>none
theorem ag_at (h:agA F F' os=agB F os)(ho:o∈os){d:Nat}{v:Value}(hd:o.dst=some d)(hv:lk F d=some v):lk F' d=some v:=by
 obtain ⟨i,hi⟩:=List.getElem?_of_mem ho
 have:=congrArg (fun l=>l[i]?) h
 simp only [agA,agB,List.getElem?_map,hi,Option.map_some,hd,hv] at this
 exact Option.some.inj this
def okF (o:Oper)(F F2:List (Nat×Value)):Prop:=match o.dst with
 |some d=>∃v,F2=(d,v)::F
 |none=>F2=F
def PhH (P:Program)(l:List Oper)(N:Nat)(K:Nat→Prop)(W:World)(Q:Exit→Act→World→Prop)(ws:List Nat)(done:List Nat):List Nat→List Asn→List (Nat×Value)→Prop
 | [],L,F=>∃is os F',pickO l is=some os∧(availB l ws done [] is&&ordB os&&is.all fun i=> !ws.any (Nat.beq i))=true∧Runs P l.toArray N K W L os F [] F' ∧agA F F' os=agB F os∧∀a w,St N K W a w F' L→Q .normal a w
 |i::rem,L,F=>∃is os F' o,pickO l is=some os∧(availB l ws done (i::rem) is&&ordB os&&is.all fun i=> !ws.any (Nat.beq i))=true∧Runs P l.toArray N K W L os F [] F' ∧agA F F' os=agB F os∧l[i]? =some o∧
  ∀a w,St N K W a w F' L→Ex P o a w (fun a' w' =>∃F2 L2,St N K W a' w' F2 L2∧okF o F' F2∧PhH P l N K W Q ws (i::done) rem L2 F2)
structure PhX (P:Program)(l:List Oper)(N:Nat)(K:Nat→Prop)(W:World)(Q:Exit→Act→World→Prop)(ws done rem:List Nat)(L:List Asn)(F:List (Nat×Value)):Prop where
 fN:∀x∈F,x.1<N
 pf:∀i o,l[i]? =some o→ws.any (Nat.beq i)=false→(rem.any fun w=>ancB l i w)=false→(done.any fun w=>ancB l w i)=false→∃d v,PhF P N K W L F o d v
 fin:rem= []→∀a w,St N K W a w F L→Q .normal a w
 nxt:∀i r,rem=i::r→∃o,l[i]? =some o∧∀a w,St N K W a w F L→Ex P o a w (fun a' w' =>∃F2 L2,St N K W a' w' F2 L2∧okF o F F2∧PhH P l N K W Q ws (i::done) r L2 F2)
structure PhJ (l:List Oper)(N:Nat)(K:Nat→Prop)(W:World)(done rem:List Nat)(L:List Asn)(F:List (Nat×Value))(S:Nat→Bool)(a:Act)(w:World):Prop where
 dn:∀i∈done,S i=true
 rm:∀i∈rem,S i=false
 sz:a.tmps.size=N
 df:a.defers= []
 out:∀t v,noneB l t→lk F t=some v→a.tmps[t]? =some v
 ins:∀i o t,l[i]? =some o→o.dst=some t→S i=true→∃v,lk F t=some v∧a.tmps[t]? =some v
 sh:Sh K W w L
theorem PhH.enter {ws done rem:List Nat}{S:Nat→Bool}(hdB:dstB l=true)(h:PhH P l N K W Q ws done rem L F)(hF:∀x∈F,x.1<N)(j:PhJ l N K W done rem L F S a w):∃F',PhX P l N K W Q ws done rem L F' ∧PhJ l N K W done rem L F' S a w:=by
 have key:∀(is:List Nat) (os:List Oper) (F' :List (Nat×Value)),pickO l is=some os→(availB l ws done rem is&&ordB os&&is.all fun i=> !ws.any (Nat.beq i))=true→Runs P l.toArray N K W L os F [] F' →agA F F' os=agB F os→
   PhJ l N K W done rem L F' S a w∧∀i o,l[i]? =some o→ws.any (Nat.beq i)=false→(rem.any fun w=>ancB l i w)=false→(done.any fun w=>ancB l w i)=false→∃d v,PhF P N K W L F' o d v:=by
  intro is os F' hp hB hr ha
  simp only [Bool.and_eq_true] at hB
  obtain ⟨⟨hav,hor⟩,_⟩:=hB
  obtain ⟨hm1,hm2⟩:=pickO_mem hp
  refine ⟨⟨j.dn,j.rm,j.sz,j.df,fun t v ht hv=> ?_,fun i o t hi ho hS=> ?_,j.sh⟩,fun i o hi h1 h2 h3=> ?_⟩
  ·rw [hr.keep t fun o ho e=> ?_] at hv
   ·exact j.out t v ht hv
   ·obtain ⟨q,_,hq⟩:=hm1 o ho
    exact ht o (List.mem_of_getElem? hq) e
  ·obtain ⟨v,hv,hat⟩:=j.ins i o t hi ho hS
   refine ⟨v, ?_,hat⟩
   by_cases hos:o∈os
   ·exact ag_at ha hos ho hv
   ·rw [hr.keep t fun x hx e=> ?_]
    ·exact hv
    ·obtain ⟨q,_,hq⟩:=hm1 x hx
     have:=dstB_at hdB hi hq ho e
     subst this
     rw [hi] at hq
     cases hq
     exact hos hx
  ·have hlt:i<l.length:=(List.getElem?_eq_some_iff.1 hi).1
   have:=List.all_eq_true.1 hav i (List.mem_range.2 hlt)
   rw [h1,h2,h3,Bool.false_or,Bool.or_false,Bool.or_false] at this
   obtain ⟨z,hz,h4⟩:=List.any_eq_true.1 this
   cases Nat.eq_of_beq_eq_true h4
   obtain ⟨x,hx,hix⟩:=hm2 i hz
   rw [hi] at hix
   cases hix
   exact hr.pf j.sz j.df hor hF o hx
 cases rem with
 |nil=>
  obtain ⟨is,os,F',hp,hB,hr,ha,hQ⟩:=h
  obtain ⟨h1,h2⟩:=key is os F' hp hB hr ha
  exact ⟨F',⟨hr.fN hF,h2,fun _=>hQ,fun _ _ e=>(by cases e)⟩,h1⟩
 |cons i rem=>
  obtain ⟨is,os,F',o,hp,hB,hr,ha,ho,hx⟩:=h
  obtain ⟨h1,h2⟩:=key is os F' hp hB hr ha
  exact ⟨F',⟨hr.fN hF,h2,fun e=>(by cases e),fun _ _ e=>(by cases e;exact ⟨o,ho,hx⟩)⟩,h1⟩
theorem anc_ready {S:Nat→Bool}{i j:Nat}(hcl:ClosedB l S)(ho:l[i]? =some o)(hdep:∀e∈o.after,Region.binds .any e=true→S e.on=true)(h:ancB l i j=true):j=i∨S j=true:=by
 have hcl2:ClosedB l (upd S i):=by
  intro q oq hq hS e he hb
  by_cases e1:q=i
  ·subst e1
   rw [ho] at hq
   cases hq
   exact upd_true (hdep e he hb)
  ·rw [upd_ne (beq_no e1)] at hS
   exact upd_true (hcl q oq hq hS e he hb)
 have:=cA hcl2 i j h (upd_self S i)
 by_cases e:j=i
 ·exact .inl e
 ·rw [upd_ne (beq_no e)] at this
  exact .inr this
theorem rC {id:Nat}(ws:List Nat)(hF:(F.all fun x=>Nat.blt x.1 N)=true)(hx:PhH P l N K W Q ws [] ws L F)(hm:P.follows .mixedOrders=true:=by kernel_rfl)(hB:regB l ws=true:=by kernel_rfl):∀a w,St N K W a w F L→(Code.region id l.toArray true).wp P Q a w:=by
  intro a w h
  simp only [regB,Bool.and_eq_true] at hB
  obtain ⟨⟨⟨hdl,hdB⟩,hall⟩,hch⟩:=hB
  have hop:∀o∈l,noSel o=true∧o.guard=none∧operB l o=true:=by
    intro o ho
    have:=List.all_eq_true.1 hall o ho
    simp only [Bool.and_eq_true,Option.isNone_iff_eq_none] at this
    exact ⟨this.1.1,this.1.2,this.2⟩
  have hFN:∀x∈F,x.1<N:=fun x hx=>by simpa [Nat.blt_eq] using List.all_eq_true.1 hF x hx
  have hsl:∀ {done rem:List Nat} {L:List Asn} {F:List (Nat×Value)} {S:Nat→Bool} {a:Act} {w:World} {o:Oper},PhJ l N K W done rem L F S a w→o∈l→(∀e∈o.after,Region.binds .any e=true→S e.on=true)→∀t∈slotsOf o,∀v,lk F t=some v→a.tmps[t]? =some v:=by
    intro done rem L F S a w o j ho hdep t ht v hv
    have:=List.all_eq_true.1 (hop o ho).2.2 t ht
    rw [Bool.or_eq_true] at this
    rcases this with h1|h1
    · refine j.out t v (fun x hx e=> ?_) hv
      have:=List.all_eq_true.1 h1 x hx
      rw [e] at this
      simp at this
    · obtain ⟨k,hk,h2⟩:=Array.any_eq_true.1 h1
      simp only [Bool.and_eq_true] at h2
      obtain ⟨hb,h2⟩:=h2
      split at h2
      · rename_i x hx
        split at h2
        · rename_i d hd
          rw [Nat.eq_of_beq_eq_true h2] at hd
          obtain ⟨u,hu,hat⟩:=j.ins _ x t hx hd (hdep _ (Array.getElem_mem hk) hb)
          rw [hv] at hu
          cases hu
          exact hat
        · cases h2
      · cases h2
  refine x_any (fun S a w=>∃done rem L F,(∀i∈ws,i∈done∨i∈rem)∧(∀i,i∈done∨i∈rem→i∈ws)∧chainB l rem=true∧PhX P l N K W Q ws done rem L F∧PhJ l N K W done rem L F S a w) hm hdl ?_ ?_ ?_
  · obtain ⟨F',h1,h2⟩:=hx.enter (S:=fun _=>false) (a:=a) (w:=w.drew) hdB hFN ⟨fun i hi=>(by cases hi),fun _ _=>rfl,h.fr.size,h.fr.defers,fun t v _ hv=>h.fr.at_ t v hv,fun _ _ _ _ _ hS=>(by cases hS),h.sh.drew⟩
    exact ⟨[],ws,L,F',fun i hi=> .inr hi,fun i hi=>hi.elim (fun h=>by cases h) (fun h=>h),hch,h1,h2⟩
  · rintro S i o ho hSi hcl hdep a w ⟨done,rem,L,F,hw1,hw2,hchr,px,j⟩
    have hol:=List.mem_of_getElem? ho
    obtain ⟨hns,hg,_⟩:=hop o hol
    have hslo:=hsl j hol hdep
    by_cases hir:i∈rem
    ·
      cases rem with
      |nil=>cases hir
      |cons i0 r=>
        simp only [chainB,Bool.and_eq_true] at hchr
        have hi0:i=i0:=by
          rcases List.mem_cons.1 hir with e|hr
          · exact e
          · exfalso
            have:=List.all_eq_true.1 hchr.1 i hr
            simp only [Bool.and_eq_true,Bool.not_eq_true'] at this
            rcases anc_ready hcl ho hdep this.1 with e|e
            · rw [e] at this;simp at this
            · rw [j.rm i0 List.mem_cons_self] at e;cases e
        subst hi0
        obtain ⟨o',ho',hx⟩:=px.nxt i r rfl
        rw [ho] at ho'
        cases ho'
        have hF2:∀x∈F,x.1<a.tmps.size:=by rw [j.sz];exact px.fN
        have hev:=fill_eval (o:=o) hF2 hslo
        have hEx:=(hx (fill a F) w ⟨fill_fr j.sz j.df px.fN,j.sh⟩).move (execOp_congr o (noSel_ne hns) hev)
        unfold StepOK
        rw [if_pos (wanted_none hg _)]
        refine hEx _ _ fun a' w' ⟨b',⟨F2,L2,hst,hok,hph⟩,⟨v,hb,ha⟩,hdf⟩=> ?_
        have hsz' :a'.tmps.size=N:=by rw [ha];cases o.dst<;>simp [Act.put,j.sz]
        have hF2N:∀x∈F2,x.1<N:=by
          unfold okF at hok
          split at hok
          · rename_i d hd
            obtain ⟨v2,rfl⟩:=hok
            intro x hx
            rcases List.mem_cons.1 hx with rfl|hx
            · have h1:=hst.fr.at_ d v2 (by rw [lk_cons,if_pos rfl])
              obtain ⟨h2,_⟩:=Array.getElem?_eq_some_iff.1 h1
              rw [hst.fr.size] at h2
              exact h2
            · exact px.fN x hx
          · rw [hok];exact px.fN
        have hoth:∀t,o.dst≠some t→lk F2 t=lk F t∧a'.tmps[t]? =a.tmps[t]? :=by
          intro t ht
          refine ⟨?_, ?_⟩
          · unfold okF at hok
            split at hok
            · rename_i d hd
              obtain ⟨v2,rfl⟩:=hok
              rw [lk_cons,if_neg fun e=>ht (by rw [hd,e])]
            · rw [hok]
          · rw [ha]
            cases hd:o.dst with
            |none=>rfl
            |some d=>
              simp only [Act.put,Array.getElem?_setIfInBounds]
              rw [if_neg fun e=>ht (by rw [hd,e])]
        have hJ:PhJ l N K W (i::done) r L2 F2 (upd S i) a' w' :=by
          refine ⟨fun q hq=> ?_,fun q hq=> ?_,hsz',hdf hst.fr.defers j.df,fun t u ht hu=> ?_,fun q x t hq hxd hS=> ?_,hst.sh⟩
          · rcases List.mem_cons.1 hq with rfl|hq
            · exact upd_self _ _
            · exact upd_true (j.dn q hq)
          · have h1:=List.all_eq_true.1 hchr.1 q hq
            simp only [Bool.and_eq_true,Bool.not_eq_true'] at h1
            rw [upd_ne h1.2]
            exact j.rm q (List.mem_cons_of_mem _ hq)
          · obtain ⟨h1,h2⟩:=hoth t (ht o hol)
            rw [h2]
            rw [h1] at hu
            exact j.out t u ht hu
          · by_cases e:q=i
            · subst e
              rw [ho] at hq
              cases hq
              unfold okF at hok
              rw [hxd] at hok
              obtain ⟨v2,rfl⟩:=hok
              have h1:=hst.fr.at_ t v2 (by rw [lk_cons,if_pos rfl])
              refine ⟨v2,by rw [lk_cons,if_pos rfl], ?_⟩
              have hlt:t<N:=hF2N _ List.mem_cons_self
              rw [hb,hxd] at h1
              rw [ha,hxd]
              simp only [Act.put,Array.getElem?_setIfInBounds,if_true,fill_size,j.sz,hlt] at h1⊢
              exact h1
            · rw [upd_ne (beq_no e)] at hS
              have hne:o.dst≠some t:=fun h2=>e (dstB_at hdB hq ho hxd h2)
              obtain ⟨h1,h2⟩:=hoth t hne
              rw [h1,h2]
              exact j.ins q x t hq hxd hS
        obtain ⟨F3,h1,h2⟩:=hph.enter hdB hF2N hJ
        refine ⟨i::done,r,L2,F3,fun q hq=> ?_,fun q hq=> ?_,hchr.2,h1,h2⟩
        · rcases hw1 q hq with h3|h3
          · exact .inl (List.mem_cons_of_mem _ h3)
          · rcases List.mem_cons.1 h3 with rfl|h3
            · exact .inl List.mem_cons_self
            · exact .inr h3
        · rcases hq with hq|hq
          · rcases List.mem_cons.1 hq with rfl|hq
            · exact hw2 _ (.inr List.mem_cons_self)
            · exact hw2 _ (.inl hq)
          · exact hw2 _ (.inr (List.mem_cons_of_mem _ hq))
    ·
      have hiw:ws.any (Nat.beq i)=false:=by
        cases hb:ws.any (Nat.beq i) with
        |false=>rfl
        |true=>
          obtain ⟨z,hz,h3⟩:=List.any_eq_true.1 hb
          cases Nat.eq_of_beq_eq_true h3
          rcases hw1 i hz with h4|h4
          · rw [j.dn i h4] at hSi;cases hSi
          · exact absurd h4 hir
      have h2:(rem.any fun w=>ancB l i w)=false:=by
        cases hb:rem.any fun w=>ancB l i w with
        |false=>rfl
        |true=>
          obtain ⟨z,hz,h3⟩:=List.any_eq_true.1 hb
          rcases anc_ready hcl ho hdep h3 with e|e
          · rw [e] at hz;exact absurd hz hir
          · rw [j.rm z hz] at e;cases e
      have h3:(done.any fun w=>ancB l w i)=false:=by
        cases hb:done.any fun w=>ancB l w i with
        |false=>rfl
        |true=>
          obtain ⟨z,hz,h3⟩:=List.any_eq_true.1 hb
          rw [cA hcl z i h3 (j.dn z hz)] at hSi
          cases hSi
      obtain ⟨d,v,pf⟩:=px.pf i o ho hiw h2 h3
      unfold StepOK
      rw [if_pos (wanted_none hg _)]
      unfold Oper.wp
      rw [pf.run a w j.sz j.df hslo j.sh]
      show∃done rem L F,_
      refine ⟨done,rem,L,F,hw1,hw2,hchr,px,fun q hq=>upd_true (j.dn q hq),fun q hq=> ?_, ?_, ?_,fun t u ht hu=> ?_,fun q x t hq hxd hS=> ?_,j.sh⟩
      · rw [upd_ne (beq_no fun e=>hir (by rw [←e];exact hq))]
        exact j.rm q hq
      · rw [pf.dst];simp [Act.put,j.sz]
      · rw [pf.dst];exact j.df
      · have hne:d≠t:=fun e=>ht o hol (by rw [pf.dst,e])
        rw [pf.dst]
        simp only [Act.put,Array.getElem?_setIfInBounds,if_neg hne]
        exact j.out t u ht hu
      · by_cases e:q=i
        · subst e
          rw [ho] at hq
          cases hq
          rw [pf.dst] at hxd
          cases hxd
          refine ⟨v,pf.at_, ?_⟩
          rw [pf.dst]
          simp [Act.put,Array.getElem?_setIfInBounds,j.sz,pf.lt]
        · rw [upd_ne (beq_no e)] at hS
          obtain ⟨u,hu,hat⟩:=j.ins q x t hq hxd hS
          refine ⟨u,hu, ?_⟩
          have hne:d≠t:=fun e2=>e (dstB_at hdB hq ho hxd (by rw [pf.dst,e2]))
          rw [pf.dst]
          simp only [Act.put,Array.getElem?_setIfInBounds,if_neg hne]
          exact hat
  · rintro S hall a w ⟨done,rem,L,F,hw1,hw2,hchr,px,j⟩
    have hrem:rem= []:=by
      cases rem with
      |nil=>rfl
      |cons i r=>
        obtain ⟨o,ho,_⟩:=px.nxt i r rfl
        have:=hall i (List.getElem?_eq_some_iff.1 ho).1
        rw [j.rm i List.mem_cons_self] at this
        cases this
    refine px.fin hrem a w ⟨⟨j.sz,j.df,fun t v hv=> ?_⟩,j.sh⟩
    by_cases hn:noneB l t
    · exact j.out t v hn hv
    · have:∃o,o∈l∧o.dst=some t:=by
        apply Classical.byContradiction
        intro h1
        exact hn fun o ho e=>h1 ⟨o,ho,e⟩
      obtain ⟨o,ho,hd⟩:=this
      obtain ⟨i,hi⟩:=List.getElem?_of_mem ho
      obtain ⟨u,hu,hat⟩:=j.ins i o t hi hd (hall i (List.getElem?_eq_some_iff.1 hi).1)
      rw [hv] at hu
      cases hu
      exact hat
section
variable {ws done rem is:List Nat}{i d:Nat}{v:Value}{F2:List (Nat×Value)}{L2:List Asn}{Φ:List Asn→List (Nat×Value)→Prop}
theorem pE (is:List Nat)(e:pickO l is=some os)(r:Runs P l.toArray N K W L os F [] F')(ha:agA F F' os=agB F os)(k:∀a w,St N K W a w F' L→Q .normal a w)(hB:(availB l ws done [] is&&ordB os&&is.all fun i=> !ws.any (Nat.beq i))=true:=by kernel_rfl):PhH P l N K W Q ws done [] L F:=⟨is,os,F',e,hB,r,ha,k⟩
theorem pR (is:List Nat)(e:(pickO l is,l[i]?)=(some os,some o))(r:Runs P l.toArray N K W L os F [] F')(ha:agA F F' os=agB F os)
  (k:∀a w,St N K W a w F' L→Ex P o a w (fun a' w' =>∃F2 L2,St N K W a' w' F2 L2∧okF o F' F2∧PhH P l N K W Q ws (i::done) rem L2 F2)) (hB:(availB l ws done (i::rem) is&&ordB os&&is.all fun i=> !ws.any (Nat.beq i))=true:=by kernel_rfl):PhH P l N K W Q ws done (i::rem) L F:=by
 simp only [Prod.mk.injEq] at e
 exact ⟨is,os,F',o,e.1,hB,r,ha,e.2,k⟩
theorem okF_some (hd:o.dst=some d):okF o F ((d,v)::F):=by unfold okF;rw [hd];exact ⟨v,rfl⟩
theorem pS (hx:∀a w,St N K W a w F L→Ex P o a w (fun a' w' =>St N K W a' w' F L2))(hd:o.dst=none)(k:Φ L2 F):∀a w,St N K W a w F L→Ex P o a w (fun a' w' =>∃F2 L2,St N K W a' w' F2 L2∧okF o F F2∧Φ L2 F2):=
 fun a w h=>(hx a w h).mono fun a' w' h' =>⟨F,L2,h',by unfold okF;rw [hd],k⟩
theorem pX {α:Type}{v:α→Value}{L2:α→List Asn}(hx:∀a w,St N K W a w F L→Ex P o a w (fun a' w' =>∃b:α,St N K W a' w' ((d,v b)::F) (L2 b)))(hd:o.dst=some d)(k:∀b,Φ (L2 b) ((d,v b)::F)):∀a w,St N K W a w F L→Ex P o a w (fun a' w' =>∃F2 L2,St N K W a' w' F2 L2∧okF o F F2∧Φ L2 F2):=
 fun a w h=>(hx a w h).mono fun a' w' ⟨b,h'⟩=>⟨_,L2 b,h',okF_some hd,k b⟩
end
end
theorem ti_3 :tyI Try.prog 3=some (false,1,8, [.int .i64 0]):=by kernel_rfl
theorem ti_4 :tyI Try.prog 4=some (false,1,1, [.bool false]):=by kernel_rfl
theorem ti_22 :tyI Try.prog 22=some (false,1,24, [.slice none 0 0]):=by kernel_rfl
theorem sl_22 :slI Try.prog 22=some 45:=by kernel_rfl
theorem ti_23 :tyI Try.prog 23=some (false,1,24, [.slice none 0 0]):=by kernel_rfl
theorem sl_23 :slI Try.prog 23=some 3:=by kernel_rfl
theorem ti_25 :tyI Try.prog 25=some (true,4,64, [.slice none 0 0, .slice none 0 0, .int .i64 0, .int .i64 0]):=by kernel_rfl
theorem fl_25_0 :flI Try.prog 25 0=some 0:=by kernel_rfl
theorem fl_25_1 :flI Try.prog 25 1=some 1:=by kernel_rfl
theorem fl_25_2 :flI Try.prog 25 2=some 2:=by kernel_rfl
theorem fl_25_3 :flI Try.prog 25 3=some 3:=by kernel_rfl
theorem ti_26 :tyI Try.prog 26=some (false,1,24, [.slice none 0 0]):=by kernel_rfl
theorem sl_26 :slI Try.prog 26=some 23:=by kernel_rfl
theorem ti_28 :tyI Try.prog 28=some (false,1,8, [.int .i64 0]):=by kernel_rfl
theorem ti_30 :tyI Try.prog 30=some (true,3,24, [.int .i64 0, .int .i64 0, .int .i64 0]):=by kernel_rfl
theorem fl_30_0 :flI Try.prog 30 0=some 0:=by kernel_rfl
theorem ti_41 :tyI Try.prog 41=some (false,1,24, [.slice none 0 0]):=by kernel_rfl
theorem sl_41 :slI Try.prog 41=some 92:=by kernel_rfl
theorem ti_42 :tyI Try.prog 42=some (false,1,24, [.slice none 0 0]):=by kernel_rfl
theorem sl_42 :slI Try.prog 42=some 49:=by kernel_rfl
theorem fl_44_0 :flI Try.prog 44 0=some 0:=by kernel_rfl
theorem fl_44_1 :flI Try.prog 44 1=some 1:=by kernel_rfl
theorem fl_44_2 :flI Try.prog 44 2=some 2:=by kernel_rfl
theorem fl_44_3 :flI Try.prog 44 3=some 3:=by kernel_rfl
theorem fl_44_4 :flI Try.prog 44 4=some 4:=by kernel_rfl
theorem fl_44_5 :flI Try.prog 44 5=some 5:=by kernel_rfl
theorem ti_45 :tyI Try.prog 45=some (false,1,24, [.slice none 0 0]):=by kernel_rfl
theorem sl_45 :slI Try.prog 45=some 47:=by kernel_rfl
theorem ti_47 :tyI Try.prog 47=some (true,4,32, [.int .i64 0, .int .i64 0, .int .i64 0, .int .i64 0]):=by kernel_rfl
theorem fl_47_0 :flI Try.prog 47 0=some 0:=by kernel_rfl
theorem fl_47_1 :flI Try.prog 47 1=some 1:=by kernel_rfl
theorem fl_47_2 :flI Try.prog 47 2=some 2:=by kernel_rfl
theorem fl_47_3 :flI Try.prog 47 3=some 3:=by kernel_rfl
theorem ti_49 :tyI Try.prog 49=some (true,3,56, [.int .i64 0, .slice none 0 0, .slice none 0 0]):=by kernel_rfl
theorem fl_49_0 :flI Try.prog 49 0=some 0:=by kernel_rfl
theorem fl_49_1 :flI Try.prog 49 1=some 1:=by kernel_rfl
theorem fl_49_2 :flI Try.prog 49 2=some 2:=by kernel_rfl
theorem sl_54 :slI Try.prog 54=some 57:=by kernel_rfl
theorem ti_57 :tyI Try.prog 57=some (true,2,16, [.int .i64 0, .int .i64 0]):=by kernel_rfl
theorem sl_64 :slI Try.prog 64=some 4:=by kernel_rfl
theorem sl_85 :slI Try.prog 85=some 89:=by kernel_rfl
theorem ti_89 :tyI Try.prog 89=some (true,4,4, [.bool false, .bool false, .bool false, .bool false]):=by kernel_rfl
theorem ti_90 :tyI Try.prog 90=some (true,16,16, [.bool false, .bool false, .bool false, .bool false, .bool false, .bool false, .bool false, .bool false, .bool false, .bool false, .bool false, .bool false, .bool false, .bool false, .bool false, .bool false]):=by kernel_rfl
theorem ti_92 :tyI Try.prog 92=some (false,1,8, [.pointer none]):=by kernel_rfl
theorem ti_98 :tyI Try.prog 98=some (false,1,24, [.slice none 0 0]):=by kernel_rfl
theorem sl_98 :slI Try.prog 98=some 136:=by kernel_rfl
theorem fl_100_0 :flI Try.prog 100 0=some 0:=by kernel_rfl
theorem fl_100_1 :flI Try.prog 100 1=some 4:=by kernel_rfl
theorem fl_100_2 :flI Try.prog 100 2=some 5:=by kernel_rfl
theorem fl_100_3 :flI Try.prog 100 3=some 6:=by kernel_rfl
theorem fl_100_4 :flI Try.prog 100 4=some 7:=by kernel_rfl
theorem fl_100_5 :flI Try.prog 100 5=some 8:=by kernel_rfl
theorem fl_100_6 :flI Try.prog 100 6=some 9:=by kernel_rfl
theorem ti_134 :tyI Try.prog 134=some (false,1,24, [.slice none 0 0]):=by kernel_rfl
theorem sl_134 :slI Try.prog 134=some 144:=by kernel_rfl
theorem ti_136 :tyI Try.prog 136=some (true,3,56, [.int .i64 0, .slice none 0 0, .slice none 0 0]):=by kernel_rfl
theorem fl_136_0 :flI Try.prog 136 0=some 0:=by kernel_rfl
theorem fl_136_1 :flI Try.prog 136 1=some 1:=by kernel_rfl
theorem fl_136_2 :flI Try.prog 136 2=some 2:=by kernel_rfl
theorem ti_144 :tyI Try.prog 144=some (true,3,24, [.bool false, .int .i64 0, .int .i64 0]):=by kernel_rfl
theorem fl_144_0 :flI Try.prog 144 0=some 0:=by kernel_rfl
theorem fl_144_1 :flI Try.prog 144 1=some 1:=by kernel_rfl
theorem fl_144_2 :flI Try.prog 144 2=some 2:=by kernel_rfl
theorem bd_8 :bodyI Try.prog 8=true:=by kernel_rfl
theorem bd_11 :bodyI Try.prog 11=true:=by kernel_rfl
theorem bd_17 :bodyI Try.prog 17=true:=by kernel_rfl
theorem bd_18 :bodyI Try.prog 18=true:=by kernel_rfl
theorem bd_24 :bodyI Try.prog 24=true:=by kernel_rfl
theorem bd_27 :bodyI Try.prog 27=true:=by kernel_rfl
theorem bd_42 :bodyI Try.prog 42=true:=by kernel_rfl
theorem bd_43 :bodyI Try.prog 43=true:=by kernel_rfl
theorem bd_44 :bodyI Try.prog 44=true:=by kernel_rfl
theorem bd_45 :bodyI Try.prog 45=true:=by kernel_rfl
theorem bd_46 :bodyI Try.prog 46=true:=by kernel_rfl
theorem bd_47 :bodyI Try.prog 47=true:=by kernel_rfl
theorem bd_48 :bodyI Try.prog 48=true:=by kernel_rfl
theorem bd_49 :bodyI Try.prog 49=true:=by kernel_rfl
theorem bd_50 :bodyI Try.prog 50=true:=by kernel_rfl
theorem bd_51 :bodyI Try.prog 51=true:=by kernel_rfl
theorem bd_62 :bodyI Try.prog 62=true:=by kernel_rfl
theorem bd_72 :bodyI Try.prog 72=true:=by kernel_rfl
theorem bd_73 :bodyI Try.prog 73=true:=by kernel_rfl
theorem bd_75 :bodyI Try.prog 75=true:=by kernel_rfl
theorem bd_76 :bodyI Try.prog 76=true:=by kernel_rfl
theorem bd_77 :bodyI Try.prog 77=true:=by kernel_rfl
theorem bd_78 :bodyI Try.prog 78=true:=by kernel_rfl
theorem bd_79 :bodyI Try.prog 79=true:=by kernel_rfl
theorem bd_80 :bodyI Try.prog 80=true:=by kernel_rfl
theorem bd_81 :bodyI Try.prog 81=true:=by kernel_rfl
theorem bd_82 :bodyI Try.prog 82=true:=by kernel_rfl
theorem bd_83 :bodyI Try.prog 83=true:=by kernel_rfl
theorem bd_84 :bodyI Try.prog 84=true:=by kernel_rfl
theorem bd_85 :bodyI Try.prog 85=true:=by kernel_rfl
theorem bd_86 :bodyI Try.prog 86=true:=by kernel_rfl
theorem bd_87 :bodyI Try.prog 87=true:=by kernel_rfl
theorem bd_94 :bodyI Try.prog 94=true:=by kernel_rfl
theorem bd_97 :bodyI Try.prog 97=true:=by kernel_rfl
set_option maxRecDepth 100000
set_option maxHeartbeats 1000000
theorem take_succ_nth {α:Type}[Inhabited α](l:List α)(k:Nat)(h:k<l.length):l.take (k+1)=l.take k++ [nth l k]:=by
 rw [List.take_succ_eq_append_getElem h,nth_lt l k h]
theorem ext_nth {α:Type}[Inhabited α](l m:List α)(hl:l.length=m.length)(h:∀i,i<l.length→nth l i=nth m i):l=m:=by
 apply List.ext_getElem hl
 intro i h1 h2
 have:=h i h1
 rwa [nth_lt l i h1,nth_lt m i h2] at this
def JumpsOK (code:List Ins):Prop:=∀i,i<code.length→((nth code i).op=14→0≤(nth code i).a∧(nth code i).a≤code.length)∧((nth code i).op=15→0≤(nth code i).b∧(nth code i).b≤code.length)
instance : DecidableEq Pg:=fun p q=>by
 rcases p with ⟨a,b,c,d⟩;rcases q with ⟨a',b',c',d'⟩
 exact decidable_of_iff (a=a' ∧b=b' ∧c=c' ∧d=d') (by simp)
section
variable {code code2:Ls (Ls Ins)}{words words2:Ls Int}{locks regs locks2 regs2:Int}
end
theorem ints_c (x y:Ls Int)(W:World)(hx:x.At W)(hy:y.At W):
    Rets Try.prog 24 [x.v,y.v] W (fun v w' =>v= .bool (decide (x.l=y.l))∧Sh0 W w' []):=by
 refine gen Try.func24 Try.ntmps24 (Sh0.ext2 hx hy:Sh (fun _=>False) W W [.at_ x, .at_ y]) rfl fun a10 h10=>gG h10<|sG (oM 1 rfl<|.nl)<|gK fun _ k12=>sK fun _ k13=>gNl (aA 0 rfl) fun hl14=>gNl (aA 1 rfl) fun hl15=>gRn (oM 1 rfl<|oln sl_23 (aA 0 rfl) rfl<|oM 1 rfl<|oln sl_23 (aA 1 rfl) rfl<|oneN _ _ rfl<|.nl)<|nK k13<|?_;clear h10
 refine gcd rfl (fun hb16 hp16=> ?_) fun hb16 hp16=> ?_
 ·skip
  refine sG (oM 1 rfl<|.nl)<|gR<|uT<|fun a18 w18 h18=>x_ret1 (fn:=Try.f24) (t:=4) rfl h18 rfl<|⟨?_,(h18.sh.sel [] rfl)⟩
  congr 1
  first|(exact (decide_eq_true (ext_nth _ _ (by omega) fun i hi=>hall i (by omega))).symm)|(refine (decide_eq_false fun e=> ?_).symm;simp_all)
 refine gS<|hK k12<|gK fun _ k19=>sG (oM 1 rfl<|.nl)<|gB<|fun a22 w22 h22=>x_loop (fun m a w=>∃(k:Nat),(k≤x.l.length)∧(∀j,j<k→nth x.l j=nth y.l j)∧St 26 (fun _=>False) W a w [(0,x.v),(1,y.v),(5, .int .i64 ((k:Nat):Int))] [.at_ x, .at_ y]∧m=x.l.length-k) ⟨_,0,(by omega),(fun j hj=>absurd hj (by omega)),h22.nf ⟨rfl,rfl,rfl,trivial⟩,rfl⟩ ?_
 clear h22
 rintro m21 a21 w21 ⟨k,hk,hall,h21,hm21⟩
 refine gG h21<|gK fun _ k23=>sG (oM 2 rfl<|oln sl_23 (aA 0 rfl) rfl<|oltN _ _ rfl<|.nl)<|?_;clear h21
 refine gcd rfl (fun hb25 hp25=> ?_) fun hb25 hp25=> ?_
 ·skip
  refine gS<|hK k23<|gK fun _ k26=>gB<|gK fun _ k27=>rQ (oM 2 rfl<|oxN sl_23 ti_3 (aA 0 rfl) _ om9 rfl<|olI ti_3 (aA 0 rfl) om9 rfl<|oM 2 rfl<|oxN sl_23 ti_3 (aA 1 rfl) _ om9 rfl<|olI ti_3 (aA 1 rfl) om9 rfl<|oneI _ _ rfl<|.nl)<|hK k27<|gcd rfl (fun hb28 hp28=> ?_) fun hb28 hp28=> ?_
  ·skip
   refine sG (oM 1 rfl<|.nl)<|gR<|uB<|uT<|uT<|uB<|uT<|fun a30 w30 h30=>x_ret1 (fn:=Try.f24) (t:=4) rfl h30 rfl<|⟨?_,(h30.sh.sel [] rfl)⟩
   congr 1
   first|(exact (decide_eq_true (ext_nth _ _ (by omega) fun i hi=>hall i (by omega))).symm)|(refine (decide_eq_false fun e=> ?_).symm;simp_all)
  refine gS<|hK k26<|gL<|gRn (oM 1 rfl<|oadN _ 1 om9 rfl<|oM 1 rfl<|.nl)<|nN<|fun a31 w31 h31=>x_again ⟨_, ?_,k+1, ?_, ?_,h31.nf ⟨rfl,rfl,rfl,trivial⟩,rfl⟩
  · rw [hm21];first|omega|(simp only [lens9];omega)
  · omega
  · intro j hj;rcases Nat.lt_or_ge j k with h|h;exact hall j h;obtain rfl:j=k:=(by omega);simp_all
 refine gX<|hK k19<|sG (oM 1 rfl<|.nl)<|gR<|fun a33 w33 h33=>x_ret1 (fn:=Try.f24) (t:=4) rfl h33 rfl<|⟨?_,(h33.sh.sel [] rfl)⟩
 congr 1
 first|(exact (decide_eq_true (ext_nth _ _ (by omega) fun i hi=>hall i (by omega))).symm)|(refine (decide_eq_false fun e=> ?_).symm;simp_all)
end Go.Proofs.Ytmbfcgpneflbmaa
namespace Go.Proofs.Ytmbfcgpneflbmaa.Dr
open Go.RowKit
set_option linter.unusedSimpArgs false
set_option linter.unusedVariables false
structure Chg (X:Nat→Prop)(w w' :World):Prop where
 os:w'.os=w.os
 tape:w'.tape=w.tape
 output:w'.output=w.output
 size:w.heap.size≤w'.heap.size
 same:∀b,b<w.heap.size→¬X b→w'.heap[b]? =w.heap[b]?
 drawn:w.drawn≤w'.drawn
theorem Chg.refl (X:Nat→Prop)(w:World):Chg X w w:=⟨rfl,rfl,rfl,Nat.le_refl _,fun _ _ _=>rfl,Nat.le_refl _⟩
theorem Chg.drew (X:Nat→Prop)(w:World):Chg X w w.drew:=⟨rfl,rfl,rfl,Nat.le_refl _,fun _ _ _=>rfl,Nat.le_succ _⟩
theorem Chg.alloc (X:Nat→Prop)(w:World)(o:Obj):Chg X w (w.alloc o):=⟨rfl,rfl,rfl,by simp,fun b hb _=>Below.heap_alloc w o b hb,Nat.le_refl _⟩
theorem Chg.setCell {X:Nat→Prop}(w:World)(p:Addr)(hp:X p.block)(v:Value):Chg X w (w.setCell p v):=
 ⟨rfl,rfl,rfl,by simp,fun b hb hx=>Below.heap_setCell w p v b (fun e=>hx (e▸hp)),Nat.le_refl _⟩
theorem Chg.mono {X Y:Nat→Prop}{w w' :World}(h:Chg X w w')(hxy:∀b,X b→Y b):Chg Y w w' :=⟨h.os,h.tape,h.output,h.size,fun b hb hy=>h.same b hb fun hx=>hy (hxy b hx),h.drawn⟩
theorem Chg.trans {K X:Nat→Prop}{W w w' :World}(h:Chg K W w)(h' :Chg X w w')(hx:∀b,X b→K b∨W.heap.size≤b):Chg K W w' :=
 ⟨h'.os.trans h.os,h'.tape.trans h.tape,h'.output.trans h.output,Nat.le_trans h.size h'.size,fun b hb hk=>
  (h'.same b (Nat.lt_of_lt_of_le hb h.size) (fun hxb=>(hx b hxb).elim hk (fun hle=>by omega))).trans (h.same b hb hk),Nat.le_trans h.drawn h'.drawn⟩
structure Sh (K:Nat→Prop)(W w:World)(L:List Asn):Prop where
 chg:Chg K W w
 ok:∀A∈L,A.ok w
 mine:∀A∈L,∀b,A.fp b→K b∨W.heap.size≤b
 self:∀A∈L,∀b,A.fp b→¬A.rd b
 apart:L.Pairwise Asn.Apart
abbrev Sh0 :=Sh (fun _=>False)
section
variable {K:Nat→Prop}{W w w' :World}{L:List Asn}
theorem Sh.lt (h:Sh K W w L){A:Asn}(hA:A∈L){b:Nat}(hb:A.fp b∨A.rd b):b<w.heap.size:=A.lt w (h.ok A hA) b hb
theorem Sh.step {Lp Lr L' :List Asn}(h:Sh K W w (Lp++Lr))(hc:Chg (fun b=>∃A∈Lp,A.fp b) w w')
  (hok:∀A∈L',A.ok w')
  (hfp:∀A∈L',∀b,A.fp b→(∃B∈Lp,B.fp b)∨w.heap.size≤b)
  (hrd:∀A∈L',∀b,A.rd b→(∃B∈Lp,B.fp b∨B.rd b)∨(∃B∈Lr,B.rd b)∨w.heap.size≤b)
  (hself:∀A∈L',∀b,A.fp b→¬A.rd b) (hap:L'.Pairwise Asn.Apart):Sh K W w' (L' ++Lr):=by
 have hpr:∀A∈Lp,∀B∈Lr,A.Apart B:=fun A hA B hB=>(List.pairwise_append.1 h.apart).2.2 A hA B hB
 have hrr:Lr.Pairwise Asn.Apart:=(List.pairwise_append.1 h.apart).2.1
 have hrest:∀B∈Lr,∀b,B.fp b∨B.rd b→¬∃A∈Lp,A.fp b:=by
  rintro B hB b hb ⟨A,hA,hAb⟩
  have:=hpr A hA B hB b
  exact hb.elim (this.1 hAb).1 (this.1 hAb).2
 refine ⟨h.chg.trans hc ?_, ?_, ?_, ?_, ?_⟩
 ·rintro b ⟨A,hA,hb⟩
  exact h.mine A (List.mem_append.2 (.inl hA)) b hb
 ·intro A hA
  rcases List.mem_append.1 hA with hA|hA
  ·exact hok A hA
  ·exact A.keep w w' (h.ok A (List.mem_append.2 (.inr hA))) fun b hb=>hc.same b (h.lt (List.mem_append.2 (.inr hA)) hb) (hrest A hA b hb)
 ·intro A hA b hb
  rcases List.mem_append.1 hA with hA|hA
  ·rcases hfp A hA b hb with ⟨B,hB,hBb⟩|hle
   ·exact h.mine B (List.mem_append.2 (.inl hB)) b hBb
   ·exact .inr (Nat.le_trans h.chg.size hle)
  ·exact h.mine A (List.mem_append.2 (.inr hA)) b hb
 ·intro A hA
  rcases List.mem_append.1 hA with hA|hA
  ·exact hself A hA
  ·exact h.self A (List.mem_append.2 (.inr hA))
 ·refine List.pairwise_append.2 ⟨hap,hrr,fun A hA B hB b=>⟨fun ha=> ?_,fun hb ha=> ?_⟩⟩
  ·rcases hfp A hA b ha with ⟨C,hC,hCb⟩|hle
   ·exact (hpr C hC B hB b).1 hCb
   ·exact ⟨fun hb=>by have:=h.lt (List.mem_append.2 (.inr hB)) (.inl hb);omega,fun hb=>by have:=h.lt (List.mem_append.2 (.inr hB)) (.inr hb);omega⟩
  ·rcases hrd A hA b ha with ⟨C,hC,hCb⟩|⟨C,hC,hCb⟩|hle
   ·exact hCb.elim (fun hCb=>((hpr C hC B hB b).1 hCb).1 hb) ((hpr C hC B hB b).2 hb)
   ·by_cases hcb:C=B
    ·subst hcb
     exact h.self C (List.mem_append.2 (.inr hC)) b hb hCb
    ·rcases apart_of_mem hrr hC hB with e|hap
     ·exact hcb e
     ·exact (hap b).2 hb hCb
   ·have:=h.lt (List.mem_append.2 (.inr hB)) (.inl hb);omega
theorem Sh.drew (h:Sh K W w L):Sh K W w.drew L:=by
 have:=Sh.step (Lp:= []) (Lr:=L) (L' := []) (w' :=w.drew) h (Chg.drew _ w) (by simp) (by simp) (by simp) (by simp) .nil
 simpa using this
theorem Sh.sel {L' :List Asn}(h:Sh K W w L)(is:List Nat)(hsel:selB L is=some L'):Sh K W w L' :=by
 obtain ⟨hnd,hs⟩:is.Nodup∧selOK L is L' :=by
  unfold selB at hsel
  split at hsel
  ·rename_i hn;exact ⟨nodB_ok hn,selL9_ok hsel⟩
  ·cases hsel
 have hm:∀A∈L',A∈L:=by
  intro A hA
  obtain ⟨k,hk⟩:=List.getElem?_of_mem hA
  obtain ⟨i,_,hi⟩:=selOK_at hs k A hk
  exact List.mem_of_getElem? hi
 refine ⟨h.chg,fun A hA=>h.ok A (hm A hA),fun A hA=>h.mine A (hm A hA),fun A hA=>h.self A (hm A hA), ?_⟩
 rw [List.pairwise_iff_getElem]
 intro p q hp hq hpq
 obtain ⟨i,hi1,hi2⟩:=selOK_at hs p _ (List.getElem?_eq_getElem hp)
 obtain ⟨j,hj1,hj2⟩:=selOK_at hs q _ (List.getElem?_eq_getElem hq)
 have hij:i≠j:=by
  intro e
  subst e
  obtain ⟨hpi,e1⟩:=List.getElem?_eq_some_iff.1 hi1
  obtain ⟨hqi,e2⟩:=List.getElem?_eq_some_iff.1 hj1
  exact List.pairwise_iff_getElem.1 hnd p q hpi hqi hpq (e1.trans e2.symm)
 obtain ⟨li,e1⟩:=List.getElem?_eq_some_iff.1 hi2
 obtain ⟨lj,e2⟩:=List.getElem?_eq_some_iff.1 hj2
 have hpw:=List.pairwise_iff_getElem.1 h.apart
 rw [←e1,←e2]
 rcases Nat.lt_or_gt_of_ne hij with hlt|hgt
 ·exact hpw i j li lj hlt
 ·exact (hpw j i lj li hgt).symm
theorem Sh.push (h:Sh K W w L){A:Asn}(hc:Chg (fun _=>False) w w')(hok:A.ok w')(hfp:∀b,A.fp b→w.heap.size≤b)(hrd:∀b,A.rd b→(∃B∈L,B.rd b)∨w.heap.size≤b)(hself:∀b,A.fp b→¬A.rd b):Sh K W w' (A::L):=
 Sh.step (Lp:= []) (Lr:=L) (L' := [A]) h (hc.mono fun _ h=>h.elim) (by simpa using hok) (by simpa using fun b hb=>hfp b hb) (by simpa using fun b hb=>hrd b hb) (by simpa using hself) (List.pairwise_singleton _ _)
theorem Sh.put (h:Sh K W w L){i:Nat}{A A' :Asn}(hi:L[i]? =some A)(hc:Chg A.fp w w')(hok:A'.ok w')(hfp:∀b,A'.fp b→A.fp b∨w.heap.size≤b)
  (hrd:∀b,A'.rd b→A.fp b∨A.rd b∨(∃B∈L,B.rd b)∨w.heap.size≤b) (hself:∀b,A'.fp b→¬A'.rd b):Sh K W w' (L.set i A'):=by
 obtain ⟨hlt,rfl⟩:=List.getElem?_eq_some_iff.1 hi
 have h1:Sh K W w ([L[i]]++L.eraseIdx i):=by
  refine ⟨h.chg,fun A hA=>h.ok A ?_,fun A hA=>h.mine A ?_,fun A hA=>h.self A ?_, ?_⟩
  ·simp only [List.singleton_append,List.mem_cons] at hA;exact hA.elim (fun e=>e▸List.getElem_mem _) List.mem_of_mem_eraseIdx
  ·simp only [List.singleton_append,List.mem_cons] at hA;exact hA.elim (fun e=>e▸List.getElem_mem _) List.mem_of_mem_eraseIdx
  ·simp only [List.singleton_append,List.mem_cons] at hA;exact hA.elim (fun e=>e▸List.getElem_mem _) List.mem_of_mem_eraseIdx
  ·refine (List.Perm.pairwise_iff (fun {x y} hxy=>hxy.symm) ?_).1 h.apart
   exact perm_erase L i hlt
 have h2:=Sh.step (L' := [A']) h1 (hc.mono fun b hb=>⟨_,by simp,hb⟩) (by simpa using hok) (by simpa using hfp) (by
  intro A hA b hb
  simp only [List.mem_singleton] at hA
  subst hA
  rcases hrd b hb with hb|hb|⟨B,hB,hb⟩|hb
  ·exact .inl ⟨_,by simp, .inl hb⟩
  ·exact .inl ⟨_,by simp, .inr hb⟩
  ·by_cases e:B=L[i]
   ·subst e;exact .inl ⟨_,by simp, .inr hb⟩
   ·refine .inr (.inl ⟨B, ?_,hb⟩)
    have:=(perm_erase L i hlt).mem_iff.1 hB
    simpa [e] using this
  ·exact .inr (.inr hb)) (by simpa using hself) (List.pairwise_singleton _ _)
 refine ⟨h2.chg,fun A hA=>h2.ok A ?_,fun A hA=>h2.mine A ?_,fun A hA=>h2.self A ?_, ?_⟩
 all_goals try (have hp:=perm_set A' L i hlt;exact hp.mem_iff.1 hA)
 exact (List.Perm.pairwise_iff (fun {x y} hxy=>hxy.symm) (perm_set A' L i hlt).symm).1 h2.apart
end
section
variable {K:Nat→Prop}{W w w' :World}{L:List Asn}{α:Type}[Enc α]
theorem Sh.at (h:Sh K W w L)(i:Nat){s:Ls α}(hi:L[i]? =some (.at_ s)):s.At w:=h.ok _ (List.mem_of_getElem? hi)
theorem Sh.blk (h:Sh K W w L)(i:Nat){g:Nat}{E:TypeId}{cs:List Value}(hi:L[i]? =some (.blk g E cs)):Blk w g E cs.toArray:=h.ok _ (List.mem_of_getElem? hi)
theorem Sh.own (h:Sh K W w L)(i:Nat){E:TypeId}{s:Ls α}(hi:L[i]? =some (.own E s)):s.At w:=own_at (h.ok _ (List.mem_of_getElem? hi))
end
structure St (N:Nat)(K:Nat→Prop)(W:World)(a:Act)(w:World)(F:List (Nat×Value))(L:List Asn):Prop where
 fr:Fr N a F
 sh:Sh K W w L
section
variable {P:Program}{N:Nat}{K:Nat→Prop}{W w:World}{a:Act}{F F' :List (Nat×Value)}{L L' :List Asn}{o:Oper}{ops:Array Oper}{rest:List Oper}{Q:Exit→Act→World→Prop}
theorem St.sub (h:St N K W a w F L)(hs:frOK F F'):St N K W a w F' L:=⟨h.fr.sub hs,h.sh⟩
theorem St.sel (h:St N K W a w F L)(is:List Nat)(hs:selB L is=some L'):St N K W a w F L' :=⟨h.fr,h.sh.sel is hs⟩
theorem St.nf (h:St N K W a w F L)(hs:frOK F F'):St N K W a w F' L:=⟨h.fr.sub hs,h.sh⟩
theorem St.same {d:Nat}{v v' :Value}(h:St N K W a w F L)(hd:lk F d=some v)(e:v=v'):St N K W a w ((d,v')::F) L:=⟨h.fr.same hd e,h.sh⟩
theorem St.drew (h:St N K W a w F L):St N K W a w.drew F L:=⟨h.fr,h.sh.drew⟩
def Ex (P:Program)(o:Oper)(a:Act)(w:World)(R:Act→World→Prop):Prop:=∀(next:Act→World→Prop) (Q:Exit→Act→World→Prop),(∀a' w',R a' w' →next a' w')→o.wp P a w next Q
def Rn (P:Program)(o:Oper)(N:Nat)(K:Nat→Prop)(W:World)(F:List (Nat×Value))(L:List Asn)(v:Value):Prop:=∀a w,St N K W a w F L→(execOp a.eval o).run P w= .ok (.value v) w
theorem Ex.of_run {R:Act→World→Prop}{v:Value}{w' :World}(hr:(execOp a.eval o).run P w= .ok (.value v) w')(h:R (a.put o.dst v) w'):Ex P o a w R:=by
 intro next Q hn
 unfold Oper.wp
 rw [hr]
 exact hn _ _ h
theorem Ex.of_skip {R:Act→World→Prop}{w' :World}(hr:(execOp a.eval o).run P w= .ok .skip w')(h:R (a.put o.dst undef) w'):Ex P o a w R:=by
 intro next Q hn
 unfold Oper.wp
 rw [hr]
 exact hn _ _ h
theorem Ex.mono {R R' :Act→World→Prop}(h:Ex P o a w R)(hr:∀a' w',R a' w' →R' a' w'):Ex P o a w R' :=fun next Q hn=>h next Q fun a' w' x=>hn a' w' (hr a' w' x)
theorem wl_val {d:Nat}{v:Value}(h:St N K W a w F L)(hr:Rn P o N K W F L v)(hw:Region.wanted o (yielded ops a.tmps)=true)(hd:o.dst=some d)(hdN:Nat.blt d N=true)
  (k:∀a',St N K W a' w ((d,v)::F) L→wpList P ops Q rest a' w):wpList P ops Q (o::rest) a w:=by
 unfold wpList
 rw [if_pos hw]
 left
 unfold Oper.wp
 rw [hr a w h]
 exact k _ ⟨by rw [hd];exact h.fr.put d (by simpa [Nat.blt_eq] using hdN) v,h.sh⟩
theorem wv {d:Nat}{v:Value}(h:St N K W a w F L)(hr:Rn P o N K W F L v)(hd:o.dst=some d)(hc:okg o d N=true)
  (k:∀a',St N K W a' w ((d,v)::F) L→wpList P ops Q rest a' w):wpList P ops Q (o::rest) a w:=by
 simp only [okg,Bool.and_eq_true,Option.isNone_iff_eq_none] at hc
 exact wl_val h hr (wanted_none hc.1 _) hd hc.2 k
theorem wl_ex {R:Act→World→Prop}(hx:Ex P o a w R)(hw:Region.wanted o (yielded ops a.tmps)=true)(k:∀a' w',R a' w' →wpList P ops Q rest a' w'):wpList P ops Q (o::rest) a w:=by
 unfold wpList
 rw [if_pos hw]
 exact .inl (hx _ _ k)
theorem wl_skip {d:Nat}(h:St N K W a w F L)(hw:Region.wanted o (yielded ops a.tmps)=false)(hd:o.dst=some d)(hdN:Nat.blt d N=true)(k:∀a',St N K W a' w ((d,undef)::F) L→wpList P ops Q rest a' w):wpList P ops Q (o::rest) a w:=by
 unfold wpList
 rw [if_neg (by simp [hw])]
 exact k _ ⟨by rw [hd];exact h.fr.put d (by simpa [Nat.blt_eq] using hdN) undef,h.sh⟩
theorem wq_val {d:Nat}{v:Value}{Q:Act→Prop}(h:Fr N a F)(hr:Rn P o N K W F L v)(hw:Region.wanted o (yielded ops a.tmps)=true)(hd:o.dst=some d)(hdN:Nat.blt d N=true)
  (k:∀a',Fr N a' ((d,v)::F)→wpQuiet P ops (fun w=>Sh K W w L) Q rest a'):wpQuiet P ops (fun w=>Sh K W w L) Q (o::rest) a:=by
 unfold wpQuiet
 rw [if_pos hw]
 refine ⟨v,fun w hw=> ?_,k _ (by rw [hd];exact h.put d (by simpa [Nat.blt_eq] using hdN) v)⟩
 unfold Oper.quietAt
 rw [hr a w ⟨h,hw⟩]
 exact ⟨rfl,rfl⟩
theorem wq_skip {d:Nat}{Q:Act→Prop}(h:Fr N a F)(hw:Region.wanted o (yielded ops a.tmps)=false)(hd:o.dst=some d)(hdN:Nat.blt d N=true)
  (k:∀a',Fr N a' ((d,undef)::F)→wpQuiet P ops (fun w=>Sh K W w L) Q rest a'):wpQuiet P ops (fun w=>Sh K W w L) Q (o::rest) a:=by
 unfold wpQuiet
 rw [if_neg (by simp [hw])]
 exact k _ (by rw [hd];exact h.put d (by simpa [Nat.blt_eq] using hdN) undef)
theorem Rn.of {v:Value}(h:∀a w,St N K W a w F L→(execOp a.eval o).run P w= .ok (.value v) w):Rn P o N K W F L v:=h
theorem r_move {x:Operand}{v:Value}(ho:o.op= .move x)(hx:ev F x=some v):Rn P o N K W F L v:=fun a w h=>by unfold execOp;simp [ho,h.fr.ev hx]
theorem r_assign {x:Operand}{v:Value}(ho:o.op= .assign x)(hx:ev F x=some v):Rn P o N K W F L v:=fun a w h=>by unfold execOp;simp [ho,h.fr.ev hx]
section
variable {T U:TypeId}{x y:Operand}
theorem r_bin {op:BinOp}{k:IntKind}{p q:Int}{v:Value}(ho:o.op= .binOp op T x y U)(hx:ev F x=some (.int k p))(hy:ev F y=some (.int k q))(hv:∀w,(binOp op T (.int k p) (.int k q)).run P w= .ok v w):Rn P o N K W F L v:=fun a w h=>by
 unfold execOp;simp only [ho,h.fr.ev hx,h.fr.ev hy,eqGuard_at_int,Sem.run_bind,Sem.run_pure,Result.andThen_ok,hv]
theorem r_addW {p q:Int}(ho:o.op= .binOp .add T x y U)(hx:ev F x=some (.int .i64 p))(hy:ev F y=some (.int .i64 q)):Rn P o N K W F L (.int .i64 (wrap64 (p+q))):=r_bin ho hx hy fun w=>by simp [go_sem];exact IntWalk.i64_left _
theorem r_addI {p q:Int}(ho:o.op= .binOp .add T x y U)(hx:ev F x=some (.int .i64 p))(hy:ev F y=some (.int .i64 q))(hb: -9223372036854775808≤p+q∧p+q<9223372036854775808):Rn P o N K W F L (.int .i64 (p+q)):=by
 have:=r_addW (P:=P) (N:=N) (K:=K) (W:=W) (L:=L) ho hx hy;rwa [IntWalk.wrap64_in _ ⟨by omega,by omega⟩] at this
theorem r_addN {p q:Nat}(ho:o.op= .binOp .add T x y U)(hx:ev F x=some (.int .i64 (p:Int)))(hy:ev F y=some (.int .i64 (q:Int)))(hb:p+q<9223372036854775808):Rn P o N K W F L (.int .i64 ((p+q:Nat):Int)):=by
 rw [Int.natCast_add];exact r_addI ho hx hy (by omega)
theorem r_lssI {k:IntKind}{p q:Int}(ho:o.op= .binOp .lss T x y U)(hx:ev F x=some (.int k p))(hy:ev F y=some (.int k q)):Rn P o N K W F L (.bool (decide (p<q))):=r_bin ho hx hy fun w=>by simp [go_sem]
theorem r_gtrI {k:IntKind}{p q:Int}(ho:o.op= .binOp .gtr T x y U)(hx:ev F x=some (.int k p))(hy:ev F y=some (.int k q)):Rn P o N K W F L (.bool (decide (q<p))):=r_bin ho hx hy fun w=>by simp [go_sem]
theorem r_geqI {k:IntKind}{p q:Int}(ho:o.op= .binOp .geq T x y U)(hx:ev F x=some (.int k p))(hy:ev F y=some (.int k q)):Rn P o N K W F L (.bool (decide (q≤p))):=r_bin ho hx hy fun w=>by simp [go_sem]
theorem r_neqI {k:IntKind}{p q:Int}(ho:o.op= .binOp .neq T x y U)(hx:ev F x=some (.int k p))(hy:ev F y=some (.int k q)):Rn P o N K W F L (.bool (decide (p≠q))):=r_bin ho hx hy fun w=>by
 simp [go_sem,bne];rfl
theorem r_lssN {k:IntKind}{p q:Nat}(ho:o.op= .binOp .lss T x y U)(hx:ev F x=some (.int k (p:Int)))(hy:ev F y=some (.int k (q:Int))):Rn P o N K W F L (.bool (decide (p<q))):=by
 have:=r_lssI (P:=P) (N:=N) (K:=K) (W:=W) (L:=L) ho hx hy;simpa using this
end
end
section
variable {P:Program}{N:Nat}{K:Nat→Prop}{W w:World}{a:Act}{F F' :List (Nat×Value)}{L L' :List Asn}{o:Oper}{ops:Array Oper}{rest:List Oper}{Q:Exit→Act→World→Prop}
theorem r_fieldB {T:TypeId}{x:Operand}{f k g q r:Nat}(hT:flI P T f=some k)(ho:o.op= .fieldAddr T x f)(hx:ev F x=some (.pointer (some ⟨g,q,none⟩)))(hr:q+k=r):Rn P o N K W F L (.pointer (some ⟨g,r,none⟩)):=fun a w h=>by
 subst hr
 unfold execOp;simp only [ho,h.fr.ev hx,Sem.run_bind,run_fieldAt hT,Addr.add_lit,Result.andThen_ok,Sem.run_pure]
section
variable {α:Type}[Enc α]
theorem r_ixI {T e:TypeId}{g:Bool}{n by_:Nat}{z:List Value}{s:Ls α}{kd:IntKind}{q:Int}{x y:Operand}(hT:slI P T=some e)(he:tyI P e=some (g,n,by_,z))(ho:o.op= .indexAddr T x y)(hx:ev F x=some s.v)(hy:ev F y=some (.int kd q))(hat:∀w,Sh K W w L→s.At w)
  (hb:0≤q∧q<s.l.length):Rn P o N K W F L (.pointer (some (padr s.v n q.toNat 0))):=fun a w h=>by
 unfold execOp;simp only [ho,h.fr.ev hx,h.fr.ev hy,Sem.run_bind,run_index hT he (hat w h.sh) hb.1 hb.2,Result.andThen_ok,Sem.run_pure]
theorem r_ixN {T e:TypeId}{g:Bool}{n by_:Nat}{z:List Value}{s:Ls α}{kd:IntKind}{q:Nat}{x y:Operand}(hT:slI P T=some e)(he:tyI P e=some (g,n,by_,z))(ho:o.op= .indexAddr T x y)(hx:ev F x=some s.v)(hy:ev F y=some (.int kd (q:Int)))(hat:∀w,Sh K W w L→s.At w)
  (hb:q<s.l.length):Rn P o N K W F L (.pointer (some (padr s.v n q 0))):=by
 simpa using r_ixI (P:=P) (N:=N) (K:=K) (W:=W) (L:=L) hT he ho hx hy hat ⟨by omega,by omega⟩
theorem r_len {T e:TypeId}{s:Ls α}{x:Operand}{n:Nat}(hT:slI P T=some e)(ho:o.op= .call ⟨.builtin .len, #[x], #[T]⟩)(hx:ev F x=some s.v)(hat:∀w,Sh K W w L→s.At w)(hn:s.l.length=n):Rn P o N K W F L (.int .i64 (n:Int)):=fun a w h=>by
 subst hn
 obtain ⟨A,cap,hv,_⟩:=hat w h.sh
 have hu:=slI_parts hT
 have hel:P.elem T=e:=by simp [Program.elem,hu]
 unfold execOp
 have e1:=h.fr.ev hx
 rw [hv] at e1
 simp [ho,resolve,invoke,builtin,e1,run_len_slice _ _ _ _ _ _ (show P.underlying T=some (.slice (P.elem T)) by rw [hel];exact hu),goInt]
theorem r_ldb {T:TypeId}{n by_:Nat}{z:List Value}{x:Operand}{g q i:Nat}{E:TypeId}{cs:List Value}{v:Value}(hT:tyI P T=some (false,n,by_,z))(ho:o.op= .load T x)(hx:ev F x=some (.pointer (some ⟨g,q,none⟩)))
  (hi:L[i]? =some (.blk g E cs)) (hv:cs[q]? =some v):Rn P o N K W F L v:=fun a w h=>by
 have hc:w.cell? ⟨g,q,none⟩=some v:=by rw [(h.sh.blk i hi).cell q];simpa using hv
 unfold execOp;simp only [ho,h.fr.ev hx,Sem.run_bind,run_load1 hT hc,Result.andThen_ok,Sem.run_pure]
theorem r_lde {T:TypeId}{n by_:Nat}{z:List Value}{x:Operand}{i j sz:Nat}{s:Ls α}{v:Value}(hT:tyI P T=some (false,n,by_,z))(ho:o.op= .load T x)(hx:ev F x=some (.pointer (some (padr s.v sz i j))))
  (hsz:Enc.sz α=sz) (hat:∀w,Sh K W w L→s.At w) (hi:i<s.l.length) (hj:j<sz) (hv:Enc.cell (nth s.l i) j=v):Rn P o N K W F L v:=fun a w h=>by
 subst hsz
 have hc:=(hat w h.sh).cell i j hi hj
 rw [hv] at hc
 unfold execOp;simp only [ho,h.fr.ev hx,Sem.run_bind,run_load1 hT hc,Result.andThen_ok,Sem.run_pure]
end
theorem St.push_blk {d g:Nat}{v:Value}{T:TypeId}{cs:List Value}(h:St N K W a w F L)(hd:Nat.blt d N=true):
  St N K W (a.put (some d) (.pointer (some ⟨w.heap.size,0,none⟩))) (w.alloc (.cells cs.toArray T)) ((d, .pointer (some ⟨w.heap.size,0,none⟩))::F) (.blk w.heap.size T cs::L):=
 ⟨h.fr.put d (by simpa [Nat.blt_eq] using hd) _,h.sh.push (Chg.alloc _ w _) (Blk.new w T cs.toArray) (fun b hb=>by rw [show b=w.heap.size from hb];exact Nat.le_refl _) (fun b hb=>hb.elim) (fun b _ hb=>hb)⟩
theorem x_box {d:Nat}{T:TypeId}{x:Operand}{v:Value}{cs:List Value}(h:St N K W a w F L)(ho:o.op= .box T x)(hx:ev F x=some v)(hv:v.cells=cs.toArray)(hd:o.dst=some d)(hdN:Nat.blt d N=true):
  Ex P o a w (fun a' w' =>∃b:Nat,St N K W a' w' ((d, .pointer (some ⟨b,0,none⟩))::F) (.blk b T cs::L)):=by
 refine Ex.of_run (v:= .pointer (some ⟨w.heap.size,0,none⟩)) (w' :=w.alloc (.cells cs.toArray T)) ?_ ⟨w.heap.size, ?_⟩
 ·unfold execOp
  simp only [ho,h.fr.ev hx,Instr.box,newVar,newRow,hv,Sem.run_bind,run_newObj,Result.andThen_ok,Sem.run_pure]
  rfl
 ·rw [hd];exact h.push_blk (g:=0) (v:=undef) hdN
end
section
variable {P:Program}{N:Nat}{K:Nat→Prop}{W w:World}{a:Act}{F F' :List (Nat×Value)}{L L' :List Asn}{o:Oper}{ops:Array Oper}{rest:List Oper}{Q:Exit→Act→World→Prop}
section
variable {α:Type}[Enc α]
theorem x_ste {T:TypeId}{gg:Bool}{by_:Nat}{z:List Value}{x y:Operand}{i j sz r:Nat}{E:TypeId}{s:Ls α}{x' :α}{v:Value}(h:St N K W a w F L)(hT:tyI P T=some (gg,1,by_,z))(ho:o.op= .store T x y)(hd:o.dst=none)
  (hx:ev F x=some (.pointer (some (padr s.v sz i j)))) (hsz:Enc.sz α=sz) (hr:L[r]? =some (.own E s)) (hi:i<s.l.length) (hj:j<sz) (hy:ev F y=some v) (hv:v.cells.toList= [v]) (h1:v.oneCell' =true)
  (hc:∀q,q<sz→Enc.cell x' q=if q=j then v else Enc.cell (nth s.l i) q)
  (hin:∀w,Sh K W w L→Enc.inner x' w) (hon:∀b,Enc.on x' b→s.v.ownBlock≠some b∧∃B∈L,B.rd b):
  Ex P o a w (fun a' w' =>St N K W a' w' F (L.set r (.own E ⟨s.v,s.l.set i x'⟩))):=by
 subst hsz
 obtain ⟨ti,e,zv,hti,he,_,hs,_⟩:=tyI_parts hT
 have hok:=h.sh.ok _ (List.mem_of_getElem? hr)
 obtain ⟨hown,hlen,hinn⟩:=hok
 rcases hown.2 with ⟨_,h0⟩|⟨g,cap,cur,hsv,hb0,hg,hn,hm,hcs,htk⟩
 ·omega
 have hp:padr s.v (Enc.sz α) i j=⟨g,i*Enc.sz α+j,none⟩:=by rw [hsv];simp [padr,vblk,voff]
 have hat:=own_at (h.sh.ok _ (List.mem_of_getElem? hr))
 have hcell:=hat.cell i j hi hj
 rw [hp] at hcell
 have hfz:w.frozen? ⟨g,i*Enc.sz α+j,none⟩=false:=frozen_of_row w g _ cur E hg
 refine Ex.of_skip (w' :=w.setCell ⟨g,i*Enc.sz α+j,none⟩ v) ?_ ?_
 ·unfold execOp
  have hcz:v.cells.size=ti.size:=by rw [hs,←Array.length_toList,hv];rfl
  simp only [ho,h.fr.ev hx,h.fr.ev hy,Instr.storeAt,Instr.sureAddr,storeVar,Sem.run_bind,Sem.run_pure,Result.andThen_ok,run_sizeOf hti,hcz,hp]
  simp [hv,storeCells,run_store P w _ v _ h1,hcell,hfz,Addr.add_zero']
 ·rw [hd]
  have hst:=World.ownsRow.stored (w:=w) (base:=0) (e:=E) (size:=Enc.sz α) (n:=s.l.length) (xs:=encL s.l) (g:=g) (cap:=cap) (by rw [←hsv];exact hown) (i*Enc.sz α+j) v
  have hfp:(Asn.own E s).fp g:=by show s.v.ownBlock=some g;rw [hsv];rfl
  have hse:=h.sh.self _ (List.mem_of_getElem? hr)
  refine ⟨h.fr,h.sh.put hr (Chg.setCell w _ hfp v) ⟨?_,by simpa using hlen,fun q hq=> ?_⟩ (fun b hb=> .inl hb) (fun b hb=> ?_) (fun b hb hb' => ?_)⟩
  ·show World.ownsRow _ 0 E (Enc.sz α) s.v (s.l.set i x').length (encL (s.l.set i x'))
   rw [encL_set s.l i j x' v hi hj hc,List.length_set,hsv]
   exact hst.1
  ·have key:∀y:α,Enc.inner y w→(∀b,Enc.on y b→g≠b)→Enc.inner y (w.setCell ⟨g,i*Enc.sz α+j,none⟩ v):=fun y hy hb=>
    Enc.keep y w _ hy fun b hb' =>Below.heap_setCell w _ v b (fun e=>hb b hb' e.symm)
   have hq' :q<s.l.length:=by simpa using hq
   show Enc.inner (nth (s.l.set i x') q) _
   rw [nth_set]
   split
   ·exact key _ (hin w h.sh) fun b hb e=>(hon b hb).1 (by rw [hsv,e];rfl)
   ·exact key _ (hinn q hq') fun b hb e=>hse g hfp ⟨q,hq',e▸hb⟩
  ·obtain ⟨q,hq,hb⟩:=hb
   simp only [nth_set] at hb
   split at hb
   ·exact .inr (.inr (.inl (hon b hb).2))
   ·exact .inr (.inl ⟨q,by simpa using hq,hb⟩)
  ·obtain ⟨q,hq,hb'⟩:=hb'
   simp only [nth_set] at hb'
   split at hb'
   ·exact (hon b hb').1 hb
   ·exact hse b hb ⟨q,by simpa using hq,hb'⟩
theorem x_lit {d:Nat}{T e:TypeId}{gg:Bool}{sz by_ n:Nat}{z:List Value}{parts:List (Nat×Operand)}{pv:List (Nat×Value)}{cs:List Value}(l:List α)(h:St N K W a w F L)(hT:slI P T=some e)(he:tyI P e=some (gg,sz,by_,z))(ho:o.op= .buildSlice T n parts.toArray)
  (hn:l.length=n) (hsz:Enc.sz α=sz) (hpos:0<n*sz∧n*sz≤1000) (hx:evp F parts=some pv)
  (hf:Instr.fill (fun i=>some (i*sz,sz)) ((Array.range (n*sz)).map (z.toArray[· %z.toArray.size]!)) pv=some cs.toArray) (hcs:cs=encL l)
  (hin:∀q,q<l.length→∀w,Sh K W w L→Enc.inner (nth l q) w) (hon:∀q,q<l.length→∀b,Enc.on (nth l q) b→∃B∈L,B.rd b) (hd:o.dst=some d) (hdN:Nat.blt d N=true):
  Ex P o a w (fun a' w' =>∃v:Value,St N K W a' w' ((d,v)::F) (.own e (⟨v,l⟩:Ls α)::L)):=by
 subst hsz
 subst hn
 obtain ⟨i,ed,zv,hi,hed,_,hsz,hby,hzz,hzc⟩:=tyI_parts he
 have hzv:zv.cells=z.toArray:=by rw [←hzc]
 have hsp:0<Enc.sz α:=Nat.pos_of_ne_zero (by rintro e;simp [e] at hpos)
 have hl1:l.length≤1000:=Nat.le_trans (Nat.le_mul_of_pos_right l.length hsp) hpos.2
 have hrun:=run_buildSlice (P:=P) w T e l.length (parts.toArray.map fun (i,x)=>(i,a.eval x)) cs.toArray i zv (slI_parts hT) hi hzz (by rw [hsz];omega) (by rw [hsz];omega) (by rw [hsz,hzv,h.fr.evp hx];exact hf)
 refine Ex.of_run (v:= .slice (some ⟨w.heap.size,0,none⟩) l.length l.length) (w' :=w.alloc (.cells cs.toArray e)) ?_ ⟨.slice (some ⟨w.heap.size,0,none⟩) l.length l.length, ?_⟩
 ·unfold execOp
  simp only [ho,Sem.run_bind,hrun,Result.andThen_ok,Sem.run_pure]
 ·rw [hd]
  have hold:∀q,q<l.length→∀b,Enc.on (nth l q) b→b<w.heap.size:=fun q hq b hb=>Enc.lt _ w (hin q hq w h.sh) b hb
  refine ⟨h.fr.put d (by simpa [Nat.blt_eq] using hdN) _,h.sh.push (Chg.alloc _ w _) ⟨⟨by rw [length_encL], .inr ⟨w.heap.size,l.length,cs.toArray,rfl,Nat.zero_le _,Go.heap_alloc_new w _,Nat.le_refl _,by unfold maxLen;omega, ?_, ?_⟩⟩,by show l.length≤_;omega,fun q hq=> ?_⟩ (fun b hb=> ?_) (fun b hb=> ?_) (fun b hb hb' => ?_)⟩
  ·simp [hcs,length_encL]
  ·simp only [hcs];rw [List.take_of_length_le (by rw [length_encL];exact Nat.le_refl _)]
  ·exact Enc.keep _ w _ (hin q hq w h.sh) fun b hb=>Below.heap_alloc w _ b (hold q hq b hb)
  ·have:w.heap.size=b:=by simpa [Asn.own,Value.ownBlock] using hb
   omega
  ·obtain ⟨q,hq,hb⟩:=hb
   exact .inl (hon q hq b hb)
  ·have:w.heap.size=b:=by simpa [Asn.own,Value.ownBlock] using hb
   obtain ⟨q,hq,hb'⟩:=hb'
   have:=hold q hq b hb'
   omega
theorem Sh.nil (E:TypeId)(h:Sh K W w L):Sh K W w (.own E (⟨.slice none 0 0, []⟩:Ls α)::L):=
 h.push (Chg.refl _ _) ⟨World.ownsRow_nil w 0 E (Enc.sz α),Nat.zero_le _,fun i hi=>absurd hi (by simp)⟩ (fun b hb=>by simp [Asn.own,Value.ownBlock] at hb) (fun b hb=>by obtain ⟨i,hi,_⟩:=hb;exact absurd hi (by simp)) (fun b hb=>by simp [Asn.own,Value.ownBlock] at hb)
theorem St.nil {α:Type}[Enc α](E:TypeId)(h:St N K W a w F L):St N K W a w F (.own E (⟨.slice none 0 0, []⟩:Ls α)::L):=⟨h.fr,h.sh.nil E⟩
end
theorem call_wp {f:FuncId}{fo:Operand}{xs:List Operand}{tys:Array TypeId}{us vs ws:List Value}{R:Value→World→Prop}(h:Fr N a F)(hb:bodyI P f=true)(ho:o.op= .call ⟨.value fo,xs.toArray,tys⟩)(hf:ev F fo=some (.func (.func f) us.toArray ws.toArray))
  (hx:evs F xs=some vs) (hc:Rets P f (us++vs++ws) w R):Ex P o a w (fun a' w' =>∃v,R v w' ∧a' =a.put o.dst v):=by
 intro next Q hn
 unfold Oper.wp
 have hrun:(execOp a.eval o).run P w= .ok (.enter f (us++vs++ws).toArray) w:=by
  unfold execOp
  simp [ho,resolve,h.ev hf,h.evs hx,Deferred.ofValue,invoke,run_callFunc hb]
 rw [hrun]
 show Calls P f (us++vs++ws).toArray w _
 exact Calls.mono hc fun e w' ⟨v,he,hr⟩=>by subst he;exact hn _ _ ⟨v,hr,rfl⟩
theorem x_call {d f:Nat}{fo:Operand}{xs:List Operand}{tys:Array TypeId}{us vs ws:List Value}{R:Value→World→Prop}(h:St N K W a w F L)(hb:bodyI P f=true)(ho:o.op= .call ⟨.value fo,xs.toArray,tys⟩)(hf:ev F fo=some (.func (.func f) us.toArray ws.toArray))
  (hx:evs F xs=some vs) (hd:o.dst=some d) (hdN:Nat.blt d N=true) (hc:Rets P f (us++vs++ws) w R):Ex P o a w (fun a' w' =>∃v,R v w' ∧Fr N a' ((d,v)::F)):=
 (call_wp h.fr hb ho hf hx hc).mono fun a' w' ⟨v,hr,e⟩=>⟨v,hr,by rw [e,hd];exact h.fr.put d (by simpa [Nat.blt_eq] using hdN) v⟩
theorem Sh.call {w' :World}(h:Sh K W w L)(h' :Sh0 w w' L')(hrd:∀A∈L',∀b,A.rd b→w.heap.size≤b∨∃B∈L,B.rd b):Sh K W w' (L' ++L):=
 Sh.step (Lp:= []) (Lr:=L) (L' :=L') h (h'.chg.mono fun _ h=>h.elim) h'.ok (fun A hA b hb=> .inr ((h'.mine A hA b hb).resolve_left (fun h=>h)))
  (fun A hA b hb=>(hrd A hA b hb).elim (fun h=> .inr (.inr h)) (fun h=> .inr (.inl h))) h'.self h'.apart
theorem Sh.call0 {w' :World}(h:Sh K W w L)(h' :Sh0 w w' []):Sh K W w' L:=h.call h' (by simp)
theorem Sh0.start (w:World):Sh0 w w []:=⟨Chg.refl _ _,by simp,by simp,by simp, .nil⟩
theorem Sh0.ext {w:World}{L:List Asn}(hok:∀A∈L,A.ok w)(hfp:∀A∈L,∀b,¬A.fp b):Sh0 w w L:=by
 refine ⟨Chg.refl _ _,hok,fun A hA b hb=>(hfp A hA b hb).elim,fun A hA b hb=>(hfp A hA b hb).elim, ?_⟩
 rw [List.pairwise_iff_getElem]
 intro i j hi hj _ b
 exact ⟨fun h=>(hfp _ (List.getElem_mem hi) b h).elim,fun h=>(hfp _ (List.getElem_mem hj) b h).elim⟩
section
variable {α β γ δ:Type}[Enc α][Enc β][Enc γ][Enc δ]{s:Ls α}{t:Ls β}{u:Ls γ}{v:Ls δ}{w:World}
theorem Sh0.ext1 (h1:s.At w):Sh0 w w [.at_ s]:=Sh0.ext (by intro A hA;simp at hA;subst hA;exact h1) (by intro A hA b hb;simp at hA;subst hA;exact hb)
theorem Sh0.ext2 (h1:s.At w)(h2:t.At w):Sh0 w w [.at_ s, .at_ t]:=Sh0.ext (by intro A hA;simp at hA;rcases hA with rfl|rfl;exact h1;exact h2) (by intro A hA b hb;simp at hA;rcases hA with rfl|rfl<;>exact hb)
end
theorem x_cond {c:Operand}{x y:Code}{b:Bool}(h:St N K W a w F L)(hc:ev F c=some (.bool b))(ht:b=true→x.wp P Q a w)(hf:b=false→y.wp P Q a w):(Code.cond c x y).wp P Q a w:=wp_cond_split (h.fr.ev hc) ht hf
theorem x_condF {c:Operand}{x y:Code}{b:Bool}(h:St N K W a w F L)(hc:ev F c=some (.bool b))(hb:b=false)(hf:y.wp P Q a w):(Code.cond c x y).wp P Q a w:=by subst hb;exact wp_cond_false (h.fr.ev hc) hf
theorem x_ret1 {fn:Func}{t:Nat}{v:Value}{R:Value→World→Prop}(hs:fn.results= #[.tmp t])(h:St N K W a w F L)(ht:lk F t=some v)(hR:R v w):bodyPost P fn (fun e w' =>∃v,e= .returned v∧R v w') .ret a w:=by
 refine ⟨h.fr.defers,v, ?_,v,rfl,hR⟩
 rw [results_tmp hs]
 have:=h.fr.at_ t v ht
 simp [Array.getD_eq_getD_getElem?,this]
end
section
variable {P:Program}{N:Nat}{K:Nat→Prop}{W w:World}{a:Act}{F F' :List (Nat×Value)}{L L' :List Asn}{o:Oper}{Q:Exit→Act→World→Prop}
end
section
variable {P:Program}{N:Nat}{K:Nat→Prop}{W w:World}{a:Act}{F F' :List (Nat×Value)}{L L' B:List Asn}{o:Oper}{ops:Array Oper}{rest:List Oper}{Q:Exit→Act→World→Prop}
theorem Sh.back {w' :World}{A:Asn}(h:Sh K W w (A::L))(h' :Sh A.fp w w' L')(hrd:∀C∈L',∀b,C.rd b→(A.fp b∨A.rd b)∨(∃D∈L,D.rd b)∨w.heap.size≤b):Sh K W w' (L' ++L):=
 Sh.step (Lp:= [A]) (Lr:=L) (L' :=L') h (h'.chg.mono fun b hb=>⟨A,by simp,hb⟩) h'.ok (fun C hC b hb=>(h'.mine C hC b hb).imp (fun h=>⟨A,by simp,h⟩) (fun h=>h))
  (fun C hC b hb=>(hrd C hC b hb).imp (fun h=>⟨A,by simp,h⟩) (fun h=>h)) h'.self h'.apart
end
structure ThV where
 pc:Int
 rv:Value
 wv:Value
def ThV.cell (x:ThV):Nat→Value
 |0=> .int .i64 x.pc
 |1=>x.rv
 |_=>x.wv
section
variable {P:Program}{Q:Exit→Act→World→Prop}
variable {N:Nat}{K:Nat→Prop}{W w:World}{a:Act}{F:List (Nat×Value)}{L:List Asn}
theorem x_tail {id:Nat}{l:List Oper}(m:Nat)(ps:List Nat)(hm:P.follows .mixedOrders=true)(hB:tailB l m ps=true)(h:St N K W a w F L)
  (k:∀Z:Act→Prop,(∀a',(∀w',Sh K W w' L→wpList P l.toArray (fun e a w=>match e with| .normal=>Q .normal a w|_=>False) (l.drop m) a' w')→Z a')→wpQuiet P l.toArray (fun w' =>Sh K W w' L) Z (opsAt l.toArray ps++opsAt l.toArray (quietIs m ps)) a):(Code.region id l.toArray true).wp P Q a w:=by
 simp only [tailB,Bool.and_eq_true,Nat.ble_eq] at hB
 obtain ⟨h1,h2,h3,h4,h5,h6,h7⟩:=hB
 have hpm:∀p∈ps,p<m:=fun p hp=>by simpa using (List.all_eq_true.1 h5) p hp
 refine Code.wp_mono (Q:=fun e a w=>match e with| .normal=>Q .normal a w|_=>False) (fun e a w he=>by cases e<;>first|exact he|exact he.elim) ?_
 refine wp_region_any hm ?_
 split at h7
 ·rename_i lp hlp
  have hq:=k _ (fun _ h=>h)
  have hcl0:ClosedB l (fun j=>(Array.replicate l.length false).getD j false):=by
   intro i o _ hS;simp only [Array.getD_eq_getD_getElem?,Array.getElem?_replicate] at hS;split at hS<;>cases hS
  obtain ⟨c1,c2,c3,c4,c5⟩:=pureIs_spec ps _ lp hlp hcl0
  have hsz:lp.size=l.length:=by simpa using c2
  have hlen:l.toArray.size=((quietIs m ps).length+(l.length-m))+ps.length:=by
   have:=Nat.eq_of_beq_eq_true h6
   simp;omega
  rw [hlen]
  rw [show Array.replicate ((quietIs m ps).length+(l.length-m)+ps.length) false=Array.replicate l.length false by rw [←hlen];simp]
  refine any_pure (C:=fun w' =>Sh K W w' L) h4 (fun c a w h=>h) ps _ _ lp a w.drew h.sh.drew hlp hq fun a' hq' => ?_
  have h8:=anyQ_is (P:=P) h4 (quietIs m ps) _ a' h7 hq'
  have hot:∀j,j<l.length→(orTail lp m).getD j false=(lp.getD j false||Nat.ble m j):=by
   intro j hj
   simp [orTail,Array.getD_eq_getD_getElem?,hsz,hj]
  refine any_tail (C:=fun w' =>Sh K W w' L) hpm h1 h2 h3 _ lp (orTail lp m) a' w.drew h.sh.drew (c4 (by simp)) c1 hsz (by simp [orTail,hsz]) (fun j hj=> ?_) (fun j hj hj2=> ?_) h8
  ·rw [hot j (by omega)]
   cases hb:Nat.ble m j
   ·simp
   ·rw [Nat.ble_eq] at hb;omega
  ·refine ⟨?_,by rw [hot j hj2,show Nat.ble m j=true by rw [Nat.ble_eq];exact hj];simp⟩
   rw [c5 j (fun hp=>by have:=hpm j hp;omega)]
   simp [Array.getD_eq_getD_getElem?,Array.getElem?_replicate,hj2]
 ·cases h7
end
section
variable {P:Program}{o:Oper}{N:Nat}{K:Nat→Prop}{W w:World}{a:Act}{F:List (Nat×Value)}{L:List Asn}{α:Type}[Enc α]
theorem Rn.same {v v' :Value}(h:Rn P o N K W F L v)(e:v=v'):Rn P o N K W F L v' :=by subst e;exact h
theorem wq_call {ops:Array Oper}{rest:List Oper}{Q:Act→Prop}{d f:Nat}{fo:Operand}{xs:List Operand}{tys:Array TypeId}{us vs ws:List Value}{v:Value}(h:Fr N a F)(hb:bodyI P f=true)(ho:o.op= .call ⟨.value fo,xs.toArray,tys⟩)(hf:ev F fo=some (.func (.func f) us.toArray ws.toArray))
  (hx:evs F xs=some vs) (hw:Region.wanted o (yielded ops a.tmps)=true) (hd:o.dst=some d) (hdN:Nat.blt d N=true) (hc:∀w,Sh K W w L→Rets P f (us++vs++ws) w (fun v' w' =>v' =v∧Sh0 w w' []))
  (k:∀a',Fr N a' ((d,v)::F)→wpQuiet P ops (fun w=>Sh K W w L) Q rest a'):wpQuiet P ops (fun w=>Sh K W w L) Q (o::rest) a:=by
 unfold wpQuiet
 rw [if_pos hw]
 refine ⟨v,fun w hw=> ?_,k _ (by rw [hd];exact h.put d (by simpa [Nat.blt_eq] using hdN) v)⟩
 unfold Oper.quietAt
 have hrun:(execOp a.eval o).run P w= .ok (.enter f (us++vs++ws).toArray) w:=by
  unfold execOp
  simp [ho,resolve,h.ev hf,h.evs hx,Deferred.ofValue,invoke,run_callFunc hb]
 rw [hrun]
 refine ⟨rfl,Calls.mono (hc w hw) fun e w' ⟨v',he,hv',hr⟩=> ?_⟩
 subst hv'
 exact ⟨he,hw.call0 hr⟩
end
inductive Runs (P:Program)(ops:Array Oper)(N:Nat)(K:Nat→Prop)(W:World)(L:List Asn):List Oper→List (Nat×Value)→List Oper→List (Nat×Value)→Prop
 |nl {l:List Oper} {F:List (Nat×Value)} :Runs P ops N K W L l F l F
 |cn {o:Oper} {l l' :List Oper} {F F' :List (Nat×Value)} {d:Nat} {v:Value} (hr:Rn P o N K W F L v) (hw:∀a,Fr N a F→Region.wanted o (yielded ops a.tmps)=true) (hd:o.dst=some d) (hN:Nat.blt d N=true) (k:Runs P ops N K W L l ((d,v)::F) l' F'):Runs P ops N K W L (o::l) F l' F'
 |sk {o:Oper} {l l' :List Oper} {F F' :List (Nat×Value)} {d:Nat} (hw:∀a,Fr N a F→Region.wanted o (yielded ops a.tmps)=false) (hd:o.dst=some d) (hN:Nat.blt d N=true) (k:Runs P ops N K W L l ((d,undef)::F) l' F'):Runs P ops N K W L (o::l) F l' F'
section
variable {P:Program}{N:Nat}{K:Nat→Prop}{W w:World}{a:Act}{F F' F2:List (Nat×Value)}{L L' :List Asn}{o:Oper}{ops:Array Oper}{l l' l2 rest:List Oper}{Q:Exit→Act→World→Prop}{c c' :Code}{R:Act→World→Prop}
theorem Runs.go (r:Runs P ops N K W L l F l' F'):∀ {a:Act},St N K W a w F L→(∀a,St N K W a w F' L→wpList P ops Q l' a w)→wpList P ops Q l a w:=by
 induction r with
 |nl=>exact fun h k=>k _ h
 |cn hr hw hd hN _ ih=>exact fun h k=>wl_val h hr (hw _ h.fr) hd hN fun a h=>ih h k
 |sk hw hd hN _ ih=>exact fun h k=>wl_skip h (hw _ h.fr) hd hN fun a h=>ih h k
theorem Runs.goQ {Z:Act→Prop}(r:Runs P ops N K W L l F l' F'):∀ {a:Act},Fr N a F→(∀a,Fr N a F' →wpQuiet P ops (fun w=>Sh K W w L) Z l' a)→wpQuiet P ops (fun w=>Sh K W w L) Z l a:=by
 induction r with
 |nl=>exact fun h k=>k _ h
 |cn hr hw hd hN _ ih=>exact fun h k=>wq_val h hr (hw _ h) hd hN fun a h=>ih h k
 |sk hw hd hN _ ih=>exact fun h k=>wq_skip h (hw _ h) hd hN fun a h=>ih h k
theorem gG (h:St N K W a w F L)(k:∀a w,St N K W a w F L→R a w):R a w:=k a w h
theorem gRn (r:Runs P ops N K W L l F l' F')(k:∀a w,St N K W a w F' L→wpList P ops Q l' a w):∀a w,St N K W a w F L→wpList P ops Q l a w:=fun _ w h=>r.go h fun a h=>k a w h
theorem sG {id:Nat}(r:Runs P l.toArray N K W L l F [] F')(k:∀a w,St N K W a w F' L→c.wp P Q a w):∀a w,St N K W a w F L→(Code.seq (.region id l.toArray false) c).wp P Q a w:=
 fun _ w h=>wp_seq_k fun _ hK=>wp_region_lit (r.go h fun a h=>wpList_nil (hK _ _ (k a w h)))
theorem sK {id:Nat}(k:∀R:Act→World→Prop,(∀a w,c.wp P Q a w→R a w)→∀a w,St N K W a w F L→wpList P l.toArray (Exit.then R Q) l a w):∀a w,St N K W a w F L→(Code.seq (.region id l.toArray false) c).wp P Q a w:=
 fun _ w h=>wp_seq_k fun R hK=>wp_region_lit (k R hK _ w h)
theorem nK {Q0:Exit→Act→World→Prop}(hk:∀a w,c.wp P Q a w→Q0 .normal a w)(k:∀a w,St N K W a w F L→c.wp P Q a w):∀a w,St N K W a w F L→wpList P ops Q0 [] a w:=fun _ w h=>wpList_nil (hk _ _ (k _ w h))
theorem hK {X:Act→World→Prop}(hk:∀a w,c.wp P Q a w→X a w)(k:∀a w,St N K W a w F L→c.wp P Q a w):∀a w,St N K W a w F L→X a w:=fun _ w h=>hk _ _ (k _ w h)
theorem gK (k:∀R:Act→World→Prop,(∀a w,c'.wp P Q a w→R a w)→∀a w,St N K W a w F L→c.wp P (Exit.then R Q) a w):∀a w,St N K W a w F L→(Code.seq c c').wp P Q a w:=
 fun _ w h=>wp_seq_k fun R hK=>k R hK _ w h
theorem gL {id:Nat}(k:∀a w,St N K W a w F L→wpList P l.toArray Q l a w):∀a w,St N K W a w F L→(Code.region id l.toArray false).wp P Q a w:=fun _ w h=>wp_region_lit (k _ w h)
theorem nN (k:∀a w,St N K W a w F L→Q .normal a w):∀a w,St N K W a w F L→wpList P ops Q [] a w:=fun _ w h=>wpList_nil (k _ w h)
theorem gCb {x:Operand}{b:Bool}(hc:ev F x=some (.bool b))(ht:b=true→∀a w,St N K W a w F L→c.wp P Q a w)(hf:b=false→∀a w,St N K W a w F L→c'.wp P Q a w):∀a w,St N K W a w F L→(Code.cond x c c').wp P Q a w:=
 fun _ w h=>x_cond h hc (fun hb=>ht hb _ w h) (fun hb=>hf hb _ w h)
theorem gcd {x:Operand}{p:Prop}[Decidable p](hc:ev F x=some (.bool (decide p)))(ht:decide p=true→p→∀a w,St N K W a w F L→c.wp P Q a w)(hf:decide p=false→¬p→∀a w,St N K W a w F L→c'.wp P Q a w):∀a w,St N K W a w F L→(Code.cond x c c').wp P Q a w:=
 gCb hc (fun hb=>ht hb (of_decide_eq_true hb)) fun hb=>hf hb (of_decide_eq_false hb)
theorem gcF {x:Operand}{b:Bool}(hc:ev F x=some (.bool b))(hb:b=false)(k:∀a w,St N K W a w F L→c'.wp P Q a w):∀a w,St N K W a w F L→(Code.cond x c c').wp P Q a w:=fun _ w h=>x_condF h hc hb (k _ w h)
theorem gB {id:Nat}(k:∀a w,St N K W a w F L→c.wp P (Exit.inBlock id Q) a w):∀a w,St N K W a w F L→(Code.block id c).wp P Q a w:=fun _ w h=>wp_block (k _ w h)
theorem gS (k:∀a w,St N K W a w F L→Q .normal a w):∀a w,St N K W a w F L→Code.skip.wp P Q a w:=fun _ w h=>wp_skip (k _ w h)
theorem gX {id:Nat}(k:∀a w,St N K W a w F L→Q (.exit id) a w):∀a w,St N K W a w F L→(Code.exit id).wp P Q a w:=fun _ w h=>wp_exit (k _ w h)
theorem gR (k:∀a w,St N K W a w F L→Q .ret a w):∀a w,St N K W a w F L→Code.ret.wp P Q a w:=fun _ w h=>wp_ret (k _ w h)
theorem gen {f:FuncId}{fn:Func}{vs:List Value}{X:Value→World→Prop}(hf:P.funcs[f]? =some fn)(hN:fn.ntmps=N)(hS:Sh K W W L)(e:(fn.body,argF vs,Nat.ble vs.length N)=(some c,some F,true))(k:∀a,St N K W a W F L→c.wp P (bodyPost P fn fun e w' =>∃v,e= .returned v∧X v w') a W):Rets P f vs W X:=by
 simp only [Prod.mk.injEq] at e
 exact x_enter hf e.1 hN (Nat.le_of_ble_eq_true e.2.2) fun a h=>k a ⟨by rw [argF_eq e.2.1] at h;exact h,hS⟩
theorem uT {X:Act→World→Prop}(k:∀a w,St N K W a w F L→Q .ret a w):∀a w,St N K W a w F L→Exit.then X Q .ret a w:=k
theorem uB {id:Nat}(k:∀a w,St N K W a w F L→Q .ret a w):∀a w,St N K W a w F L→Exit.inBlock id Q .ret a w:=k
theorem gNl {α:Type}[Enc α]{s:Ls α}(hat:∀w,Sh K W w L→s.At w)(k:s.l.length≤140737488355328→∀a w,St N K W a w F L→R a w):∀a w,St N K W a w F L→R a w:=fun a w h=>k (hat w h.sh).len a w h
theorem gE1 {α:Sort 1}{F2:α→List (Nat×Value)}{L2:α→List Asn}(hx:∀a w,St N K W a w F L→Ex P o a w (fun a' w' =>∃b:α,St N K W a' w' (F2 b) (L2 b)))(hg:o.guard=none)(k:∀b a w,St N K W a w (F2 b) (L2 b)→wpList P ops Q rest a w):∀a w,St N K W a w F L→wpList P ops Q (o::rest) a w:=
 fun _ w h=>wl_ex (hx _ w h) (wanted_none hg _) fun a w ⟨b,h⟩=>k b a w h
theorem gF (ts:List Nat)(e:pickF F ts=some F')(k:∀a w,St N K W a w F' L→R a w):∀a w,St N K W a w F L→R a w:=fun a w h=>k a w (h.nf (pickF_ok e))
theorem qRn {Z:Act→Prop}(r:Runs P ops N K W L l F l' F')(k:∀a,Fr N a F' →wpQuiet P ops (fun w=>Sh K W w L) Z l' a):∀a,Fr N a F→wpQuiet P ops (fun w=>Sh K W w L) Z l a:=fun _ h=>r.goQ h k
theorem qN {Z:Act→Prop}(z:∀a,(∀w,Sh K W w L→R a w)→Z a)(k:∀a w,St N K W a w F L→R a w):∀a,Fr N a F→wpQuiet P ops (fun w=>Sh K W w L) Z [] a:=fun a h=>wpQuiet_nil (z a fun w hw=>k a w ⟨h,hw⟩)
section
variable {d g k q r j n by_ sz i2:Nat}{T E e:TypeId}{x y:Operand}{v:Value}{z cs vs:List Value}
theorem oM (n:Nat)(e:mvN N n l F=some (l2,F2))(k:Runs P ops N K W L l2 F2 l' F'):Runs P ops N K W L l F l' F' :=by
 induction n generalizing l F with
 |zero=>cases e;exact k
 |succ n ih=>
  cases l with
  |nil=>cases e
  |cons o l=>
   unfold mvN at e
   split at e
   ·rename_i d x hg hd ho
    split at e
    ·rename_i v hv
     cases hb:Nat.blt d N with
     |false=>rw [hb] at e;cases e
     |true=>rw [hb] at e;exact .cn (r_move ho hv) (wn hg) hd hb (ih e)
    ·cases e
   ·rename_i d x hg hd ho
    split at e
    ·rename_i v hv
     cases hb:Nat.blt d N with
     |false=>rw [hb] at e;cases e
     |true=>rw [hb] at e;exact .cn (r_assign ho hv) (wn hg) hd hb (ih e)
    ·cases e
   ·cases e
theorem ofB {f:Nat}(hT:flI P T f=some k)(e:(o.dst,o.op,ev F x,okg o d N)=(some d, .fieldAddr T x f,some (.pointer (some ⟨g,0,none⟩)),true))(kk:Runs P ops N K W L l ((d, .pointer (some ⟨g,k,none⟩))::F) l' F'):Runs P ops N K W L (o::l) F l' F' :=by
 simp only [Prod.mk.injEq,okg,Bool.and_eq_true,Option.isNone_iff_eq_none] at e
 exact .cn (r_fieldB hT e.2.1 e.2.2.1 (Nat.zero_add k)) (wn e.2.2.2.1) e.1 e.2.2.2.2 kk
theorem olB (i:Nat)(hT:tyI P T=some (false,n,by_,z))(hi:L[i]? =some (.blk g E cs))(e:(o.dst,o.op,ev F x,okg o d N,cs[q]?)=(some d, .load T x,some (.pointer (some ⟨g,q,none⟩)),true,some v))(k:Runs P ops N K W L l ((d,v)::F) l' F'):Runs P ops N K W L (o::l) F l' F' :=by
 simp only [Prod.mk.injEq,okg,Bool.and_eq_true,Option.isNone_iff_eq_none] at e
 exact .cn (r_ldb hT e.2.1 e.2.2.1 hi e.2.2.2.2) (wn e.2.2.2.1.1) e.1 e.2.2.2.1.2 k
section
variable {α:Type}[Enc α]{s:Ls α}{gb:Bool}
theorem oxN {kd:IntKind}(hT:slI P T=some e)(he:tyI P e=some (gb,n,by_,z))(hat:∀w,Sh K W w L→s.At w)(q:Nat)(hb:q<s.l.length)(e' :(o.dst,o.op,ev F x,ev F y,okg o d N)=(some d, .indexAddr T x y,some s.v,some (.int kd (q:Int)),true))
  (k:Runs P ops N K W L l ((d, .pointer (some (padr s.v n q 0)))::F) l' F'):Runs P ops N K W L (o::l) F l' F' :=by
 simp only [Prod.mk.injEq,okg,Bool.and_eq_true,Option.isNone_iff_eq_none] at e'
 exact .cn (r_ixN hT he e'.2.1 e'.2.2.1 e'.2.2.2.1 hat hb) (wn e'.2.2.2.2.1) e'.1 e'.2.2.2.2.2 k
theorem olE {i:Nat}(v:Value)(hT:tyI P T=some (false,n,by_,z))(hat:∀w,Sh K W w L→s.At w)(hi:i<s.l.length)(e:(o.dst,o.op,ev F x,okg o d N,Enc.sz α,Nat.blt j sz,Enc.cell (nth s.l i) j)=(some d, .load T x,some (.pointer (some (padr s.v sz i j))),true,sz,true,v))(k:Runs P ops N K W L l ((d,v)::F) l' F'):Runs P ops N K W L (o::l) F l' F' :=by
 simp only [Prod.mk.injEq,okg,Bool.and_eq_true,Option.isNone_iff_eq_none] at e
 exact .cn (r_lde hT e.2.1 e.2.2.1 e.2.2.2.2.1 hat hi (by simpa [Nat.blt_eq] using e.2.2.2.2.2.1) e.2.2.2.2.2.2) (wn e.2.2.2.1.1) e.1 e.2.2.2.1.2 k
theorem olI {i:Nat}{kd:IntKind}{u:Int}(hT:tyI P T=some (false,n,by_,z))(hat:∀w,Sh K W w L→s.At w)(hi:i<s.l.length)(e:(o.dst,o.op,ev F x,okg o d N,Enc.sz α,Nat.blt j sz,Enc.cell (nth s.l i) j)=(some d, .load T x,some (.pointer (some (padr s.v sz i j))),true,sz,true, .int kd u))(k:Runs P ops N K W L l ((d, .int kd u)::F) l' F'):Runs P ops N K W L (o::l) F l' F' :=olE (.int kd u) hT hat hi e k
theorem oln {n:Nat}(hT:slI P T=some e)(hat:∀w,Sh K W w L→s.At w)(e' :(o.dst,o.op,ev F x,okg o d N,s.l.length)=(some d, .call ⟨.builtin .len, #[x], #[T]⟩,some s.v,true,n))(k:Runs P ops N K W L l ((d, .int .i64 (n:Int))::F) l' F'):Runs P ops N K W L (o::l) F l' F' :=by
 simp only [Prod.mk.injEq,okg,Bool.and_eq_true,Option.isNone_iff_eq_none] at e'
 exact .cn (r_len hT e'.2.1 e'.2.2.1 hat e'.2.2.2.2) (wn e'.2.2.2.1.1) e'.1 e'.2.2.2.1.2 k
end
section
variable {U:TypeId}{kd:IntKind}
theorem oltN (p q:Nat)(e:(o.dst,o.op,ev F x,ev F y,okg o d N)=(some d, .binOp .lss T x y U,some (.int kd (p:Int)),some (.int kd (q:Int)),true))(k:Runs P ops N K W L l ((d, .bool (decide (p<q)))::F) l' F'):Runs P ops N K W L (o::l) F l' F' :=by
 simp only [Prod.mk.injEq,okg,Bool.and_eq_true,Option.isNone_iff_eq_none] at e
 exact .cn (r_lssN e.2.1 e.2.2.1 e.2.2.2.1) (wn e.2.2.2.2.1) e.1 e.2.2.2.2.2 k
theorem oltI (p q:Int)(e:(o.dst,o.op,ev F x,ev F y,okg o d N)=(some d, .binOp .lss T x y U,some (.int kd p),some (.int kd q),true))(k:Runs P ops N K W L l ((d, .bool (decide (p<q)))::F) l' F'):Runs P ops N K W L (o::l) F l' F' :=by
 simp only [Prod.mk.injEq,okg,Bool.and_eq_true,Option.isNone_iff_eq_none] at e
 exact .cn (r_lssI e.2.1 e.2.2.1 e.2.2.2.1) (wn e.2.2.2.2.1) e.1 e.2.2.2.2.2 k
theorem ogtI (p q:Int)(e:(o.dst,o.op,ev F x,ev F y,okg o d N)=(some d, .binOp .gtr T x y U,some (.int kd p),some (.int kd q),true))(k:Runs P ops N K W L l ((d, .bool (decide (q<p)))::F) l' F'):Runs P ops N K W L (o::l) F l' F' :=by
 simp only [Prod.mk.injEq,okg,Bool.and_eq_true,Option.isNone_iff_eq_none] at e
 exact .cn (r_gtrI e.2.1 e.2.2.1 e.2.2.2.1) (wn e.2.2.2.2.1) e.1 e.2.2.2.2.2 k
theorem oneI (p q:Int)(e:(o.dst,o.op,ev F x,ev F y,okg o d N)=(some d, .binOp .neq T x y U,some (.int kd p),some (.int kd q),true))(k:Runs P ops N K W L l ((d, .bool (decide (p≠q)))::F) l' F'):Runs P ops N K W L (o::l) F l' F' :=by
 simp only [Prod.mk.injEq,okg,Bool.and_eq_true,Option.isNone_iff_eq_none] at e
 exact .cn (r_neqI e.2.1 e.2.2.1 e.2.2.2.1) (wn e.2.2.2.2.1) e.1 e.2.2.2.2.2 k
theorem oadN (p q:Nat)(hb:p+q<9223372036854775808)(e:(o.dst,o.op,ev F x,ev F y,okg o d N)=(some d, .binOp .add T x y U,some (.int .i64 (p:Int)),some (.int .i64 (q:Int)),true))(k:Runs P ops N K W L l ((d, .int .i64 ((p+q:Nat):Int))::F) l' F'):Runs P ops N K W L (o::l) F l' F' :=by
 simp only [Prod.mk.injEq,okg,Bool.and_eq_true,Option.isNone_iff_eq_none] at e
 exact .cn (r_addN e.2.1 e.2.2.1 e.2.2.2.1 hb) (wn e.2.2.2.2.1) e.1 e.2.2.2.2.2 k
end
theorem gbx (e:(o.op,o.dst,o.guard,ev F x,Nat.blt d N)=(.box T x,some d,none,some v,true))(hv:v.cells=cs.toArray)(k:∀(b:Nat) (a:Act) (w:World),St N K W a w ((d, .pointer (some ⟨b,0,none⟩))::F) (.blk b T cs::L)→wpList P ops Q rest a w):∀a w,St N K W a w F L→wpList P ops Q (o::rest) a w:=by
 simp only [Prod.mk.injEq] at e
 intro a w h
 exact wl_ex (x_box h e.1 e.2.2.2.1 hv e.2.1 e.2.2.2.2) (wanted_none e.2.2.1 _) fun a w ⟨b,h⟩=>k b a w h
theorem gte {α:Type}[Enc α][Flat α]{s:Ls α}{i j:Nat}{gg:Bool}{L2:List Asn}(r:Nat)(x' :α)(hT:tyI P T=some (gg,1,by_,z))(hi:i<s.l.length)(e:(o.op,o.dst,o.guard,L[r]?,ev F x,ev F y,Enc.sz α,Nat.blt j sz,putO L r (.own E ⟨s.v,s.l.set i x'⟩))=(.store T x y,none,none,some (.own E s),some (.pointer (some (padr s.v sz i j))),some v,sz,true,some L2))(h1:v.oneCell' =true)
  (k:∀a w,St N K W a w F L2→wpList P ops Q rest a w) (hx:∀q,q<sz→Enc.cell x' q=if q=j then v else Enc.cell (nth s.l i) q:=by intro q hq;rcases q with _|_|_|_|q<;>first|rfl|omega):∀a w,St N K W a w F L→wpList P ops Q (o::rest) a w:=by
 simp only [Prod.mk.injEq] at e
 obtain ⟨e1,e2,e3,e4,e5,e6,e7,e8,e9⟩:=e
 intro a w h
 refine wl_ex (x_ste h hT e1 e2 e5 e7 e4 hi (by simpa [Nat.blt_eq] using e8) e6 (cells_oneL h1) h1 hx (fun w h=>Flat.inner _ _) (fun b hb=>(Flat.on _ _ hb).elim)) (wanted_none e3 _) fun a' w' h' => ?_
 rw [putO_eq e9] at h'
 exact k _ _ h'
theorem gtr {α β:Type}[Enc α][Flat α][Enc β]{s:Ls α}{u:Ls β}{i j:Nat}{gg:Bool}{L2:List Asn}(r:Nat)(x' :α)(hT:tyI P T=some (gg,1,by_,z))(hi:i<s.l.length)(hat:∀w,Sh K W w L→u.At w)(e:(o.op,o.dst,o.guard,L[r]?,ev F x,ev F y,Enc.sz α,Nat.blt j sz,putO L r (.own E ⟨s.v,s.l.set i x'⟩))=(.store T x y,none,none,some (.own E s),some (.pointer (some (padr s.v sz i j))),some u.v,sz,true,some L2))
  (k:∀a w,St N K W a w F L2→wpList P ops Q rest a w) (hx:∀q,q<sz→Enc.cell x' q=if q=j then u.v else Enc.cell (nth s.l i) q:=by intro q hq;rcases q with _|_|_|_|q<;>first|rfl|omega):∀a w,St N K W a w F L→wpList P ops Q (o::rest) a w:=fun a w h=>gte r x' hT hi e (hat w h.sh).one k hx a w h
theorem xCl {f:Nat}{fo:Operand}{xs:List Operand}{tys:Array TypeId}{us vs ws:List Value}{R:Value→World→Prop}(h:St N K W a w F L)(hb:bodyI P f=true)(e:(o.op,o.dst,Nat.blt d N,ev F fo,evs F xs)=(.call ⟨.value fo,xs.toArray,tys⟩,some d,true,some (.func (.func f) us.toArray ws.toArray),some vs))(hc:Rets P f (us++vs++ws) w R):Ex P o a w (fun a' w' =>∃v,R v w' ∧Fr N a' ((d,v)::F)):=by
 simp only [Prod.mk.injEq] at e
 exact x_call h hb e.1 e.2.2.2.1 e.2.2.2.2 e.2.1 e.2.2.1 hc
theorem gP (hx:∀a w,St N K W a w F L→Ex P o a w (fun a' w' =>∃u,(u=v∧Sh0 w w' [])∧Fr N a' ((d,u)::F)))(hg:o.guard=none)(k:∀a w,St N K W a w ((d,v)::F) L→wpList P ops Q rest a w):∀a w,St N K W a w F L→wpList P ops Q (o::rest) a w:=
 fun _ w h=>wl_ex (hx _ w h) (wanted_none hg _) fun a w' ⟨u,⟨hu,hs⟩,hf⟩=>by subst hu;exact k a w' ⟨hf,h.sh.call0 hs⟩
theorem qP {Z:Act→Prop}{f:Nat}{fo:Operand}{xs:List Operand}{tys:Array TypeId}{us vs ws:List Value}(hb:bodyI P f=true)(e:(o.op,o.guard,o.dst,Nat.blt d N,ev F fo,evs F xs)=(.call ⟨.value fo,xs.toArray,tys⟩,none,some d,true,some (.func (.func f) us.toArray ws.toArray),some vs))(hc:∀w,Sh K W w L→Rets P f (us++vs++ws) w (fun v' w' =>v' =v∧Sh0 w w' []))
  (k:∀a,Fr N a ((d,v)::F)→wpQuiet P ops (fun w=>Sh K W w L) Z rest a):∀a,Fr N a F→wpQuiet P ops (fun w=>Sh K W w L) Z (o::rest) a:=by
 simp only [Prod.mk.injEq] at e
 exact fun a h=>wq_call h hb e.1 e.2.2.2.2.1 e.2.2.2.2.2 (wanted_none e.2.1 _) e.2.2.1 e.2.2.2.1 hc k
end
theorem aA {α:Type}[Enc α]{s:Ls α}(i:Nat)(hi:L[i]? =some (.at_ s)):∀w,Sh K W w L→s.At w:=fun w h=>h.at i hi
end
end Go.Proofs.Ytmbfcgpneflbmaa.Dr
namespace Go.Proofs.Ytmbfcgpneflbmaa
open Go.RowKit Go.Sort Go.Shelf
set_option linter.unusedSimpArgs false
set_option linter.unusedVariables false
theorem grown_of {w w' :World}(h:Dr.Chg (fun _=>False) w w'):∃q os,w' =grow (w.drewN q) os:=by
 obtain ⟨h1,h2,h3,h4,h5,h6⟩:=h
 refine ⟨w'.drawn-w.drawn,w'.heap.extract w.heap.size w'.heap.size, ?_⟩
 obtain ⟨heap,tape,drawn,os,output⟩:=w
 obtain ⟨heap',tape',drawn',os',output'⟩:=w'
 simp only at h1 h2 h3 h4 h5 h6
 subst h1 h2 h3
 have e1:heap' =heap++heap'.extract heap.size heap'.size:=by
  apply Array.ext_getElem?
  intro b
  rw [Array.getElem?_append]
  by_cases hb:b<heap.size
  ·rw [if_pos hb];exact h5 b hb (fun h=>h)
  ·rw [if_neg hb,Array.getElem?_extract]
   by_cases hb' :b<heap'.size
   ·rw [if_pos (by omega)];congr 1;omega
   ·rw [if_neg (by omega),Array.getElem?_eq_none (by omega)]
 have e2:drawn' =drawn+(drawn' -drawn):=by omega
 unfold grow World.drewN
 show World.mk heap' tape' drawn' os' output' =World.mk (heap++_) tape' (drawn+_) os' output'
 rw [←e1,←e2]
section
variable {α:Type}[Enc α]
theorem cellsOf_whole (h:Enc.agg α=true)(x:α):(Enc.whole x:Value)= .agg (cellsOf x).toArray:=Enc.many h x
theorem flat_encL {β:Type}[Inhabited β](f:β→α)(k:Nat)(hk:Enc.sz α=k)(h0:0<k)(d:Array β):(flatK (fun x=>cellsOf (f x)) k d).toList=encL (d.toList.map f):=by
 apply List.ext_getElem?
 intro t
 have hl:(encL (d.toList.map f)).length=d.size*k:=by rw [length_encL,List.length_map,hk];simp
 by_cases ht:t<d.size*k
 ·have hq:t/k<d.size:=(Nat.div_lt_iff_lt_mul h0).2 ht
  have hr:t%k<k:=Nat.mod_lt _ h0
  have e1:=encL_at (d.toList.map f) (t/k) (t%k) (by simpa using hq) (by rw [hk];exact hr)
  rw [hk,show t/k*k+t%k=t by rw [Nat.mul_comm];exact Nat.div_add_mod t k] at e1
  rw [e1]
  have e2:nth (d.toList.map f) (t/k)=f d[t/k]! :=by
   rw [nth_lt _ _ (by simpa using hq),List.getElem_map,getElem!_pos d _ hq]
   simp
  rw [e2]
  have hs:t<(flatK (fun x=>cellsOf (f x)) k d).toList.length:=by simp [flatK,ht]
  rw [List.getElem?_eq_getElem hs]
  congr 1
  simp only [flatK,Array.getElem_toList,Array.getElem_map,Array.getElem_range]
  have hc:t%k<(cellsOf (f d[t/k]!)).length:=by rw [length_cellsOf,hk];exact hr
  rw [getElem!_pos (cellsOf (f d[t/k]!)) (t%k) hc]
  simp [cellsOf]
 ·rw [List.getElem?_eq_none (by simp [flatK];omega),List.getElem?_eq_none (by omega)]
theorem putCells_list (F c:Array Value)(h:F.size≤c.size):(putCells id 0 F c).toList.take F.size=F.toList:=by
 apply List.ext_getElem?
 intro t
 rw [List.getElem?_take]
 by_cases ht:t<F.size
 ·rw [if_pos ht,Array.getElem?_toList,Array.getElem?_toList]
  simp only [putCells,Array.getElem?_mapIdx]
  rw [Array.getElem?_eq_getElem (show t<c.size by omega),Array.getElem?_eq_getElem ht,Option.map_some,if_pos ⟨by omega,by omega⟩]
  simp [getElem!_pos,ht]
 ·rw [if_neg ht,List.getElem?_eq_none (by simpa using ht)]
theorem size_putCells (F c:Array Value):(putCells id 0 F c).size=c.size:=by simp [putCells]
variable {β:Type}[Inhabited β]
theorem size_flatK' (enc:β→List Value)(k:Nat)(d:Array β):(flatK enc k d).size=d.size*k:=by simp [flatK]
theorem sortWorld_block (enc:β→List Value)(k:Nat)(w:World)(b n:Nat)(d:Array β)(os:Array Obj){E:TypeId}{cur:Array Value}(hb:w.heap[b]? =some (.cells cur E (0,0))):
  (sortWorldK enc k w b 0 n d os).heap[b]? =some (.cells (putCells id 0 (flatK enc k d) cur) E (0,0)):=by
 have hlt:b<w.heap.size:=(Array.getElem?_eq_some_iff.1 hb).1
 show ((w.heap.modify b _)++os)[b]? =_
 rw [Array.getElem?_append,if_pos (by simpa using hlt),Array.getElem?_modify,if_pos rfl,hb]
 rfl
theorem sortWorld_chg (enc:β→List Value)(k:Nat)(w:World)(b n:Nat)(d:Array β)(os:Array Obj):Chg (fun c=>c=b) w (sortWorldK enc k w b 0 n d os):=by
 refine ⟨rfl,rfl,rfl, ?_,fun c hc hne=> ?_⟩
 ·show _≤((w.heap.modify b _)++os).size
  simp
 ·show ((w.heap.modify b _)++os)[c]? =_
  rw [Array.getElem?_append,if_pos (by simpa using hc),Array.getElem?_modify,if_neg (fun e=>hne e.symm)]
theorem sort_c {P:Program}{ρ:Ren}(L6:SlLaysF0.n6 P ρ){k:Nat}(aE:∀w,(isAgg (ρ.t 24)).run P w= .ok true w)(zE:∀w,(Go.sizeOf (ρ.t 24)).run P w= .ok k w)[One α](hag:Enc.agg α=true)(hk:Enc.sz α=k)(h0:0<k)
  (cf:α→α→Int) (hO1:∀x,¬cf x x<0) (hO2:∀x y z,cf x y<0→cf y z<0→cf x z<0) (hO3:∀x y z,¬cf x y<0→¬cf y z<0→¬cf x z<0) (g:FuncId) (eg:∀args w,(callFunc g args).run P w= .ok (.enter g args) w) {K:Nat→Prop} {W:World} {E:TypeId} {s:Ls α} (hS:Sh K W W [.own E s])
  (hc:∀x∈s.l,∀y∈s.l,∀W',Enc.inner x W' →Enc.inner y W' →Calls P g #[Enc.whole x,Enc.whole y] W' fun e w' =>e= .returned (.int .i64 (cf x y))∧Dr.Chg (fun _=>False) W' w'):
  Rets P (ρ.f 6) [s.v, .func (.func g) #[] #[]] W (fun v w' =>v= .tuple #[]∧∃l' :List α,l'.Perm s.l∧l'.Pairwise (fun a b=>¬cf b a<0)∧Sh K W w' [.own E (⟨s.v,l'⟩:Ls α)]):=by
 have hnil:∀(p:Option Addr) (cap:Nat),s.v= .slice p 0 cap→s.l= []→Rets P (ρ.f 6) [s.v, .func (.func g) #[] #[]] W (fun v w' =>v= .tuple #[]∧∃l' :List α,l'.Perm s.l∧l'.Pairwise (fun a b=>¬cf b a<0)∧Sh K W w' [.own E (⟨s.v,l'⟩:Ls α)]):=by
  intro p cap hv hn
  rw [hv]
  refine Calls.mono (AnyF.slices_SortFunc_none L6 p cap (.func (.func g) #[] #[]) W) ?_
  rintro e w' ⟨rfl,rfl⟩
  refine ⟨_,rfl,rfl,s.l,List.Perm.refl _,by rw [hn];exact .nil, ?_⟩
  rw [←hv];exact hS
 obtain ⟨⟨hlen,hcase⟩,hl,hin⟩:=hS.ok _ (List.mem_singleton.2 rfl)
 rcases hcase with ⟨hv,hn⟩|⟨b,cap,cur,hv,_,hb,hle,hcm,hcs,htk⟩
 ·exact hnil none 0 hv (List.eq_nil_of_length_eq_zero hn)
 by_cases hn:s.l= []
 ·exact hnil (some ⟨b,0,none⟩) cap (by rw [hv,hn];rfl) hn
 obtain ⟨x0,hx0⟩:=List.exists_mem_of_ne_nil _ hn
 have hself:∀x∈s.l,¬Enc.on x b:=by
  intro x hx hon
  refine hS.self _ (List.mem_singleton.2 rfl) b (by show s.v.ownBlock=_;rw [hv];rfl) ?_
  obtain ⟨i,hi⟩:=List.getElem?_of_mem hx
  obtain ⟨hlt,e⟩:=List.getElem?_eq_some_iff.1 hi
  exact ⟨i,hlt,by rw [nth_lt _ _ hlt,e];exact hon⟩
 have hinx:∀x∈s.l,Enc.inner x W:=by
  intro x hx
  obtain ⟨i,hi⟩:=List.getElem?_of_mem hx
  obtain ⟨hlt,e⟩:=List.getElem?_eq_some_iff.1 hi
  have:=hin i hlt
  rwa [nth_lt _ _ hlt,e] at this
 have hblk:b<W.heap.size:=(Array.getElem?_eq_some_iff.1 hb).1
 letI:Inhabited {x//x∈s.l} :=⟨⟨x0,hx0⟩⟩
 have hds:s.l.attach.toArray.size=s.l.length:=by simp
 have hdl:s.l.attach.toArray.toList.map Subtype.val=s.l:=by simp
 have hfl:=flat_encL (Subtype.val: {x//x∈s.l}→α) k hk h0 s.l.attach.toArray
 rw [hdl] at hfl
 have hnk:s.l.length*k≤cap*k:=Nat.mul_le_mul_right _ hle
 have hH:HoldsK (fun x: {x//x∈s.l} =>cellsOf x.1) k W b 0 s.l.attach.toArray:=by
  intro j hj
  have hj' :j<s.l.length*k:=by rw [size_flatK',hds] at hj;exact hj
  have hB:Blk W b E cur:=hb
  refine ⟨?_,hB.frozen _⟩
  rw [Nat.zero_add,hB.cell j]
  have e1:(encL s.l)[j]? =cur[j]? :=by
   rw [←htk,List.getElem?_take,if_pos (by rw [hk];exact hj'),Array.getElem?_toList]
  rw [←e1,←hfl,Array.getElem?_toList,Array.getElem?_eq_getElem hj,getElem!_pos _ j hj]
  rfl
 have hkeep:∀(m:Nat) (os:Array Obj) (dk:Array {x//x∈s.l}) (x: {x//x∈s.l}),Enc.inner x.1 (sortWorldK (fun x: {x//x∈s.l} =>cellsOf x.1) k W b 0 m dk os):=by
  intro m os dk x
  refine Enc.keep _ W _ (hinx _ x.2) fun c hcb=> ?_
  exact (sortWorld_chg _ k W b m dk os).same c (Enc.lt _ W (hinx _ x.2) c hcb) (fun e=>hself _ x.2 (e▸hcb))
 have hcon:=AnyQ.slices_SortFunc L6 k aE zE (fun x: {x//x∈s.l} =>cellsOf x.1) (fun x=>by rw [length_cellsOf,hk]) (fun x v hvx=>by
   obtain ⟨q,hq,rfl⟩:=List.mem_map.1 hvx
   exact One.one x.1 W (hinx _ x.2) q (by simpa using hq)) (fun x y=>cf x.1 y.1)
  ⟨fun x=>by simpa [ltOf] using hO1 x.1,fun x y z h1 h2=>by simp only [ltOf,decide_eq_true_eq] at*;exact hO2 _ _ _ h1 h2,fun x y z h1 h2=>by simp only [ltOf,decide_eq_false_iff_not] at*;exact hO3 _ _ _ h1 h2⟩
  g #[] b 0 cap s.l.attach.toArray W eg (fun m os dk _ x y=>by
   have h9:=hc x.1 x.2 y.1 y.2 _ (hkeep m os dk x) (hkeep m os dk y)
   rw [cellsOf_whole hag,cellsOf_whole hag] at h9
   refine Calls.mono h9 ?_
   rintro e w' ⟨he,hch⟩
   exact ⟨he,grown_of hch⟩) hH hblk (by rw [hds];omega)
 rw [hds] at hcon
 rw [hv]
 refine Calls.mono hcon ?_
 rintro e w' ⟨rfl,d',n,os,hp,hs,rfl⟩
 have hd' :d'.size=s.l.length:=by rw [hp.1,hds]
 have hperm:(d'.toList.map Subtype.val).Perm s.l:=by
  have h9:=hp.2.2
  have e1:(d'.extract 0 s.l.length).toList=d'.toList:=by rw [←hd'];simp
  have e2:(s.l.attach.toArray.extract 0 s.l.length).toList=s.l.attach:=by simp;exact List.take_of_length_le (by simp)
  rw [e1,e2] at h9
  have:=h9.map Subtype.val
  rwa [List.attach_map_subtype_val] at this
 have hl' :(d'.toList.map Subtype.val).length=s.l.length:=by simp [hd']
 refine ⟨_,rfl,rfl,d'.toList.map Subtype.val,hperm, ?_, ?_⟩
 ·rw [List.pairwise_map,List.pairwise_iff_getElem]
  intro i j hi hj hij
  have h9:=hs i j (Nat.zero_le _) hij (by rw [←hd'];simpa using hj)
  simp only [ltOf,decide_eq_false_iff_not] at h9
  rw [getElem!_pos d' j (by simpa using hj),getElem!_pos d' i (by simpa using hi)] at h9
  simpa using h9
 ·have hfl' :=flat_encL (Subtype.val: {x//x∈s.l}→α) k hk h0 d'
  have hfs:(flatK (fun x: {x//x∈s.l} =>cellsOf x.1) k d').size=s.l.length*k:=by rw [size_flatK',hd']
  refine hS.put (i:=0) rfl ((sortWorld_chg _ k W b n d' os).mono fun c hcb=>by show s.v.ownBlock=_;rw [hv,hcb];rfl) ⟨⟨?_, .inr ⟨b,cap,_, ?_,Nat.zero_le _,sortWorld_block _ k W b n d' os hb, ?_,hcm, ?_, ?_⟩⟩, ?_,fun i hi=> ?_⟩ (fun c hcb=> .inl (by show s.v.ownBlock=some c;rw [hv];exact hcb)) (fun c hcb=> ?_) (fun c hcb hrd=> ?_)
  ·rw [length_encL]
  ·show Value.slice _ s.l.length cap= .slice _ (d'.toList.map Subtype.val).length cap
   rw [hl']
  ·show (d'.toList.map Subtype.val).length≤cap
   rw [hl'];exact hle
  ·rw [size_putCells];exact hcs
  ·show List.take ((d'.toList.map Subtype.val).length*Enc.sz α) _=encL _
   rw [hl',hk,←hfs,putCells_list _ _ (by rw [hfs,hcs,hk];exact hnk)]
   exact hfl'
  ·show (d'.toList.map Subtype.val).length≤_
   rw [hl'];exact hl
  ·have hi' :i<d'.toList.length:=by simpa using hi
   show Enc.inner (nth (d'.toList.map Subtype.val) i) _
   rw [nth_lt _ _ hi,List.getElem_map]
   exact hkeep n os d' _
  ·obtain ⟨i,hi,hon⟩:=hcb
   have hm:nth (d'.toList.map Subtype.val) i∈s.l:=hperm.subset (nth_mem _ _ hi)
   obtain ⟨j,hj⟩:=List.getElem?_of_mem hm
   obtain ⟨hlt,e⟩:=List.getElem?_eq_some_iff.1 hj
   exact .inr (.inl ⟨j,hlt,by rw [nth_lt _ _ hlt,e];exact hon⟩)
  ·obtain ⟨i,hi,hon⟩:=hrd
   have hm:nth (d'.toList.map Subtype.val) i∈s.l:=hperm.subset (nth_mem _ _ hi)
   have hcb' :c=b:=by
    have:(Value.slice (some ⟨b,0,none⟩) s.l.length cap).ownBlock=some c:=hcb
    exact (Option.some.inj this).symm
   exact hself _ hm (hcb' ▸hon)
end
end Go.Proofs.Ytmbfcgpneflbmaa
namespace Go.Proofs.Ytmbfcgpneflbmaa.Dr
open Go.RowKit
set_option linter.unusedSimpArgs false
set_option linter.unusedVariables false
set_option maxRecDepth 100000
set_option maxHeartbeats 1000000
def cmpI (a b:Int):Int:=if a<b then-1 else if b<a then 1 else 0
def orL :List Int→Int
 | []=>0
 |a::l=>if a≠0 then a else orL l
theorem drop_nth {l:List Int}{i:Nat}(h:i<l.length):l.drop i=nth l i::l.drop (i+1):=by rw [nth_lt _ _ h];exact List.drop_eq_getElem_cons h
theorem orL_yes {l:List Int}{i:Nat}(h:i<l.length)(hi:orL (l.drop i)=orL l)(hn:¬nth l i=0):nth l i=orL l:=by rw [←hi,drop_nth h,orL,if_pos hn]
theorem orL_no {l:List Int}{i:Nat}(h:i<l.length)(hi:orL (l.drop i)=orL l)(hn:nth l i=0):orL (l.drop (i+1))=orL l:=by rw [←hi,drop_nth h,orL,if_neg (by simpa using hn)]
theorem orL_end {l:List Int}{i:Nat}(h:i=l.length)(hi:orL (l.drop i)=orL l):0=orL l:=by rw [←hi,h,List.drop_length];rfl
theorem nan_c (a:Int)(W:World):
    Rets Try.prog 97 [.int .i64 a] W (fun v w' =>v= .bool false∧Sh0 W w' []):=by
 refine gen Try.func97 Try.ntmps97 (Sh0.start _:Sh (fun _=>False) W W []) rfl fun a10 h10=>gG h10<|sG (oM 1 rfl<|.nl)<|sG (oM 2 rfl<|oneI _ _ rfl<|oM 1 rfl<|.nl)<|gR<|fun a13 w13 h13=>x_ret1 (fn:=Try.f97) (t:=2) rfl h13 rfl<|⟨?_,(h13.sh.sel [] rfl)⟩;clear h10
 simp
theorem cmpI_c (a b:Int)(W:World):
    Rets Try.prog 76 [.int .i64 a, .int .i64 b] W (fun v w' =>v= .int .i64 (cmpI a b)∧Sh0 W w' []):=by
 refine gen Try.func76 Try.ntmps76 (Sh0.start _:Sh (fun _=>False) W W []) rfl fun a10 h10=>gG h10<|sG (oM 1 rfl<|.nl)<|sK fun _ k12=>gRn (oM 1 rfl<|.nl)<|gP (fun _ _ h_=>xCl h_ bd_97 rfl (nan_c a _)) rfl<|gRn (oM 1 rfl<|.nl)<|nK k12<|sK fun _ k14=>gRn (oM 1 rfl<|.nl)<|gP (fun _ _ h_=>xCl h_ bd_97 rfl (nan_c b _)) rfl<|gRn (oM 1 rfl<|.nl)<|nK k14<|gK fun _ k16=>sG (oM 1 rfl<|.nl)<|gcF rfl rfl<|gS<|hK k16<|gK fun _ k18=>sG (oM 1 rfl<|.nl)<|gcF rfl rfl<|gS<|hK k18<|gK fun _ k20=>sG (oM 2 rfl<|oltI _ _ rfl<|.nl)<|?_;clear h10
 refine gcd rfl (fun hb22 hp22=> ?_) fun hb22 hp22=> ?_
 ·skip
  refine sG (oM 1 rfl<|.nl)<|gR<|uT<|fun a24 w24 h24=>x_ret1 (fn:=Try.f76) (t:=4) rfl h24 rfl<|⟨?_,(h24.sh.sel [] rfl)⟩
  unfold cmpI
  first|(rw [if_pos (by omega)];done)|(rw [if_neg (by omega),if_pos (by omega)];done)|(rw [if_neg (by omega),if_neg (by omega)])
 refine gS<|hK k20<|gK fun _ k25=>sG (oM 2 rfl<|ogtI _ _ rfl<|.nl)<|gcd rfl (fun hb27 hp27=> ?_) fun hb27 hp27=> ?_
 ·skip
  refine sG (oM 1 rfl<|.nl)<|gR<|uT<|fun a29 w29 h29=>x_ret1 (fn:=Try.f76) (t:=4) rfl h29 rfl<|⟨?_,(h29.sh.sel [] rfl)⟩
  unfold cmpI
  first|(rw [if_pos (by omega)];done)|(rw [if_neg (by omega),if_pos (by omega)];done)|(rw [if_neg (by omega),if_neg (by omega)])
 refine gS<|hK k25<|sG (oM 1 rfl<|.nl)<|gR<|fun a31 w31 h31=>x_ret1 (fn:=Try.f76) (t:=4) rfl h31 rfl<|⟨?_,(h31.sh.sel [] rfl)⟩
 unfold cmpI
 first|(rw [if_pos (by omega)];done)|(rw [if_neg (by omega),if_pos (by omega)];done)|(rw [if_neg (by omega),if_neg (by omega)])
theorem orL_c (x:Ls Int)(W:World)(hx:x.At W):
    Rets Try.prog 75 [x.v] W (fun v w' =>v= .int .i64 (orL x.l)∧Sh0 W w' []):=by
 refine gen Try.func75 Try.ntmps75 (Sh0.ext1 hx:Sh (fun _=>False) W W [.at_ x]) rfl fun a10 h10=>gG h10<|sG (oM 1 rfl<|.nl)<|sG (oM 1 rfl<|.nl)<|gK fun _ k13=>sK fun _ k14=>gNl (aA 0 rfl) fun hl15=>gRn (oM 1 rfl<|oln sl_23 (aA 0 rfl) rfl<|oM 1 rfl<|.nl)<|nK k14<|gB<|fun a17 w17 h17=>x_loop (fun m a w=>∃(i:Nat),(i≤x.l.length)∧(orL (x.l.drop i)=orL x.l)∧St 18 (fun _=>False) W a w [(3, .int .i64 0),(6,x.v),(7, .int .i64 ((x.l.length:Nat):Int)),(8, .int .i64 ((i:Nat):Int))] [.at_ x]∧m=x.l.length-i) ⟨_,0,(by omega),(rfl),h17.nf ⟨rfl,rfl,rfl,rfl,trivial⟩,rfl⟩ ?_;clear h10
 clear h17
 rintro m16 a16 w16 ⟨i,hi,hor,h16,hm16⟩
 refine gG h16<|sG (oltN _ _ rfl<|.nl)<|gK fun _ k19=>gcd rfl (fun hb20 hp20=> ?_) fun hb20 hp20=> ?_;clear h16
 ·skip
  refine gS<|hK k19<|gK fun _ k21=>gB<|sG (oxN sl_23 ti_3 (aA 0 rfl) _ om9 rfl<|olI ti_3 (aA 0 rfl) om9 rfl<|oM 1 rfl<|.nl)<|sG (oM 2 rfl<|oneI _ _ rfl<|.nl)<|gcd rfl (fun hb24 hp24=> ?_) fun hb24 hp24=> ?_
  ·skip
   refine sG (oM 2 rfl<|.nl)<|gR<|uB<|uT<|uT<|uB<|uT<|fun a26 w26 h26=>x_ret1 (fn:=Try.f75) (t:=2) rfl h26 rfl<|⟨?_,(h26.sh.sel [] rfl)⟩
   congr 1
   first|exact orL_yes (by omega) hor (by omega)|exact orL_end (by omega) hor
  refine gS<|hK k21<|gL<|gRn (oadN _ 1 om9 rfl<|oM 1 rfl<|.nl)<|nN<|fun a27 w27 h27=>x_again ⟨_, ?_,i+1, ?_, ?_,h27.nf ⟨rfl,rfl,rfl,rfl,trivial⟩,rfl⟩
  · rw [hm16];first|omega|(simp only [lens9];omega)
  · omega
  · exact orL_no (by omega) hor (by omega)
 refine gX<|hK k13<|sG (oM 2 rfl<|.nl)<|gR<|fun a29 w29 h29=>x_ret1 (fn:=Try.f75) (t:=2) rfl h29 rfl<|⟨?_,(h29.sh.sel [] rfl)⟩
 congr 1
 first|exact orL_yes (by omega) hor (by omega)|exact orL_end (by omega) hor
end Go.Proofs.Ytmbfcgpneflbmaa.Dr
namespace Go.Proofs.Ytmbfcgpneflbmaa
open Go.RowKit
set_option linter.unusedSimpArgs false
set_option linter.unusedVariables false
section
variable {P:Program}{o:Oper}{N:Nat}{K:Nat→Prop}{W w:World}{a:Act}{F:List (Nat×Value)}{L:List Asn}
end
structure RV where
 v:Value
instance : Inhabited RV:=⟨⟨.slice none 0 0⟩⟩
instance : Enc RV where
 sz:=1
 cell x _:=x.v
 whole x:=x.v
 agg:=false
 inner _ _:=True
 on _ _:=False
 one _:=⟨rfl,fun _=>rfl⟩
 many h:=by cases h
 keep _ _ _ h _:=h
 lt _ _ _ _ h:=h.elim
instance : Flat RV:=⟨fun _ _ h=>h,fun _ _=>trivial⟩
def Asn.hold {α:Type}[Enc α](s:Ls α):Asn where
 fp:=s.on
 rd _:=False
 ok w:=s.At w
 keep w w' h hb:=h.keep fun b hb' =>hb b (.inl hb')
 lt w h b hb:=hb.elim (fun hb=>h.lt hb) fun hb=>hb.elim
section
variable {α:Type}
end
section
variable {α:Type}[Enc α]
end
section
variable {K:Nat→Prop}{W w:World}{L:List Asn}{α:Type}{R:Ls α→Asn}{E:TypeId}{v:Value}{M:List (Ls α)}
end
section
variable {P:Program}{o:Oper}{N:Nat}{K:Nat→Prop}{W w:World}{a:Act}{F:List (Nat×Value)}{L:List Asn}{α:Type}[Enc α]{R:Ls α→Asn}{E IE:TypeId}{v:Value}{M:List (Ls α)}
end
section
variable {P:Program}{o:Oper}{N:Nat}{K:Nat→Prop}{W w:World}{a:Act}{F:List (Nat×Value)}{L:List Asn}
theorem r_ixArI {T e:TypeId}{gg:Bool}{m by_:Nat}{z:List Value}{x y:Operand}{n g:Nat}{q:Int}(hT:arI P T=some (n,e))(he:tyI P e=some (gg,m,by_,z))(hm:m=1)(ho:o.op= .indexAddr T x y)(hx:ev F x=some (.pointer (some ⟨g,0,none⟩)))(hy:ev F y=some (.int .i64 q))(hq:0≤q∧q<n):Rn P o N K W F L (.pointer (some ⟨g,q.toNat,none⟩)):=
 r_ixAr (q:=q.toNat) hT he hm ho hx (by rw [Int.toNat_of_nonneg hq.1];exact hy) (by omega)
theorem x_stewAr {T:TypeId}{gg:Bool}{by_:Nat}{z:List Value}{x y:Operand}{i r:Nat}{E:TypeId}{s:Ls BArr}{l:List Bool}(h:St N K W a w F L)(hT:tyI P T=some (gg,4,by_,z))(ho:o.op= .store T x y)(hd:o.dst=none)
  (hx:ev F x=some (.pointer (some (padr s.v 4 i 0)))) (hr:L[r]? =some (.own E s)) (hi:i<s.l.length) (hl:l.length=4) (hy:ev F y=some (.agg (l.map Value.bool).toArray)):
  Ex P o a w (fun a' w' =>St N K W a' w' F (L.set r (.own E ⟨s.v,s.l.set i ⟨l⟩⟩))):=by
 obtain ⟨ti,e,zv,hti,he,_,hs,_⟩:=tyI_parts hT
 have hok:=h.sh.ok _ (List.mem_of_getElem? hr)
 obtain ⟨hown,hlen,hinn⟩:=hok
 rcases hown.2 with ⟨_,h0⟩|⟨g,cap,cur,hsv,hb0,hg,hn,hm,hcs,htk⟩
 ·omega
 have hsz:Enc.sz BArr=4:=rfl
 rw [hsz] at hcs htk
 have hp:padr s.v 4 i 0=⟨g,i*4,none⟩:=by rw [hsv];simp [padr,vblk,voff]
 have hvl:(l.map Value.bool).length=4:=by rw [List.length_map];exact hl
 have hB:Blk w g E cur:=hg
 have h200:i*4+4≤cur.size:=by rw [hcs];have:=Nat.mul_le_mul_right 4 (show i+1≤cap by omega);omega
 have hrun:=run_storeCells_at P g (i*4) E (l.map Value.bool) 0 cur w hB (by simp;omega) (fun u hu=>by
  obtain ⟨b,_,rfl⟩:=List.mem_map.1 hu;rfl)
 have hcur:(splice cur.toList (i*4) (l.map Value.bool)).take (s.l.length*4)=encL (s.l.set i ⟨l⟩):=by
  have e1:encL (s.l.set i ⟨l⟩)=splice (encL s.l) (i*4) (l.map Value.bool):=by
   have h2:∀(m:List BArr) (i:Nat),i<m.length→encL (m.set i ⟨l⟩)=splice (encL m) (i*4) (l.map Value.bool):=by
    intro m
    induction m with
    |nil=>intro i hi;simp at hi
    |cons y m ih=>
     intro i hi
     have hy:∀(z:BArr) (m:List BArr),encL (z::m)=cellsOf z++encL m:=fun z m=>by simp [encL]
     have hc:∀z:BArr,(cellsOf z).length=4:=fun z=>length_cellsOf z
     cases i with
     |zero=>
      rw [List.set_cons_zero,hy,hy]
      have:cellsOf (⟨l⟩:BArr)=l.map Value.bool:=barr_whole hl
      rw [this]
      simp [splice,hvl,List.drop_append,hc]
     |succ i=>
      rw [List.set_cons_succ,hy,hy,ih i (by simpa using hi)]
      have e3:(i+1)*4=4+i*4:=by omega
      simp only [splice,e3,List.take_append,List.drop_append,hc,hvl]
      rw [List.take_of_length_le (l:=cellsOf y) (by rw [hc];omega),List.drop_of_length_le (l:=cellsOf y) (by rw [hc];omega)]
      have e4:4+i*4-4=i*4:=by omega
      have e5:4+i*4+4-4=i*4+4:=by omega
      rw [e4,e5]
      simp
   exact h2 s.l i hi
  rw [e1,←htk]
  have hlt:i*4+4≤s.l.length*4:=by have:=Nat.mul_le_mul_right 4 (show i+1≤s.l.length by omega);omega
  have hcl:cur.toList.length=cap*4:=by simpa using hcs
  have hle:s.l.length*4≤cap*4:=Nat.mul_le_mul_right 4 hn
  simp only [splice,hvl]
  apply List.ext_getElem?
  intro k
  simp only [List.getElem?_take,List.getElem?_append,List.getElem?_drop,List.length_take,List.length_append,List.length_map,hl,List.length_drop,hcl]
  have e6:min (i*4) (cap*4)=i*4:=by omega
  have e7:min (i*4) (min (s.l.length*4) (cap*4))=i*4:=by omega
  simp only [e6,e7]
  repeat' split
  all_goals first|rfl|(exfalso;omega)|(congr 1;omega)
 refine Ex.of_skip (w' :=w.setRow g (splice cur.toList (i*4) (l.map Value.bool)).toArray) ?_ ?_
 ·unfold execOp
  have hsz2:(Value.agg (l.map Value.bool).toArray).cells.size=ti.size:=by simp [Value.cells,hl,hs]
  have hce:(Value.agg (l.map Value.bool).toArray).cells.toList=l.map Value.bool:=by simp [Value.cells]
  simp only [ho,h.fr.ev hx,h.fr.ev hy,Instr.storeAt,Instr.sureAddr,storeVar,Sem.run_bind,Sem.run_pure,Result.andThen_ok,run_sizeOf hti]
  simp only [hsz2,ne_eq,not_true_eq_false,if_false,hce,Nat.add_zero,hp] at hrun⊢
  rw [hrun]
  simp [splice]
 ·rw [hd]
  have hfp:(Asn.own E s).fp g:=by show s.v.ownBlock=some g;rw [hsv];rfl
  refine ⟨h.fr,h.sh.put hr ⟨rfl,rfl,rfl,by simp [World.setRow],fun b hb hne=>setRow_other w g b _ (fun e=>hne (by rw [e];exact hfp))⟩ ⟨⟨?_, .inr ⟨g,cap,_, ?_,hb0,setRow_heap w g _ _ E (0,0) hB,by simpa using hn,hm, ?_, ?_⟩⟩,by simpa using hlen,fun q hq=> ?_⟩ (fun b hb=> .inl hb) (fun b hb=> ?_) (fun b hb hb' => ?_)⟩
  ·rw [length_encL]
  ·show s.v=_
   rw [hsv,List.length_set]
  ·rw [hsz]
   have hcl:cur.toList.length=cap*4:=by simpa using hcs
   simp only [splice,List.size_toArray,List.length_append,List.length_take,List.length_drop,hvl,hcl]
   omega
  ·show List.take ((s.l.set i ⟨l⟩).length*Enc.sz BArr) _=_
   rw [List.length_set,hsz];exact hcur
  ·show Enc.inner (nth (s.l.set i ⟨l⟩) q) _
   rw [nth_set]
   split
   ·exact hl
   ·exact hinn q (by simpa using hq)
  ·obtain ⟨q,_,hb⟩:=hb;exact hb.elim
  ·obtain ⟨q,_,hb'⟩:=hb';exact hb'.elim
theorem x_makeAr {d:Nat}{T e:TypeId}{gg:Bool}{by_ n:Nat}{z:List Value}{x y:Operand}(h:St N K W a w F L)(hT:slI P T=some e)(he:tyI P e=some (gg,4,by_,z))(hz:z=(List.replicate 4 false).map Value.bool)(ho:o.op= .makeSlice T x y)(hx:ev F x=some (.int .i64 (n:Int)))(hy:ev F y=some (.int .i64 (n:Int)))
  (hn:by_*n≤140737488355328∧n≤140737488355328) (hd:o.dst=some d) (hdN:Nat.blt d N=true):
  Ex P o a w (fun a' w' =>∃v:Value,St N K W a' w' ((d,v)::F) (.own e (⟨v,List.replicate n ⟨List.replicate 4 false⟩⟩:Ls BArr)::L)):=
 x_make (⟨List.replicate 4 false⟩:BArr) h hT he ho hx hy (by rw [hz];exact (barr_whole List.length_replicate).symm) rfl hn (fun _=>List.length_replicate) (fun _ h=>h) hd hdN
theorem x_stwAr {T:TypeId}{gg:Bool}{by_:Nat}{z:List Value}{x y:Operand}{g i:Nat}{E:TypeId}{l m:List Bool}(h:St N K W a w F L)(hT:tyI P T=some (gg,4,by_,z))(ho:o.op= .store T x y)(hd:o.dst=none)
  (hx:ev F x=some (.pointer (some ⟨g,0,none⟩))) (hi:L[i]? =some (.blk g E (l.map Value.bool))) (hl:l.length=4) (hm:m.length=4) (hy:ev F y=some (.agg (m.map Value.bool).toArray)):
  Ex P o a w (fun a' w' =>St N K W a' w' F (L.set i (.blk g E (m.map Value.bool)))):=
 x_stb h hT ho hd hx hy hi (vs:=m.map Value.bool) (by simp [Value.cells]) (by rw [List.length_map];exact hm) (by rw [List.all_map,List.all_eq_true];intro b _;rfl) (by rw [List.length_map];omega) (by
  unfold splice
  rw [List.take_zero,List.nil_append,List.length_map,hm,Nat.zero_add,List.drop_of_length_le (by rw [List.length_map];omega),List.append_nil])
end
section
variable {P:Program}{o:Oper}{N:Nat}{K:Nat→Prop}{W w:World}{a:Act}{F:List (Nat×Value)}{L:List Asn}{α:Type}[Enc α]
end
structure P2 where
 a:Int
 b:Int
 deriving DecidableEq
instance : Inhabited P2:=⟨⟨0,0⟩⟩
def P2.cell (x:P2):Nat→Value
 |0=> .int .i64 x.a
 |_=> .int .i64 x.b
def P2.val (x:P2):Value:= .agg #[.int .i64 x.a, .int .i64 x.b]
instance : Enc P2 where
 sz:=2
 cell:=P2.cell
 whole:=P2.val
 agg:=true
 inner _ _:=True
 on _ _:=False
 one h:=by cases h
 many _ _:=rfl
 keep _ _ _ h _:=h
 lt _ _ _ _ h:=h.elim
instance : One P2:=⟨fun x _ _ q _=>by match q with|0=>rfl|_+1=>rfl⟩
instance : Flat P2:=⟨fun _ _ h=>h,fun _ _=>trivial⟩
section
variable {P:Program}{o:Oper}{N:Nat}{K:Nat→Prop}{W w:World}{a:Act}{F:List (Nat×Value)}{L:List Asn}
theorem run_eqP {T e:TypeId}{by_ d:Nat}{z:List Value}(hT:arI P T=some (2,e))(he:tyI P e=some (false,1,by_,z))(hb:P.underlying e=some (.int .i64))(x y:P2)(w:World):
  (Op.equalIn (d+1+1) T x.val y.val).run P w= .ok (decide (x=y)) w:=by
 obtain ⟨i,dd,zv,hi,hd,_,hs,_⟩:=tyI_parts he
 have hu:=arI_parts hT
 unfold P2.val
 rw [Op.equalIn]
 simp only [Sem.run_bind,run_underlying hu,Result.andThen_ok,run_sizeOf hi,hs]
 rw [Std.Legacy.Range.forIn_eq_forIn_range']
 rw [show List.range' [:2].start [:2].size [:2].step= [0,1] by rfl]
 have p0:∀a b:Int,Sem.run P (part e #[Value.int .i64 a, .int .i64 b] 0) w= .ok (.int .i64 a) w:=fun a b=>run_part1 he rfl w
 have p1:∀a b:Int,Sem.run P (part e #[Value.int .i64 a, .int .i64 b] 1) w= .ok (.int .i64 b) w:=fun a b=>run_part1 he rfl w
 obtain ⟨xa,xb⟩:=x
 obtain ⟨ya,yb⟩:=y
 have q:=fun u v:Int=>run_equalIn_int (P:=P) w d e .i64 .i64 u v hb
 by_cases h1:xa=ya
 ·by_cases h2:xb=yb
  ·subst h1 h2
   simp [List.forIn_cons,List.forIn_nil,Sem.run_pure,Result.andThen_ok,p0,p1,q,Sem.run_bind]
  ·subst h1
   simp [List.forIn_cons,List.forIn_nil,Sem.run_pure,Result.andThen_ok,p0,p1,q,Sem.run_bind,h2]
 ·simp [List.forIn_cons,List.forIn_nil,Sem.run_pure,Result.andThen_ok,p0,p1,q,Sem.run_bind,h1]
theorem r_eqP {T U e:TypeId}{by_:Nat}{z:List Value}{x y:Operand}(l m:P2)(hT:arI P T=some (2,e))(he:tyI P e=some (false,1,by_,z))(hb:P.underlying e=some (.int .i64))(hgt:P.eqGuardType P.depth T=false)(ho:o.op= .binOp .eql T x y U)
  (hx:ev F x=some l.val) (hy:ev F y=some m.val):Rn P o N K W F L (.bool (decide (l=m))):=fun a w h=>by
 have e1:=run_eqGuard_agg (P:=P) (w:=w) .eql T x y #[.int .i64 l.a, .int .i64 l.b] #[.int .i64 m.a, .int .i64 m.b] hgt
 have e2:=run_eql_struct (P:=P) (w:=w) T #[.int .i64 l.a, .int .i64 l.b] #[.int .i64 m.a, .int .i64 m.b]
 have e3:=run_eqP (d:=9998) hT he hb l m w
 unfold P2.val at e3 hx hy
 rw [e3,Result.andThen_ok] at e2
 unfold execOp
 simp only [ho,h.fr.ev hx,h.fr.ev hy,Sem.run_bind,e1,e2,Result.andThen_ok,Sem.run_pure]
theorem r_neqP {T U e:TypeId}{by_:Nat}{z:List Value}{x y:Operand}(l m:P2)(hT:arI P T=some (2,e))(he:tyI P e=some (false,1,by_,z))(hb:P.underlying e=some (.int .i64))(hgt:P.eqGuardType P.depth T=false)(ho:o.op= .binOp .neq T x y U)
  (hx:ev F x=some l.val) (hy:ev F y=some m.val):Rn P o N K W F L (.bool (!decide (l=m))):=fun a w h=>by
 have e1:=run_eqGuard_agg (P:=P) (w:=w) .neq T x y #[.int .i64 l.a, .int .i64 l.b] #[.int .i64 m.a, .int .i64 m.b] hgt
 have e2:=run_neq_struct (P:=P) (w:=w) T #[.int .i64 l.a, .int .i64 l.b] #[.int .i64 m.a, .int .i64 m.b]
 have e3:=run_eqP (d:=9998) hT he hb l m w
 unfold P2.val at e3 hx hy
 rw [e3,Result.andThen_ok] at e2
 unfold execOp
 simp only [ho,h.fr.ev hx,h.fr.ev hy,Sem.run_bind,e1,e2,Result.andThen_ok,Sem.run_pure]
theorem cellsP (x:P2):cellsOf x= [.int .i64 x.a, .int .i64 x.b]:=rfl
theorem encL_setP (x:P2):∀(m:List P2) (i:Nat),i<m.length→encL (m.set i x)=splice (encL m) (i*2) (cellsOf x)
 | [],_,h=>by simp at h
 |y::m,0,_=>by
  have hy:∀(z:P2) (m:List P2),encL (z::m)=cellsOf z++encL m:=fun z m=>by simp [encL]
  rw [List.set_cons_zero,hy,hy]
  simp [splice,cellsP]
 |y::m,i+1,h=>by
  have hy:∀(z:P2) (m:List P2),encL (z::m)=cellsOf z++encL m:=fun z m=>by simp [encL]
  rw [List.set_cons_succ,hy,hy,encL_setP x m i (by simpa using h)]
  have e3:(i+1)*2=2+i*2:=by omega
  have hc:∀z:P2,(cellsOf z).length=2:=fun z=>rfl
  simp only [splice,e3,List.take_append,List.drop_append,hc]
  rw [List.take_of_length_le (l:=cellsOf y) (by rw [hc];omega),List.drop_of_length_le (l:=cellsOf y) (by rw [hc];omega)]
  have e4:2+i*2-2=i*2:=by omega
  have e5:2+i*2+2-2=i*2+2:=by omega
  rw [e4,e5]
  simp
theorem x_stewP {T:TypeId}{gg:Bool}{by_:Nat}{z:List Value}{x y:Operand}{i r:Nat}{E:TypeId}{s:Ls P2}{x' :P2}(h:St N K W a w F L)(hT:tyI P T=some (gg,2,by_,z))(ho:o.op= .store T x y)(hd:o.dst=none)
  (hx:ev F x=some (.pointer (some (padr s.v 2 i 0)))) (hr:L[r]? =some (.own E s)) (hi:i<s.l.length) (hy:ev F y=some (.agg #[.int .i64 x'.a, .int .i64 x'.b])):
  Ex P o a w (fun a' w' =>St N K W a' w' F (L.set r (.own E ⟨s.v,s.l.set i x'⟩))):=by
 obtain ⟨ti,e,zv,hti,he,_,hs,_⟩:=tyI_parts hT
 have hok:=h.sh.ok _ (List.mem_of_getElem? hr)
 obtain ⟨hown,hlen,hinn⟩:=hok
 rcases hown.2 with ⟨_,h0⟩|⟨g,cap,cur,hsv,hb0,hg,hn,hm,hcs,htk⟩
 ·omega
 have hsz:Enc.sz P2=2:=rfl
 rw [hsz] at hcs htk
 have hp:padr s.v 2 i 0=⟨g,i*2,none⟩:=by rw [hsv];simp [padr,vblk,voff]
 have hB:Blk w g E cur:=hg
 have h4:i*2+2≤cur.size:=by rw [hcs];omega
 have hrun:=run_storeCells_at P g (i*2) E (cellsOf x') 0 cur w hB (by rw [cellsP];simp;omega) (fun u hu=>by
  rw [cellsP] at hu
  simp only [List.mem_cons,List.not_mem_nil,or_false] at hu
  rcases hu with rfl|rfl<;>rfl)
 have hcl:cur.toList.length=cap*2:=by simpa using hcs
 have hcur:(splice cur.toList (i*2) (cellsOf x')).take (s.l.length*2)=encL (s.l.set i x'):=by
  rw [encL_setP x' s.l i hi,←htk]
  have hvl:(cellsOf x').length=2:=rfl
  simp only [splice,hvl]
  apply List.ext_getElem?
  intro k
  simp only [List.getElem?_take,List.getElem?_append,List.getElem?_drop,List.length_take,List.length_append,hvl,List.length_drop,hcl]
  have e6:min (i*2) (cap*2)=i*2:=by omega
  have e7:min (i*2) (min (s.l.length*2) (cap*2))=i*2:=by omega
  simp only [e6,e7]
  repeat' split
  all_goals first|rfl|(exfalso;omega)|(congr 1;omega)
 refine Ex.of_skip (w' :=w.setRow g (splice cur.toList (i*2) (cellsOf x')).toArray) ?_ ?_
 ·unfold execOp
  have hsz2:(Value.agg #[.int .i64 x'.a, .int .i64 x'.b]).cells.size=ti.size:=by simp [Value.cells,hs]
  have hce:(Value.agg #[.int .i64 x'.a, .int .i64 x'.b]).cells.toList=cellsOf x' :=by simp [Value.cells,cellsP]
  simp only [ho,h.fr.ev hx,h.fr.ev hy,Instr.storeAt,Instr.sureAddr,storeVar,Sem.run_bind,Sem.run_pure,Result.andThen_ok,run_sizeOf hti]
  simp only [hsz2,ne_eq,not_true_eq_false,if_false,hce,Nat.add_zero,hp] at hrun⊢
  rw [hrun]
  simp [splice]
 ·rw [hd]
  have hfp:(Asn.own E s).fp g:=by show s.v.ownBlock=some g;rw [hsv];rfl
  refine ⟨h.fr,h.sh.put hr ⟨rfl,rfl,rfl,by simp [World.setRow],fun b hb hne=>setRow_other w g b _ (fun e=>hne (by rw [e];exact hfp))⟩ ⟨⟨?_, .inr ⟨g,cap,_, ?_,hb0,setRow_heap w g _ _ E (0,0) hB,by simpa using hn,hm, ?_, ?_⟩⟩,by simpa using hlen,fun q hq=>trivial⟩ (fun b hb=> .inl hb) (fun b hb=> ?_) (fun b hb hb' => ?_)⟩
  ·rw [length_encL]
  ·show s.v=_
   rw [hsv,List.length_set]
  ·rw [hsz]
   have hvl:(cellsOf x').length=2:=rfl
   simp only [splice,List.size_toArray,List.length_append,List.length_take,List.length_drop,hvl,hcl]
   omega
  ·show List.take ((s.l.set i x').length*Enc.sz P2) _=_
   rw [List.length_set,hsz];exact hcur
  ·obtain ⟨q,_,hb⟩:=hb;exact hb.elim
  ·obtain ⟨q,_,hb'⟩:=hb';exact hb'.elim
end
end Go.Proofs.Ytmbfcgpneflbmaa
namespace Go.Proofs.Ytmbfcgpneflbmaa.Dr
open Go.RowKit
set_option linter.unusedSimpArgs false
set_option linter.unusedVariables false
set_option maxRecDepth 100000
set_option maxHeartbeats 2000000
theorem ar_57 :arI Try.prog 57=some (2,3):=by kernel_rfl
section
variable {P:Program}{o:Oper}{N:Nat}{K:Nat→Prop}{W w:World}{a:Act}{F:List (Nat×Value)}{L:List Asn}
theorem r_ixAr {T e:TypeId}{gg:Bool}{m by_:Nat}{z:List Value}{x y:Operand}{n g q:Nat}(hT:arI P T=some (n,e))(he:tyI P e=some (gg,m,by_,z))(hm:m=1)(ho:o.op= .indexAddr T x y)(hx:ev F x=some (.pointer (some ⟨g,0,none⟩)))(hy:ev F y=some (.int .i64 (q:Int)))(hq:q<n):Rn P o N K W F L (.pointer (some ⟨g,q,none⟩)):=fun a w h=>by
 obtain ⟨i,d,zv,hi,hd,_,rfl,_⟩:=tyI_parts he
 have hu:=arI_parts hT
 have hel:P.elem T=e:=by simp [Program.elem,hu]
 have hal:P.arrayLen T=n:=by simp [Program.arrayLen,hu]
 have hu' :P.underlying T=some (.array (P.arrayLen T) (P.elem T)):=by rw [hel,hal];exact hu
 have e1:=run_indexAt_array (P:=P) (w:=w) T ⟨g,0,none⟩ .i64 (q:Int) hu'
 rw [if_pos ⟨by omega,by rw [hal];omega⟩,hel,run_sizeOf hi,Result.andThen_ok,hm] at e1
 unfold execOp
 simp only [ho,h.fr.ev hx,h.fr.ev hy,Sem.run_bind,e1,Result.andThen_ok,Sem.run_pure]
 simp [Addr.add_lit]
variable {v:Value}{d:Nat}{ops:Array Oper}{l l' :List Oper}{F' :List (Nat×Value)}
theorem oV (hr:Rn P o N K W F L v)(e:(o.dst,o.guard,Nat.blt d N)=(some d,none,true))(k:Runs P ops N K W L l ((d,v)::F) l' F'):Runs P ops N K W L (o::l) F l' F' :=by
 simp only [Prod.mk.injEq] at e
 exact .cn hr (wn e.2.1) e.1 e.2.2 k
end
def ordP (x y:P2):Int:=orL [cmpI x.a y.a,cmpI x.b y.b]
theorem cmpP_c (x y:P2)(W:World):
    Rets Try.prog 74 [.agg #[.int .i64 x.a, .int .i64 x.b], .agg #[.int .i64 y.a, .int .i64 y.b]] W (fun v w' =>v= .int .i64 (ordP x y)∧Sh0 W w' []):=by
 refine gen Try.func74 Try.ntmps74 (Sh0.start _:Sh (fun _=>False) W W []) rfl fun a10 h10=>gG h10<|sK fun _ k11=>gbx rfl rfl fun b12=>gbx rfl rfl fun b13=>gRn (oM 1 rfl<|.nl)<|nK k11<|gK fun _ k14=>fun a15 w15 h15=>x_tail 10 [] (by kernel_rfl) (by kernel_rfl) h15 fun _ z16=>qQ h15.fr<|qRn (oV (r_ixAr (q:=0) ar_57 ti_3 rfl rfl rfl rfl (show 0<2 from by decide)) rfl<|olB 1 ti_3 rfl rfl<|oV (r_ixAr (q:=0) ar_57 ti_3 rfl rfl rfl rfl (show 0<2 from by decide)) rfl<|olB 0 ti_3 rfl rfl<|.nl)<|qP bd_76 rfl (fun w h=>(cmpI_c x.a y.a _))<|qRn (oV (r_ixAr (q:=1) ar_57 ti_3 rfl rfl rfl rfl (show 1<2 from by decide)) rfl<|olB 1 ti_3 rfl rfl<|oV (r_ixAr (q:=1) ar_57 ti_3 rfl rfl rfl rfl (show 1<2 from by decide)) rfl<|olB 0 ti_3 rfl rfl<|.nl)<|qP bd_76 rfl (fun w h=>(cmpI_c x.b y.b _))<|qN z16<|gE1 (fun _ _ h_=>x_lit (n:=2) (cs:= [.int .i64 (cmpI x.a y.a), .int .i64 (cmpI x.b y.b)]) ([cmpI x.a y.a,cmpI x.b y.b]:List Int) h_ sl_23 ti_3 rfl rfl rfl (by decide) rfl (by kernel_rfl) rfl (fun q hq w h=>Flat.inner _ _) (fun q hq b hb=>(Flat.on _ _ hb).elim) rfl rfl) rfl fun v17=>gP (fun _ _ h_=>xCl h_ bd_75 rfl (orL_c (⟨v17, [cmpI x.a y.a,cmpI x.b y.b]⟩:Ls Int) _ (h_.sh.own 0 rfl))) rfl<|gRn (oM 1 rfl<|.nl)<|nK k14<|gR<|fun a19 w19 h19=>x_ret1 (fn:=Try.f74) (t:=4) rfl h19 rfl ?_;clear h10 h15
 exact ⟨rfl,(h19.sh.sel [] rfl)⟩
end Go.Proofs.Ytmbfcgpneflbmaa.Dr
namespace Go.Proofs.Ytmbfcgpneflbmaa
open Go.Shelf
def sortPr_ren :Go.Shelf.Ren:=⟨fun|6=>73|15=>96|14=>95|28=>108|29=>109|20=>100|21=>101|22=>102|23=>103|24=>104|25=>105|26=>106|27=>107|46=>111|47=>112|48=>113|49=>114|50=>115|57=>116|n=>n,fun|22=>54|24=>57|25=>132|3=>3|39=>121|0=>0|53=>148|55=>151|4=>4|46=>161|45=>160|50=>165|5=>5|9=>9|66=>169|70=>126|76=>174|77=>175|n=>n,fun|n=>n⟩
theorem sortPr :Go.Proofs.SlLaysF0.n6 Try.prog sortPr_ren:= {
 mixed:=by kernel_rfl
 f6:=⟨Try.f73.name,by decide,Try.func73.trans (congrArg some (by kernel_rfl))⟩
 f14:=⟨Try.f95.name,by decide,Try.func95.trans (congrArg some (by kernel_rfl))⟩
 f15:=Try.func96.trans (congrArg some (by kernel_rfl))
 f20:=⟨Try.f100.name,by decide,Try.func100.trans (congrArg some (by kernel_rfl))⟩
 f21:=⟨Try.f101.name,by decide,Try.func101.trans (congrArg some (by kernel_rfl))⟩
 f22:=⟨Try.f102.name,by decide,Try.func102.trans (congrArg some (by kernel_rfl))⟩
 f23:=⟨Try.f103.name,by decide,Try.func103.trans (congrArg some (by kernel_rfl))⟩
 f24:=⟨Try.f104.name,by decide,Try.func104.trans (congrArg some (by kernel_rfl))⟩
 f25:=⟨Try.f105.name,by decide,Try.func105.trans (congrArg some (by kernel_rfl))⟩
 f26:=⟨Try.f106.name,by decide,Try.func106.trans (congrArg some (by kernel_rfl))⟩
 f27:=⟨Try.f107.name,by decide,Try.func107.trans (congrArg some (by kernel_rfl))⟩
 f28:=Try.func108.trans (congrArg some (by kernel_rfl))
 f29:=Try.func109.trans (congrArg some (by kernel_rfl))
 f46:=⟨Try.f111.name,by decide,Try.func111.trans (congrArg some (by kernel_rfl))⟩
 f47:=Try.func112.trans (congrArg some (by kernel_rfl))
 f48:=Try.func113.trans (congrArg some (by kernel_rfl))
 f49:=⟨Try.f114.name,by decide,Try.func114.trans (congrArg some (by kernel_rfl))⟩
 f50:=⟨Try.f115.name,by decide,Try.func115.trans (congrArg some (by kernel_rfl))⟩
 f57:=⟨Try.f116.name,by decide,Try.func116.trans (congrArg some (by kernel_rfl))⟩
 t0:=Try.underlying0
 a0:=Try.isAgg0
 z0:=Try.sizeOf0
 v0:=Try.zeroValue0
 t3:=Try.underlying3
 a3:=Try.isAgg3
 z3:=Try.sizeOf3
 v3:=Try.zeroValue3
 t4:=Try.underlying4
 a4:=Try.isAgg4
 z4:=Try.sizeOf4
 v4:=Try.zeroValue4
 t5:=Try.underlying5
 a5:=Try.isAgg5
 z5:=Try.sizeOf5
 v5:=Try.zeroValue5
 t9:=Try.underlying9
 a9:=Try.isAgg9
 z9:=Try.sizeOf9
 v9:=Try.zeroValue9
 t22:=Try.underlying54
 a22:=Try.isAgg54
 z22:=Try.sizeOf54
 v22:=Try.zeroValue54
 t25:=Try.underlying132
 a25:=Try.isAgg132
 z25:=Try.sizeOf132
 v25:=Try.zeroValue132
 t39:=Try.underlying121
 a39:=Try.isAgg121
 z39:=Try.sizeOf121
 v39:=Try.zeroValue121
 t45:=Try.underlying160
 a45:=Try.isAgg160
 z45:=Try.sizeOf160
 v45:=Try.zeroValue160
 t46:=Try.underlying161
 a46:=Try.isAgg161
 z46:=Try.sizeOf161
 v46:=Try.zeroValue161
 t50:=Try.underlying165
 a50:=Try.isAgg165
 z50:=Try.sizeOf165
 v50:=Try.zeroValue165
 t53:=Try.underlying148
 a53:=Try.isAgg148
 z53:=Try.sizeOf148
 v53:=Try.zeroValue148
 t55:=Try.underlying151
 a55:=Try.isAgg151
 z55:=Try.sizeOf151
 v55:=Try.zeroValue151
 t66:=Try.underlying169
 a66:=Try.isAgg169
 z66:=Try.sizeOf169
 v66:=Try.zeroValue169
 t70:=Try.underlying126
 a70:=Try.isAgg126
 z70:=Try.sizeOf126
 v70:=Try.zeroValue126
 t76:=Try.underlying174
 a76:=Try.isAgg174
 z76:=Try.sizeOf174
 v76:=Try.zeroValue174
 t77:=Try.underlying175
 a77:=Try.isAgg175
 z77:=Try.sizeOf175
 v77:=Try.zeroValue175 }
end Go.Proofs.Ytmbfcgpneflbmaa
namespace Go.Proofs.Ytmbfcgpneflbmaa
open Go.RowKit
set_option linter.unusedSimpArgs false
set_option linter.unusedVariables false
section
variable {P:Program}{o:Oper}{N:Nat}{K:Nat→Prop}{W w:World}{F:List (Nat×Value)}{L:List Asn}{T U D:TypeId}{x y:Operand}
end
def vcap (v:Value):Nat:=match v with
 | .slice _ _ c=>c
 |_=>0
def vsub (v:Value)(sz lo hi:Nat):Value:=match v with
 | .slice A n c=> .slice (if c=lo then A else A.map (·.add (lo*sz))) (hi-lo) (c-lo)
 |v=>v
theorem setCells_chg {X:Nat→Prop}{g:Nat}(hg:X g):∀(vs:List Value) (o:Nat) (w:World),Chg X w (w.setCells g o vs)
 | [],_,_=>Chg.refl _ _
 |v::vs,o,w=>((Chg.setCell (X:=X) w ⟨g,o,none⟩ hg v)).trans (setCells_chg hg vs (o+1) _) fun b hb=> .inl hb
theorem setCells_row {g:Nat}{E:TypeId} :∀(vs:List Value) (o:Nat) (w:World) (cur:Array Value),w.heap[g]? =some (.cells cur E (0,0))→∃cur',(w.setCells g o vs).heap[g]? =some (.cells cur' E (0,0))∧cur'.size=cur.size∧∀k,k<o→cur'[k]? =cur[k]?
 | [],_,_,cur,h=>⟨cur,h,rfl,fun _ _=>rfl⟩
 |v::vs,o,w,cur,h=>by
  have h2:Blk (w.setCell ⟨g,o,none⟩ v) g E (cur.setIfInBounds o v):=Blk.set_ (w:=w) h o v
  obtain ⟨cur',h3,h4,h5⟩:=setCells_row vs (o+1) _ _ h2
  refine ⟨cur',h3,h4.trans (by simp),fun k hk=>(h5 k (by omega)).trans ?_⟩
  rw [Array.getElem?_setIfInBounds_ne (by omega)]
section
variable {P:Program}{o:Oper}{N:Nat}{K:Nat→Prop}{W w:World}{a:Act}{F:List (Nat×Value)}{L:List Asn}{α:Type}[Enc α]
theorem x_clearT {T e:TypeId}{gg:Bool}{sz by_ r hi:Nat}{z:List Value}{x:Operand}{s:Ls α}{E:TypeId}(h:St N K W a w F L)(hT:slI P T=some e)(he:tyI P e=some (gg,sz,by_,z))(ho:o.op= .call ⟨.builtin .clear, #[x], #[T]⟩)
  (hx:ev F x=some (vsub s.v sz s.l.length hi)) (hr:L[r]? =some (.own E s)) (hsz:Enc.sz α=sz) (hz1:z.all (·.oneCell')=true) (hzl:z.length=sz) (hh:s.l.length<hi∧hi≤vcap s.v) (hd:o.dst=none):Ex P o a w (fun a' w' =>St N K W a' w' F L):=by
 subst hsz
 obtain ⟨hown,hlen,hinn⟩:=h.sh.ok _ (List.mem_of_getElem? hr)
 rcases hown.2 with ⟨h1,_⟩|⟨g,cap,cur,hsv,hb0,hg,hn,hm,hcs,htk⟩
 ·rw [h1] at hh;simp [vcap] at hh;omega
 obtain ⟨i,d,zv,hi',hd',_,hs,hby,hzz,hzc⟩:=tyI_parts he
 have hcap:hi≤cap:=by have:=hh.2;rw [hsv] at this;exact this
 have hx' :vsub s.v (Enc.sz α) s.l.length hi= .slice (some ⟨g,s.l.length*Enc.sz α,none⟩) (hi-s.l.length) (cap-s.l.length):=by
  rw [hsv];simp only [vsub];rw [if_neg (by omega)];simp [Addr.add_lit]
 obtain ⟨zs,hzs⟩:∃zs,(Builtin.zeroCells zv.cells (hi-s.l.length)).toList=zs:=⟨_,rfl⟩
 have hcsz:zv.cells.size=Enc.sz α:=by rw [←hzl,←hzc];simp
 have hzsl:zs.length=(hi-s.l.length)*Enc.sz α:=by rw [←hzs];simp [Builtin.zeroCells,hcsz]
 have hz1' :∀v∈zs,v.oneCell' =true:=by
  intro v hv
  rw [←hzs] at hv
  simp only [Builtin.zeroCells,Array.toList_map,List.mem_map,Array.mem_toList_iff,Array.mem_range] at hv
  obtain ⟨q,hq,rfl⟩:=hv
  have hpos:0<zv.cells.size:=by
   rcases Nat.eq_zero_or_pos zv.cells.size with h0|h0
   ·rw [h0] at hq;omega
   ·exact h0
  have hmod:=Nat.mod_lt q hpos
  rw [getElem!_pos zv.cells _ hmod]
  exact (List.all_eq_true.1 hz1) _ (by rw [←hzc];exact Array.getElem_mem_toList _)
 have hin:∀j,j<zs.length→s.l.length*Enc.sz α+j<cur.size:=by
  intro j hj
  rw [hcs]
  have h1:s.l.length*Enc.sz α+j<s.l.length*Enc.sz α+(hi-s.l.length)*Enc.sz α:=by omega
  rw [←Nat.add_mul] at h1
  exact Nat.lt_of_lt_of_le h1 (Nat.mul_le_mul_right _ (by omega))
 have hst:=run_storeCells_cells (P:=P) g (s.l.length*Enc.sz α) zs 0 w (fun j hj=>by
   simp only [Nat.add_zero]
   rw [Blk.cell (E:=E) hg,Array.getElem?_eq_getElem (hin j hj)];rfl) (fun j hj=>Blk.frozen (E:=E) hg _) hz1'
 simp only [Nat.add_zero] at hst
 have hrun:∀ty,(Builtin.clear_ #[T] ty #[.slice (some ⟨g,s.l.length*Enc.sz α,none⟩) (hi-s.l.length) (cap-s.l.length)]).run P w= .ok (.tuple #[]) (w.setCells g (s.l.length*Enc.sz α) zs):=by
  intro ty
  obtain ⟨m,hm9⟩:∃m,hi-s.l.length=m+1:=⟨hi-s.l.length-1,by omega⟩
  rw [hm9] at hzs⊢
  simp [Builtin.clear_,run_underlying (slI_parts hT),run_zero hi' hzz,hzs,hst]
 refine Ex.of_run (v:= .tuple #[]) (w' :=w.setCells g (s.l.length*Enc.sz α) zs) ?_ ?_
 ·unfold execOp
  simp only [ho,resolve,invoke,builtin,Sem.run_bind,Sem.run_pure,Result.andThen_ok,List.map_toArray,List.map_cons,List.map_nil,h.fr.ev hx,hx',hrun]
 ·rw [hd]
  obtain ⟨cur',hg',hcs',hk'⟩:=setCells_row zs (s.l.length*Enc.sz α) w cur hg
  have h2:=h.sh.put (A' := .own E s) hr (setCells_chg (X:=(Asn.own E s).fp) (by show s.v.ownBlock=some g;rw [hsv];rfl) zs (s.l.length*Enc.sz α) w) ⟨⟨hown.1, .inr ⟨g,cap,cur',hsv,hb0,hg',hn,hm,hcs'.trans hcs, ?_⟩⟩,hlen, ?_⟩ (fun b hb=> .inl hb) (fun b hb=> .inr (.inl hb)) (h.sh.self _ (List.mem_of_getElem? hr))
  ·have:L.set r (.own E s)=L:=by
    obtain ⟨hlt,e9⟩:=List.getElem?_eq_some_iff.1 hr
    rw [←e9];exact List.set_getElem_self hlt
   rw [this] at h2
   exact ⟨h.fr,h2⟩
  ·rw [←htk]
   apply List.ext_getElem?
   intro k
   simp only [List.getElem?_take,Array.getElem?_toList]
   split
   ·exact hk' k (by assumption)
   ·rfl
  ·intro q hq
   refine Enc.keep _ w _ (hinn q hq) fun b hb=> ?_
   have hbg:b≠g:=by
    rintro rfl
    exact (h.sh.self _ (List.mem_of_getElem? hr)) b (by show s.v.ownBlock=some b;rw [hsv];rfl) ⟨q,hq,hb⟩
   have hlt:b<w.heap.size:=Enc.lt _ w (hinn q hq) b hb
   exact (setCells_chg (X:=fun b=>b=g) rfl zs (s.l.length*Enc.sz α) w).same b hlt hbg
end
section
variable {P:Program}{o:Oper}{N:Nat}{K:Nat→Prop}{W w:World}{a:Act}{F:List (Nat×Value)}{L:List Asn}
theorem Sh.front {i:Nat}{A:Asn}(h:Sh K W w L)(hi:L[i]? =some A):Sh K W w (A::L.eraseIdx i):=by
 obtain ⟨hl,he⟩:=List.getElem?_eq_some_iff.1 hi
 have:=perm_erase L i hl
 rw [he] at this
 exact h.perm this
section
variable {α:Type}[Enc α]{E IE:TypeId}{v:Value}{M:List (Ls α)}
end
end
structure KE where
 k:Int
 v:Int
 b:Nat
def KE.e (x:KE):MapEntry:=⟨.int .i64 x.k, .int .i64 x.v,x.b⟩
def KE.kv (x:KE):Int×Int:=(x.k,x.v)
structure MapC (w:World)(g:Nat)(c:List KE)(t:Nat):Prop where
 blk:w.heap[g]? =some (.map (c.map KE.e).toArray t)
 born:(c.map (·.b)).Nodup
 below:∀x∈c,x.b<t
 keys:(c.map (·.k)).Nodup
def MapZ (w:World)(g:Nat)(l:List (Int×Int)):Prop:=∃c t,MapC w g c t∧c.map KE.kv=l
theorem MapC.of_block {w w' :World}{g:Nat}{c:List KE}{t:Nat}(h:MapC w g c t)(hb:w'.heap[g]? =w.heap[g]?):MapC w' g c t:=⟨hb.trans h.blk,h.born,h.below,h.keys⟩
theorem MapC.lt {w:World}{g:Nat}{c:List KE}{t:Nat}(h:MapC w g c t):g<w.heap.size:=(Array.getElem?_eq_some_iff.1 h.blk).1
def vz (l:List (Int×Int)):List (Int×Value):=l.map fun x=>(x.1, .int .i64 x.2)
theorem MapZ.int {w:World}{g:Nat}{l:List (Int×Int)}(h:MapZ w g l):MapI w g (vz l):=by
 obtain ⟨c,t,h1,rfl⟩:=h
 exact ⟨_,t,h1.blk,by simp [pairsOf,keysI,vz,KE.e,KE.kv,Function.comp_def]⟩
theorem MapZ.keys {w:World}{g:Nat}{l:List (Int×Int)}(h:MapZ w g l):(l.map (·.1)).Nodup:=by
 obtain ⟨c,t,h1,rfl⟩:=h
 have:=h1.keys
 rw [List.map_map]
 exact this
structure MapTZ (P:Program)(T kT eT:TypeId):Prop where
 map:P.underlying T=some (.map kT eT)
 int:P.underlying kT=some (.int .i64)
 zero:∀w,(zeroValue eT).run P w= .ok (.int .i64 0) w
section
variable {P:Program}{o:Oper}{N:Nat}{K:Nat→Prop}{W w:World}{a:Act}{F:List (Nat×Value)}{L:List Asn}{T kT eT:TypeId}{p:Option Nat}{l:List (Int×Int)}{k v:Int}{g:Nat}
end
section
variable {P:Program}{o:Oper}{N:Nat}{K:Nat→Prop}{W w:World}{a:Act}{F:List (Nat×Value)}{L:List Asn}{T kT eT:TypeId}{l:List (Int×Int)}{g r t:Nat}{c:List KE}{s:List Nat}
end
section
variable {pd:Int→Int→Bool}{c:List KE}{s:List Nat}{x:KE}
end
structure MP where
 p:Option Nat
 l:List (Int×Int)
instance : Inhabited MP:=⟨⟨none, []⟩⟩
section
variable {P:Program}{o:Oper}{N:Nat}{K:Nat→Prop}{W w:World}{a:Act}{F:List (Nat×Value)}{L:List Asn}{T kT eT E:TypeId}{v:Value}{M:List MP}{l:List (Int×Int)}{p:Option Nat}{g:Nat}
end
section
variable {N:Nat}{K:Nat→Prop}{W w:World}{a:Act}{F:List (Nat×Value)}{L:List Asn}{α:Type}[Enc α][Flat α]
end
section
variable {P:Program}{o:Oper}{N:Nat}{K:Nat→Prop}{W w:World}{a:Act}{F:List (Nat×Value)}{L:List Asn}
end
section
variable {P:Program}{o:Oper}{N:Nat}{K:Nat→Prop}{W w:World}{a:Act}{F:List (Nat×Value)}{L:List Asn}{α:Type}[Enc α]
theorem St.truncN (r:Nat){E:TypeId}{s:Ls α}(h:St N K W a w F L)(hi:L[r]? =some (.own E s))(j:Nat)(hj:j≤s.l.length)(h0:0<s.l.length):St N K W a w F (L.set r (.own E (⟨vtake s.v j,s.l.take j⟩:Ls α))):=by
 obtain ⟨⟨h1,h2⟩,h3,h4⟩:=h.sh.ok _ (List.mem_of_getElem? hi)
 have hse:=h.sh.self _ (List.mem_of_getElem? hi)
 have ht:(s.l.take j).length=j:=by rw [List.length_take];omega
 rcases h2 with ⟨_,hn⟩|⟨g,cap,cur,hv,hb,hg,hc,hm,hs,he⟩
 ·omega
 ·have hv2:vtake s.v j= .slice (some ⟨g,0,none⟩) j cap:=by rw [hv];rfl
  have hle:j*Enc.sz α≤s.l.length*Enc.sz α:=Nat.mul_le_mul_right _ hj
  have hnt:∀i,i<(s.l.take j).length→i<s.l.length∧nth (s.l.take j) i=nth s.l i:=fun i hi9=>by
   have h9:i<j:=by omega
   exact ⟨by omega,by rw [nth_lt _ _ hi9,nth_lt _ _ (show i<s.l.length by omega),List.getElem_take]⟩
  refine ⟨h.fr,h.sh.put hi (Chg.refl _ _) ⟨⟨?_, .inr ⟨g,cap,cur, ?_,hb,hg, ?_,hm,hs, ?_⟩⟩, ?_, ?_⟩ ?_ (fun b hb=> ?_) (fun b hb1 hb=> ?_)⟩
  ·show (encL (s.l.take j)).length=(s.l.take j).length*_
   rw [encL_take,List.length_take,h1,ht]
   omega
  ·show vtake s.v j= .slice _ (s.l.take j).length cap
   rw [hv2,ht]
  ·show (s.l.take j).length≤cap
   omega
  ·show cur.toList.take ((s.l.take j).length*_)=encL (s.l.take j)
   rw [ht,encL_take,←he,List.take_take,Nat.min_eq_left hle]
  ·show (s.l.take j).length≤_
   omega
  ·intro i hi
   rw [(hnt i hi).2]
   exact h4 i (hnt i hi).1
  ·intro b hb
   left
   have hb' :(vtake s.v j).ownBlock=some b:=hb
   rw [hv2] at hb'
   show s.v.ownBlock=some b
   rw [hv]
   exact hb'
  ·obtain ⟨i,hi,hb⟩:=hb
   rw [(hnt i hi).2] at hb
   exact .inr (.inl ⟨i,(hnt i hi).1,hb⟩)
  ·obtain ⟨i,hi,hb⟩:=hb
   rw [(hnt i hi).2] at hb
   refine hse b ?_ ⟨i,(hnt i hi).1,hb⟩
   have hb' :(vtake s.v j).ownBlock=some b:=hb1
   rw [hv2] at hb'
   show s.v.ownBlock=some b
   rw [hv]
   exact hb'
theorem r_slHv {T e:TypeId}{g:Bool}{n by_:Nat}{z:List Value}{x y:Operand}{v:Value}{j:Nat}(hT:slI P T=some e)(he:tyI P e=some (g,n,by_,z))(ho:o.op= .slice T x none (some y) none)(hx:ev F x=some v)(hy:ev F y=some (.int .i64 (j:Int)))
  (hv:∃b m cap,v= .slice (some ⟨b,0,none⟩) m cap∧m≤cap∧j≤m∧0<m):Rn P o N K W F L (vtake v j):=fun a w h=>by
 obtain ⟨blk,m,cap,rfl,hle,hj,hpos⟩:=hv
 obtain ⟨i,d,zv,hi,hd,_,rfl,_⟩:=tyI_parts he
 have hu:=slI_parts hT
 have hel:P.elem T=e:=by simp [Program.elem,hu]
 have hu' :P.underlying T=some (.slice (P.elem T)):=by rw [hel];exact hu
 have hc0:¬cap=0:=by omega
 have e1:=run_sliceAt_slice (P:=P) w T (.slice (some ⟨blk,0,none⟩) m cap) none (some (.int .i64 (j:Int))) none hu'
 have e2:=run_slice_h (P:=P) w T (some ⟨blk,0,none⟩) m cap hu' .i64 (j:Int) (by omega) (by omega)
 rw [hel,run_sizeOf hi,Result.andThen_ok] at e2
 rw [e2] at e1
 unfold execOp
 simp only [ho,h.fr.ev hx,h.fr.ev hy,Option.map_some,Option.map_none,Sem.run_bind,e1,Result.andThen_ok,Sem.run_pure,sliced,vtake]
 simp [Addr.add_lit,hc0]
theorem own_form {E:TypeId}{s:Ls α}{w:World}(h:(Asn.own E s).ok w)(h0:0<s.l.length):∃b cap,s.v= .slice (some ⟨b,0,none⟩) s.l.length cap∧s.l.length≤cap:=by
 obtain ⟨⟨h1,h2⟩,h3,h4⟩:=h
 rcases h2 with ⟨_,hn⟩|⟨g,cap,cur,hv,hb,hg,hc,hm,hs,he⟩
 ·omega
 ·exact ⟨g,cap,hv,hc⟩
theorem vsub_take {v:Value}{b n cap sz i:Nat}(hv:v= .slice (some ⟨b,0,none⟩) n cap):vsub (vtake v i) sz i n=vdrop v sz i:=by subst hv;rfl
theorem padr_drop {v:Value}{b n cap sz lo q j:Nat}(hv:v= .slice (some ⟨b,0,none⟩) n cap)(hlo:lo<cap):padr (vdrop v sz lo) sz q j=padr v sz (lo+q) j:=by
 subst hv
 simp [padr,vdrop,vblk,voff,show¬cap=lo by omega,Addr.add_lit,Nat.add_mul]
theorem vcap_take {v:Value}{i:Nat} :vcap (vtake v i)=vcap v:=by cases v<;>rfl
theorem cells3 (x:OutL):cellsOf x= [.int .i64 x.st,x.words.v,x.prints.v]:=rfl
end
set_option maxRecDepth 100000
set_option maxHeartbeats 4000000
theorem ok_thread {code:Ls (Ls Ins)}{words:Ls Int}{locks regs:Int}(h:OkPg (pgOf code words locks regs))(t:Nat)(ht:t<code.l.length):(nth code.l t).l.length≤400∧JumpsOK (nth code.l t).l:=by
 have e:nth (pgOf code words locks regs).code t=(nth code.l t).l:=nth_map' _ _ _ ht
 have ht' :t<(pgOf code words locks regs).code.length:=by simpa [pgOf] using ht
 refine ⟨by rw [←e];exact h.len t ht',fun i hi=> ?_⟩
 have hi2:=h.ins t i ht' (by rw [e];exact hi)
 rw [e] at hi2
 have hw:wrap64 (((nth code.l t).l.length:Int)+1)=((nth code.l t).l.length:Int)+1:=by
  have hlen:=h.len t ht'
  rw [e] at hlen
  exact IntWalk.wrap64_in _ ⟨by omega,by omega⟩
 refine ⟨fun h14=> ?_,fun h15=> ?_⟩
 ·have h0:=hi2.n0
  unfold okNumG at h0
  rw [h14] at h0
  have hk:kindsB 14=⟨#[99]⟩:=by unfold kindsB;simp
  rw [hk] at h0
  simp only [show (0:Nat)<(⟨#[99]⟩:ByteArray).size from by decide,dif_pos] at h0
  have:fitsG (pgOf code words locks regs) (nth code.l t).l.length 99 (nth (nth code.l t).l i).a=true:=h0
  unfold fitsG at this
  simp only [Int.reduceEq,if_false,if_true,hw,Bool.and_eq_true,decide_eq_true_eq] at this
  omega
 ·have h0:=hi2.n1
  unfold okNumG at h0
  rw [h15] at h0
  have hk:kindsB 15=⟨#[114,99]⟩:=by unfold kindsB;simp
  rw [hk] at h0
  simp only [show (1:Nat)<(⟨#[114,99]⟩:ByteArray).size from by decide,dif_pos] at h0
  have:fitsG (pgOf code words locks regs) (nth code.l t).l.length 99 (nth (nth code.l t).l i).b=true:=h0
  unfold fitsG at this
  simp only [Int.reduceEq,if_false,if_true,hw,Bool.and_eq_true,decide_eq_true_eq] at this
  omega
theorem ok_len {code:Ls (Ls Ins)}{words:Ls Int}{locks regs:Int}(h:OkPg (pgOf code words locks regs)):1≤code.l.length∧code.l.length≤4∧words.l.length≤64∧0≤locks∧locks≤4∧1≤regs∧regs≤200:=by
 have h1:=h.code
 have h2:=h.words
 have h3:=h.locks
 have h4:=h.regs
 simp only [pgOf,List.length_map] at h1 h2 h3 h4
 omega
theorem nil_at {α:Type}[Enc α](w:World):(⟨.slice none 0 0, []⟩:Ls α).At w:=(((Sh0.start w).nil (α:=α) 0).own 0 rfl)
theorem Sh.nilAt {α:Type}[Enc α]{K:Nat→Prop}{W w:World}{L:List Asn}(h:Sh K W w L):(⟨.slice none 0 0, []⟩:Ls α).At w:=nil_at w
def nextsL (code:List Ins)(i:Nat):List Int:=if (nth code i).op=14 then [(nth code i).a] else if (nth code i).op=15 then [((i+1:Nat):Int),(nth code i).b] else [((i+1:Nat):Int)]
theorem nexts_c (x:Ls Ins)(i:Nat)(W:World)(hx:x.At W)(hi:i<x.l.length)(hl:x.l.length≤100000):
    Rets Try.prog 62 [x.v, .int .i64 ((i:Nat):Int)] W (fun v w' =>∃s:Ls Int,v=s.v∧Sh0 W w' [.own 3 (⟨s.v,nextsL x.l i⟩:Ls Int)]):=by
 refine gen Try.func62 Try.ntmps62 (Sh0.ext1 hx:Sh (fun _=>False) W W [.at_ x]) rfl fun a10 h10=>gG h10<|sG (oM 1 rfl<|.nl)<|gK fun _ k12=>sK fun _ k13=>gNl (aA 0 rfl) fun hl14=>gRn (oM 2 rfl<|oxN sl_45 ti_47 (aA 0 rfl) _ om9 rfl<|olw2 [.int .i64 ((nth x.l i).op), .int .i64 ((nth x.l i).a), .int .i64 ((nth x.l i).b), .int .i64 ((nth x.l i).c)] ti_47 (aA 0 rfl) om9 rfl<|.nl)<|gal ti_47 rfl fun b15=>gsw 0 ti_47 rfl rfl rfl<|nK k13<|sG (ofB fl_47_0 rfl<|olB 0 ti_3 rfl rfl<|.nl)<|gB<|sG (oeqI _ _ rfl<|oM 1 rfl<|.nl)<|?_;clear h10
 refine gcd rfl (fun hb19 hp19=> ?_) fun hb19 hp19=> ?_
 ·skip
  refine sK fun _ k20=>gRn (ofB fl_47_1 rfl<|olB 0 ti_3 rfl rfl<|.nl)<|gE1 (fun _ _ h_=>x_lit (n:=1) (cs:= [.int .i64 ((nth x.l i).a)]) ([(nth x.l i).a]:List Int) h_ sl_23 ti_3 rfl rfl rfl (by decide) rfl (by kernel_rfl) rfl (fun q hq w h=>Flat.inner _ _) (fun q hq b hb=>(Flat.on _ _ hb).elim) rfl rfl) rfl fun v21=>gRn (oM 1 rfl<|.nl)<|nK k20<|gR<|uB<|uT<|fun a22 w22 h22=>x_ret1 (fn:=Try.f62) (t:=4) rfl h22 rfl<|⟨⟨v21, []⟩,rfl, ?_⟩
  rw [show nextsL x.l i= [(nth x.l i).a] from by unfold nextsL;(repeat' split)<;>first|rfl|(exfalso;omega)]
  exact (h22.sh.sel [0] rfl)
 refine sG (oeqI _ _ rfl<|oM 1 rfl<|.nl)<|gcd rfl (fun hb24 hp24=> ?_) fun hb24 hp24=> ?_
 ·skip
  refine sK fun _ k25=>gRn (oM 1 rfl<|oadN _ 1 om9 rfl<|ofB fl_47_2 rfl<|olB 0 ti_3 rfl rfl<|.nl)<|gE1 (fun _ _ h_=>x_lit (n:=2) (cs:= [.int .i64 ((i+1:Nat):Int), .int .i64 ((nth x.l i).b)]) ([((i+1:Nat):Int),(nth x.l i).b]:List Int) h_ sl_23 ti_3 rfl rfl rfl (by decide) rfl (by kernel_rfl) rfl (fun q hq w h=>Flat.inner _ _) (fun q hq b hb=>(Flat.on _ _ hb).elim) rfl rfl) rfl fun v26=>gRn (oM 1 rfl<|.nl)<|nK k25<|gR<|uB<|uT<|fun a27 w27 h27=>x_ret1 (fn:=Try.f62) (t:=4) rfl h27 rfl<|⟨⟨v26, []⟩,rfl, ?_⟩
  rw [show nextsL x.l i= [((i+1:Nat):Int),(nth x.l i).b] from by unfold nextsL;(repeat' split)<;>first|rfl|(exfalso;omega)]
  exact (h27.sh.sel [0] rfl)
 refine gS<|hK k12<|sK fun _ k28=>gRn (oM 1 rfl<|oadN _ 1 om9 rfl<|.nl)<|gE1 (fun _ _ h_=>x_lit (n:=1) (cs:= [.int .i64 ((i+1:Nat):Int)]) ([((i+1:Nat):Int)]:List Int) h_ sl_23 ti_3 rfl rfl rfl (by decide) rfl (by kernel_rfl) rfl (fun q hq w h=>Flat.inner _ _) (fun q hq b hb=>(Flat.on _ _ hb).elim) rfl rfl) rfl fun v29=>gRn (oM 1 rfl<|.nl)<|nK k28<|gR<|fun a30 w30 h30=>x_ret1 (fn:=Try.f62) (t:=4) rfl h30 rfl<|⟨⟨v29, []⟩,rfl, ?_⟩
 rw [show nextsL x.l i= [((i+1:Nat):Int)] from by unfold nextsL;(repeat' split)<;>first|rfl|(exfalso;omega)]
 exact (h30.sh.sel [0] rfl)
inductive RchC (code:List Ins):Nat→Prop
 |zero:RchC code 0
 |step (i:Nat) (y:Int):RchC code i→i<code.length→y∈nextsL code i→RchC code y.toNat
structure CodeC (code:List Ins):Prop where
 op:∀i,i<code.length→1≤(nth code i).op
 nx:∀i,i<code.length→∀y∈nextsL code i,0≤y∧y≤(code.length:Int)
theorem nextsV_ok {code:List Ins}(hj:JumpsOK code){k:Nat}(hk:k<code.length){y:Int}(hy:y∈nextsL code k):0≤y∧y≤code.length:=by
 have:=hj k hk
 unfold nextsL at hy
 split at hy
 ·rename_i h;obtain rfl:y=_:=by simpa using hy
  exact this.1 h
 ·split at hy
  ·rename_i h
   rcases (by simpa using hy:y=_∨y=_) with rfl|rfl
   ·omega
   ·exact this.2 h
  ·obtain rfl:y=_:=by simpa using hy
   omega
theorem nth_mapR {β:Type}[Inhabited β]{f:Nat→β}{n i:Nat}(h:i<n):nth ((List.range n).map f) i=f i:=by simp [nth,h]
theorem nth_set1 {α:Type}[Inhabited α](l:List α)(i k:Nat)(x:α):nth (l.set i x) k=if i=k∧i<l.length then x else nth l k:=by
 simp only [nth,List.getD,List.getElem?_set]
 by_cases h:i=k
 ·subst h
  by_cases h2:i<l.length
  ·simp [h2]
  ·simp [h2,List.getElem?_eq_none (Nat.le_of_not_lt h2)]
 ·simp [h]
theorem nth_setB (l:List Bool)(i j:Nat)(b:Bool)(hi:i<l.length):nth (l.set i b) j=if j=i then b else nth l j:=by
 rw [nth_set1]
 by_cases h:j=i
 ·rw [if_pos h,if_pos ⟨h.symm,hi⟩]
 ·rw [if_neg h,if_neg (fun e=>h e.1.symm)]
structure RcB (code:List Ins)(out:List Bool):Prop where
 len:out.length=code.length+1
 zero:nth out 0=true
 sound:∀i,i≤code.length→nth out i=true→RchC code i
section
variable {code:List Ins}{out out2:List Bool}{a k n:Nat}{ag:Bool}
theorem RcB.start (code:List Ins):RcB code ((List.replicate (code.length+1) false).set 0 true):=by
 have hn:∀i,nth ((List.replicate (code.length+1) false).set 0 true) i=if i=0 then true else nth (List.replicate (code.length+1) false) i:=fun i=>nth_setB _ 0 i true (by simp)
 refine ⟨by simp,by rw [hn,if_pos rfl],fun i hi h=> ?_⟩
 rw [hn] at h
 by_cases e:i=0
 ·subst e;exact .zero
 ·rw [if_neg e] at h
  have:nth (List.replicate (code.length+1) false) i=false:=by simp [nth,List.getD,List.getElem?_replicate,show i<code.length+1 by omega]
  rw [this] at h;cases h
theorem RcB.put (hc:CodeC code)(h:RcB code out)(ha:a<code.length)(hk:k<(nextsL code a).length)(h1:nth out a=true):RcB code (out.set (nth (nextsL code a) k).toNat true):=by
 have hx:=hc.nx a ha _ (nth_mem _ _ hk)
 have hl:=h.len
 have hn:=fun j=>nth_setB out (nth (nextsL code a) k).toNat j true (by omega)
 refine ⟨by rw [List.length_set];exact hl, ?_,fun i hi hs=> ?_⟩
 ·rw [hn];split;rfl;exact h.zero
 ·rw [hn] at hs
  split at hs
  ·rename_i e;rw [e];exact .step a _ (h.sound a (by omega) h1) ha (nth_mem _ _ hk)
  ·exact h.sound i hi hs
end
theorem fit_lO {p:Pg}{size n:Int}(h:fitsG p size 108 n=true):0≤n∧n<p.locks:=by
 unfold fitsG at h
 simp only [Int.reduceEq,if_false,if_true,Bool.and_eq_true,decide_eq_true_eq] at h
 exact h
theorem num0O {p:Pg}{size:Int}{x:Ins}(h:okNumG p size x 0=true){b:UInt8}{r:List UInt8}(hk:kindsB x.op=⟨(b::r).toArray⟩):fitsG p size (b.toNat:Int) x.a=true:=by
 unfold okNumG at h
 rw [hk] at h
 rw [dif_pos (by simp [ByteArray.size])] at h
 exact h
theorem lock_a {p:Pg}{size:Int}{x:Ins}(h:OkIns p size x)(e:x.op=17∨x.op=18):0≤x.a∧x.a<p.locks:=by
 rcases e with e|e
 ·exact fit_lO (num0O h.n0 (b:=108) (r:= []) (by rw [e];unfold kindsB;simp))
 ·exact fit_lO (num0O h.n0 (b:=108) (r:= []) (by rw [e];unfold kindsB;simp))
theorem insO_of {code:Ls (Ls Ins)}{words:Ls Int}{locks regs:Int}{t i:Nat}(h:OkPg (pgOf code words locks regs))(ht:t<code.l.length)(hi:i<(nth code.l t).l.length):OkIns (pgOf code words locks regs) (nth code.l t).l.length (nth (nth code.l t).l i):=by
 have ht2:t<(pgOf code words locks regs).code.length:=by show t<(code.l.map (·.l)).length;simpa using ht
 have e:nth (pgOf code words locks regs).code t=(nth code.l t).l:=nth_map' _ _ _ ht
 have:=h.ins t i ht2 (by rw [e];exact hi)
 rw [e] at this
 exact this
theorem codeC_of {code:Ls (Ls Ins)}{words:Ls Int}{locks regs:Int}{t:Nat}(h:OkPg (pgOf code words locks regs))(ht:t<code.l.length):CodeC (nth code.l t).l:=by
 obtain ⟨_,hj⟩:=ok_thread h t ht
 exact ⟨fun i hi=>(insO_of h ht hi).op.1,fun i hi y hy=>nextsV_ok hj hi hy⟩
inductive HeldI (code:List Ins)(l:Nat):Nat→Prop
 |take (i:Nat) (y:Int):RchC code i→i<code.length→y∈nextsL code i→(nth code i).op=17→(nth code i).a=(l:Int)→HeldI code l y.toNat
 |keep (i:Nat) (y:Int):HeldI code l i→i<code.length→y∈nextsL code i→¬((nth code i).op=18∧(nth code i).a=(l:Int))→HeldI code l y.toNat
theorem HeldI.rch {code:List Ins}{l i:Nat}(h:HeldI code l i):RchC code i:=by
 induction h with
 |take i y h1 h2 h3 _ _=>exact .step i y h1 h2 h3
 |keep i y _ h2 h3 _ ih=>exact .step i y ih h2 h3
def outB (x:Ins)(l:Nat)(b:Bool):Bool:=if x.op=17∧x.a=(l:Int) then true else if x.op=18∧x.a=(l:Int) then false else b
theorem HeldI.out {code:List Ins}{l i:Nat}{y:Int}{b:Bool}(hr:RchC code i)(hi:i<code.length)(hy:y∈nextsL code i)(hb:b=true→HeldI code l i)(h:outB (nth code i) l b=true):HeldI code l y.toNat:=by
 unfold outB at h
 split at h
 ·rename_i e;exact .take i y hr hi hy e.1 e.2
 ·split at h
  ·cases h
  ·rename_i e;exact .keep i y (hb h) hi hy e
def outL (x:Ins)(s:List Bool):List Bool:=if x.op=17 then s.set x.a.toNat true else if x.op=18 then s.set x.a.toNat false else s
theorem outL_len (x:Ins)(s:List Bool):(outL x s).length=s.length:=by unfold outL;split;exact List.length_set;split;exact List.length_set;rfl
def LockC (code:List Ins):Prop:=∀i,i<code.length→(nth code i).op=17∨(nth code i).op=18→0≤(nth code i).a∧(nth code i).a<4
theorem outL_nth {x:Ins}{s:List Bool}{l:Nat}(hs:s.length=4)(hx:x.op=17∨x.op=18→0≤x.a∧x.a<4):nth (outL x s) l=outB x l (nth s l):=by
 unfold outL outB
 by_cases h1:x.op=17
 ·have:=hx (.inl h1)
  rw [if_pos h1,nth_setB _ _ _ _ (by omega)]
  by_cases e:l=x.a.toNat
  ·rw [if_pos e,if_pos ⟨h1,by omega⟩]
  ·rw [if_neg e,if_neg (fun h:x.op=17∧x.a=(l:Int)=>e (by omega)),if_neg (fun h:x.op=18∧x.a=(l:Int)=>by have:=h.1;omega)]
 ·rw [if_neg h1,if_neg (fun h:x.op=17∧x.a=(l:Int)=>h1 h.1)]
  by_cases h2:x.op=18
  ·have:=hx (.inr h2)
   rw [if_pos h2,nth_setB _ _ _ _ (by omega)]
   by_cases e:l=x.a.toNat
   ·rw [if_pos e,if_pos ⟨h2,by omega⟩]
   ·rw [if_neg e,if_neg (fun h:x.op=18∧x.a=(l:Int)=>e (by omega))]
  ·rw [if_neg h2,if_neg (fun h:x.op=18∧x.a=(l:Int)=>h2 h.1)]
def orL (s o:List Bool)(k:Nat):List Bool:=(List.range 4).map fun b=>nth s b||(decide (b<k)&&nth o b)
theorem orL_len (s o:List Bool)(k:Nat):(orL s o k).length=4:=by simp [orL]
theorem orL_nth (s o:List Bool){k b:Nat}(hb:b<4):nth (orL s o k) b=(nth s b||(decide (b<k)&&nth o b)):=by unfold orL;exact nth_mapR hb
theorem ext4 {s t:List Bool}(hs:s.length=4)(ht:t.length=4)(h:∀b,b<4→nth s b=nth t b):s=t:=by
 apply List.ext_getElem (by omega)
 intro i h1 h2
 have:=h i (by omega)
 rwa [nth_lt _ _ h1,nth_lt _ _ h2] at this
theorem orL_zero {s o:List Bool}(hs:s.length=4):s=orL s o 0:=ext4 hs (orL_len ..) fun b hb=>by rw [orL_nth _ _ hb];simp
theorem orL_yes {s o n:List Bool}{k:Nat}(h:n=orL s o k)(hk:k<4)(hb:nth n k=true∨nth o k=true):n.set k true=orL s o (k+1):=by
 subst h
 refine ext4 (by rw [List.length_set,orL_len]) (orL_len ..) fun b hb4=> ?_
 rw [nth_setB _ _ _ _ (by rw [orL_len];exact hk),orL_nth _ _ hb4,orL_nth _ _ hb4]
 rw [orL_nth _ _ hk] at hb
 split
 ·rename_i e
  subst e
  rcases hb with hb|hb
  ·have:nth s b=true:=by simpa using hb
   rw [this];rfl
  ·rw [hb];simp
 ·rename_i e
  rw [show decide (b<k+1)=decide (b<k) by by_cases h:b<k;rw [decide_eq_true h,decide_eq_true (by omega)];rw [decide_eq_false h,decide_eq_false (by omega)]]
theorem orL_no {s o n:List Bool}{k:Nat}(h:n=orL s o k)(hk:k<4)(hb:nth o k=false):n=orL s o (k+1):=by
 subst h
 refine ext4 (orL_len ..) (orL_len ..) fun b hb4=> ?_
 rw [orL_nth _ _ hb4,orL_nth _ _ hb4]
 by_cases e:b=k
 ·subst e;rw [hb];simp
 ·rw [show decide (b<k+1)=decide (b<k) by by_cases h:b<k;rw [decide_eq_true h,decide_eq_true (by omega)];rw [decide_eq_false h,decide_eq_false (by omega)]]
theorem orL_set {s o n:List Bool}{k:Nat}{c:Bool}(h:n=orL s o k)(hk:k<4)(hc:c=(nth n k||nth o k)):n.set k c=orL s o (k+1):=by
 subst h
 refine ext4 (by rw [List.length_set,orL_len]) (orL_len ..) fun b hb4=> ?_
 rw [nth_setB _ _ _ _ (by rw [orL_len];exact hk),orL_nth _ _ hb4,orL_nth _ _ hb4]
 rw [orL_nth _ _ hk] at hc
 split
 ·rename_i e
  subst e
  rw [hc];simp
 ·rename_i e
  rw [show decide (b<k+1)=decide (b<k) by by_cases h:b<k;rw [decide_eq_true h,decide_eq_true (by omega)];rw [decide_eq_false h,decide_eq_false (by omega)]]
theorem orL_all {s o:List Bool}{b:Nat}(hb:b<4):nth (orL s o 4) b=(nth s b||nth o b):=by rw [orL_nth _ _ hb,decide_eq_true hb,Bool.true_and]
theorem cnt_le :∀ {l m:List Bool},l.length=m.length→(∀i,i<l.length→nth l i=true→nth m i=true)→l.count true≤m.count true∧(l≠m→l.count true<m.count true)
 | [], [],_,_=>⟨Nat.le_refl _,fun h=>absurd rfl h⟩
 | [],_::_,h,_=>by simp at h
 |_::_, [],h,_=>by simp at h
 |x::l,y::m,h,hm=>by
  have ih:=cnt_le (l:=l) (m:=m) (by simpa using h) fun i hi hx=>hm (i+1) (by simp;omega) hx
  have h0:x=true→y=true:=fun e=>hm 0 (by simp) e
  rw [List.count_cons,List.count_cons]
  cases x<;>cases y<;>simp at h0⊢
  ·exact ih
  ·omega
  ·exact ih
def cntS (M:List BArr):Nat:=(M.map fun x=>x.l.count true).sum
theorem cntS_set :∀ {M:List BArr} {k:Nat} {x:BArr},k<M.length→cntS (M.set k x)+(nth M k).l.count true=cntS M+x.l.count true
 | [],_,_,h=>by simp at h
 |y::M,0,x,_=>by
  show ((x::M).map _).sum+y.l.count true=((y::M).map _).sum+_
  simp only [List.map_cons,List.sum_cons];omega
 |y::M,k+1,x,h=>by
  have ih:=cntS_set (M:=M) (k:=k) (x:=x) (by simpa using h)
  show ((y::M.set k x).map _).sum+(nth M k).l.count true=((y::M).map _).sum+_
  unfold cntS at ih
  simp only [List.map_cons,List.sum_cons];omega
theorem cntS_le :∀ {M:List BArr},(∀j,j<M.length→(nth M j).l.length=4)→cntS M≤4*M.length
 | [],_=>Nat.le_refl _
 |y::M,h=>by
  have ih:=cntS_le (M:=M) fun j hj=>h (j+1) (by simp;omega)
  have h0:y.l.length=4:=h 0 (by simp)
  have h1:y.l.count true≤y.l.length:=List.count_le_length
  unfold cntS at ih⊢
  simp only [List.map_cons,List.sum_cons,List.length_cons];omega
structure HdB (code:List Ins)(M:List BArr)(G:List Bool)(wk:List Int):Prop where
 ml:M.length=code.length+1
 gl:G.length=code.length+1
 w4:∀i,i<code.length+1→(nth M i).l.length=4
 zero:nth G 0=true
 gs:∀i,i≤code.length→nth G i=true→RchC code i
 ms:∀i k,i≤code.length→k<4→nth (nth M i).l k=true→HeldI code k i
 wk:∀v∈wk,(0≤v∧v≤(code.length:Int))∧nth G v.toNat=true
def HdC (code:List Ins)(M:List BArr)(G:List Bool)(wk:List Int)(i:Nat):Prop:=
 nth G i=true→(i:Int)∈wk∨∀y∈nextsL code i,nth G y.toNat=true∧∀k,k<4→nth (outL (nth code i) (nth M i).l) k=true→nth (nth M y.toNat).l k=true
def totH (M:List BArr)(G:List Bool):Nat:=cntS M+G.count true
def HdN (code:List Ins)(M:List BArr)(G:List Bool)(wk:List Int)(i:Nat)(s:List Bool)(q:Nat):Prop:=
 (i:Int)∈wk∨((nth M i).l=s∧∀j,j<q→nth G (nth (nextsL code i) j).toNat=true∧∀k,k<4→nth (outL (nth code i) s) k=true→nth (nth M (nth (nextsL code i) j).toNat).l k=true)
section
variable {code:List Ins}{M:List BArr}{G:List Bool}{wk:List Int}{i q:Nat}{s:List Bool}
theorem HdB.start (code:List Ins):HdB code (List.replicate (code.length+1) ⟨List.replicate 4 false⟩) ((List.replicate (code.length+1) false).set 0 true) [0]:=by
 have hz:∀i,(nth (List.replicate (code.length+1) (⟨List.replicate 4 false⟩:BArr)) i).l=List.replicate 4 false:=fun i=>by
  by_cases h:i<code.length+1
  ·simp [nth,h]
  ·have:nth (List.replicate (code.length+1) (⟨List.replicate 4 false⟩:BArr)) i=default:=by simp [nth,List.getD,h]
   rw [this];rfl
 have hs:=RcB.start code
 refine ⟨by simp,hs.len,fun i _=>by rw [hz];rfl,hs.zero,hs.sound,fun i k _ hk h=> ?_,fun v hv=> ?_⟩
 ·rw [hz] at h
  rcases (by omega:k=0∨k=1∨k=2∨k=3) with rfl|rfl|rfl|rfl<;>cases h
 ·obtain rfl:=List.mem_singleton.1 hv
  exact ⟨⟨Int.le_refl _,by omega⟩,hs.zero⟩
theorem HdC.start (code:List Ins):∀i,i<code.length→HdC code (List.replicate (code.length+1) ⟨List.replicate 4 false⟩) ((List.replicate (code.length+1) false).set 0 true) [0] i:=by
 intro i hi h
 rw [nth_setB _ _ _ _ (by simp)] at h
 split at h
 ·rename_i e;subst e;exact .inl (List.mem_singleton.2 rfl)
 ·have:nth (List.replicate (code.length+1) false) i=false:=by simp [nth,List.getD,List.getElem?_replicate,show i<code.length+1 by omega]
  rw [this] at h;cases h
theorem HdB.tot (h:HdB code M G wk):totH M G≤5*(code.length+1):=by
 have h1:=cntS_le (M:=M) fun j hj=>h.w4 j (by rw [←h.ml];exact hj)
 have h2:G.count true≤G.length:=List.count_le_length
 have:=h.ml
 have:=h.gl
 unfold totH;omega
theorem HdB.pop {v:Int}(h:HdB code M G (v::wk)):HdB code M G wk:=⟨h.ml,h.gl,h.w4,h.zero,h.gs,h.ms,fun x hx=>h.wk x (List.mem_cons_of_mem _ hx)⟩
theorem HdC.pop {v:Int}(h:∀i,i<code.length→HdC code M G (v::wk) i):∀i,i<code.length→(i:Int)≠v→HdC code M G wk i:=by
 intro i hi hne hg
 rcases h i hi hg with h2|h2
 ·rcases List.mem_cons.1 h2 with h3|h3
  ·exact absurd h3 hne
  ·exact .inl h3
 ·exact .inr h2
theorem HdN.start (h:(nth M i).l=s):HdN code M G wk i s 0:= .inr ⟨h,fun j hj=>absurd hj (Nat.not_lt_zero _)⟩
theorem HdN.done (h:HdN code M G wk i s (nextsL code i).length):HdC code M G wk i:=by
 intro _
 rcases h with h|⟨h1,h2⟩
 ·exact .inl h
 ·refine .inr fun y hy=> ?_
  obtain ⟨j,hj,e⟩:=List.getElem_of_mem hy
  have:=h2 j hj
  rw [nth_lt _ _ hj,e] at this
  rw [h1]
  exact this
theorem hd_sound (hc:CodeC code)(hlc:LockC code)(h:HdB code M G wk)(hi:i<code.length)(hr:RchC code i)(hs:s.length=4)(hss:∀k,k<4→nth s k=true→HeldI code k i){y:Int}(hy:y∈nextsL code i){k:Nat}(hk:k<4)(ho:nth (outL (nth code i) s) k=true):HeldI code k y.toNat:=by
 rw [outL_nth hs (hlc i hi)] at ho
 exact HeldI.out hr hi hy (hss k hk) ho
theorem HdB.put (hc:CodeC code)(hlc:LockC code)(h:HdB code M G wk)(hi:i<code.length)(hr:RchC code i)(hs:s.length=4)(hss:∀k,k<4→nth s k=true→HeldI code k i)(hq:q<(nextsL code i).length){t:Nat}(ht:t=(nth (nextsL code i) q).toNat){n:List Bool}(hn:n=orL (nth M t).l (outL (nth code i) s) 4):
  HdB code (M.set t ⟨n⟩) (G.set t true) (wk++ [nth (nextsL code i) q]):=by
 have hy:=nth_mem (nextsL code i) q hq
 have hx:=hc.nx i hi _ hy
 have hml:=h.ml
 have hgl:=h.gl
 have hN:=fun j=>nth_setB G t j true (by omega)
 have hMs:∀j,nth (M.set t (⟨n⟩:BArr)) j=if t=j then ⟨n⟩ else nth M j:=fun j=>by
  rw [nth_set]
  by_cases e:t=j
  ·rw [if_pos e,if_pos ⟨e,by omega⟩]
  ·rw [if_neg e,if_neg (fun e2=>e e2.1)]
 refine ⟨by rw [List.length_set];exact hml,by rw [List.length_set];exact hgl,fun j hj=> ?_, ?_,fun j hj hg=> ?_,fun j k hj hk hm=> ?_,fun v hv=> ?_⟩
 ·rw [hMs];split;show n.length=4;rw [hn];exact orL_len ..;exact h.w4 j hj
 ·rw [hN];split;rfl;exact h.zero
 ·rw [hN] at hg
  split at hg
  ·rename_i e;rw [e,ht];exact .step i _ hr hi hy
  ·exact h.gs j hj hg
 ·rw [hMs] at hm
  split at hm
  ·rename_i e
   have hm:nth n k=true:=hm
   rw [hn,orL_all hk] at hm
   rw [←e]
   rcases (Bool.or_eq_true _ _).mp hm with h1|h1
   ·exact h.ms t k (by omega) hk h1
   ·rw [ht];exact hd_sound hc hlc h hi hr hs hss hy hk h1
  ·exact h.ms j k hj hk hm
 ·rw [hN]
  rcases List.mem_append.1 hv with hv|hv
  ·obtain ⟨h1,h2⟩:=h.wk v hv
   exact ⟨h1,by split;rfl;exact h2⟩
  ·obtain rfl:=List.mem_singleton.1 hv
   exact ⟨hx,if_pos ht.symm⟩
theorem HdC.put {t:Nat}{n o:List Bool}{y:Int}(hn:n=orL (nth M t).l o 4)(hml:t<M.length)(hgl:t<G.length)(hy:y=(t:Int))(h:HdC code M G wk i):HdC code (M.set t ⟨n⟩) (G.set t true) (wk++ [y]) i:=by
 have hN:=fun j=>nth_setB G t j true hgl
 intro hg
 by_cases e:i=t
 ·exact .inl (List.mem_append.2 (.inr (List.mem_singleton.2 (by rw [hy,e]))))
 ·rw [hN,if_neg e] at hg
  rcases h hg with h1|h1
  ·exact .inl (List.mem_append.2 (.inl h1))
  ·refine .inr fun z hz=> ?_
   obtain ⟨h2,h3⟩:=h1 z hz
   refine ⟨by rw [hN];split;rfl;exact h2,fun k hk ho=> ?_⟩
   rw [nth_set,if_neg (fun e2=>e e2.1.symm)] at ho
   have h4:=h3 k hk ho
   rw [nth_set]
   split
   ·rename_i e2
    show nth n k=true
    rw [hn,orL_all hk,e2.1,h4];rfl
   ·exact h4
theorem HdN.put {t:Nat}{n:List Bool}(ht:t=(nth (nextsL code i) q).toNat)(h0:0≤nth (nextsL code i) q)(hn:n=orL (nth M t).l (outL (nth code i) s) 4)(hml:t<M.length)(hgl:t<G.length)(h:HdN code M G wk i s q):HdN code (M.set t ⟨n⟩) (G.set t true) (wk++ [nth (nextsL code i) q]) i s (q+1):=by
 have hN:=fun j=>nth_setB G t j true hgl
 by_cases e:i=t
 ·exact .inl (List.mem_append.2 (.inr (List.mem_singleton.2 (by omega))))
 ·rcases h with h1|⟨h1,h2⟩
  ·exact .inl (List.mem_append.2 (.inl h1))
  ·refine .inr ⟨by rw [nth_set,if_neg (fun e2=>e e2.1.symm)];exact h1,fun j hj=> ?_⟩
   by_cases ej:(nth (nextsL code i) j).toNat=t
   ·refine ⟨by rw [hN,if_pos ej],fun k hk ho=> ?_⟩
    rw [nth_set,if_pos ⟨ej.symm,hml⟩]
    show nth n k=true
    rw [hn,orL_all hk,ho,Bool.or_true]
   ·have hjq:j<q:=by
     rcases Nat.lt_or_ge j q with h9|h9
     ·exact h9
     ·have:j=q:=by omega
      rw [this] at ej;exact absurd ht.symm ej
    obtain ⟨h3,h4⟩:=h2 j hjq
    exact ⟨by rw [hN,if_neg ej];exact h3,fun k hk ho=>by rw [nth_set,if_neg (fun e2=>ej e2.1.symm)];exact h4 k hk ho⟩
theorem HdN.stay {n:List Bool}(hn:n=orL (nth M (nth (nextsL code i) q).toNat).l (outL (nth code i) s) 4)(hg:nth G (nth (nextsL code i) q).toNat=true)(he:n=(nth M (nth (nextsL code i) q).toNat).l)(h:HdN code M G wk i s q):HdN code M G wk i s (q+1):=by
 rcases h with h1|⟨h1,h2⟩
 ·exact .inl h1
 ·refine .inr ⟨h1,fun j hj=> ?_⟩
  rcases Nat.lt_or_ge j q with h9|h9
  ·exact h2 j h9
  ·obtain rfl:j=q:=by omega
   refine ⟨hg,fun k hk ho=> ?_⟩
   rw [←he,hn,orL_all hk,ho,Bool.or_true]
theorem hd_tot {t:Nat}{n o:List Bool}(hn:n=orL (nth M t).l o 4)(hml:t<M.length)(hgl:t<G.length)(hw:(nth M t).l.length=4)(h:nth G t=false∨n≠(nth M t).l):totH M G+1≤totH (M.set t ⟨n⟩) (G.set t true):=by
 have h1:=cntS_set (M:=M) (k:=t) (x:=⟨n⟩) hml
 have h2:=cnt_le (l:=(nth M t).l) (m:=n) (by rw [hn,orL_len,hw]) fun b hb hx=>by rw [hn,orL_all (by omega),hx];rfl
 have h3:G.count true≤(G.set t true).count true∧(nth G t=false→G.count true<(G.set t true).count true):=by
  have h4:=cnt_le (l:=G) (m:=G.set t true) (by simp) fun b hb hx=>by rw [nth_setB _ _ _ _ hgl];split;rfl;exact hx
  refine ⟨h4.1,fun h5=>h4.2 fun e=> ?_⟩
  have:nth G t=true:=by rw [e,nth_setB _ _ _ _ hgl,if_pos rfl]
  rw [h5] at this;cases this
 unfold totH
 rcases h with h|h
 ·have:=h3.2 h;have h5:=h2.1;show _≤cntS _+_;simp only at h1;omega
 ·have h5:=h2.2 (fun e=>h e.symm);have:=h3.1;simp only at h1;omega
theorem HdB.end_ (hc:CodeC code)(hlc:LockC code)(h:HdB code M G [])(hcl:∀i,i<code.length→HdC code M G [] i):(∀i,i≤code.length→(nth G i=true↔RchC code i))∧∀i k,i≤code.length→k<4→(nth (nth M i).l k=true↔HeldI code k i):=by
 have hG:∀i,RchC code i→i≤code.length→nth G i=true:=by
  intro i hr
  induction hr with
  |zero=>intro _;exact h.zero
  |step i y hr hl hy ih=>
   intro _
   rcases hcl i hl (ih (by omega)) with h1|h1
   ·cases h1
   ·exact (h1 y hy).1
 refine ⟨fun i hi=>⟨h.gs i hi,fun hr=>hG i hr hi⟩,fun i k hi hk=>⟨h.ms i k hi hk,fun hh=> ?_⟩⟩
 have step:∀j y,j<code.length→RchC code j→y∈nextsL code j→outB (nth code j) k (nth (nth M j).l k)=true→nth (nth M y.toNat).l k=true:=by
  intro j y hj hr hy ho
  rcases hcl j hj (hG j hr (by omega)) with h1|h1
  ·cases h1
  ·exact (h1 y hy).2 k hk (by rw [outL_nth (h.w4 j (by omega)) (hlc j hj)];exact ho)
 induction hh with
 |take j y hr hl hy h1 h2=>exact step j y hl hr hy (by unfold outB;rw [if_pos ⟨h1,h2⟩])
 |keep j y hj hl hy h1 ih=>
  refine step j y hl hj.rch hy ?_
  unfold outB
  rw [ih (by omega),if_neg h1]
  split<;>rfl
end
section
variable {α:Type}[Inhabited α]
def keepI (eq:α→α→Bool)(l:List α)(i:Nat):Bool:=decide (i=0)|| !eq (nth l i) (nth l (i-1))
def keepL (eq:α→α→Bool)(l:List α)(m:Nat):List α:=((List.range m).filter (keepI eq l)).map (nth l)
theorem keepL_yes {eq:α→α→Bool}{l:List α}{m:Nat}(h:keepI eq l m=true):keepL eq l (m+1)=keepL eq l m++ [nth l m]:=by
 unfold keepL;rw [List.range_succ,List.filter_append,List.map_append];simp [h]
theorem keepL_no {eq:α→α→Bool}{l:List α}{m:Nat}(h:keepI eq l m=false):keepL eq l (m+1)=keepL eq l m:=by
 unfold keepL;rw [List.range_succ,List.filter_append,List.map_append];simp [h]
theorem keepL_all {eq:α→α→Bool}{l:List α}{m:Nat}(hm:m≤l.length)(h:∀i,0<i→i<m→eq (nth l i) (nth l (i-1))=false):keepL eq l m=l.take m:=by
 induction m with
 |zero=>simp [keepL]
 |succ m ih=>
  have hk:keepI eq l m=true:=by
   unfold keepI
   rcases Nat.eq_zero_or_pos m with rfl|h0
   ·rfl
   ·rw [h m h0 (Nat.lt_succ_self m)];simp
  rw [keepL_yes hk,ih (by omega) (fun i h1 h2=>h i h1 (by omega)),take_succ_nth _ _ (by omega)]
end
def lessP (x y:P2):Bool:=if x.a=y.a then decide (x.b<y.b) else decide (x.a<y.a)
theorem lessP_irr (x:P2):lessP x x=false:=by simp [lessP]
theorem lessP_trans {x y z:P2}(h:lessP x y=true)(h2:lessP y z=true):lessP x z=true:=by
 unfold lessP at*
 (repeat' split at h)<;>(repeat' split at h2)<;>(repeat' split)<;>simp only [decide_eq_true_eq] at* <;>omega
theorem lessP_tri {x y:P2}(h:lessP x y=false)(h2:lessP y x=false):x=y:=by
 obtain ⟨a,b⟩:=x
 obtain ⟨a',b'⟩:=y
 unfold lessP at*
 simp only at h h2
 (repeat' split at h)<;>(repeat' split at h2)<;>simp only [decide_eq_false_iff_not] at h h2<;>first|omega|(simp only [P2.mk.injEq];omega)
theorem keep_sortedP {l:List P2}{eq:P2→P2→Bool}(he:∀a b,eq a b=true↔a=b)(hs:l.Pairwise fun a b=>lessP b a=false):(keepL eq l l.length).Pairwise (fun a b=>lessP a b=true)∧∀o,o∈keepL eq l l.length↔o∈l:=by
 have key:∀m,m≤l.length→(keepL eq l m).Pairwise (fun a b=>lessP a b=true)∧(∀o,o∈keepL eq l m↔o∈l.take m):=by
  intro m
  induction m with
  |zero=>intro _;exact ⟨List.Pairwise.nil,fun o=>by simp [keepL]⟩
  |succ m ih=>
   intro hm
   obtain ⟨h1,h2⟩:=ih (by omega)
   have hlt:m<l.length:=by omega
   have hle:∀o∈l.take m,lessP (nth l m) o=false:=by
    intro o ho
    obtain ⟨i,hi⟩:=List.getElem?_of_mem ho
    obtain ⟨hi1,e⟩:=List.getElem?_eq_some_iff.1 hi
    have hi2:i<m:=by simp at hi1;omega
    have h9:=List.pairwise_iff_getElem.1 hs i m (by omega) hlt hi2
    rw [nth_lt _ _ hlt,←e,List.getElem_take]
    exact h9
   cases hk:keepI eq l m with
   |true=>
    rw [keepL_yes hk,take_succ_nth _ _ hlt]
    refine ⟨?_,fun o=>by rw [List.mem_append,List.mem_append,h2 o]⟩
    refine List.pairwise_append.2 ⟨h1,List.pairwise_singleton _ _,fun a ha b hb=> ?_⟩
    obtain rfl:b=nth l m:=by simpa using hb
    have ha' :=(h2 a).1 ha
    have h3:=hle a ha'
    cases h4:lessP a (nth l m) with
    |true=>rfl
    |false=>
     exfalso
     have e:=lessP_tri h4 h3
     obtain ⟨i,hi⟩:=List.getElem?_of_mem ha'
     obtain ⟨hi1,e1⟩:=List.getElem?_eq_some_iff.1 hi
     have hi2:i<m:=by simp at hi1;omega
     have hm0:0<m:=by omega
     have e2:l[i]'(by omega)=l[m]:=by
      have:(l.take m)[i]=l[i]'(by omega):=List.getElem_take
      rw [←this,e1,e,nth_lt _ _ hlt]
     have e3:nth l (m-1)=nth l m:=by
      rw [nth_lt _ _ (show m-1<l.length by omega),nth_lt _ _ hlt]
      rcases Nat.lt_or_ge i (m-1) with h5|h5
      ·have q1:=List.pairwise_iff_getElem.1 hs i (m-1) (by omega) (by omega) h5
       have q2:=List.pairwise_iff_getElem.1 hs (m-1) m (by omega) hlt (by omega)
       rw [e2] at q1
       exact lessP_tri q1 q2
      ·have:i=m-1:=by omega
       subst this
       exact e2
     unfold keepI at hk
     rw [decide_eq_false (by omega),Bool.false_or,e3] at hk
     have:=(he (nth l m) (nth l m)).2 rfl
     rw [this] at hk
     cases hk
   |false=>
    rw [keepL_no hk,take_succ_nth _ _ hlt]
    refine ⟨h1,fun o=> ?_⟩
    rw [h2 o,List.mem_append,List.mem_singleton]
    refine ⟨.inl,fun ho=>ho.elim id fun e=> ?_⟩
    unfold keepI at hk
    have hm0:0<m:=by
     rcases Nat.eq_zero_or_pos m with rfl|h0
     ·rw [decide_eq_true rfl,Bool.true_or] at hk;cases hk
     ·exact h0
    rw [decide_eq_false (by omega),Bool.false_or] at hk
    have e4:nth l m=nth l (m-1):=(he _ _).1 (by simpa using hk)
    rw [e,e4,nth_lt _ _ (show m-1<l.length by omega)]
    exact List.mem_of_getElem? (i:=m-1) (by rw [List.getElem?_take,if_pos (by omega),List.getElem?_eq_getElem])
 obtain ⟨h1,h2⟩:=key l.length (Nat.le_refl _)
 exact ⟨h1,fun o=>by rw [h2 o,List.take_length]⟩
def eqP (a b:P2):Bool:=decide (a=b)
theorem eqP_iff (a b:P2):eqP a b=true↔a=b:=by unfold eqP;exact decide_eq_true_iff
theorem keepP_start {l:List P2}{i:Nat}(hi:0<i∧i<l.length)(ha:∀j,0<j→j<i→eqP (nth l j) (nth l (j-1))=false)(he:eqP (nth l i) (nth l (i-1))=true):l.take i=keepL eqP l (i+1):=by
 rw [keepL_no (by unfold keepI;rw [he];simp;omega),keepL_all (by omega) ha]
theorem keepP_yes {l m:List P2}{p q:Nat}(hm:m.take p=keepL eqP l q)(hp:p<m.length)(h0:0<q)(he:eqP (nth l q) (nth l (q-1))=false):(m.set p (nth l q)).take (p+1)=keepL eqP l (q+1):=by
 rw [keepL_yes (by unfold keepI;rw [he];simp),←hm,take_succ_nth _ _ (by simpa using hp)]
 congr 1
 ·rw [List.take_set_of_le (by omega)]
 ·rw [nth_set,if_pos ⟨rfl,hp⟩]
theorem keepP_no {l:List P2}{k:List P2}{q:Nat}(hm:k=keepL eqP l q)(h0:0<q)(he:eqP (nth l q) (nth l (q-1))=true):k=keepL eqP l (q+1):=by
 rw [keepL_no (by unfold keepI;rw [he];simp;omega),hm]
theorem snocP {l:List P2}{i:Nat}(h:∀j,0<j→j<i→eqP (nth l j) (nth l (j-1))=false)(h2:eqP (nth l i) (nth l (i-1))=false):∀j,0<j→j<i+1→eqP (nth l j) (nth l (j-1))=false:=fun j h3 h4=>by
 rcases Nat.lt_or_ge j i with h5|h5
 ·exact h j h3 h5
 ·obtain rfl:j=i:=by omega
  exact h2
theorem ar_57 :arI Try.prog 57=some (2,3):=by kernel_rfl
theorem cmpI9_lt (a b:Int):Dr.cmpI a b<0↔a<b:=by unfold Dr.cmpI;split<;>(try split)<;>omega
theorem cmpI9_eq (a b:Int):Dr.cmpI a b=0↔a=b:=by unfold Dr.cmpI;split<;>(try split)<;>omega
theorem ordP_lt (a b:P2):Dr.ordP a b<0↔lessP a b=true:=by
 unfold Dr.ordP lessP
 simp only [Dr.orL]
 by_cases e1:a.a=b.a
 ·rw [if_neg (by simpa using (cmpI9_eq _ _).2 e1),if_pos e1]
  by_cases e2:a.b=b.b
  ·rw [if_neg (by simpa using (cmpI9_eq _ _).2 e2)];simp [e2]
  ·rw [if_pos (fun h=>e2 ((cmpI9_eq _ _).1 h)),cmpI9_lt];simp
 ·rw [if_pos (fun h=>e1 ((cmpI9_eq _ _).1 h)),if_neg e1,cmpI9_lt];simp
theorem sortPr_c (K:Nat→Prop)(s:Ls P2)(W:World)(hS:Sh K W W [.own 57 s]):
  Rets Try.prog 73 [s.v, .func (.func 74) #[] #[]] W (fun v w' =>v= .tuple #[]∧∃l' :List P2,l'.Perm s.l∧l'.Pairwise (fun a b=>lessP b a=false)∧Sh K W w' [.own 57 (⟨s.v,l'⟩:Ls P2)]):=by
 have eg:∀args w,(callFunc 74 args).run Try.prog w= .ok (.enter 74 args) w:=enters_of Try.func74 (by kernel_rfl) rfl
 have hc:=sort_c (P:=Try.prog) (ρ:=sortPr_ren) sortPr (k:=2) Try.isAgg57 Try.sizeOf57 rfl rfl (by decide) Dr.ordP (fun x h=>by rw [ordP_lt,lessP_irr] at h;cases h) (fun x y z h1 h2=>by rw [ordP_lt] at*;exact lessP_trans h1 h2)
  (fun x y z h1 h2 h3=>by
   rw [ordP_lt] at*
   cases e1:lessP z y with
   |true=>have h4:=lessP_trans h3 e1;exact h1 h4
   |false=>
    have h5:lessP y z=false:=by simpa using h2
    have h6:=lessP_tri h5 e1
    rw [←h6] at h3
    exact h1 h3) 74 eg hS
  (fun x _ y _ W' hx hy=>by
   refine Calls.mono (Dr.cmpP_c x y W') ?_
   rintro e w' ⟨v,he,hv,hs⟩
   exact ⟨by rw [he,hv],hs.chg⟩)
 refine Rets.mono hc ?_
 rintro v w' ⟨rfl,l',hp,hs,hsh⟩
 refine ⟨rfl,l',hp, ?_,hsh⟩
 refine hs.imp ?_
 intro a b h
 cases h2:lessP b a with
 |false=>rfl
 |true=>exact absurd ((ordP_lt b a).2 h2) h
theorem compactP_c (K:Nat→Prop)(s:Ls P2)(W:World)(hS:Sh K W W [.own 57 s])(hn:s.l.length≤1000000000):
    Rets Try.prog 77 [s.v] W (fun v w' =>∃u:Ls P2,v=u.v∧u.l=keepL eqP s.l s.l.length∧Sh K W w' [.own 57 u]):=by
 refine gen Try.func77 Try.ntmps77 hS rfl fun a10 h10=>gG h10<|sG (oM 1 rfl<|.nl)<|gK fun _ k12=>sK fun _ k13=>gNl (aO 0 rfl) fun hl14=>gRn (oM 1 rfl<|oln sl_54 (aO 0 rfl) rfl<|oltN _ 2 rfl<|.nl)<|nK k13<|?_;clear h10
 refine gcd rfl (fun hb15 hp15=> ?_) fun hb15 hp15=> ?_
 ·skip
  refine sG (oM 2 rfl<|.nl)<|gR<|uT<|fun a17 w17 h17=>x_ret1 (fn:=Try.f77) (t:=2) rfl h17 rfl ?_
  first|exact ⟨s,rfl,(by rw [keepL_all (Nat.le_refl _) (fun j h1 h2=>by omega),List.take_length]),h17.sh⟩|exact ⟨s,rfl,(by rw [keepL_all (Nat.le_refl _) (fun j h1 h2=>hall j h1 (by omega)),List.take_length]),h17.sh⟩
 refine gS<|hK k12<|?_
 obtain ⟨gb,cap,hsv,hcap⟩:=own_form (hS.ok _ (List.mem_cons_self ..)) (show 0<s.l.length by omega)
 refine gK fun _ k18=>sG (oM 1 rfl<|.nl)<|gB<|fun a21 w21 h21=>x_loop (fun m a w=>∃(i:Nat),(1≤i∧i≤s.l.length)∧(∀j,0<j→j<i→eqP (nth s.l j) (nth s.l (j-1))=false)∧St 61 K W a w [(0,s.v),(3, .int .i64 ((i:Nat):Int))] [.own 57 s]∧m=s.l.length-i) ⟨_,1,(by omega),(fun j h1 h2=>absurd h2 (by omega)),h21.nf ⟨rfl,rfl,trivial⟩,rfl⟩ ?_
 clear h21
 rintro m20 a20 w20 ⟨i,hi,hall,h20,hm20⟩
 refine gG h20<|gK fun _ k22=>sG (oM 2 rfl<|oln sl_54 (aO 0 rfl) rfl<|oltN _ _ rfl<|.nl)<|?_;clear h20
 refine gcd rfl (fun hb24 hp24=> ?_) fun hb24 hp24=> ?_
 ·skip
  refine gS<|hK k22<|gK fun _ k25=>gB<|gK fun _ k26=>rQ (oM 2 rfl<|oxN sl_54 ti_57 (aO 0 rfl) _ om9 rfl<|olw2 [.int .i64 ((nth s.l i).a), .int .i64 ((nth s.l i).b)] ti_57 (aO 0 rfl) om9 rfl<|oM 2 rfl<|osbN _ 1 om9 rfl<|oxN sl_54 ti_57 (aO 0 rfl) _ om9 rfl<|olw2 [.int .i64 ((nth s.l (i-1)).a), .int .i64 ((nth s.l (i-1)).b)] ti_57 (aO 0 rfl) om9 rfl<|oV (r_eqP (nth s.l i) (nth s.l (i-1)) ar_57 ti_3 Try.underlying3 (by kernel_rfl) rfl rfl rfl) rfl<|.nl)<|hK k26<|gCb rfl (fun hb27=> ?_) fun hb27=> ?_
  ·skip
   refine sG (oM 2 rfl<|oV (r_slL (s:=s) (k:=i) sl_54 ti_57 rfl rfl rfl (fun w h=>(h.own 0 rfl)) (show i≤s.l.length from om9)) rfl<|oM 1 rfl<|.nl)<|gK fun _ k29=>sG (oM 1 rfl<|.nl)<|gB<|fun a32 w32 h32=>x_loop (fun m a w=>∃(p k:Nat) (l:List P2),(1≤k∧i+k≤s.l.length)∧(1≤p∧p+1≤i+k)∧(l.length=s.l.length)∧(l.take p=keepL eqP s.l (i+k))∧(∀j,i+k≤j+1→j<s.l.length→nth l j=nth s.l j)∧St 61 K W a w [(0,s.v),(3, .int .i64 ((p:Nat):Int)),(4,(vdrop s.v 2 i)),(5, .int .i64 ((k:Nat):Int))] [.own 57 (⟨s.v,l⟩:Ls P2)]∧m=s.l.length-i-k) ⟨_,i,1,s.l,(by omega),(by omega),(rfl),(keepP_start (by omega) hall (by assumption)),(fun j _ _=>rfl),h32.nf ⟨rfl,rfl,rfl,rfl,trivial⟩,rfl⟩ ?_
   clear h32
   rintro m31 a31 w31 ⟨p,k,l,hk,hp,hll,hkp,hsm,h31,hm31⟩
   refine gG h31<|gK fun _ k33=>sG (oM 2 rfl<|oV (r_len (s:=(⟨(vdrop s.v 2 i),l.drop i⟩:Ls P2)) (n:=l.length-i) sl_54 rfl rfl (fun w h=>(drop_at (h.own 0 rfl) (show i≤l.length from om9))) List.length_drop) rfl<|oltN _ _ rfl<|.nl)<|?_;clear h31
   refine gcd rfl (fun hb35 hp35=> ?_) fun hb35 hp35=> ?_
   ·skip
    refine gS<|hK k33<|gK fun _ k36=>gB<|gK fun _ k37=>rQ (oM 2 rfl<|oV (Rn.same (v' := .pointer (some (padr s.v 2 (i+k) 0))) (r_ixN (s:=(⟨(vdrop s.v 2 i),l.drop i⟩:Ls P2)) (q:=k) sl_54 ti_57 rfl rfl rfl (fun w h=>(drop_at (h.own 0 rfl) (show i≤l.length from om9))) (by rw [List.length_drop];exact (show k<l.length-i from om9))) (by rw [padr_drop hsv (by omega)])) rfl<|olw2 [.int .i64 ((nth l (i+k)).a), .int .i64 ((nth l (i+k)).b)] ti_57 (aO 0 rfl) om9 rfl<|oM 2 rfl<|osbN _ 1 om9 rfl<|oV (Rn.same (v' := .pointer (some (padr s.v 2 (i+(k-1)) 0))) (r_ixN (s:=(⟨(vdrop s.v 2 i),l.drop i⟩:Ls P2)) (q:=k-1) sl_54 ti_57 rfl rfl rfl (fun w h=>(drop_at (h.own 0 rfl) (show i≤l.length from om9))) (by rw [List.length_drop];exact (show k-1<l.length-i from om9))) (by rw [padr_drop hsv (by omega)])) rfl<|olw2 [.int .i64 ((nth l (i+(k-1))).a), .int .i64 ((nth l (i+(k-1))).b)] ti_57 (aO 0 rfl) om9 rfl<|oV (r_neqP (nth l (i+k)) (nth l (i+(k-1))) ar_57 ti_3 Try.underlying3 (by kernel_rfl) rfl rfl rfl) rfl<|.nl)<|hK k37<|gCb rfl (fun hb38=> ?_) fun hb38=> ?_
    ·have hn38:eqP (nth l (i+k)) (nth l (i+(k-1)))=false:=(Bool.not_eq_true' _).mp hb38
     have he1:=hsm (i+k) (by omega) (by omega);have he2:=hsm (i+(k-1)) (by omega) (by omega);rw [show i+(k-1)=i+k-1 by omega] at he2
     have hkpY:=keepP_yes hkp (by omega) (show 0<i+k by omega) (by have h9:=hn38;rw [he1,show i+(k-1)=i+k-1 by omega,he2] at h9;first|exact h9|simpa using h9)
     rw [←he1] at hkpY
     refine sK fun _ k39=>gNl (aO 0 rfl) fun (hl40:l.length≤140737488355328)=>gRn (oM 4 rfl<|oV (Rn.same (v' := .pointer (some (padr s.v 2 (i+k) 0))) (r_ixN (s:=(⟨(vdrop s.v 2 i),l.drop i⟩:Ls P2)) (q:=k) sl_54 ti_57 rfl rfl rfl (fun w h=>(drop_at (h.own 0 rfl) (show i≤l.length from om9))) (by rw [List.length_drop];exact (show k<l.length-i from om9))) (by rw [padr_drop hsv (by omega)])) rfl<|olw2 [.int .i64 ((nth l (i+k)).a), .int .i64 ((nth l (i+k)).b)] ti_57 (aO 0 rfl) om9 rfl<|oxN sl_54 ti_57 (aO 0 rfl) _ om9 rfl<|.nl)<|gE (fun _ _ h_=>x_stewP (r:=0) (i:=p) (s:=(⟨s.v,l⟩:Ls P2)) (x' :=(nth l (i+k))) h_ ti_57 rfl rfl rfl rfl (show p<l.length from om9) rfl) rfl<|nK k39<|gL<|gRn (oM 1 rfl<|oadN _ 1 om9 rfl<|oM 1 rfl<|.nl)<|nK k36<|gF [0,3,4,5] rfl<|gL<|gRn (oM 1 rfl<|oadN _ 1 om9 rfl<|oM 1 rfl<|.nl)<|nN<|fun a42 w42 h42=> ?_
     refine x_again ⟨_, ?_,p+1,(k+1),l.set p (nth l (i+k)), ?_, ?_, ?_, ?_, ?_,h42.nf ⟨rfl,rfl,rfl,rfl,trivial⟩,rfl⟩
     · rw [hm31];first|omega|(simp only [lens9];omega)
     · omega
     · omega
     · simpa using hll
     · first|exact hkpY|exact hkpN
     · intro j h1 h2;first|exact hsm j (by omega) h2|(rw [nth_set,if_neg (by omega)];exact hsm j (by omega) h2)
    have hn38:eqP (nth l (i+k)) (nth l (i+(k-1)))=true:=(Bool.not_eq_false' _).mp hb38
    have he1:=hsm (i+k) (by omega) (by omega);have he2:=hsm (i+(k-1)) (by omega) (by omega);rw [show i+(k-1)=i+k-1 by omega] at he2
    have hkpN:=keepP_no hkp (show 0<i+k by omega) (by have h9:=hn38;rw [he1,show i+(k-1)=i+k-1 by omega,he2] at h9;first|exact h9|simpa using h9)
    refine gS<|hK k36<|gL<|gRn (oM 1 rfl<|oadN _ 1 om9 rfl<|oM 1 rfl<|.nl)<|nN<|fun a43 w43 h43=>x_again ⟨_, ?_,p,(k+1),l, ?_, ?_, ?_, ?_, ?_,h43.nf ⟨rfl,rfl,rfl,rfl,trivial⟩,rfl⟩
    · rw [hm31];first|omega|(simp only [lens9];omega)
    · omega
    · omega
    · simpa using hll
    · first|exact hkpY|exact hkpN
    · intro j h1 h2;first|exact hsm j (by omega) h2|(rw [nth_set,if_neg (by omega)];exact hsm j (by omega) h2)
   refine gX<|hK k29<|sK fun _ k44=>gNl (aO 0 rfl) fun (hl45:l.length≤140737488355328)=>gRn (oM 2 rfl<|oV (r_slL (s:=(⟨s.v,l⟩:Ls P2)) (k:=p) sl_54 ti_57 rfl rfl rfl (fun w h=>(h.own 0 rfl)) (show p≤l.length from om9)) rfl<|.nl)<|fun a47 w47 h47=> ?_
   have h46:=h47.truncN 0 rfl p (show p≤l.length from by omega) (show 0<l.length from by omega)
   clear h47
   have hpl:(l.take p).length=p:=by rw [List.length_take];omega
   have h48:=h46.same (d:=56) (v' :=vsub (vtake s.v p) 2 (l.take p).length s.l.length) rfl (by rw [hpl,vsub_take hsv])
   clear h46
   refine gG h48<|gE (fun _ _ h_=>x_clearT (r:=0) (hi:=s.l.length) (s:=(⟨(vtake s.v p),(l.take p)⟩:Ls P2)) h_ sl_54 ti_57 rfl rfl rfl rfl rfl rfl (show (l.take p).length<s.l.length∧s.l.length≤vcap (vtake s.v p) from (by rw [hpl,vcap_take,hsv];exact ⟨by omega,hcap⟩)) rfl) rfl<|nK k44<|sG (oM 2 rfl<|oV (r_slHv (v:=s.v) (j:=p) sl_54 ti_57 rfl rfl rfl ⟨gb,_,cap,hsv,hcap,by omega,by omega⟩) rfl<|oM 1 rfl<|.nl)<|gR<|uB<|uT<|uT<|uB<|uT<|fun a51 w51 h51=> ?_;clear h48
   refine x_ret1 (fn:=Try.f77) (t:=2) rfl h51 rfl ?_
   exact ⟨⟨vtake s.v p,l.take p⟩,rfl,(by show l.take p=_;rw [hkp,show i+k=s.l.length by omega]),h51.sh⟩
  refine gS<|hK k25<|gL<|gRn (oM 1 rfl<|oadN _ 1 om9 rfl<|oM 1 rfl<|.nl)<|nN<|fun a52 w52 h52=>x_again ⟨_, ?_,i+1, ?_, ?_,h52.nf ⟨rfl,rfl,trivial⟩,rfl⟩
  · rw [hm20];first|omega|(simp only [lens9];omega)
  · omega
  · exact snocP hall (by assumption)
 refine gX<|hK k18<|sG (oM 2 rfl<|.nl)<|gR<|fun a54 w54 h54=>x_ret1 (fn:=Try.f77) (t:=2) rfl h54 rfl ?_
 first|exact ⟨s,rfl,(by rw [keepL_all (Nat.le_refl _) (fun j h1 h2=>by omega),List.take_length]),h54.sh⟩|exact ⟨s,rfl,(by rw [keepL_all (Nat.le_refl _) (fun j h1 h2=>hall j h1 (by omega)),List.take_length]),h54.sh⟩
def QV (s:Ls Int)(wk:List Int)(v:Value):Prop:=
 ∃g cap A k,s.v= .slice (some ⟨g,0,none⟩) s.l.length cap∧k≤s.l.length∧s.l.length≤cap∧s.l.drop k=wk∧v= .slice (some A) wk.length (cap-k)∧(k<cap→A=⟨g,k,none⟩)
section
variable {P:Program}{o:Oper}{N:Nat}{K:Nat→Prop}{W w:World}{a:Act}{F:List (Nat×Value)}{L:List Asn}
theorem q_len {s:Ls Int}{wk:List Int}{v:Value}(h:QV s wk v):wk.length≤s.l.length:=by
 obtain ⟨g,cap,A,k,_,hk,_,hw,_⟩:=h
 rw [←hw,List.length_drop];omega
theorem int_cell (l:List Int):encL l=l.map (fun x=>Value.int .i64 x):=by
 induction l with
 |nil=>rfl
 |cons x l ih=>show cellsOf x++encL l=_;rw [ih];rfl
theorem q_at {s:Ls Int}{wk:List Int}{v:Value}(hs:s.At w)(h:QV s wk v):(⟨v,wk⟩:Ls Int).At w:=by
 obtain ⟨g,cap,A,k,hv,hk,hc,hw,hvq,hA⟩:=h
 have hl:wk.length=s.l.length-k:=by rw [←hw,List.length_drop]
 by_cases h0:0<wk.length
 ·have hkc:k<cap:=by omega
  have:=drop_at hs hk
  have e:(⟨vdrop s.v (Enc.sz Int) k,s.l.drop k⟩:Ls Int)=⟨v,wk⟩:=by
   rw [hw,hvq,hv,hA hkc]
   show (⟨vdrop (.slice (some ⟨g,0,none⟩) s.l.length cap) 1 k,wk⟩:Ls Int)=_
   simp only [vdrop,if_neg (show¬cap=k by omega),Option.map_some,Addr.add_lit,Nat.mul_one,Nat.zero_add,hl]
  rwa [e] at this
 ·obtain ⟨A0,cap0,hv0,hs0⟩:=hs
  rw [hv] at hv0
  have hcap:cap=cap0:=by injection hv0
  have hmx:cap0≤maxLen:=hs0.max
  exact ⟨some A,cap-k,hvq,⟨by show wk.length≤_;omega,by show cap-k≤maxLen;omega,by show wk.length≤_;omega,fun h=>absurd h h0,fun h=>absurd h h0,fun i q hi=>absurd (Nat.lt_of_le_of_lt (Nat.zero_le _) hi) h0,fun i hi=>absurd (Nat.lt_of_le_of_lt (Nat.zero_le _) hi) h0⟩⟩
theorem q_pop {s:Ls Int}{wk:List Int}{v:Value}(h:QV s wk v)(h0:0<wk.length):QV s (wk.drop 1) (vdrop v 1 1):=by
 obtain ⟨g,cap,A,k,hv,hk,hc,hw,hvq,hA⟩:=h
 have hl:wk.length=s.l.length-k:=by rw [←hw,List.length_drop]
 have hkc:k<cap:=by omega
 have hA:=hA hkc
 subst hA
 by_cases e:cap-k=1
 ·refine ⟨g,cap,⟨g,k,none⟩,k+1,hv,by omega,hc,by rw [←hw,List.drop_drop], ?_,fun h=>by omega⟩
  rw [hvq]
  simp only [vdrop,if_pos e,List.length_drop,Nat.sub_sub]
 ·refine ⟨g,cap,⟨g,k+1,none⟩,k+1,hv,by omega,hc,by rw [←hw,List.drop_drop], ?_,fun h=>rfl⟩
  rw [hvq]
  simp only [vdrop,if_neg e,Option.map_some,Addr.add_lit,List.length_drop,Nat.sub_sub]
theorem q_start {E:TypeId}{s:Ls Int}(hs:(Asn.own E s).ok w)(h0:0<s.l.length):QV s s.l s.v:=by
 rcases hs.1.2 with ⟨_,h1⟩|⟨g,cap,cur,hv,_,_,hn,_⟩
 ·omega
 ·exact ⟨g,cap,⟨g,0,none⟩,0,hv,Nat.zero_le _,hn,rfl,by rw [hv];rfl,fun _=>rfl⟩
theorem x_appQ {d:Nat}{T e:TypeId}{gg:Bool}{by_ r:Nat}{z:List Value}{x y:Operand}{s m:Ls Int}{wk:List Int}{vq:Value}{E:TypeId}(h:St N K W a w F L)(hT:slI P T=some e)(he:tyI P e=some (gg,1,by_,z))(ho:o.op= .call ⟨.builtin .append, #[x,y], #[T,T]⟩)
  (hx:ev F x=some vq) (hy:ev F y=some m.v) (hr:L[r]? =some (.own E s)) (hE:E=e) (hq:QV s wk vq) (hat:∀w,Sh K W w L→m.At w) (hm:0<m.l.length) (hzl:z.length=1)
  (hn:(wk.length+m.l.length)*by_≤140737488355328∧s.l.length+m.l.length≤140737488355328) (hd:o.dst=some d) (hdN:Nat.blt d N=true):
  Ex P o a w (fun a' w' =>∃(u:Ls Int) (v:Value),(QV u (wk++m.l) v∧u.l.length≤s.l.length+m.l.length)∧St N K W a' w' ((d,v)::F) (L.set r (.own E u))):=by
 subst hE
 obtain ⟨i,ed,zv,hi,hed,_,hsz,hby,hzz,hzc⟩:=tyI_parts he
 obtain ⟨hown,hlen,hinn⟩:=h.sh.ok _ (List.mem_of_getElem? hr)
 have hu:=slI_parts hT
 have hzsz:zv.cells.size=1:=by rw [←Array.length_toList,hzc,hzl]
 obtain ⟨Am,cm,hmv,hmA⟩:=hat w h.sh
 obtain ⟨ad,hAm,hspot⟩:=hmA.some hm
 simp only at hAm
 subst hAm
 have hlm:(encL m.l).length=m.l.length*1:=length_encL _
 have hnews:∀(j:Nat) (u:Value),(encL m.l)[j]? =some u→w.cell? (ad.add j)=some u:=by
  intro j u hj
  have hjl:j<m.l.length:=by
   have:=(List.getElem?_eq_some_iff.1 hj).1
   omega
  have h2:=encL_at m.l j 0 hjl (by decide)
  rw [show j*Enc.sz Int+0=j from Nat.mul_one j,hj] at h2
  have h3:=hmA.cell j 0 hjl (by decide)
  rw [←h2] at h3
  obtain ⟨blk,off,sp⟩:=ad
  simp only at hspot
  subst hspot
  rw [Addr.add_lit]
  have e:(⟨some ⟨blk,off,none⟩,cm,m.l⟩:Sl Int).adr (Enc.sz Int) j 0=⟨blk,off+j,none⟩:=by
   have:off+j*Enc.sz Int+0=off+j:=by show off+j*1+0=_;omega
   simp [Sl.adr,this]
  rw [←e];exact h3
 have h1c:∀u∈encL m.l,u.oneCell' =true:=by
  intro u hu
  rw [int_cell] at hu
  obtain ⟨x,_,rfl⟩:=List.mem_map.1 hu
  rfl
 obtain ⟨g,cap,A,k,hsv,hk,hc,hw,hvq,hA⟩:=hq
 have hl:wk.length=s.l.length-k:=by rw [←hw,List.length_drop]
 rcases hown.2 with ⟨hv,h0⟩|⟨g',cap',cur,hv,hb0,hgc,hnc,hcm,hcs,htk⟩
 ·rw [hsv] at hv;cases hv
 rw [hsv] at hv
 have hgg:g=g' :=by injection hv with h1 h2 h3;injection h1 with h1;injection h1
 have hcc:cap=cap' :=by injection hv
 subst hgg hcc
 have hcs:cur.size=cap*1:=hcs
 have hcellA:∀j,w.cell? ⟨g,j,none⟩=cur[j]? :=fun j=>cell_of_row w g j cur E (0,0) hgc
 have key:∃v' w' u,(Builtin.append_ #[T,T] o.type #[vq,m.v]).run P w= .ok v' w' ∧(Asn.own E u).ok w' ∧w.grownBy w' (some g)∧(∀b,u.v.ownBlock=some b→b=g∨w.heap.size≤b)∧QV u (wk++m.l) v' ∧u.l.length≤s.l.length+m.l.length:=by
  by_cases hroom:s.l.length+m.l.length≤cap
  ·have hkc:k<cap:=by omega
   have hA:=hA hkc
   subst hA
   have hown0:=hown
   rw [hsv] at hown0
   obtain ⟨w',hrun,ho',hg'⟩:=run_append_fits (P:=P) w 0 T o.type E i 1 hu hi hsz g s.l.length cap _ hown0 ad m.l.length cm (encL m.l) hlm hnews h1c hroom
   have hin:∀j,j<(encL m.l).length→(w.cell? ⟨g,0+s.l.length*i.size+j,none⟩).isSome=true:=fun j hj=>by
    rw [hcellA,hsz]
    rw [Array.getElem?_eq_getElem (by omega)];rfl
   have hfr:∀(x:Addr),x.block=g→w.frozen? x=false:=fun x hx=>by subst hx;simp [World.frozen?,hgc]
   have e0:=run_append_room_cells (P:=P) w T o.type E i hu hi g 0 s.l.length cap ad m.l.length cm (encL m.l) (by rw [hlm,hsz]) hnews h1c hroom hin (fun j _=>hfr _ rfl)
   have ek:=run_append_room_cells (P:=P) w T o.type E i hu hi g k (s.l.length-k) (cap-k) ad m.l.length cm (encL m.l) (by rw [hlm,hsz]) hnews h1c (by omega) (fun j hj=>by
    have:=hin j hj
    rw [hsz] at this⊢
    rw [show k+(s.l.length-k)*1+j=0+s.l.length*1+j by omega];exact this) (fun j _=>hfr _ rfl)
   rw [hrun] at e0
   have ew:w' =w.setCells g (0+s.l.length*i.size) (encL m.l):=by injection e0
   rw [hsz,show k+(s.l.length-k)*1=0+s.l.length*1 by omega,←hsz,←ew] at ek
   refine ⟨_,w',⟨.slice (some ⟨g,0,none⟩) (s.l.length+m.l.length) cap,s.l++m.l⟩,by rw [hvq,hmv,hl];exact ek,⟨?_, ?_,fun q hq=>trivial⟩,hg',fun b hb=> .inl ?_,⟨g,cap,⟨g,k,none⟩,k, ?_, ?_, ?_, ?_, ?_,fun _=>rfl⟩, ?_⟩
   ·show World.ownsRow _ 0 E _ _ (s.l++m.l).length (encL (s.l++m.l))
    rw [encL_append,List.length_append];exact ho'
   ·show (s.l++m.l).length≤_
    rw [List.length_append];exact hn.2
   ·have:g=b:=by simpa [Value.ownBlock] using hb
    exact this.symm
   ·show Value.slice _ _ _= .slice _ (s.l++m.l).length _
    rw [List.length_append]
   ·show k≤(s.l++m.l).length
    rw [List.length_append];omega
   ·show (s.l++m.l).length≤cap
    rw [List.length_append];omega
   ·show (s.l++m.l).drop k=_
    rw [List.drop_append_of_le_length hk,hw]
   ·rw [List.length_append,hl]
   ·show (s.l++m.l).length≤_
    rw [List.length_append];exact Nat.le_refl _
  ·have hold:∀(j:Nat) (u:Value),(encL wk)[j]? =some u→w.cell? (A.add j)=some u:=by
    intro j u hj
    have hjl:j<wk.length:=by
     have:=(List.getElem?_eq_some_iff.1 hj).1
     rwa [length_encL,show wk.length*Enc.sz Int=wk.length from Nat.mul_one _] at this
    rw [hA (by omega),Addr.add_lit,hcellA]
    have e1:(encL s.l)[k+j]? =some u:=by
     rw [←hw,int_cell,List.getElem?_map,List.getElem?_drop] at hj
     rw [int_cell,List.getElem?_map];exact hj
    rw [←htk,List.getElem?_take] at e1
    split at e1
    ·simpa using e1
    ·cases e1
   obtain ⟨v',w',hrun,ho',hg'⟩:=run_append_arg_grows (P:=P) w T o.type E i zv 1 by_ hu hi hzz hsz hby hzsz (by decide) A wk.length (cap-k) (encL wk) (length_encL _) hold ad m.l.length cm (encL m.l) hlm hnews (by omega) (by unfold maxLen;omega) hn.1
   rcases ho'.2 with ⟨_,h9⟩|⟨g2,c2,cur2,hv2,hb2,hg2,hn2,hm2,hcs2,ht2⟩
   ·omega
   refine ⟨v',w',⟨v',wk++m.l⟩,by rw [hvq,hmv];exact hrun,⟨?_, ?_,fun q hq=>trivial⟩, ?_,fun b hb=> .inr (ho'.lt b hb).1,⟨g2,c2,⟨g2,0,none⟩,0, ?_,Nat.zero_le _, ?_,rfl, ?_,fun _=>rfl⟩, ?_⟩
   ·have hz:w'.ownsRow 0 E 1 v' (wk.length+m.l.length) (encL wk++encL m.l):=⟨ho'.1, .inr ⟨g2,c2,cur2,hv2,Nat.zero_le _,hg2,hn2,hm2,hcs2,ht2⟩⟩
    show World.ownsRow _ 0 E _ _ (wk++m.l).length (encL (wk++m.l))
    rw [encL_append,List.length_append];exact hz
   ·show (wk++m.l).length≤_
    rw [List.length_append];omega
   ·obtain ⟨a1,a2,a3,a4,a5⟩:=hg'
    exact ⟨a1,a2,a3,a4,fun k hk hne=>a5 k hk (by simp)⟩
   ·show v' = .slice _ (wk++m.l).length _
    rw [hv2,List.length_append]
   ·show (wk++m.l).length≤c2
    rw [List.length_append];exact hn2
   ·rw [hv2,List.length_append];rfl
   ·show (wk++m.l).length≤_
    rw [List.length_append];omega
 obtain ⟨v',w',u,hrun,hok',hg',hv',hQ,hul⟩:=key
 refine Ex.of_run (v:=v') (w' :=w') ?_ ⟨u,v',⟨hQ,hul⟩, ?_⟩
 ·unfold execOp
  simp only [ho,resolve,invoke,builtin,Sem.run_bind,Sem.run_pure,Result.andThen_ok,List.map_toArray,List.map_cons,List.map_nil,h.fr.ev hx,h.fr.ev hy,hrun]
 ·rw [hd]
  have hob:s.v.ownBlock=some g:=by rw [hsv];rfl
  refine ⟨h.fr.put d (by simpa [Nat.blt_eq] using hdN) _,h.sh.put hr (Chg.grown hg' (fun b hb=>by cases hb;exact hob)) hok' (fun b hb=> ?_) (fun b hb=> ?_) (fun b hb hb' => ?_)⟩
  ·rcases hv' b hb with rfl|h9
   ·exact .inl hob
   ·exact .inr h9
  ·obtain ⟨q,_,hb⟩:=hb;exact (Flat.on _ _ hb).elim
  ·obtain ⟨q,_,hb⟩:=hb';exact (Flat.on _ _ hb).elim
end
set_option maxHeartbeats 8000000
theorem ar_89 :arI Try.prog 89=some (4,4):=by kernel_rfl
def listB (l:List Bool):List Int:=((List.range l.length).filter fun i=>nth l i).map fun (i:Nat)=>(i:Int)
def listTo (l:List Bool)(n:Nat):List Int:=((List.range n).filter fun i=>nth l i).map fun (i:Nat)=>(i:Int)
theorem listTo_succ (l:List Bool)(n:Nat):listTo l (n+1)=listTo l n++if nth l n=true then [(n:Int)] else []:=by
 unfold listTo
 rw [List.range_succ,List.filter_append,List.map_append]
 congr 1
 simp only [List.filter_cons,List.filter_nil]
 split<;>rfl
theorem listTo_len (l:List Bool)(n:Nat):(listTo l n).length≤n:=by
 unfold listTo
 rw [List.length_map]
 exact Nat.le_trans (List.length_filter_le _ _) (by simp)
theorem hd_one (n:Nat):([0]:List Int).length≤totH (List.replicate (n+1) ⟨List.replicate 4 false⟩) ((List.replicate (n+1) false).set 0 true):=by
 have:true∈(List.replicate (n+1) false).set 0 true:=List.mem_of_getElem? (i:=0) (by simp)
 have:=List.count_pos_iff.2 this
 unfold totH
 show 1≤_
 omega
theorem list_c (l:List Bool)(W:World)(hl:l.length=4):
    Rets Try.prog 51 [.agg (l.map Value.bool).toArray] W (fun v w' =>∃s:Ls Int,v=s.v∧s.l=listB l∧Sh0 W w' [.own 3 s]):=by
 refine gen Try.func51 Try.ntmps51 (Sh0.start W:Sh (fun _=>False) W W []) rfl fun a10 h10=>gG h10<|sK fun _ k11=>gE1 (fun _ _ h_=>x_boxAr (l:=l) h_ rfl rfl rfl rfl) rfl fun b12=>gRn (oM 1 rfl<|.nl)<|nK k11<|sG (oM 1 rfl<|.nl)<|gK fun _ k14=>sG (oV (r_ldwAr (i:=0) (l:=l) ti_89 rfl rfl rfl (by first|assumption|(simp only [lens9];done)|(simp only [lens9];first|assumption|omega)|rfl)) rfl<|oM 1 rfl<|.nl)<|gB<|fun a18 w18 h18=> ?_;clear h10
 have h17:=h18.nil (α:=Int) 3
 clear h18
 refine x_loop (fun m a w=>∃(i:Nat) (ol:List Int) (vo:Value),(i≤4)∧(ol=listTo l i)∧(ol.length≤i)∧St 18 (fun _=>False) W a w [(3,vo),(6, .agg (l.map Value.bool).toArray),(7, .int .i64 ((i:Nat):Int))] [.blk b12 89 (l.map Value.bool), .own 3 (⟨vo,ol⟩:Ls Int)]∧m=4-i) ⟨_,0, [],(.slice none 0 0),(by omega),(rfl),(Nat.le_refl _),h17.nrm ⟨rfl,rfl,rfl,trivial⟩ [1,0] rfl,rfl⟩ ?_
 clear h17
 rintro m16 a16 w16 ⟨i,ol,vo,hi,hol,hoi,h16,hm16⟩
 refine gG h16<|sG (oltN _ 4 rfl<|.nl)<|gK fun _ k20=>gcd rfl (fun hb21 hp21=> ?_) fun hb21 hp21=> ?_;clear h16
 ·skip
  refine gS<|hK k20<|gK fun _ k22=>gB<|sG (oM 1 rfl<|oV (r_ixV (cs:=l.map Value.bool) (q:=i) ar_89 ti_4 rfl rfl rfl (show i<4 from om9) (nth_bool (by rw [show l.length=4 from (by first|assumption|(simp only [lens9];done)|(simp only [lens9];first|assumption|omega)|rfl)];omega))) rfl<|oM 2 rfl<|.nl)<|sG (oM 1 rfl<|.nl)<|gCb rfl (fun hb25=> ?_) fun hb25=> ?_
  ·skip
   refine gL<|gRn (oM 2 rfl<|.nl)<|gE1 (fun _ _ h_=>x_lit (n:=1) (cs:= [.int .i64 ((i:Nat):Int)]) ([((i:Nat):Int)]:List Int) h_ sl_23 ti_3 rfl rfl rfl (by decide) rfl (by kernel_rfl) rfl (fun q hq w h=>Flat.inner _ _) (fun q hq b hb=>(Flat.on _ _ hb).elim) rfl rfl) rfl fun v26=>gE1 (fun _ _ h_=>x_app (r:=2) (rm:=0) (s:=(⟨vo,ol⟩:Ls Int)) (m:=(⟨v26, [((i:Nat):Int)]⟩:Ls Int)) h_ sl_23 ti_3 rfl rfl rfl rfl rfl rfl rfl (fun w h=>(h.own 0 rfl)) (fun b hb=>own_on (h_.sh.ok _ (List.mem_of_getElem? (i:=0) rfl)) hb) (fun q hq b hb=>⟨q,hq,hb⟩) rfl rfl rfl inferInstance (show (ol.length+([((i:Nat):Int)]).length)*8≤140737488355328∧ol.length+([((i:Nat):Int)]).length≤140737488355328 from om9) rfl rfl) rfl fun v27=>gRn (oM 1 rfl<|.nl)<|nK k22<|gL<|gRn (oadN _ 1 om9 rfl<|oM 1 rfl<|.nl)<|nN<|fun a28 w28 h28=>x_again ⟨_, ?_,i+1,ol++([((i:Nat):Int)]),v27, ?_, ?_, ?_,h28.nrm ⟨rfl,rfl,rfl,trivial⟩ [1,2] rfl,rfl⟩
   · rw [hm16];first|omega|(simp only [lens9];omega)
   · omega
   · rw [listTo_succ,←hol];first|rw [if_pos (by assumption)]|rw [if_neg (by first|assumption|simp_all),List.append_nil]
   · first|omega|(simp;omega)
  refine gS<|hK k22<|gL<|gRn (oadN _ 1 om9 rfl<|oM 1 rfl<|.nl)<|nN<|fun a29 w29 h29=>x_again ⟨_, ?_,i+1,ol,vo, ?_, ?_, ?_,h29.nf ⟨rfl,rfl,rfl,trivial⟩,rfl⟩
  · rw [hm16];first|omega|(simp only [lens9];omega)
  · omega
  · rw [listTo_succ,←hol];first|rw [if_pos (by assumption)]|rw [if_neg (by first|assumption|simp_all),List.append_nil]
  · first|omega|(simp;omega)
 refine gX<|hK k14<|sG (oM 2 rfl<|.nl)<|gR<|fun a31 w31 h31=>x_ret1 (fn:=Try.f51) (t:=2) rfl h31 rfl<|⟨⟨vo,ol⟩,rfl, ?_,(h31.sh.sel [1] rfl)⟩
 show ol=_
 rw [hol,listB];unfold listTo;rw [show i=l.length by omega]
theorem held_c (x:Ls Ins)(W:World)(hx:x.At W)(hc:CodeC x.l)(hlc:LockC x.l)(hl:x.l.length≤5000):
    Rets Try.prog 42 [x.v] W (fun v w' =>∃(s:Ls BArr) (g:Ls Bool),v= .tuple #[s.v,g.v]∧s.l.length=x.l.length+1∧(∀i,i≤x.l.length→(nth s.l i).l.length=4∧∀k,k<4→(nth (nth s.l i).l k=true↔HeldI x.l k i))∧Sh0 W w' [.own 89 s]):=by
 refine gen Try.func42 Try.ntmps42 (Sh0.ext1 hx:Sh (fun _=>False) W W [.at_ x]) rfl fun a10 h10=>gG h10<|sG (oM 2 rfl<|.nl)<|gK fun _ k12=>gF [0,2,3] rfl<|fun a13 w13 h13=>x_any ((fun Φ Ψ S a w=>(S 3=false∧S 7=false∧FrI 111 S Φ Ψ a∧Sh (fun _=>False) W w [.at_ x])∨(S 3=true∧S 7=false∧∃(v7003:Value),FrI 111 S Φ (Ψ++ [(3,18,v7003),(8,4,v7003)]) a∧Sh (fun _=>False) W w [.own 89 (⟨v7003,List.replicate (x.l.length+1) ⟨List.replicate 4 false⟩⟩:Ls BArr), .at_ x])∨(S 3=false∧S 7=true∧∃(v7007:Value),FrI 111 S Φ (Ψ++ [(7,22,v7007)]) a∧Sh (fun _=>False) W w [.own 4 (⟨v7007,List.replicate (x.l.length+1) false⟩:Ls Bool), .at_ x])∨(S 3=true∧S 7=true∧∃(v7003:Value) (v7007:Value),FrI 111 S Φ (Ψ++ [(3,18,v7003),(7,22,v7007),(8,4,v7003),(9,5,v7007)]) a∧Sh (fun _=>False) W w [.own 4 (⟨v7007,List.replicate (x.l.length+1) false⟩:Ls Bool), .own 89 (⟨v7003,List.replicate (x.l.length+1) ⟨List.replicate 4 false⟩⟩:Ls BArr), .at_ x])) [(0,x.v),(2,(.slice none 0 0)),(3,(.slice none 0 0))] [(0,15,x.v),(1,16, .int .i64 ((x.l.length:Nat):Int)),(2,17, .int .i64 ((x.l.length+1:Nat):Int)),(4,19,x.v),(5,20, .int .i64 ((x.l.length:Nat):Int)),(6,21, .int .i64 ((x.l.length+1:Nat):Int))]) (by kernel_rfl) (by kernel_rfl) (Or.inl (⟨rfl,rfl,FrI.start h13.fr,h13.sh.drew⟩)) ?_ ?_;clear h10
 ·intro S i o ho hSi hcl hdep a w hI
  clear h13
  rcases i with _|_|_|_|_|_|_|_|_|_|i
  ·obtain rfl:_=o:=Option.some.inj ho
   rcases hI with ⟨ν3,ν7,φ,ς⟩|⟨ν3,_⟩|⟨ν3,ν7,v7007,φ,ς⟩|⟨ν3,_⟩
   ·exact sq φ φ.fr0 ς (r_move rfl rfl) 0 rfl rfl rfl rfl rfl rfl fun a hg=>Or.inl (⟨un rfl ν3,un rfl ν7,hg,ς⟩)
   ·exact no_way (cA hcl 3 0 rfl ν3) hSi
   ·exact sq φ φ.fr0 ς (r_move rfl rfl) 0 rfl rfl rfl rfl rfl rfl fun a hg=>Or.inr (Or.inr (Or.inl (⟨un rfl ν3,un rfl ν7,v7007,hg,ς⟩)))
   ·exact no_way (cA hcl 3 0 rfl ν3) hSi
  ·obtain rfl:_=o:=Option.some.inj ho
   have hd0:S 0=true:=depAt hdep 0 rfl rfl
   rcases hI with ⟨ν3,ν7,φ,ς⟩|⟨ν3,_⟩|⟨ν3,ν7,v7007,φ,ς⟩|⟨ν3,_⟩
   ·have hs:=St.mk (Fr.cons φ.fr0 (φ.at_ 0 0 15 _ rfl hd0)) ς
    have hl21:x.l.length≤140737488355328:=(hs.sh.at 0 rfl).len
    exact sq φ (Fr.cons φ.fr0 (φ.at_ 0 0 15 _ rfl hd0)) ς (r_len (s:=x) (n:=x.l.length) sl_45 rfl rfl (fun w h=>(h.at 0 rfl)) rfl) 1 rfl rfl rfl rfl rfl rfl fun a hg=>Or.inl (⟨un rfl ν3,un rfl ν7,hg,ς⟩)
   ·exact no_way (cA hcl 3 1 rfl ν3) hSi
   ·have hs:=St.mk (Fr.cons φ.fr0 (φ.at_ 0 0 15 _ rfl hd0)) ς
    have hl23:x.l.length≤140737488355328:=(hs.sh.at 1 rfl).len
    exact sq φ (Fr.cons φ.fr0 (φ.at_ 0 0 15 _ rfl hd0)) ς (r_len (s:=x) (n:=x.l.length) sl_45 rfl rfl (fun w h=>(h.at 1 rfl)) rfl) 1 rfl rfl rfl rfl rfl rfl fun a hg=>Or.inr (Or.inr (Or.inl (⟨un rfl ν3,un rfl ν7,v7007,hg,ς⟩)))
   ·exact no_way (cA hcl 3 1 rfl ν3) hSi
  ·obtain rfl:_=o:=Option.some.inj ho
   have hd1:S 1=true:=depAt hdep 0 rfl rfl
   rcases hI with ⟨ν3,ν7,φ,ς⟩|⟨ν3,_⟩|⟨ν3,ν7,v7007,φ,ς⟩|⟨ν3,_⟩
   ·exact sq φ (Fr.cons φ.fr0 (φ.at_ 1 1 16 _ rfl hd1)) ς (r_addN (p:=x.l.length) (q:=1) rfl rfl rfl (show x.l.length+1<9223372036854775808 from (by omega))) 2 rfl rfl rfl rfl rfl rfl fun a hg=>Or.inl (⟨un rfl ν3,un rfl ν7,hg,ς⟩)
   ·exact no_way (cA hcl 3 2 rfl ν3) hSi
   ·exact sq φ (Fr.cons φ.fr0 (φ.at_ 1 1 16 _ rfl hd1)) ς (r_addN (p:=x.l.length) (q:=1) rfl rfl rfl (show x.l.length+1<9223372036854775808 from (by omega))) 2 rfl rfl rfl rfl rfl rfl fun a hg=>Or.inr (Or.inr (Or.inl (⟨un rfl ν3,un rfl ν7,v7007,hg,ς⟩)))
   ·exact no_way (cA hcl 3 2 rfl ν3) hSi
  ·obtain rfl:_=o:=Option.some.inj ho
   have hd2:S 2=true:=depAt hdep 0 rfl rfl
   rcases hI with ⟨ν3,ν7,φ,ς⟩|⟨ν3,_⟩|⟨ν3,ν7,v7007,φ,ς⟩|⟨ν3,_⟩
   ·have hs:=St.mk (Fr.cons φ.fr0 (φ.at_ 2 2 17 _ rfl hd2)) ς
    refine step_ex (x_makeAr (n:=x.l.length+1) hs sl_85 ti_89 (by kernel_rfl) rfl rfl rfl (show 4*(x.l.length+1)≤140737488355328∧x.l.length+1≤140737488355328 from (by omega)) rfl rfl) (wanted_none rfl _) ?_
    rintro a27 w27 ⟨v27,h27⟩ ⟨v0,ht27⟩
    exact Or.inr (Or.inl (⟨upd_self _ _,un rfl ν7,v27,φ.stepW hcl hSi [0,1,2,3,4,5] (by kernel_rfl) (by kernel_rfl) ht27 h27.fr.defers (h27.fr.at_ 18 _ rfl) 6 rfl rfl rfl rfl,(h27.sh.sel [0,1] rfl)⟩))
   ·exact no_way ν3 hSi
   ·have hs:=St.mk (Fr.cons φ.fr0 (φ.at_ 2 2 17 _ rfl hd2)) ς
    refine step_ex (x_makeAr (n:=x.l.length+1) hs sl_85 ti_89 (by kernel_rfl) rfl rfl rfl (show 4*(x.l.length+1)≤140737488355328∧x.l.length+1≤140737488355328 from (by omega)) rfl rfl) (wanted_none rfl _) ?_
    rintro a28 w28 ⟨v28,h28⟩ ⟨v0,ht28⟩
    exact Or.inr (Or.inr (Or.inr (⟨upd_self _ _,un rfl ν7,v28,v7007,φ.stepW hcl hSi [0,1,2,3,4,5,7] (by kernel_rfl) (by kernel_rfl) ht28 h28.fr.defers (h28.fr.at_ 18 _ rfl) 6 rfl rfl rfl rfl,(h28.sh.sel [1,0,2] rfl)⟩)))
   ·exact no_way ν3 hSi
  ·obtain rfl:_=o:=Option.some.inj ho
   rcases hI with ⟨ν3,ν7,φ,ς⟩|⟨ν3,ν7,v7003,φ,ς⟩|⟨_,ν7,_⟩|⟨_,ν7,_⟩
   ·exact sq φ φ.fr0 ς (r_move rfl rfl) 3 rfl rfl rfl rfl rfl rfl fun a hg=>Or.inl (⟨un rfl ν3,un rfl ν7,hg,ς⟩)
   ·exact sq φ φ.fr0 ς (r_move rfl rfl) 3 rfl rfl rfl rfl rfl rfl fun a hg=>Or.inr (Or.inl (⟨un rfl ν3,un rfl ν7,v7003,hg,ς⟩))
   ·exact no_way (cA hcl 7 4 rfl ν7) hSi
   ·exact no_way (cA hcl 7 4 rfl ν7) hSi
  ·obtain rfl:_=o:=Option.some.inj ho
   have hd4:S 4=true:=depAt hdep 0 rfl rfl
   rcases hI with ⟨ν3,ν7,φ,ς⟩|⟨ν3,ν7,v7003,φ,ς⟩|⟨_,ν7,_⟩|⟨_,ν7,_⟩
   ·have hs:=St.mk (Fr.cons φ.fr0 (φ.at_ 3 4 19 _ rfl hd4)) ς
    have hl31:x.l.length≤140737488355328:=(hs.sh.at 0 rfl).len
    exact sq φ (Fr.cons φ.fr0 (φ.at_ 3 4 19 _ rfl hd4)) ς (r_len (s:=x) (n:=x.l.length) sl_45 rfl rfl (fun w h=>(h.at 0 rfl)) rfl) 4 rfl rfl rfl rfl rfl rfl fun a hg=>Or.inl (⟨un rfl ν3,un rfl ν7,hg,ς⟩)
   ·have hs:=St.mk (Fr.cons φ.fr0 (φ.at_ 3 4 19 _ rfl hd4)) ς
    have hl33:x.l.length≤140737488355328:=(hs.sh.at 1 rfl).len
    exact sq φ (Fr.cons φ.fr0 (φ.at_ 3 4 19 _ rfl hd4)) ς (r_len (s:=x) (n:=x.l.length) sl_45 rfl rfl (fun w h=>(h.at 1 rfl)) rfl) 4 rfl rfl rfl rfl rfl rfl fun a hg=>Or.inr (Or.inl (⟨un rfl ν3,un rfl ν7,v7003,hg,ς⟩))
   ·exact no_way (cA hcl 7 5 rfl ν7) hSi
   ·exact no_way (cA hcl 7 5 rfl ν7) hSi
  ·obtain rfl:_=o:=Option.some.inj ho
   have hd5:S 5=true:=depAt hdep 0 rfl rfl
   rcases hI with ⟨ν3,ν7,φ,ς⟩|⟨ν3,ν7,v7003,φ,ς⟩|⟨_,ν7,_⟩|⟨_,ν7,_⟩
   ·exact sq φ (Fr.cons φ.fr0 (φ.at_ 4 5 20 _ rfl hd5)) ς (r_addN (p:=x.l.length) (q:=1) rfl rfl rfl (show x.l.length+1<9223372036854775808 from (by omega))) 5 rfl rfl rfl rfl rfl rfl fun a hg=>Or.inl (⟨un rfl ν3,un rfl ν7,hg,ς⟩)
   ·exact sq φ (Fr.cons φ.fr0 (φ.at_ 4 5 20 _ rfl hd5)) ς (r_addN (p:=x.l.length) (q:=1) rfl rfl rfl (show x.l.length+1<9223372036854775808 from (by omega))) 5 rfl rfl rfl rfl rfl rfl fun a hg=>Or.inr (Or.inl (⟨un rfl ν3,un rfl ν7,v7003,hg,ς⟩))
   ·exact no_way (cA hcl 7 6 rfl ν7) hSi
   ·exact no_way (cA hcl 7 6 rfl ν7) hSi
  ·obtain rfl:_=o:=Option.some.inj ho
   have hd6:S 6=true:=depAt hdep 0 rfl rfl
   rcases hI with ⟨ν3,ν7,φ,ς⟩|⟨ν3,ν7,v7003,φ,ς⟩|⟨_,ν7,_⟩|⟨_,ν7,_⟩
   ·have hs:=St.mk (Fr.cons φ.fr0 (φ.at_ 5 6 21 _ rfl hd6)) ς
    refine step_ex (x_make (n:=x.l.length+1) (false:Bool) hs sl_64 ti_4 rfl rfl rfl rfl rfl (show 1*(x.l.length+1)≤140737488355328∧x.l.length+1≤140737488355328 from (by omega)) (fun w=>Flat.inner _ _) (fun b=>Flat.on _ _) rfl rfl) (wanted_none rfl _) ?_
    rintro a37 w37 ⟨v37,h37⟩ ⟨v0,ht37⟩
    exact Or.inr (Or.inr (Or.inl (⟨un rfl ν3,upd_self _ _,v37,φ.stepW hcl hSi [0,1,2,3,4,5] (by kernel_rfl) (by kernel_rfl) ht37 h37.fr.defers (h37.fr.at_ 22 _ rfl) 6 rfl rfl rfl rfl,(h37.sh.sel [0,1] rfl)⟩)))
   ·have hs:=St.mk (Fr.cons φ.fr0 (φ.at_ 5 6 21 _ rfl hd6)) ς
    refine step_ex (x_make (n:=x.l.length+1) (false:Bool) hs sl_64 ti_4 rfl rfl rfl rfl rfl (show 1*(x.l.length+1)≤140737488355328∧x.l.length+1≤140737488355328 from (by omega)) (fun w=>Flat.inner _ _) (fun b=>Flat.on _ _) rfl rfl) (wanted_none rfl _) ?_
    rintro a38 w38 ⟨v38,h38⟩ ⟨v0,ht38⟩
    exact Or.inr (Or.inr (Or.inr (⟨un rfl ν3,upd_self _ _,v7003,v38,φ.stepW hcl hSi [0,1,2,3,4,5,6,8] (by kernel_rfl) (by kernel_rfl) ht38 h38.fr.defers (h38.fr.at_ 22 _ rfl) 7 rfl rfl rfl rfl,(h38.sh.sel [0,1,2] rfl)⟩)))
   ·exact no_way ν7 hSi
   ·exact no_way ν7 hSi
  ·obtain rfl:_=o:=Option.some.inj ho
   have hd3:S 3=true:=depAt hdep 0 rfl rfl
   rcases hI with ⟨ν3,_⟩|⟨ν3,ν7,v7003,φ,ς⟩|⟨ν3,_⟩|⟨ν3,ν7,v7003,v7007,φ,ς⟩
   ·exact no_way hd3 ν3
   ·exact sq φ (Fr.cons φ.fr0 (φ.at_ 6 3 18 _ rfl hd3)) ς (r_assign rfl rfl) 7 rfl rfl rfl rfl rfl rfl fun a hg=>Or.inr (Or.inl (⟨un rfl ν3,un rfl ν7,v7003,hg,ς⟩))
   ·exact no_way hd3 ν3
   ·exact sq φ (Fr.cons φ.fr0 (φ.at_ 6 3 18 _ rfl hd3)) ς (r_assign rfl rfl) 8 rfl rfl rfl rfl rfl rfl fun a hg=>Or.inr (Or.inr (Or.inr (⟨un rfl ν3,un rfl ν7,v7003,v7007,hg,ς⟩)))
  ·obtain rfl:_=o:=Option.some.inj ho
   have hd7:S 7=true:=depAt hdep 0 rfl rfl
   have hd3:S 3=true:=depAt hdep 5 rfl rfl
   rcases hI with ⟨ν3,_⟩|⟨_,ν7,_⟩|⟨ν3,_⟩|⟨ν3,ν7,v7003,v7007,φ,ς⟩
   ·exact no_way hd3 ν3
   ·exact no_way hd7 ν7
   ·exact no_way hd3 ν3
   ·exact sq φ (Fr.cons φ.fr0 (φ.at_ 7 7 22 _ rfl hd7)) ς (r_assign rfl rfl) 9 rfl rfl rfl rfl rfl rfl fun a hg=>Or.inr (Or.inr (Or.inr (⟨un rfl ν3,un rfl ν7,v7003,v7007,hg,ς⟩)))
  · simp at ho
 intro S hall a w hI
 clear h13
 rcases hI with ⟨ν3,ν7,φ,ς⟩|⟨ν3,ν7,v7003,φ,ς⟩|⟨ν3,ν7,v7007,φ,ς⟩|⟨ν3,ν7,v7003,v7007,φ,ς⟩
 · exact no_way (hall 3 (by decide)) ν3
 · exact no_way (hall 7 (by decide)) ν7
 · exact no_way (hall 3 (by decide)) ν3
 have h42:St 111 (fun _=>False) W a w _ _:=⟨(Fr.cons (Fr.cons φ.fr0 (φ.at_ 8 8 4 _ rfl (hall 8 (by decide)))) (φ.at_ 9 9 5 _ rfl (hall 9 (by decide)))),ς⟩
 clear hall φ ς ν3 ν7
 refine gG h42<|hK k12<|sK fun _ k43=>gRn (oM 1 rfl<|oxN sl_64 ti_4 (aO 0 rfl) 0 (show 0<(List.replicate (x.l.length+1) false).length from om9) rfl<|.nl)<|gte 0 (true:Bool) ti_4 (show 0<(List.replicate (x.l.length+1) false).length from om9) rfl rfl<|nK k43<|gK fun _ k45=>sK fun _ k46=>gE1 (fun _ _ h_=>x_lit (n:=1) (cs:= [.int .i64 0]) ([0]:List Int) h_ sl_23 ti_3 rfl rfl rfl (by decide) rfl (by kernel_rfl) rfl (fun q hq w h=>Flat.inner _ _) (fun q hq b hb=>(Flat.on _ _ hb).elim) rfl rfl) rfl fun v47=>gRn (oM 1 rfl<|.nl)<|nK k46<|gB<|fun a48 w48 h48=> ?_;clear h42
 have hq0:QV (⟨v47, [0]⟩:Ls Int) [0] v47:=q_start (h48.sh.ok _ (List.mem_of_getElem? (i:=0) rfl)) (show 0<([0]:List Int).length from by decide)
 refine x_loop (fun m a w=>∃(M:List BArr) (G:List Bool) (wk:List Int) (vq hv:Value) (hl_:List Int),(HdB x.l M G wk)∧(∀i,i<x.l.length→HdC x.l M G wk i)∧(QV (⟨hv,hl_⟩:Ls Int) wk vq)∧(hl_.length≤totH M G)∧St 111 (fun _=>False) W a w [(0,x.v),(4,v7003),(5,v7007),(6,vq)] [.own 3 (⟨hv,hl_⟩:Ls Int), .own 4 (⟨v7007,G⟩:Ls Bool), .own 89 (⟨v7003,M⟩:Ls BArr), .at_ x]∧m=3*(5*(x.l.length+1)-totH M G)+wk.length) ⟨_,List.replicate (x.l.length+1) ⟨List.replicate 4 false⟩,(List.replicate (x.l.length+1) false).set 0 true, [0],_,_, [0],(HdB.start x.l),(HdC.start x.l),(hq0),(hd_one _),h48.nf ⟨rfl,rfl,rfl,rfl,trivial⟩,rfl⟩ ?_
 clear h48
 rintro m49 a49 w49 ⟨M,G,wk,vq,hv,hl_,hb,hcl,hq,hhl,h49,hm49⟩
 have hml:=hb.ml
 have hgl:=hb.gl
 have htot:=hb.tot
 have hql:=q_len hq
 simp only at hql
 refine gG h49<|gK fun _ k50=>sK fun _ k51=>gNl (fun w h=>(q_at (h.own 0 rfl) hq)) fun (hl52:wk.length≤140737488355328)=>gRn (oM 1 rfl<|oln (n:=wk.length) sl_23 (fun w h=>(q_at (h.own 0 rfl) hq)) rfl<|ogtN _ 0 rfl<|.nl)<|nK k51<|?_;clear h49
 refine gcd rfl (fun hb53 hp53=> ?_) fun hb53 hp53=> ?_
 ·skip
  refine gS<|hK k50<|?_
  have hpos:0<wk.length:=by omega
  obtain ⟨v0,wr,hwk⟩:∃v0 wr,wk=v0::wr:=by cases wk with|nil=>exact absurd hpos (by decide)|cons v0 wr=>exact ⟨v0,wr,rfl⟩
  have hwk0:nth wk 0=v0:=by rw [hwk];rfl
  have hwk1:wk.drop 1=wr:=by rw [hwk];rfl
  have hw0:=hb.wk v0 (by rw [hwk];exact List.mem_cons_self ..)
  have hbp:HdB x.l M G (wk.drop 1):=by rw [hwk1];rw [hwk] at hb;exact hb.pop
  have hcp:∀i,i<x.l.length→(i:Int)≠nth wk 0→HdC x.l M G (wk.drop 1) i:=by rw [hwk0,hwk1];rw [hwk] at hcl;exact HdC.pop hcl
  refine gB<|sG (oM 1 rfl<|oxN sl_23 ti_3 (fun w h=>(q_at (h.own 0 rfl) hq)) 0 om9 rfl<|olE (.int .i64 (nth wk 0)) ti_3 (fun w h=>(q_at (h.own 0 rfl) hq)) om9 rfl<|oM 1 rfl<|.nl)<|sG (oM 1 rfl<|oV (r_slL (s:=(⟨vq,wk⟩:Ls Int)) (k:=1) sl_23 ti_3 rfl rfl rfl (fun w h=>(q_at (h.own 0 rfl) hq)) (show 1≤wk.length from om9)) rfl<|oM 1 rfl<|.nl)<|?_
  obtain ⟨at_,hat⟩:=Int.eq_ofNat_of_zero_le (show 0≤nth wk 0 by rw [hwk0];exact hw0.1.1)
  intro a57 w57 h57
  have h56:=h57.same (d:=7) (v' := .int .i64 ((at_:Nat):Int)) rfl (by rw [hat])
  clear h57
  have hat0:v0=(at_:Int):=hwk0.symm.trans hat
  rw [hat] at hcp
  rw [hat0,Int.toNat_natCast] at hw0
  have hq1:=q_pop hq hpos
  refine gG h56<|gK fun _ k58=>sK fun _ k59=>gNl (aA 3 rfl) fun hl60=>gRn (oM 2 rfl<|oln sl_45 (aA 3 rfl) rfl<|oeqN _ _ rfl<|.nl)<|nK k59<|?_;clear h56
  refine gcd rfl (fun hb61 hp61=> ?_) fun hb61 hp61=> ?_
  ·skip
   refine gX<|fun a62 w62 h62=> ?_
   change∃_m,_m<_∧_
   refine ⟨_, ?_,M,G,(wk.drop 1),(vdrop vq 1 1),hv,hl_, ?_, ?_, ?_, ?_,h62.nf ⟨rfl,rfl,rfl,rfl,trivial⟩,rfl⟩
   · rw [hm49];first|omega|(simp only [List.length_drop];omega)
   · first|exact hb2|exact hbp
   · first|exact fun i hi=>hcp i hi (by omega)|(intro i hi;by_cases e9:i=at_;(rw [e9];have h9:=hn2;rw [show q=(nextsL x.l at_).length from by omega] at h9;exact h9.done);exact hot2 i hi e9)
   · first|exact hqv2|exact hq1
   · first|exact hhl2|exact hhl
  refine gS<|hK k58<|?_
  have hatl:at_<x.l.length:=by omega
  have hrch:=hbp.gs at_ (by omega) hw0.2
  have hs4:=hbp.w4 at_ (by omega)
  have hss:∀k,k<4→nth (nth M at_).l k=true→HeldI x.l k at_:=fun k hk=>hbp.ms at_ k (by omega) hk
  have hlk:=hlc at_ hatl
  have hdl:(wk.drop 1).length=wk.length-1:=List.length_drop
  refine sK fun _ k63=>gNl (aO 2 rfl) fun (hl64:M.length≤140737488355328)=>gRn (oM 2 rfl<|oxN sl_85 ti_89 (aO 2 rfl) _ om9 rfl<|oV (r_ldewAr (n:=0) (i:=at_) (s:=(⟨v7003,M⟩:Ls BArr)) ti_89 rfl rfl (fun w h=>(h.own 2 rfl)) (show at_<M.length from om9)) rfl<|.nl)<|gE1 (fun _ _ h_=>x_allocAr (k:=4) h_ ti_89 (by kernel_rfl) rfl rfl rfl) rfl fun b65=>gE (fun _ _ h_=>x_stwAr (i:=0) (l:=(List.replicate 4 false)) (m:=((nth M at_).l)) h_ ti_89 rfl rfl rfl rfl (by first|assumption|(simp only [lens9];done)|(simp only [lens9];first|assumption|omega)|rfl) (by first|assumption|(simp only [lens9];done)|(simp only [lens9];first|assumption|omega)|rfl) rfl) rfl<|nK k63<|fun a67 w67 h67=> ?_
  refine x_seq (fun a w=>∃(o:List Bool),(o=outL (nth x.l at_) (nth M at_).l)∧St 111 (fun _=>False) W a w [(0,x.v),(4,v7003),(5,v7007),(6,(vdrop vq 1 1)),(7, .int .i64 ((at_:Nat):Int)),(8, .pointer (some ⟨b65,0,none⟩))] [.blk b65 89 (o.map Value.bool), .own 3 (⟨hv,hl_⟩:Ls Int), .own 4 (⟨v7007,G⟩:Ls Bool), .own 89 (⟨v7003,M⟩:Ls BArr), .at_ x]) ?_ ?_
  ·refine gG h67<|sK fun _ k68=>gRn (oM 2 rfl<|oxN sl_45 ti_47 (aA 4 rfl) _ om9 rfl<|olw2 [.int .i64 ((nth x.l at_).op), .int .i64 ((nth x.l at_).a), .int .i64 ((nth x.l at_).b), .int .i64 ((nth x.l at_).c)] ti_47 (aA 4 rfl) om9 rfl<|.nl)<|gal ti_47 rfl fun b69=>gsw 0 ti_47 rfl rfl rfl<|nK k68<|sG (ofB fl_47_0 rfl<|olB 0 ti_3 rfl rfl<|.nl)<|gB<|sG (oeqI _ _ rfl<|oM 1 rfl<|.nl)<|?_;clear h67
   refine gcd rfl (fun hb73 hp73=> ?_) fun hb73 hp73=> ?_
   ·skip
    refine gL<|gRn (ofB fl_47_1 rfl<|olB 0 ti_3 rfl rfl<|oV (r_ixArI (q:=(nth x.l at_).a) ar_89 ti_4 rfl rfl rfl rfl (show 0≤(nth x.l at_).a∧(nth x.l at_).a<4 from om9)) rfl<|.nl)<|gE (fun _ _ h_=>x_stAr (i:=1) (l:=((nth M at_).l)) (b:=true) h_ ti_4 rfl rfl rfl rfl rfl (show ((nth x.l at_).a).toNat<((nth M at_).l).length from (by rw [show ((nth M at_).l).length=4 from (by first|assumption|(simp only [lens9];done)|(simp only [lens9];first|assumption|omega)|rfl)];omega))) rfl<|nN<|fun a75 w75 h75=> ?_
    refine x_join (Q:=fun _ _ _=>False) ⟨((nth M at_).l).set (((nth x.l at_).a).toNat) true, ?_,h75.nrm ⟨rfl,rfl,rfl,rfl,rfl,rfl,trivial⟩ [1,2,3,4,5] rfl⟩
    · unfold outL;first|(rw [if_pos (by assumption)];done)|(rw [if_neg (by assumption),if_pos (by assumption)];done)|(rw [if_neg (by assumption),if_neg (by assumption)];done)
   refine sG (oeqI _ _ rfl<|oM 1 rfl<|.nl)<|gF [0,4,5,6,7,8,9,53] rfl<|gcd rfl (fun hb77 hp77=> ?_) fun hb77 hp77=> ?_
   ·skip
    refine gL<|gRn (ofB fl_47_1 rfl<|olB 0 ti_3 rfl rfl<|oV (r_ixArI (q:=(nth x.l at_).a) ar_89 ti_4 rfl rfl rfl rfl (show 0≤(nth x.l at_).a∧(nth x.l at_).a<4 from om9)) rfl<|.nl)<|gE (fun _ _ h_=>x_stAr (i:=1) (l:=((nth M at_).l)) (b:=false) h_ ti_4 rfl rfl rfl rfl rfl (show ((nth x.l at_).a).toNat<((nth M at_).l).length from (by rw [show ((nth M at_).l).length=4 from (by first|assumption|(simp only [lens9];done)|(simp only [lens9];first|assumption|omega)|rfl)];omega))) rfl<|nN<|fun a79 w79 h79=> ?_
    refine x_join (Q:=fun _ _ _=>False) ⟨((nth M at_).l).set (((nth x.l at_).a).toNat) false, ?_,h79.nrm ⟨rfl,rfl,rfl,rfl,rfl,rfl,trivial⟩ [1,2,3,4,5] rfl⟩
    · unfold outL;first|(rw [if_pos (by assumption)];done)|(rw [if_neg (by assumption),if_pos (by assumption)];done)|(rw [if_neg (by assumption),if_neg (by assumption)];done)
   refine gS<|fun a80 w80 h80=>x_join (Q:=fun _ _ _=>False) ⟨(nth M at_).l, ?_,h80.nrm ⟨rfl,rfl,rfl,rfl,rfl,rfl,trivial⟩ [1,2,3,4,5] rfl⟩
   · unfold outL;first|(rw [if_pos (by assumption)];done)|(rw [if_neg (by assumption),if_pos (by assumption)];done)|(rw [if_neg (by assumption),if_neg (by assumption)];done)
  clear h67
  rintro a81 w81 ⟨o,ho,h81⟩
  refine gG h81<|sK fun _ k82=>gRn (oM 2 rfl<|.nl)<|gC (fun _ _ h_=>xCl h_ bd_62 rfl (nexts_c x at_ _ (h_.sh.at 4 rfl) (by omega) (by omega))) rfl<|?_;clear h81
  rintro _ _ w83 ⟨s83,rfl,hs83⟩
  refine gWk hs83 rfl<|gU<|gNl (aO 0 rfl) fun (hl84:(nextsL x.l at_).length≤140737488355328)=>gRn (oln (n:=(nextsL x.l at_).length) sl_23 (aO 0 rfl) rfl<|oM 1 rfl<|.nl)<|nK k82<|gB<|?_;clear hs83
  have ho4:o.length=4:=by rw [ho,outL_len];exact hs4
  intro a86 w86 h86
  refine x_loop (fun m a w=>∃(q:Nat) (M2:List BArr) (G2:List Bool) (wk2:List Int) (vq2 hv2:Value) (hl2:List Int),(q≤(nextsL x.l at_).length)∧(HdB x.l M2 G2 wk2)∧(∀i,i<x.l.length→i≠at_→HdC x.l M2 G2 wk2 i)∧(HdN x.l M2 G2 wk2 at_ (nth M at_).l q)∧(QV (⟨hv2,hl2⟩:Ls Int) wk2 vq2)∧(hl2.length≤totH M2 G2)∧(3*(5*(x.l.length+1)-totH M2 G2)+wk2.length+1≤3*(5*(x.l.length+1)-totH M G)+wk.length)∧St 111 (fun _=>False) W a w [(0,x.v),(4,v7003),(5,v7007),(6,vq2),(8, .pointer (some ⟨b65,0,none⟩)),(60,s83.v),(61, .int .i64 (((nextsL x.l at_).length:Nat):Int)),(62, .int .i64 ((q:Nat):Int))] [.own 3 (⟨s83.v,nextsL x.l at_⟩:Ls Int), .blk b65 89 (o.map Value.bool), .own 3 (⟨hv2,hl2⟩:Ls Int), .own 4 (⟨v7007,G2⟩:Ls Bool), .own 89 (⟨v7003,M2⟩:Ls BArr), .at_ x]∧m=(nextsL x.l at_).length-q) ⟨_,0,M,G,(wk.drop 1),(vdrop vq 1 1),hv,hl_,(by omega),(hbp),(fun i hi hne=>hcp i hi (by omega)),(HdN.start rfl),(hq1),(hhl),(by omega),h86.nf ⟨rfl,rfl,rfl,rfl,rfl,rfl,rfl,rfl,trivial⟩,rfl⟩ ?_
  clear h86
  rintro m85 a85 w85 ⟨q,M2,G2,wk2,vq2,hv2,hl2,hq,hb2,hot2,hn2,hqv2,hhl2,hms,h85,hm85⟩
  have hml2:=hb2.ml
  have hgl2:=hb2.gl
  have htot2:=hb2.tot
  refine gG h85<|sG (oltN _ _ rfl<|.nl)<|gK fun _ k88=>gcd rfl (fun hb89 hp89=> ?_) fun hb89 hp89=> ?_;clear h85
  ·skip
   refine gS<|hK k88<|gK fun _ k90=>gB<|sG (oxN sl_23 ti_3 (aO 0 rfl) _ om9 rfl<|olE (.int .i64 (nth (nextsL x.l at_) q)) ti_3 (aO 0 rfl) om9 rfl<|oM 1 rfl<|.nl)<|?_
   have hto0:=hc.nx at_ hatl _ (nth_mem (nextsL x.l at_) q (by omega))
   obtain ⟨to_,hto⟩:=Int.eq_ofNat_of_zero_le hto0.1
   have htl:to_≤x.l.length:=by omega
   have htn:to_=(nth (nextsL x.l at_) q).toNat:=by omega
   intro a93 w93 h93
   have h92:=h93.same (d:=11) (v' := .int .i64 ((to_:Nat):Int)) rfl (by rw [hto])
   clear h93
   have ht4:=hb2.w4 to_ (by omega)
   refine gG h92<|sK fun _ k94=>gNl (aO 4 rfl) fun (hl95:M2.length≤140737488355328)=>gRn (oM 2 rfl<|oxN sl_85 ti_89 (aO 4 rfl) _ om9 rfl<|oV (r_ldewAr (n:=0) (i:=to_) (s:=(⟨v7003,M2⟩:Ls BArr)) ti_89 rfl rfl (fun w h=>(h.own 4 rfl)) (show to_<M2.length from om9)) rfl<|.nl)<|gE1 (fun _ _ h_=>x_allocAr (k:=4) h_ ti_89 (by kernel_rfl) rfl rfl rfl) rfl fun b96=>gE (fun _ _ h_=>x_stwAr (i:=0) (l:=(List.replicate 4 false)) (m:=((nth M2 to_).l)) h_ ti_89 rfl rfl rfl rfl (by first|assumption|(simp only [lens9];done)|(simp only [lens9];first|assumption|omega)|rfl) (by first|assumption|(simp only [lens9];done)|(simp only [lens9];first|assumption|omega)|rfl) rfl) rfl<|nK k94<|gK fun _ k98=>sG (oV (r_ldwAr (i:=2) (l:=o) ti_89 rfl rfl rfl (by first|assumption|(simp only [lens9];done)|(simp only [lens9];first|assumption|omega)|rfl)) rfl<|oM 1 rfl<|.nl)<|gB<|fun a101 w101 h101=> ?_;clear h92
   refine x_loop (fun m a w=>∃(k:Nat) (nw:List Bool),(k≤4)∧(nw=orL (nth M2 to_).l o k)∧St 111 (fun _=>False) W a w [(0,x.v),(4,v7003),(5,v7007),(6,vq2),(8, .pointer (some ⟨b65,0,none⟩)),(11, .int .i64 ((to_:Nat):Int)),(12, .pointer (some ⟨b96,0,none⟩)),(60,s83.v),(61, .int .i64 (((nextsL x.l at_).length:Nat):Int)),(62, .int .i64 ((q:Nat):Int)),(70, .agg (o.map Value.bool).toArray),(71, .int .i64 ((k:Nat):Int))] [.blk b96 89 (nw.map Value.bool), .own 3 (⟨s83.v,nextsL x.l at_⟩:Ls Int), .blk b65 89 (o.map Value.bool), .own 3 (⟨hv2,hl2⟩:Ls Int), .own 4 (⟨v7007,G2⟩:Ls Bool), .own 89 (⟨v7003,M2⟩:Ls BArr), .at_ x]∧m=4-k) ⟨_,0,(nth M2 to_).l,(by omega),(orL_zero ht4),h101.nf ⟨rfl,rfl,rfl,rfl,rfl,rfl,rfl,rfl,rfl,rfl,rfl,rfl,trivial⟩,rfl⟩ ?_
   clear h101
   rintro m100 a100 w100 ⟨k,nw,hk,hnw,h100,hm100⟩
   have hnw4:nw.length=4:=by rw [hnw];exact orL_len ..
   refine gG h100<|sG (oltN _ 4 rfl<|.nl)<|gK fun _ k103=>gcd rfl (fun hb104 hp104=> ?_) fun hb104 hp104=> ?_;clear h100
   ·skip
    refine gS<|hK k103<|gK fun _ k105=>gB<|sG (oM 1 rfl<|oV (r_ixV (cs:=o.map Value.bool) (q:=k) ar_89 ti_4 rfl rfl rfl (show k<4 from om9) (nth_bool (by rw [show o.length=4 from (by first|assumption|(simp only [lens9];done)|(simp only [lens9];first|assumption|omega)|rfl)];omega))) rfl<|oM 2 rfl<|.nl)<|gL<|gRn (oM 2 rfl<|oV (r_ixAr (q:=k) ar_89 ti_4 rfl rfl rfl rfl (show k<4 from om9)) rfl<|oV (r_ldAr (i:=0) (l:=nw) ti_4 rfl rfl rfl (show k<nw.length from (by rw [show nw.length=4 from (by first|assumption|(simp only [lens9];done)|(simp only [lens9];first|assumption|omega)|rfl)];omega))) rfl<|oM 1 rfl<|.nl)<|?_
    rcases Bool.eq_false_or_eq_true (nth nw k) with hb107|hb107
    ·skip
     refine gRn (oK hb107 rfl<|opT hb107 rfl<|oV (r_ixAr (q:=k) ar_89 ti_4 rfl rfl rfl rfl (show k<4 from om9)) rfl<|.nl)<|gE (fun _ _ h_=>x_stAr (i:=0) (l:=nw) (b:=true) h_ ti_4 rfl rfl rfl rfl rfl (show k<nw.length from (by rw [show nw.length=4 from (by first|assumption|(simp only [lens9];done)|(simp only [lens9];first|assumption|omega)|rfl)];omega))) rfl<|nK k105<|gL<|gRn (oadN _ 1 om9 rfl<|oM 1 rfl<|.nl)<|nN<|fun a109 w109 h109=> ?_
     refine x_again ⟨_, ?_,k+1,nw.set k true, ?_, ?_,h109.nf ⟨rfl,rfl,rfl,rfl,rfl,rfl,rfl,rfl,rfl,rfl,rfl,rfl,trivial⟩,rfl⟩
     · rw [hm100];first|omega|(simp only [lens9];omega)
     · omega
     · exact orL_set hnw (by omega) (by first|(rw [(by assumption:nth nw k=true)];rfl)|(rw [(by assumption:nth nw k=false)];rfl))
    refine gRn (oG hb107 (r_move rfl rfl) rfl<|opF hb107 rfl<|oV (r_ixAr (q:=k) ar_89 ti_4 rfl rfl rfl rfl (show k<4 from om9)) rfl<|.nl)<|gE (fun _ _ h_=>x_stAr (i:=0) (l:=nw) (b:=(nth o k)) h_ ti_4 rfl rfl rfl rfl rfl (show k<nw.length from (by rw [show nw.length=4 from (by first|assumption|(simp only [lens9];done)|(simp only [lens9];first|assumption|omega)|rfl)];omega))) rfl<|nK k105<|gL<|gRn (oadN _ 1 om9 rfl<|oM 1 rfl<|.nl)<|nN<|fun a111 w111 h111=> ?_
    refine x_again ⟨_, ?_,k+1,nw.set k (nth o k), ?_, ?_,h111.nf ⟨rfl,rfl,rfl,rfl,rfl,rfl,rfl,rfl,rfl,rfl,rfl,rfl,trivial⟩,rfl⟩
    · rw [hm100];first|omega|(simp only [lens9];omega)
    · omega
    · exact orL_set hnw (by omega) (by first|(rw [(by assumption:nth nw k=true)];rfl)|(rw [(by assumption:nth nw k=false)];rfl))
   refine gX<|hK k98<|?_
   have hnwf:nw=orL (nth M2 to_).l o 4:=by rw [show k=4 from by omega] at hnw;exact hnw
   refine gK fun _ k112=>fun a114 w114 h114=>x_quiet (by kernel_rfl) (by kernel_rfl) h114 fun _ z115=>qQ h114.fr<|qRn (oM 2 rfl<|.nl)<|?_
   have hl116:G2.length≤140737488355328:=(h114.sh.own 4 rfl).len
   refine qRn (oxN sl_64 ti_4 (aO 4 rfl) _ om9 rfl<|olE (.bool (nth G2 to_)) ti_4 (aO 4 rfl) om9 rfl<|ont rfl<|oM 1 rfl<|.nl)<|?_
   rcases Bool.eq_false_or_eq_true (!(nth G2 to_)) with hb117|hb117
   ·have hn117:nth G2 to_=false:=(Bool.not_eq_true' _).mp hb117
    refine qRn (oKs 6 hb117 rfl rfl<|opT hb117 rfl<|.nl)<|qN z115<|?_;clear h114
    refine hK k112<|gcT rfl rfl<|gK fun _ k119=>rC [6,8] rfl<|pR [0,1,2,3,4,5] rfl (oM 4 rfl<|oV (r_ldwAr (i:=0) (l:=nw) ti_89 rfl rfl rfl (by first|assumption|(simp only [lens9];done)|(simp only [lens9];first|assumption|omega)|rfl)) rfl<|oxN sl_64 ti_4 (aO 4 rfl) _ om9 rfl<|.nl) rfl<|pS (fun _ _ h_=>x_ste (r:=4) (i:=to_) (j:=0) (x' :=(true:Bool)) h_ ti_4 rfl rfl rfl rfl rfl (show to_<G2.length from om9) (Nat.le_of_ble_eq_true rfl) rfl rfl rfl (by intro q hq;obtain rfl:q=0:=(by omega);rfl) (fun w h=>Flat.inner _ _) (fun b hb=>(Flat.on _ _ hb).elim)) rfl<|pR [2,3,4,7] rfl (oM 2 rfl<|oV (r_ldwAr (i:=0) (l:=nw) ti_89 rfl rfl rfl (by first|assumption|(simp only [lens9];done)|(simp only [lens9];first|assumption|omega)|rfl)) rfl<|oxN sl_85 ti_89 (aO 5 rfl) _ om9 rfl<|.nl) rfl<|pS (fun _ _ h_=>x_stewAr (r:=5) (i:=to_) (s:=(⟨v7003,M2⟩:Ls BArr)) (l:=nw) h_ ti_89 rfl rfl rfl rfl (show to_<M2.length from om9) (by first|assumption|(simp only [lens9];done)|(simp only [lens9];first|assumption|omega)|rfl) rfl) rfl<|pE [] rfl (.nl) rfl<|hK k119<|gF [0,4,5,6,8,11,60,61,62] rfl<|gL<|gRn (oM 2 rfl<|.nl)<|gE1 (fun _ _ h_=>x_lit (n:=1) (cs:= [.int .i64 ((to_:Nat):Int)]) ([((to_:Nat):Int)]:List Int) h_ sl_23 ti_3 rfl rfl rfl (by decide) rfl (by kernel_rfl) rfl (fun q hq w h=>Flat.inner _ _) (fun q hq b hb=>(Flat.on _ _ hb).elim) rfl rfl) rfl fun v122=>fun a124 w124 h124=>wl_ex (x_appQ (r:=4) (s:=(⟨hv2,hl2⟩:Ls Int)) (m:=(⟨v122, [((to_:Nat):Int)]⟩:Ls Int)) (wk:=wk2) (vq:=vq2) h124 sl_23 ti_3 rfl rfl rfl rfl rfl hqv2 (fun w h=>(h.own 0 rfl)) (show 0<([((to_:Nat):Int)]).length from (by first|omega|(simp only [lens9];omega))) rfl (show (wk2.length+([((to_:Nat):Int)]).length)*8≤140737488355328∧hl2.length+([((to_:Nat):Int)]).length≤140737488355328 from (by first|omega|(simp only [lens9];omega))) rfl rfl) (wanted_none rfl _) ?_
    rintro a125 w125 ⟨u125,v125,hq125,h125⟩;clear h124
    refine gG h125<|gRn (oM 1 rfl<|.nl)<|nK k90<|gL<|gRn (oadN _ 1 om9 rfl<|oM 1 rfl<|.nl)<|nN<|?_;clear h125
    have hch:nth G2 to_=false∨nw≠(nth M2 to_).l:=by first|exact .inl (by assumption)|exact .inr (by assumption)|simp_all
    have htt:=hd_tot hnwf (by omega) (by omega) ht4 hch
    have hbn:=HdB.put (n:=nw) hc hlc hb2 hatl hrch hs4 hss (by omega) htn (by rw [←ho];exact hnwf)
    have hnn:=HdN.put (n:=nw) htn (by omega) (by rw [←ho];exact hnwf) (by omega) (by omega) hn2
    rw [hto] at hbn hnn
    have htotn:=hbn.tot
    have hqn:=hq125
    intro a126 w126 h126
    refine x_again ⟨_, ?_,(q+1),M2.set to_ ⟨nw⟩,G2.set to_ true,wk2++([((to_:Nat):Int)]),v125,u125.v,u125.l, ?_, ?_, ?_, ?_, ?_, ?_, ?_,h126.nrm ⟨rfl,rfl,rfl,rfl,rfl,rfl,rfl,rfl,trivial⟩ [2,3,4,5,6,7] rfl,rfl⟩
    · rw [hm85];first|omega|(simp only [lens9];omega)
    · omega
    · first|exact hbn|exact hb2
    · first|exact fun i hi hne=>HdC.put (o:=o) hnwf (by omega) (by omega) rfl (hot2 i hi hne)|exact hot2
    · first|exact hnn|exact HdN.stay (n:=nw) (by rw [←htn,←ho];exact hnwf) (by rw [←htn];assumption) (by rw [←htn];exact Classical.byContradiction fun h9=>absurd h9 (by assumption)) hn2
    · first|exact hqv2|exact hqn.1
    · first|exact hhl2|(have h9:=hqn.2;simp only [List.length_cons,List.length_nil] at h9;omega)
    · first|omega|(simp only [List.length_append,List.length_cons,List.length_nil];omega)
   have hn117:nth G2 to_=true:=(Bool.not_eq_false' _).mp hb117
   refine qRn (oG hb117 (r_ldwAr (i:=0) (l:=nw) ti_89 rfl rfl rfl (by first|assumption|(simp only [lens9];done)|(simp only [lens9];first|assumption|omega)|rfl)) rfl<|oG hb117 (r_move rfl rfl) rfl<|oG hb117 (r_move rfl rfl) rfl<|oG hb117 (r_ixN (s:=(⟨v7003,M2⟩:Ls BArr)) (q:=to_) sl_85 ti_89 rfl rfl rfl (fun w h=>(h.own 5 rfl)) (show to_<M2.length from om9)) rfl<|oG hb117 (r_ldewAr (n:=0) (i:=to_) (s:=(⟨v7003,M2⟩:Ls BArr)) ti_89 rfl rfl (fun w h=>(h.own 5 rfl)) (show to_<M2.length from om9)) rfl<|oG hb117 (r_neqAr (l:=nw) (m:=((nth M2 to_).l)) ar_89 ti_4 Try.underlying4 (by kernel_rfl) rfl rfl rfl (by first|assumption|(simp only [lens9];done)|(simp only [lens9];first|assumption|omega)|rfl) (by first|assumption|(simp only [lens9];done)|(simp only [lens9];first|assumption|omega)|rfl)) rfl<|opF hb117 rfl<|.nl)<|qN z115<|?_;clear h114
   refine hK k112<|gcd rfl (fun hb133 hp133=> ?_) fun hb133 hp133=> ?_
   ·skip
    refine gK fun _ k134=>rC [6,8] rfl<|pR [0,1,2,3,4,5] rfl (oM 4 rfl<|oV (r_ldwAr (i:=0) (l:=nw) ti_89 rfl rfl rfl (by first|assumption|(simp only [lens9];done)|(simp only [lens9];first|assumption|omega)|rfl)) rfl<|oxN sl_64 ti_4 (aO 4 rfl) _ om9 rfl<|.nl) rfl<|pS (fun _ _ h_=>x_ste (r:=4) (i:=to_) (j:=0) (x' :=(true:Bool)) h_ ti_4 rfl rfl rfl rfl rfl (show to_<G2.length from om9) (Nat.le_of_ble_eq_true rfl) rfl rfl rfl (by intro q hq;obtain rfl:q=0:=(by omega);rfl) (fun w h=>Flat.inner _ _) (fun b hb=>(Flat.on _ _ hb).elim)) rfl<|pR [2,3,4,7] rfl (oM 2 rfl<|oV (r_ldwAr (i:=0) (l:=nw) ti_89 rfl rfl rfl (by first|assumption|(simp only [lens9];done)|(simp only [lens9];first|assumption|omega)|rfl)) rfl<|oxN sl_85 ti_89 (aO 5 rfl) _ om9 rfl<|.nl) rfl<|pS (fun _ _ h_=>x_stewAr (r:=5) (i:=to_) (s:=(⟨v7003,M2⟩:Ls BArr)) (l:=nw) h_ ti_89 rfl rfl rfl rfl (show to_<M2.length from om9) (by first|assumption|(simp only [lens9];done)|(simp only [lens9];first|assumption|omega)|rfl) rfl) rfl<|pE [] rfl (.nl) rfl<|hK k134<|gF [0,4,5,6,8,11,60,61,62] rfl<|gL<|gRn (oM 2 rfl<|.nl)<|gE1 (fun _ _ h_=>x_lit (n:=1) (cs:= [.int .i64 ((to_:Nat):Int)]) ([((to_:Nat):Int)]:List Int) h_ sl_23 ti_3 rfl rfl rfl (by decide) rfl (by kernel_rfl) rfl (fun q hq w h=>Flat.inner _ _) (fun q hq b hb=>(Flat.on _ _ hb).elim) rfl rfl) rfl fun v137=>fun a139 w139 h139=>wl_ex (x_appQ (r:=4) (s:=(⟨hv2,hl2⟩:Ls Int)) (m:=(⟨v137, [((to_:Nat):Int)]⟩:Ls Int)) (wk:=wk2) (vq:=vq2) h139 sl_23 ti_3 rfl rfl rfl rfl rfl hqv2 (fun w h=>(h.own 0 rfl)) (show 0<([((to_:Nat):Int)]).length from (by first|omega|(simp only [lens9];omega))) rfl (show (wk2.length+([((to_:Nat):Int)]).length)*8≤140737488355328∧hl2.length+([((to_:Nat):Int)]).length≤140737488355328 from (by first|omega|(simp only [lens9];omega))) rfl rfl) (wanted_none rfl _) ?_
    rintro a140 w140 ⟨u140,v140,hq140,h140⟩;clear h139
    refine gG h140<|gRn (oM 1 rfl<|.nl)<|nK k90<|gL<|gRn (oadN _ 1 om9 rfl<|oM 1 rfl<|.nl)<|nN<|?_;clear h140
    have hch:nth G2 to_=false∨nw≠(nth M2 to_).l:=by first|exact .inl (by assumption)|exact .inr (by assumption)|simp_all
    have htt:=hd_tot hnwf (by omega) (by omega) ht4 hch
    have hbn:=HdB.put (n:=nw) hc hlc hb2 hatl hrch hs4 hss (by omega) htn (by rw [←ho];exact hnwf)
    have hnn:=HdN.put (n:=nw) htn (by omega) (by rw [←ho];exact hnwf) (by omega) (by omega) hn2
    rw [hto] at hbn hnn
    have htotn:=hbn.tot
    have hqn:=hq140
    intro a141 w141 h141
    refine x_again ⟨_, ?_,(q+1),M2.set to_ ⟨nw⟩,G2.set to_ true,wk2++([((to_:Nat):Int)]),v140,u140.v,u140.l, ?_, ?_, ?_, ?_, ?_, ?_, ?_,h141.nrm ⟨rfl,rfl,rfl,rfl,rfl,rfl,rfl,rfl,trivial⟩ [2,3,4,5,6,7] rfl,rfl⟩
    · rw [hm85];first|omega|(simp only [lens9];omega)
    · omega
    · first|exact hbn|exact hb2
    · first|exact fun i hi hne=>HdC.put (o:=o) hnwf (by omega) (by omega) rfl (hot2 i hi hne)|exact hot2
    · first|exact hnn|exact HdN.stay (n:=nw) (by rw [←htn,←ho];exact hnwf) (by rw [←htn];assumption) (by rw [←htn];exact Classical.byContradiction fun h9=>absurd h9 (by assumption)) hn2
    · first|exact hqv2|exact hqn.1
    · first|exact hhl2|(have h9:=hqn.2;simp only [List.length_cons,List.length_nil] at h9;omega)
    · first|omega|(simp only [List.length_append,List.length_cons,List.length_nil];omega)
   refine gS<|hK k90<|gL<|gRn (oadN _ 1 om9 rfl<|oM 1 rfl<|.nl)<|nN<|fun a142 w142 h142=>x_again ⟨_, ?_,(q+1),M2,G2,wk2,vq2,hv2,hl2, ?_, ?_, ?_, ?_, ?_, ?_, ?_,h142.nrm ⟨rfl,rfl,rfl,rfl,rfl,rfl,rfl,rfl,trivial⟩ [1,2,3,4,5,6] rfl,rfl⟩
   · rw [hm85];first|omega|(simp only [lens9];omega)
   · omega
   · first|exact hbn|exact hb2
   · first|exact fun i hi hne=>HdC.put (o:=o) hnwf (by omega) (by omega) rfl (hot2 i hi hne)|exact hot2
   · first|exact hnn|exact HdN.stay (n:=nw) (by rw [←htn,←ho];exact hnwf) (by rw [←htn];assumption) (by rw [←htn];exact Classical.byContradiction fun h9=>absurd h9 (by assumption)) hn2
   · first|exact hqv2|exact hqn.1
   · first|exact hhl2|(have h9:=hqn.2;simp only [List.length_cons,List.length_nil] at h9;omega)
   · first|omega|(simp only [List.length_append,List.length_cons,List.length_nil];omega)
  refine gX<|fun a143 w143 h143=> ?_
  change∃_m,_m<_∧_
  refine ⟨_, ?_,M2,G2,wk2,vq2,hv2,hl2, ?_, ?_, ?_, ?_,h143.nrm ⟨rfl,rfl,rfl,rfl,trivial⟩ [2,3,4,5] rfl,rfl⟩
  · rw [hm49];first|omega|(simp only [List.length_drop];omega)
  · first|exact hb2|exact hbp
  · first|exact fun i hi=>hcp i hi (by omega)|(intro i hi;by_cases e9:i=at_;(rw [e9];have h9:=hn2;rw [show q=(nextsL x.l at_).length from by omega] at h9;exact h9.done);exact hot2 i hi e9)
  · first|exact hqv2|exact hq1
  · first|exact hhl2|exact hhl
 refine gX<|hK k45<|sG (oM 4 rfl<|.nl)<|gR<|fun a145 w145 h145=>x_ret2 (fn:=Try.f42) (t:=2) (u:=3) rfl h145 rfl rfl ?_
 have hwn:wk= []:=List.eq_nil_of_length_eq_zero (by omega)
 rw [hwn] at hb hcl
 exact ⟨⟨v7003,M⟩,⟨v7007,G⟩,rfl,hb.ml,fun i hi=>⟨hb.w4 i (by omega),fun k hk=>(hb.end_ hc hlc hcl).2 i k hi hk⟩,(h145.sh.sel [2] rfl)⟩
theorem list_ls {P:Program}{f:FuncId}{vs:List Value}{W:World}{l:List Int}{E:TypeId}(h:Rets P f vs W (fun v w' =>∃s:Ls Int,v=s.v∧s.l=l∧Sh0 W w' [.own E s])):Rets P f vs W (fun v w' =>∃s:Ls Int,v=s.v∧Sh0 W w' [.own E (⟨s.v,l⟩:Ls Int)]):=
 h.mono fun v w' ⟨s,h1,h2,h3⟩=>⟨s,h1,by subst h2;exact h3⟩
def EdgeC (c:List Ins)(n:Nat)(e:P2):Prop:=∃i,i<n∧(nth c i).op=17∧e.b=(nth c i).a∧∃k:Nat,k<4∧e.a=(k:Int)∧HeldI c k i
def EdgesT (code:List (Ls Ins))(n:Nat)(e:P2):Prop:=∃t,t<n∧EdgeC (nth code t).l (nth code t).l.length e
section
variable {c:List Ins}{code:List (Ls Ins)}{n t i q:Nat}{e:P2}{s:List Bool}{a:Int}
theorem edgesT_zero :EdgesT code 0 e↔False:=⟨fun ⟨_,h,_⟩=>absurd h (Nat.not_lt_zero _),False.elim⟩
theorem edgesT_succ :EdgesT code (t+1) e↔EdgesT code t e∨EdgeC (nth code t).l (nth code t).l.length e:=by
 constructor
 ·rintro ⟨u,h1,h2⟩
  rcases Nat.lt_or_ge u t with h|h
  ·exact .inl ⟨u,h,h2⟩
  ·obtain rfl:u=t:=by omega
   exact .inr h2
 ·rintro (⟨u,h1,h2⟩|h)
  ·exact ⟨u,by omega,h2⟩
  ·exact ⟨t,by omega,h⟩
theorem edgeC_zero :EdgeC c 0 e↔False:=⟨fun ⟨_,h,_⟩=>absurd h (Nat.not_lt_zero _),False.elim⟩
theorem edgeC_succ :EdgeC c (i+1) e↔EdgeC c i e∨((nth c i).op=17∧e.b=(nth c i).a∧∃k:Nat,k<4∧e.a=(k:Int)∧HeldI c k i):=by
 constructor
 ·rintro ⟨u,h1,h2⟩
  rcases Nat.lt_or_ge u i with h|h
  ·exact .inl ⟨u,h,h2⟩
  ·obtain rfl:u=i:=by omega
   exact .inr h2
 ·rintro (⟨u,h1,h2⟩|h)
  ·exact ⟨u,by omega,h2⟩
  ·exact ⟨i,by omega,h⟩
theorem edgeC_skip (h:¬(nth c i).op=17):EdgeC c (i+1) e↔EdgeC c i e:=by
 rw [edgeC_succ]
 exact ⟨fun h2=>h2.elim id fun h3=>absurd h3.1 h, .inl⟩
theorem mem_listB {x:Int} :x∈listB s↔∃k:Nat,k<s.length∧x=(k:Int)∧nth s k=true:=by
 unfold listB
 rw [List.mem_map]
 constructor
 ·rintro ⟨k,hk,rfl⟩
  obtain ⟨h1,h2⟩:=List.mem_filter.1 hk
  exact ⟨k,List.mem_range.1 h1,rfl,h2⟩
 ·rintro ⟨k,h1,rfl,h2⟩
  exact ⟨k,List.mem_filter.2 ⟨List.mem_range.2 h1,h2⟩,rfl⟩
theorem listB_len (s:List Bool):(listB s).length≤s.length:=listTo_len s s.length
theorem edge_row (h4:s.length=4)(hs:∀k,k<4→(nth s k=true↔HeldI c k i))(hop:(nth c i).op=17)(hq:¬q<(listB s).length)(hql:q≤(listB s).length):
  ((EdgesT code t e∨EdgeC c i e)∨∃j,j<q∧e=⟨nth (listB s) j,(nth c i).a⟩)↔EdgesT code t e∨EdgeC c (i+1) e:=by
 rw [edgeC_succ,or_assoc]
 constructor
 ·rintro (h|h|⟨j,hj,rfl⟩)
  ·exact .inl h
  ·exact .inr (.inl h)
  ·obtain ⟨k,h1,h2,h3⟩:=mem_listB.1 (nth_mem (listB s) j (by omega))
   exact .inr (.inr ⟨hop,rfl,k,by omega,h2,(hs k (by omega)).1 h3⟩)
 ·rintro (h|h|⟨_,h2,k,h3,h4',h5⟩)
  ·exact .inl h
  ·exact .inr (.inl h)
  ·have hm:(k:Int)∈listB s:=mem_listB.2 ⟨k,by omega,rfl,(hs k h3).2 h5⟩
   obtain ⟨j,hj,e1⟩:=List.getElem_of_mem hm
   refine .inr (.inr ⟨j,by omega, ?_⟩)
   obtain ⟨ea,eb⟩:=e
   simp only at h2 h4'
   rw [nth_lt _ _ hj,e1,h2,h4']
theorem snoc_row {el:List P2}{A:P2→Prop}{f:Nat→P2}{q:Nat}(h:∀e,e∈el↔A e∨∃j,j<q∧e=f j):∀e,e∈el++ [f q]↔A e∨∃j,j<q+1∧e=f j:=by
 intro e
 rw [List.mem_append,List.mem_singleton,h e]
 constructor
 ·rintro ((h|⟨j,h1,h2⟩)|h)
  ·exact .inl h
  ·exact .inr ⟨j,by omega,h2⟩
  ·exact .inr ⟨q,by omega,h⟩
 ·rintro (h|⟨j,h1,h2⟩)
  ·exact .inl (.inl h)
  ·rcases Nat.lt_or_ge j q with h3|h3
   ·exact .inl (.inr ⟨j,h3,h2⟩)
   ·obtain rfl:j=q:=by omega
    exact .inr h2
theorem or_none {A:P2→Prop}{f:Nat→P2}{el:List P2}(h:∀e,e∈el↔A e):∀e,e∈el↔A e∨∃j,j<0∧e=f j:=fun e=>by
 rw [h e]
 exact ⟨.inl,fun h2=>h2.elim id fun ⟨_,h3,_⟩=>absurd h3 (Nat.not_lt_zero _)⟩
end
theorem lockC_of {code:Ls (Ls Ins)}{words:Ls Int}{locks regs:Int}{t:Nat}(h:OkPg (pgOf code words locks regs))(ht:t<code.l.length):LockC (nth code.l t).l:=fun i hi e=>by
 have h1:=lock_a (insO_of h ht hi) e
 have h2:=h.locks
 have h3:(pgOf code words locks regs).locks=locks:=rfl
 rw [h3] at h1 h2
 omega
end Go.Proofs.Ytmbfcgpneflbmaa
