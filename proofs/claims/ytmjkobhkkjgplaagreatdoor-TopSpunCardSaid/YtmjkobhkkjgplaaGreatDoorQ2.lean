/- Part 2 of the texts. -/
import Derived.Test.YtmjkobhkkjgplaaGreatDoorQ1
import Derived.Laws.RangeString
import Derived.Laws.IdiomStrings
import Derived.Laws.Bits64b
import Derived.Maps.RangeRun
import Derived.Laws.Externs
namespace Go.Proofs.YtmjkobhkkjgplaaGreatDoor
open Go.RowKit
set_option linter.unusedSimpArgs false
set_option linter.unusedVariables false
theorem lens9 :(∀ {α:Type} (l m:List α),(l++m).length=l.length+m.length)∧(∀ {α:Type} (a:α) (l:List α),(a::l).length=l.length+1)∧(∀ {α:Type},([]:List α).length=0)∧(∀ {α:Type} (l:List α) (i:Nat) (a:α),(l.set i a).length=l.length)∧(∀ {α:Type} (n:Nat) (a:α),(List.replicate n a).length=n)∧(∀ {α β:Type} (f:α→β) (l:List α),(l.map f).length=l.length)∧(∀n:Nat,(List.range n).length=n):=
 ⟨fun l m=>List.length_append,fun a l=>List.length_cons,List.length_nil,fun l i a=>List.length_set,fun n a=>List.length_replicate,fun f l=>List.length_map f,fun n=>List.length_range⟩
theorem om9 {p:Prop}(h:p:=by first|omega|(simp only [lens9];omega)):p:=h
inductive Runs (P:Program)(ops:Array Oper)(N:Nat)(K:Nat→Prop)(W:World)(L:List Asn):List Oper→List (Nat×Value)→List Oper→List (Nat×Value)→Prop
 |nl {l:List Oper} {F:List (Nat×Value)} :Runs P ops N K W L l F l F
 |cn {o:Oper} {l l' :List Oper} {F F' :List (Nat×Value)} {d:Nat} {v:Value} (hr:Rn P o N K W F L v) (hw:∀a,Fr N a F→Region.wanted o (yielded ops a.tmps)=true) (hd:o.dst=some d) (hN:Nat.blt d N=true) (k:Runs P ops N K W L l ((d,v)::F) l' F'):Runs P ops N K W L (o::l) F l' F'
 |sk {o:Oper} {l l' :List Oper} {F F' :List (Nat×Value)} {d:Nat} (hw:∀a,Fr N a F→Region.wanted o (yielded ops a.tmps)=false) (hd:o.dst=some d) (hN:Nat.blt d N=true) (k:Runs P ops N K W L l ((d,undef)::F) l' F'):Runs P ops N K W L (o::l) F l' F'
section
variable {P:Program}{N:Nat}{K:Nat→Prop}{W w:World}{a:Act}{F F' F2:List (Nat×Value)}{L L' :List Asn}{o:Oper}{ops:Array Oper}{l l' l2 rest:List Oper}{Q:Exit→Act→World→Prop}{c c' :Code}{R:Act→World→Prop}
theorem Runs.go (r:Runs P ops N K W L l F l' F'):∀ {a:Act},St N K W a w F L→(∀a,St N K W a w F' L→wpList P ops Q l' a w)→wpList P ops Q l a w:=by
 induction r with
 |nl=>exact fun h k=>k _ h
 |cn hr hw hd hN _ ih=>exact fun h k=>wl_val h hr (hw _ h.fr) hd hN fun a h=>ih h k
 |sk hw hd hN _ ih=>exact fun h k=>wl_skip h (hw _ h.fr) hd hN fun a h=>ih h k
theorem Runs.goQ {Z:Act→Prop}(r:Runs P ops N K W L l F l' F'):∀ {a:Act},Fr N a F→(∀a,Fr N a F' →wpQuiet P ops (fun w=>Sh K W w L) Z l' a)→wpQuiet P ops (fun w=>Sh K W w L) Z l a:=by
 induction r with
 |nl=>exact fun h k=>k _ h
 |cn hr hw hd hN _ ih=>exact fun h k=>wq_val h hr (hw _ h) hd hN fun a h=>ih h k
 |sk hw hd hN _ ih=>exact fun h k=>wq_skip h (hw _ h) hd hN fun a h=>ih h k
theorem gG (h:St N K W a w F L)(k:∀a w,St N K W a w F L→R a w):R a w:=k a w h
theorem gRn (r:Runs P ops N K W L l F l' F')(k:∀a w,St N K W a w F' L→wpList P ops Q l' a w):∀a w,St N K W a w F L→wpList P ops Q l a w:=fun _ w h=>r.go h fun a h=>k a w h
theorem sG {id:Nat}(r:Runs P l.toArray N K W L l F [] F')(k:∀a w,St N K W a w F' L→c.wp P Q a w):∀a w,St N K W a w F L→(Code.seq (.region id l.toArray false) c).wp P Q a w:=
 fun _ w h=>wp_seq_k fun _ hK=>wp_region_lit (r.go h fun a h=>wpList_nil (hK _ _ (k a w h)))
theorem sK {id:Nat}(k:∀R:Act→World→Prop,(∀a w,c.wp P Q a w→R a w)→∀a w,St N K W a w F L→wpList P l.toArray (Exit.then R Q) l a w):∀a w,St N K W a w F L→(Code.seq (.region id l.toArray false) c).wp P Q a w:=
 fun _ w h=>wp_seq_k fun R hK=>wp_region_lit (k R hK _ w h)
theorem nK {Q0:Exit→Act→World→Prop}(hk:∀a w,c.wp P Q a w→Q0 .normal a w)(k:∀a w,St N K W a w F L→c.wp P Q a w):∀a w,St N K W a w F L→wpList P ops Q0 [] a w:=fun _ w h=>wpList_nil (hk _ _ (k _ w h))
theorem hK {X:Act→World→Prop}(hk:∀a w,c.wp P Q a w→X a w)(k:∀a w,St N K W a w F L→c.wp P Q a w):∀a w,St N K W a w F L→X a w:=fun _ w h=>hk _ _ (k _ w h)
theorem gK (k:∀R:Act→World→Prop,(∀a w,c'.wp P Q a w→R a w)→∀a w,St N K W a w F L→c.wp P (Exit.then R Q) a w):∀a w,St N K W a w F L→(Code.seq c c').wp P Q a w:=
 fun _ w h=>wp_seq_k fun R hK=>k R hK _ w h
theorem gL {id:Nat}(k:∀a w,St N K W a w F L→wpList P l.toArray Q l a w):∀a w,St N K W a w F L→(Code.region id l.toArray false).wp P Q a w:=fun _ w h=>wp_region_lit (k _ w h)
theorem nN (k:∀a w,St N K W a w F L→Q .normal a w):∀a w,St N K W a w F L→wpList P ops Q [] a w:=fun _ w h=>wpList_nil (k _ w h)
theorem gCb {x:Operand}{b:Bool}(hc:ev F x=some (.bool b))(ht:b=true→∀a w,St N K W a w F L→c.wp P Q a w)(hf:b=false→∀a w,St N K W a w F L→c'.wp P Q a w):∀a w,St N K W a w F L→(Code.cond x c c').wp P Q a w:=
 fun _ w h=>x_cond h hc (fun hb=>ht hb _ w h) (fun hb=>hf hb _ w h)
theorem gcd {x:Operand}{p:Prop}[Decidable p](hc:ev F x=some (.bool (decide p)))(ht:decide p=true→p→∀a w,St N K W a w F L→c.wp P Q a w)(hf:decide p=false→¬p→∀a w,St N K W a w F L→c'.wp P Q a w):∀a w,St N K W a w F L→(Code.cond x c c').wp P Q a w:=
 gCb hc (fun hb=>ht hb (of_decide_eq_true hb)) fun hb=>hf hb (of_decide_eq_false hb)
theorem dsp (p:Prop)[Decidable p]:(decide p=true∧p)∨(decide p=false∧¬p):=by
 by_cases h:p
 ·exact .inl ⟨decide_eq_true h,h⟩
 ·exact .inr ⟨decide_eq_false h,h⟩
theorem gcT {x:Operand}{b:Bool}(hc:ev F x=some (.bool b))(hb:b=true)(k:∀a w,St N K W a w F L→c.wp P Q a w):∀a w,St N K W a w F L→(Code.cond x c c').wp P Q a w:=fun _ w h=>x_condT h hc hb (k _ w h)
theorem gcF {x:Operand}{b:Bool}(hc:ev F x=some (.bool b))(hb:b=false)(k:∀a w,St N K W a w F L→c'.wp P Q a w):∀a w,St N K W a w F L→(Code.cond x c c').wp P Q a w:=fun _ w h=>x_condF h hc hb (k _ w h)
theorem gB {id:Nat}(k:∀a w,St N K W a w F L→c.wp P (Exit.inBlock id Q) a w):∀a w,St N K W a w F L→(Code.block id c).wp P Q a w:=fun _ w h=>wp_block (k _ w h)
theorem gS (k:∀a w,St N K W a w F L→Q .normal a w):∀a w,St N K W a w F L→Code.skip.wp P Q a w:=fun _ w h=>wp_skip (k _ w h)
theorem gX {id:Nat}(k:∀a w,St N K W a w F L→Q (.exit id) a w):∀a w,St N K W a w F L→(Code.exit id).wp P Q a w:=fun _ w h=>wp_exit (k _ w h)
theorem gR (k:∀a w,St N K W a w F L→Q .ret a w):∀a w,St N K W a w F L→Code.ret.wp P Q a w:=fun _ w h=>wp_ret (k _ w h)
def argF :List Value→Option (List (Nat×Value))
 | []=>some []
 | [a]=>some [(0,a)]
 | [a,b]=>some [(0,a),(1,b)]
 | [a,b,c]=>some [(0,a),(1,b),(2,c)]
 | [a,b,c,d]=>some [(0,a),(1,b),(2,c),(3,d)]
 | [a,b,c,d,e]=>some [(0,a),(1,b),(2,c),(3,d),(4,e)]
 | [a,b,c,d,e,f]=>some [(0,a),(1,b),(2,c),(3,d),(4,e),(5,f)]
 | [a,b,c,d,e,f,g]=>some [(0,a),(1,b),(2,c),(3,d),(4,e),(5,f),(6,g)]
 | [a,b,c,d,e,f,g,h]=>some [(0,a),(1,b),(2,c),(3,d),(4,e),(5,f),(6,g),(7,h)]
 | [a,b,c,d,e,f,g,h,i]=>some [(0,a),(1,b),(2,c),(3,d),(4,e),(5,f),(6,g),(7,h),(8,i)]
 | [a,b,c,d,e,f,g,h,i,j]=>some [(0,a),(1,b),(2,c),(3,d),(4,e),(5,f),(6,g),(7,h),(8,i),(9,j)]
 |_=>none
theorem argF_eq {vs:List Value}{F:List (Nat×Value)}(h:argF vs=some F):((vs.zipIdx 0).map fun x=>(x.2,x.1))=F:=by
 unfold argF at h
 split at h<;>cases h<;>rfl
theorem gen {f:FuncId}{fn:Func}{vs:List Value}{X:Value→World→Prop}(hf:P.funcs[f]? =some fn)(hN:fn.ntmps=N)(hS:Sh K W W L)(e:(fn.body,argF vs,Nat.ble vs.length N)=(some c,some F,true))(k:∀a,St N K W a W F L→c.wp P (bodyPost P fn fun e w' =>∃v,e= .returned v∧X v w') a W):Rets P f vs W X:=by
 simp only [Prod.mk.injEq] at e
 exact x_enter hf e.1 hN (Nat.le_of_ble_eq_true e.2.2) fun a h=>k a ⟨by rw [argF_eq e.2.1] at h;exact h,hS⟩
theorem uT {X:Act→World→Prop}(k:∀a w,St N K W a w F L→Q .ret a w):∀a w,St N K W a w F L→Exit.then X Q .ret a w:=k
theorem uB {id:Nat}(k:∀a w,St N K W a w F L→Q .ret a w):∀a w,St N K W a w F L→Exit.inBlock id Q .ret a w:=k
theorem gNl {α:Type}[Enc α]{s:Ls α}(hat:∀w,Sh K W w L→s.At w)(k:s.l.length≤140737488355328→∀a w,St N K W a w F L→R a w):∀a w,St N K W a w F L→R a w:=fun a w h=>k (hat w h.sh).len a w h
theorem gE {L2:List Asn}(hx:∀a w,St N K W a w F L→Ex P o a w (fun a' w' =>St N K W a' w' F2 L2))(hg:o.guard=none)(k:∀a w,St N K W a w F2 L2→wpList P ops Q rest a w):∀a w,St N K W a w F L→wpList P ops Q (o::rest) a w:=
 fun _ w h=>wl_ex (hx _ w h) (wanted_none hg _) fun a w h=>k a w h
theorem gE1 {α:Sort 1}{F2:α→List (Nat×Value)}{L2:α→List Asn}(hx:∀a w,St N K W a w F L→Ex P o a w (fun a' w' =>∃b:α,St N K W a' w' (F2 b) (L2 b)))(hg:o.guard=none)(k:∀b a w,St N K W a w (F2 b) (L2 b)→wpList P ops Q rest a w):∀a w,St N K W a w F L→wpList P ops Q (o::rest) a w:=
 fun _ w h=>wl_ex (hx _ w h) (wanted_none hg _) fun a w ⟨b,h⟩=>k b a w h
def pickF (F:List (Nat×Value)):List Nat→Option (List (Nat×Value))
 | []=>some []
 |t::r=>match lk F t with
  |some v=>match pickF F r with
   |some F' =>some ((t,v)::F')
   |none=>none
  |none=>none
theorem pickF_ok :∀ {ts:List Nat} {F' :List (Nat×Value)},pickF F ts=some F' →frOK F F'
 | [],F',e=>by cases e;trivial
 |t::r,F',e=>by
  unfold pickF at e
  split at e
  ·rename_i v hv
   split at e
   ·rename_i F2 hF
    cases e
    exact ⟨hv,pickF_ok hF⟩
   ·cases e
  ·cases e
theorem gF (ts:List Nat)(e:pickF F ts=some F')(k:∀a w,St N K W a w F' L→R a w):∀a w,St N K W a w F L→R a w:=fun a w h=>k a w (h.nf (pickF_ok e))
theorem gO (is:List Nat)(e2:selB L is=some L')(k:∀a w,St N K W a w F L' →R a w):∀a w,St N K W a w F L→R a w:=fun a w h=>k a w (h.sel is e2)
theorem qQ {Y:Act→Prop}(h:Fr N a F)(k:∀a,Fr N a F→Y a):Y a:=k a h
theorem qRn {Z:Act→Prop}(r:Runs P ops N K W L l F l' F')(k:∀a,Fr N a F' →wpQuiet P ops (fun w=>Sh K W w L) Z l' a):∀a,Fr N a F→wpQuiet P ops (fun w=>Sh K W w L) Z l a:=fun _ h=>r.goQ h k
theorem qN {Z:Act→Prop}(z:∀a,(∀w,Sh K W w L→R a w)→Z a)(k:∀a w,St N K W a w F L→R a w):∀a,Fr N a F→wpQuiet P ops (fun w=>Sh K W w L) Z [] a:=fun a h=>wpQuiet_nil (z a fun w hw=>k a w ⟨h,hw⟩)
theorem rQ {id:Nat}(r:Runs P l.toArray N K W L l F [] F')(k:∀a w,St N K W a w F' L→Q .normal a w)(hm:P.follows .mixedOrders=true:=by kernel_rfl)(hB:Region.lexB .any l.toArray=true:=by kernel_rfl):∀a w,St N K W a w F L→(Code.region id l.toArray true).wp P Q a w:=
 fun _ w h=>x_quiet hm hB h fun Z hZ=>r.goQ h.fr fun a hf=>wpQuiet_nil (hZ a fun w hw=>k a w ⟨hf,hw⟩)
theorem rT {id:Nat}(m:Nat)(ps:List Nat)(r:Runs P l.toArray N K W L (opsAt l.toArray ps++opsAt l.toArray (quietIs m ps)) F [] F')
  (k:∀a w,St N K W a w F' L→wpList P l.toArray (fun e a w=>match e with| .normal=>Q .normal a w|_=>False) (l.drop m) a w) (hm:P.follows .mixedOrders=true:=by kernel_rfl) (hB:tailB l m ps=true:=by kernel_rfl):∀a w,St N K W a w F L→(Code.region id l.toArray true).wp P Q a w:=
 fun _ w h=>x_tail m ps hm hB h fun Z hZ=>r.goQ h.fr fun a hf=>wpQuiet_nil (hZ a fun w hw=>k a w ⟨hf,hw⟩)
section
variable {d g k q r j n by_ sz i2:Nat}{T E e:TypeId}{x y:Operand}{v:Value}{z cs vs:List Value}
theorem wn (hg:o.guard=none):∀a,Fr N a F→Region.wanted o (yielded ops a.tmps)=true:=fun _ _=>wanted_none hg _
theorem oV (hr:Rn P o N K W F L v)(e:(o.dst,o.guard,Nat.blt d N)=(some d,none,true))(k:Runs P ops N K W L l ((d,v)::F) l' F'):Runs P ops N K W L (o::l) F l' F' :=by
 simp only [Prod.mk.injEq] at e
 exact .cn hr (wn e.2.1) e.1 e.2.2 k
theorem oG {b want:Bool}{t:Nat}{oj:Oper}(hb:b=want)(hr:Rn P o N K W F L v)(e:(o.dst,o.guard,ops[j]?,oj.dst,lk F t,Nat.blt d N)=(some d,some (j,want),some oj,some t,some (.bool b),true))(k:Runs P ops N K W L l ((d,v)::F) l' F'):Runs P ops N K W L (o::l) F l' F' :=by
 simp only [Prod.mk.injEq] at e
 exact .cn hr (fun a h=>wanted_yes h e.2.1 e.2.2.1 e.2.2.2.1 e.2.2.2.2.1 hb) e.1 e.2.2.2.2.2 k
theorem oK {b want:Bool}{t:Nat}{oj:Oper}(hb:b= !want)(e:(o.dst,o.guard,ops[j]?,oj.dst,lk F t,Nat.blt d N)=(some d,some (j,want),some oj,some t,some (.bool b),true))(k:Runs P ops N K W L l ((d,undef)::F) l' F'):Runs P ops N K W L (o::l) F l' F' :=by
 simp only [Prod.mk.injEq] at e
 exact .sk (fun a h=>wanted_no h e.2.1 e.2.2.1 e.2.2.2.1 e.2.2.2.2.1 hb) e.1 e.2.2.2.2.2 k
theorem oK2 {want:Bool}{t:Nat}{oj:Oper}(e:(o.dst,o.guard,ops[j]?,oj.dst,lk F t,Nat.blt d N)=(some d,some (j,want),some oj,some t,some undef,true))(k:Runs P ops N K W L l ((d,undef)::F) l' F'):Runs P ops N K W L (o::l) F l' F' :=by
 simp only [Prod.mk.injEq] at e
 exact .sk (fun a h=>wanted_no2 h e.2.1 e.2.2.1 e.2.2.2.1 e.2.2.2.2.1) e.1 e.2.2.2.2.2 k
def skF (N j t:Nat)(want:Bool):Nat→List Oper→List (Nat×Value)→Option (List Oper×List (Nat×Value))
 |0,l,F=>some (l,F)
 |n+1,o::l,F=>match o.guard with
  |some (j',w')=>bif Nat.beq j' j&&(w' ==want) then match o.dst with
   |some d=>bif Nat.blt d N&& !(Nat.beq d t) then skF N j t want n l ((d,undef)::F) else none
   |none=>none
   else none
  |none=>none
 |_+1, [],_=>none
theorem oKs (n:Nat){b want:Bool}{j t:Nat}{oj:Oper}(hb:b= !want)(e:(o.guard,ops[j]?,oj.dst,lk F t)=(some (j,want),some oj,some t,some (.bool b)))(hs:skF N j t want n (o::l) F=some (l2,F2))(k:Runs P ops N K W L l2 F2 l' F'):Runs P ops N K W L (o::l) F l' F' :=by
 simp only [Prod.mk.injEq] at e
 obtain ⟨_,e1,e2,e3⟩:=e
 generalize o::l=m at hs⊢
 induction n generalizing m F with
 |zero=>cases hs;exact k
 |succ n ih=>
  cases m with
  |nil=>cases hs
  |cons o m=>
   unfold skF at hs
   split at hs
   ·rename_i j' w' hg
    cases hc:Nat.beq j' j&&(w' ==want) with
    |false=>rw [hc] at hs;cases hs
    |true=>
     rw [hc,cond_true] at hs
     obtain ⟨h1,h2⟩:=Bool.and_eq_true_iff.1 hc
     cases Nat.eq_of_beq_eq_true h1
     obtain rfl:w' =want:=by simpa using h2
     split at hs
     ·rename_i d hd
      cases hc2:Nat.blt d N&& !(Nat.beq d t) with
      |false=>rw [hc2] at hs;cases hs
      |true=>
       rw [hc2,cond_true] at hs
       obtain ⟨h3,h4⟩:=Bool.and_eq_true_iff.1 hc2
       have h5:d≠t:=fun e=>by subst e;simp at h4
       exact .sk (fun a h=>wanted_no h hg e1 e2 e3 hb) hd h3 (ih (by rw [lk_cons,if_neg h5];exact e3) m hs)
     ·cases hs
   ·cases hs
theorem oM (n:Nat)(e:mvN N n l F=some (l2,F2))(k:Runs P ops N K W L l2 F2 l' F'):Runs P ops N K W L l F l' F' :=by
 induction n generalizing l F with
 |zero=>cases e;exact k
 |succ n ih=>
  cases l with
  |nil=>cases e
  |cons o l=>
   unfold mvN at e
   split at e
   ·rename_i d x hg hd ho
    split at e
    ·rename_i v hv
     cases hb:Nat.blt d N with
     |false=>rw [hb] at e;cases e
     |true=>rw [hb] at e;exact .cn (r_move ho hv) (wn hg) hd hb (ih e)
    ·cases e
   ·rename_i d x hg hd ho
    split at e
    ·rename_i v hv
     cases hb:Nat.blt d N with
     |false=>rw [hb] at e;cases e
     |true=>rw [hb] at e;exact .cn (r_assign ho hv) (wn hg) hd hb (ih e)
    ·cases e
   ·cases e
theorem onl {p:Addr}(e:(o.dst,o.op,ev F x,okg o d N)=(some d, .nilCheck x,some (.pointer (some p)),true))(k:Runs P ops N K W L l ((d, .pointer (some p))::F) l' F'):Runs P ops N K W L (o::l) F l' F' :=by
 simp only [Prod.mk.injEq,okg,Bool.and_eq_true,Option.isNone_iff_eq_none] at e
 exact .cn (r_nil e.2.1 e.2.2.1) (wn e.2.2.2.1) e.1 e.2.2.2.2 k
theorem ofB {f:Nat}(hT:flI P T f=some k)(e:(o.dst,o.op,ev F x,okg o d N)=(some d, .fieldAddr T x f,some (.pointer (some ⟨g,0,none⟩)),true))(kk:Runs P ops N K W L l ((d, .pointer (some ⟨g,k,none⟩))::F) l' F'):Runs P ops N K W L (o::l) F l' F' :=by
 simp only [Prod.mk.injEq,okg,Bool.and_eq_true,Option.isNone_iff_eq_none] at e
 exact .cn (r_fieldB hT e.2.1 e.2.2.1 (Nat.zero_add k)) (wn e.2.2.2.1) e.1 e.2.2.2.2 kk
theorem onf {o2:Oper}{f d2:Nat}{p:Addr}{y:Operand}(hT:flI P T f=some k)(e:(o.dst,o.op,ev F x,okg o d N,o2.dst,o2.op,ev ((d, .pointer (some p))::F) y,okg o2 d2 N)=(some d, .nilCheck x,some (.pointer (some p)),true,some d2, .fieldAddr T y f,some (.pointer (some ⟨g,0,none⟩)),true))
  (kk:Runs P ops N K W L l ((d2, .pointer (some ⟨g,k,none⟩))::(d, .pointer (some p))::F) l' F'):Runs P ops N K W L (o::o2::l) F l' F' :=by
 simp only [Prod.mk.injEq] at e
 obtain ⟨e1,e2,e3,e4,e5,e6,e7,e8⟩:=e
 exact onl (by rw [e1,e2,e3,e4]) (ofB hT (by rw [e5,e6,e7,e8]) kk)
theorem olB (i:Nat)(hT:tyI P T=some (false,n,by_,z))(hi:L[i]? =some (.blk g E cs))(e:(o.dst,o.op,ev F x,okg o d N,cs[q]?)=(some d, .load T x,some (.pointer (some ⟨g,q,none⟩)),true,some v))(k:Runs P ops N K W L l ((d,v)::F) l' F'):Runs P ops N K W L (o::l) F l' F' :=by
 simp only [Prod.mk.injEq,okg,Bool.and_eq_true,Option.isNone_iff_eq_none] at e
 exact .cn (r_ldb hT e.2.1 e.2.2.1 hi e.2.2.2.2) (wn e.2.2.2.1.1) e.1 e.2.2.2.1.2 k
theorem olR (i:Nat)(hT:tyI P T=some (false,n,by_,z))(hi:L[i]? =some (.rblk g E cs))(e:(o.dst,o.op,ev F x,okg o d N,cs[q]?)=(some d, .load T x,some (.pointer (some ⟨g,q,none⟩)),true,some v))(k:Runs P ops N K W L l ((d,v)::F) l' F'):Runs P ops N K W L (o::l) F l' F' :=by
 simp only [Prod.mk.injEq,okg,Bool.and_eq_true,Option.isNone_iff_eq_none] at e
 exact .cn (r_ldbR hT e.2.1 e.2.2.1 (fun w h=>h.rblk i hi) e.2.2.2.2) (wn e.2.2.2.1.1) e.1 e.2.2.2.1.2 k
theorem onfl (i:Nat){o2 o3:Oper}{f d2 d3:Nat}{T' :TypeId}{p:Addr}{y u:Operand}(hT:flI P T f=some k)(hT' :tyI P T' =some (false,n,by_,z))(hi:L[i]? =some (.blk g E cs))
  (e:(o.dst,o.op,ev F x,okg o d N,o2.dst,o2.op,ev ((d, .pointer (some p))::F) y,okg o2 d2 N,o3.dst,o3.op,ev ((d2, .pointer (some ⟨g,k,none⟩))::(d, .pointer (some p))::F) u,okg o3 d3 N,cs[k]?)=(some d, .nilCheck x,some (.pointer (some p)),true,some d2, .fieldAddr T y f,some (.pointer (some ⟨g,0,none⟩)),true,some d3, .load T' u,some (.pointer (some ⟨g,k,none⟩)),true,some v))
  (kk:Runs P ops N K W L l ((d3,v)::(d2, .pointer (some ⟨g,k,none⟩))::(d, .pointer (some p))::F) l' F'):Runs P ops N K W L (o::o2::o3::l) F l' F' :=by
 simp only [Prod.mk.injEq] at e
 obtain ⟨e1,e2,e3,e4,e5,e6,e7,e8,e9,f1,f2,f3,f4⟩:=e
 exact onl (by rw [e1,e2,e3,e4]) (ofB hT (by rw [e5,e6,e7,e8]) (olB i hT' hi (by rw [e9,f1,f2,f3,f4]) kk))
def takeO :List Value→Nat→Nat→Option (List Value)
 |_,_,0=>some []
 | [],_,_+1=>none
 |_::r,q+1,n+1=>takeO r q (n+1)
 |v::r,0,n+1=>match takeO r 0 n with
  |some l=>some (v::l)
  |none=>none
theorem takeO_eq :∀ {cs:List Value} {q n:Nat} {vs:List Value},takeO cs q n=some vs→(cs.drop q).take n=vs∧vs.length=n
 |cs,q,0,vs,h=>by unfold takeO at h;cases h;simp
 | [],q,n+1,vs,h=>by cases q<;>cases h
 |_::r,q+1,n+1,vs,h=>by
  unfold takeO at h
  simpa using takeO_eq h
 |v::r,0,n+1,vs,h=>by
  unfold takeO at h
  split at h
  ·next l hl=>
   cases h
   obtain ⟨h1,h2⟩:=takeO_eq hl
   refine ⟨?_,by simp [h2]⟩
   rw [List.drop_zero] at h1⊢
   rw [List.take_succ_cons,h1]
  ·cases h
theorem olw (i:Nat)(hT:tyI P T=some (true,n,by_,z))(hi:L[i]? =some (.blk g E cs))(e:(o.dst,o.op,ev F x,okg o d N,takeO cs q n)=(some d, .load T x,some (.pointer (some ⟨g,q,none⟩)),true,some vs))(k:Runs P ops N K W L l ((d, .agg vs.toArray)::F) l' F'):Runs P ops N K W L (o::l) F l' F' :=by
 simp only [Prod.mk.injEq,okg,Bool.and_eq_true,Option.isNone_iff_eq_none] at e
 exact .cn (r_ldbw hT e.2.1 e.2.2.1 hi (takeO_eq e.2.2.2.2).1 (takeO_eq e.2.2.2.2).2) (wn e.2.2.2.1.1) e.1 e.2.2.2.1.2 k
theorem oxt {i:Nat}{vs:Array Value}(e:(o.dst,o.op,ev F x,okg o d N,vs[i]?)=(some d, .extract x i,some (.tuple vs),true,some v))(k:Runs P ops N K W L l ((d,v)::F) l' F'):Runs P ops N K W L (o::l) F l' F' :=by
 simp only [Prod.mk.injEq,okg,Bool.and_eq_true,Option.isNone_iff_eq_none] at e
 exact .cn (r_extract e.2.1 e.2.2.1 e.2.2.2.2) (wn e.2.2.2.1.1) e.1 e.2.2.2.1.2 k
theorem opT {b:Bool}{c x y:Operand}(hb:b=true)(e:(o.dst,o.op,ev F c,ev F x,okg o d N)=(some d, .pick c x y,some (.bool b),some v,true))(k:Runs P ops N K W L l ((d,v)::F) l' F'):Runs P ops N K W L (o::l) F l' F' :=by
 simp only [Prod.mk.injEq,okg,Bool.and_eq_true,Option.isNone_iff_eq_none] at e
 exact .cn (r_pickT e.2.1 e.2.2.1 hb e.2.2.2.1) (wn e.2.2.2.2.1) e.1 e.2.2.2.2.2 k
theorem opF {b:Bool}{c x y:Operand}(hb:b=false)(e:(o.dst,o.op,ev F c,ev F y,okg o d N)=(some d, .pick c x y,some (.bool b),some v,true))(k:Runs P ops N K W L l ((d,v)::F) l' F'):Runs P ops N K W L (o::l) F l' F' :=by
 simp only [Prod.mk.injEq,okg,Bool.and_eq_true,Option.isNone_iff_eq_none] at e
 exact .cn (r_pickF e.2.1 e.2.2.1 hb e.2.2.2.1) (wn e.2.2.2.2.1) e.1 e.2.2.2.2.2 k
theorem ont {b:Bool}(e:(o.dst,o.op,ev F x,okg o d N)=(some d, .unOp .not T x,some (.bool b),true))(k:Runs P ops N K W L l ((d, .bool (!b))::F) l' F'):Runs P ops N K W L (o::l) F l' F' :=by
 simp only [Prod.mk.injEq,okg,Bool.and_eq_true,Option.isNone_iff_eq_none] at e
 exact .cn (r_not e.2.1 e.2.2.1) (wn e.2.2.2.1) e.1 e.2.2.2.2 k
section
variable {α:Type}[Enc α]{s:Ls α}{gb:Bool}
theorem oxN {kd:IntKind}(hT:slI P T=some e)(he:tyI P e=some (gb,n,by_,z))(hat:∀w,Sh K W w L→s.At w)(q:Nat)(hb:q<s.l.length)(e' :(o.dst,o.op,ev F x,ev F y,okg o d N)=(some d, .indexAddr T x y,some s.v,some (.int kd (q:Int)),true))
  (k:Runs P ops N K W L l ((d, .pointer (some (padr s.v n q 0)))::F) l' F'):Runs P ops N K W L (o::l) F l' F' :=by
 simp only [Prod.mk.injEq,okg,Bool.and_eq_true,Option.isNone_iff_eq_none] at e'
 exact .cn (r_ixN hT he e'.2.1 e'.2.2.1 e'.2.2.2.1 hat hb) (wn e'.2.2.2.2.1) e'.1 e'.2.2.2.2.2 k
theorem oxI {kd:IntKind}{q:Int}(hT:slI P T=some e)(he:tyI P e=some (gb,n,by_,z))(hat:∀w,Sh K W w L→s.At w)(hb:0≤q∧q<s.l.length)(e' :(o.dst,o.op,ev F x,ev F y,okg o d N)=(some d, .indexAddr T x y,some s.v,some (.int kd q),true))
  (k:Runs P ops N K W L l ((d, .pointer (some (padr s.v n q.toNat 0)))::F) l' F'):Runs P ops N K W L (o::l) F l' F' :=by
 simp only [Prod.mk.injEq,okg,Bool.and_eq_true,Option.isNone_iff_eq_none] at e'
 exact .cn (r_ixI hT he e'.2.1 e'.2.2.1 e'.2.2.2.1 hat hb) (wn e'.2.2.2.2.1) e'.1 e'.2.2.2.2.2 k
theorem ofE {f i:Nat}(hT:flI P T f=some k)(e:(o.dst,o.op,ev F x,okg o d N)=(some d, .fieldAddr T x f,some (.pointer (some (padr v sz i 0))),true))(kk:Runs P ops N K W L l ((d, .pointer (some (padr v sz i k)))::F) l' F'):Runs P ops N K W L (o::l) F l' F' :=by
 simp only [Prod.mk.injEq,okg,Bool.and_eq_true,Option.isNone_iff_eq_none] at e
 exact .cn (r_fieldE hT e.2.1 e.2.2.1 (Nat.zero_add k)) (wn e.2.2.2.1) e.1 e.2.2.2.2 kk
theorem olE {i:Nat}(v:Value)(hT:tyI P T=some (false,n,by_,z))(hat:∀w,Sh K W w L→s.At w)(hi:i<s.l.length)(e:(o.dst,o.op,ev F x,okg o d N,Enc.sz α,Nat.blt j sz,Enc.cell (nth s.l i) j)=(some d, .load T x,some (.pointer (some (padr s.v sz i j))),true,sz,true,v))(k:Runs P ops N K W L l ((d,v)::F) l' F'):Runs P ops N K W L (o::l) F l' F' :=by
 simp only [Prod.mk.injEq,okg,Bool.and_eq_true,Option.isNone_iff_eq_none] at e
 exact .cn (r_lde hT e.2.1 e.2.2.1 e.2.2.2.2.1 hat hi (by simpa [Nat.blt_eq] using e.2.2.2.2.2.1) e.2.2.2.2.2.2) (wn e.2.2.2.1.1) e.1 e.2.2.2.1.2 k
theorem olI {i:Nat}{kd:IntKind}{u:Int}(hT:tyI P T=some (false,n,by_,z))(hat:∀w,Sh K W w L→s.At w)(hi:i<s.l.length)(e:(o.dst,o.op,ev F x,okg o d N,Enc.sz α,Nat.blt j sz,Enc.cell (nth s.l i) j)=(some d, .load T x,some (.pointer (some (padr s.v sz i j))),true,sz,true, .int kd u))(k:Runs P ops N K W L l ((d, .int kd u)::F) l' F'):Runs P ops N K W L (o::l) F l' F' :=olE (.int kd u) hT hat hi e k
theorem olw2 {i:Nat}(vs:List Value)(hT:tyI P T=some (true,n,by_,z))(hat:∀w,Sh K W w L→s.At w)(hi:i<s.l.length)(e:(o.dst,o.op,ev F x,okg o d N,Enc.sz α,Nat.ble (j+n) sz,(List.range n).map (fun q=>Enc.cell (nth s.l i) (j+q)))=(some d, .load T x,some (.pointer (some (padr s.v sz i j))),true,sz,true,vs))(k:Runs P ops N K W L l ((d, .agg vs.toArray)::F) l' F'):Runs P ops N K W L (o::l) F l' F' :=by
 simp only [Prod.mk.injEq,okg,Bool.and_eq_true,Option.isNone_iff_eq_none] at e
 exact .cn (r_ldew hT e.2.1 e.2.2.1 e.2.2.2.2.1 hat hi (Nat.le_of_ble_eq_true e.2.2.2.2.2.1) e.2.2.2.2.2.2) (wn e.2.2.2.1.1) e.1 e.2.2.2.1.2 k
theorem oln {n:Nat}(hT:slI P T=some e)(hat:∀w,Sh K W w L→s.At w)(e' :(o.dst,o.op,ev F x,okg o d N,s.l.length)=(some d, .call ⟨.builtin .len, #[x], #[T]⟩,some s.v,true,n))(k:Runs P ops N K W L l ((d, .int .i64 (n:Int))::F) l' F'):Runs P ops N K W L (o::l) F l' F' :=by
 simp only [Prod.mk.injEq,okg,Bool.and_eq_true,Option.isNone_iff_eq_none] at e'
 exact .cn (r_len hT e'.2.1 e'.2.2.1 hat e'.2.2.2.2) (wn e'.2.2.2.1.1) e'.1 e'.2.2.2.1.2 k
end
section
variable {U:TypeId}{kd:IntKind}
theorem oltN (p q:Nat)(e:(o.dst,o.op,ev F x,ev F y,okg o d N)=(some d, .binOp .lss T x y U,some (.int kd (p:Int)),some (.int kd (q:Int)),true))(k:Runs P ops N K W L l ((d, .bool (decide (p<q)))::F) l' F'):Runs P ops N K W L (o::l) F l' F' :=by
 simp only [Prod.mk.injEq,okg,Bool.and_eq_true,Option.isNone_iff_eq_none] at e
 exact .cn (r_lssN e.2.1 e.2.2.1 e.2.2.2.1) (wn e.2.2.2.2.1) e.1 e.2.2.2.2.2 k
theorem oltI (p q:Int)(e:(o.dst,o.op,ev F x,ev F y,okg o d N)=(some d, .binOp .lss T x y U,some (.int kd p),some (.int kd q),true))(k:Runs P ops N K W L l ((d, .bool (decide (p<q)))::F) l' F'):Runs P ops N K W L (o::l) F l' F' :=by
 simp only [Prod.mk.injEq,okg,Bool.and_eq_true,Option.isNone_iff_eq_none] at e
 exact .cn (r_lssI e.2.1 e.2.2.1 e.2.2.2.1) (wn e.2.2.2.2.1) e.1 e.2.2.2.2.2 k
theorem ogtN (p q:Nat)(e:(o.dst,o.op,ev F x,ev F y,okg o d N)=(some d, .binOp .gtr T x y U,some (.int kd (p:Int)),some (.int kd (q:Int)),true))(k:Runs P ops N K W L l ((d, .bool (decide (q<p)))::F) l' F'):Runs P ops N K W L (o::l) F l' F' :=by
 simp only [Prod.mk.injEq,okg,Bool.and_eq_true,Option.isNone_iff_eq_none] at e
 exact .cn (r_gtrN e.2.1 e.2.2.1 e.2.2.2.1) (wn e.2.2.2.2.1) e.1 e.2.2.2.2.2 k
theorem ogtI (p q:Int)(e:(o.dst,o.op,ev F x,ev F y,okg o d N)=(some d, .binOp .gtr T x y U,some (.int kd p),some (.int kd q),true))(k:Runs P ops N K W L l ((d, .bool (decide (q<p)))::F) l' F'):Runs P ops N K W L (o::l) F l' F' :=by
 simp only [Prod.mk.injEq,okg,Bool.and_eq_true,Option.isNone_iff_eq_none] at e
 exact .cn (r_gtrI e.2.1 e.2.2.1 e.2.2.2.1) (wn e.2.2.2.2.1) e.1 e.2.2.2.2.2 k
theorem ogeN (p q:Nat)(e:(o.dst,o.op,ev F x,ev F y,okg o d N)=(some d, .binOp .geq T x y U,some (.int kd (p:Int)),some (.int kd (q:Int)),true))(k:Runs P ops N K W L l ((d, .bool (decide (q≤p)))::F) l' F'):Runs P ops N K W L (o::l) F l' F' :=by
 simp only [Prod.mk.injEq,okg,Bool.and_eq_true,Option.isNone_iff_eq_none] at e
 exact .cn (r_geqN e.2.1 e.2.2.1 e.2.2.2.1) (wn e.2.2.2.2.1) e.1 e.2.2.2.2.2 k
theorem ogeI (p q:Int)(e:(o.dst,o.op,ev F x,ev F y,okg o d N)=(some d, .binOp .geq T x y U,some (.int kd p),some (.int kd q),true))(k:Runs P ops N K W L l ((d, .bool (decide (q≤p)))::F) l' F'):Runs P ops N K W L (o::l) F l' F' :=by
 simp only [Prod.mk.injEq,okg,Bool.and_eq_true,Option.isNone_iff_eq_none] at e
 exact .cn (r_geqI e.2.1 e.2.2.1 e.2.2.2.1) (wn e.2.2.2.2.1) e.1 e.2.2.2.2.2 k
theorem oeqN (p q:Nat)(e:(o.dst,o.op,ev F x,ev F y,okg o d N)=(some d, .binOp .eql T x y U,some (.int kd (p:Int)),some (.int kd (q:Int)),true))(k:Runs P ops N K W L l ((d, .bool (decide (p=q)))::F) l' F'):Runs P ops N K W L (o::l) F l' F' :=by
 simp only [Prod.mk.injEq,okg,Bool.and_eq_true,Option.isNone_iff_eq_none] at e
 exact .cn (r_eqlN e.2.1 e.2.2.1 e.2.2.2.1) (wn e.2.2.2.2.1) e.1 e.2.2.2.2.2 k
theorem oeqI (p q:Int)(e:(o.dst,o.op,ev F x,ev F y,okg o d N)=(some d, .binOp .eql T x y U,some (.int kd p),some (.int kd q),true))(k:Runs P ops N K W L l ((d, .bool (decide (p=q)))::F) l' F'):Runs P ops N K W L (o::l) F l' F' :=by
 simp only [Prod.mk.injEq,okg,Bool.and_eq_true,Option.isNone_iff_eq_none] at e
 exact .cn (r_eqlI e.2.1 e.2.2.1 e.2.2.2.1) (wn e.2.2.2.2.1) e.1 e.2.2.2.2.2 k
theorem oneN (p q:Nat)(e:(o.dst,o.op,ev F x,ev F y,okg o d N)=(some d, .binOp .neq T x y U,some (.int kd (p:Int)),some (.int kd (q:Int)),true))(k:Runs P ops N K W L l ((d, .bool (decide (p≠q)))::F) l' F'):Runs P ops N K W L (o::l) F l' F' :=by
 simp only [Prod.mk.injEq,okg,Bool.and_eq_true,Option.isNone_iff_eq_none] at e
 exact .cn (r_neqN e.2.1 e.2.2.1 e.2.2.2.1) (wn e.2.2.2.2.1) e.1 e.2.2.2.2.2 k
theorem oneI (p q:Int)(e:(o.dst,o.op,ev F x,ev F y,okg o d N)=(some d, .binOp .neq T x y U,some (.int kd p),some (.int kd q),true))(k:Runs P ops N K W L l ((d, .bool (decide (p≠q)))::F) l' F'):Runs P ops N K W L (o::l) F l' F' :=by
 simp only [Prod.mk.injEq,okg,Bool.and_eq_true,Option.isNone_iff_eq_none] at e
 exact .cn (r_neqI e.2.1 e.2.2.1 e.2.2.2.1) (wn e.2.2.2.2.1) e.1 e.2.2.2.2.2 k
theorem oadN (p q:Nat)(hb:p+q<9223372036854775808)(e:(o.dst,o.op,ev F x,ev F y,okg o d N)=(some d, .binOp .add T x y U,some (.int .i64 (p:Int)),some (.int .i64 (q:Int)),true))(k:Runs P ops N K W L l ((d, .int .i64 ((p+q:Nat):Int))::F) l' F'):Runs P ops N K W L (o::l) F l' F' :=by
 simp only [Prod.mk.injEq,okg,Bool.and_eq_true,Option.isNone_iff_eq_none] at e
 exact .cn (r_addN e.2.1 e.2.2.1 e.2.2.2.1 hb) (wn e.2.2.2.2.1) e.1 e.2.2.2.2.2 k
theorem oadI (p q:Int)(hb: -9223372036854775808≤p+q∧p+q<9223372036854775808)(e:(o.dst,o.op,ev F x,ev F y,okg o d N)=(some d, .binOp .add T x y U,some (.int .i64 p),some (.int .i64 q),true))(k:Runs P ops N K W L l ((d, .int .i64 (p+q))::F) l' F'):Runs P ops N K W L (o::l) F l' F' :=by
 simp only [Prod.mk.injEq,okg,Bool.and_eq_true,Option.isNone_iff_eq_none] at e
 exact .cn (r_addI e.2.1 e.2.2.1 e.2.2.2.1 hb) (wn e.2.2.2.2.1) e.1 e.2.2.2.2.2 k
theorem osbN (p q:Nat)(hb:q≤p∧p<9223372036854775808)(e:(o.dst,o.op,ev F x,ev F y,okg o d N)=(some d, .binOp .sub T x y U,some (.int .i64 (p:Int)),some (.int .i64 (q:Int)),true))(k:Runs P ops N K W L l ((d, .int .i64 ((p-q:Nat):Int))::F) l' F'):Runs P ops N K W L (o::l) F l' F' :=by
 simp only [Prod.mk.injEq,okg,Bool.and_eq_true,Option.isNone_iff_eq_none] at e
 exact .cn (r_subN e.2.1 e.2.2.1 e.2.2.2.1 hb) (wn e.2.2.2.2.1) e.1 e.2.2.2.2.2 k
theorem osbI (p q:Int)(hb: -9223372036854775808≤p-q∧p-q<9223372036854775808)(e:(o.dst,o.op,ev F x,ev F y,okg o d N)=(some d, .binOp .sub T x y U,some (.int .i64 p),some (.int .i64 q),true))(k:Runs P ops N K W L l ((d, .int .i64 (p-q))::F) l' F'):Runs P ops N K W L (o::l) F l' F' :=by
 simp only [Prod.mk.injEq,okg,Bool.and_eq_true,Option.isNone_iff_eq_none] at e
 exact .cn (r_subI e.2.1 e.2.2.1 e.2.2.2.1 hb) (wn e.2.2.2.2.1) e.1 e.2.2.2.2.2 k
end
theorem r_buildS {parts:List (Nat×Operand)}{pv:List (Nat×Value)}{cs:List Value}(ho:o.op= .build T parts.toArray)(hx:evp F parts=some pv)(hb:∀w,Sh K W w L→P.built T pv=some cs.toArray):Rn P o N K W F L (.agg cs.toArray):=fun a w h=>r_build ho hx (hb w h.sh) a w h
def setO :List Value→Nat→Value→Option (List Value)
 | [],_,_=>none
 |_::r,0,v=>some (v::r)
 |u::r,q+1,v=>match setO r q v with
  |some l=>some (u::l)
  |none=>none
theorem setO_eq :∀ {cs:List Value} {q:Nat} {v:Value} {cs' :List Value},setO cs q v=some cs' →q+1≤cs.length∧splice cs q [v]=cs'
 | [],_,_,_,h=>by cases h
 |u::r,0,v,_,h=>by cases h;exact ⟨by simp,by simp [splice]⟩
 |u::r,q+1,v,cs',h=>by
  unfold setO at h
  split at h
  ·next l hl=>
   cases h
   obtain ⟨h1,h2⟩:=setO_eq hl
   refine ⟨by simpa using h1, ?_⟩
   rw [←h2]
   simp [splice,Nat.add_right_comm q 1 1]
  ·cases h
def putO :List Asn→Nat→Asn→Option (List Asn)
 | [],_,_=>none
 |_::r,0,v=>some (v::r)
 |u::r,q+1,v=>match putO r q v with
  |some l=>some (u::l)
  |none=>none
theorem putO_eq :∀ {L:List Asn} {q:Nat} {A:Asn} {L' :List Asn},putO L q A=some L' →L.set q A=L'
 | [],_,_,_,h=>by cases h
 |u::r,0,v,_,h=>by cases h;rfl
 |u::r,q+1,v,cs',h=>by
  unfold putO at h
  split at h
  ·next l hl=>cases h;rw [List.set_cons_succ,putO_eq hl]
  ·cases h
theorem gst (i:Nat){gg:Bool}{cs' :List Value}{L2:List Asn}(hT:tyI P T=some (gg,1,by_,z))(hi:L[i]? =some (.blk g E cs))(e:(o.op,o.dst,o.guard,ev F x,ev F y,setO cs q v,putO L i (.blk g E cs'))=(.store T x y,none,none,some (.pointer (some ⟨g,q,none⟩)),some v,some cs',some L2))(h1:v.oneCell' =true)
  (k:∀a w,St N K W a w F L2→wpList P ops Q rest a w):∀a w,St N K W a w F L→wpList P ops Q (o::rest) a w:=by
 simp only [Prod.mk.injEq] at e
 obtain ⟨e1,e2,e3,e4,e5,e6,e7⟩:=e
 intro a w h
 obtain ⟨h3,h4⟩:=setO_eq e6
 refine wl_ex (x_stb (vs:= [v]) h hT e1 e2 e4 e5 hi (cells_oneL h1) rfl (allOne_cons h1 allOne_nil) h3 h4) (wanted_none e3 _) fun a' w' h' => ?_
 rw [putO_eq e7] at h'
 exact k _ _ h'
theorem gal {gg:Bool}(hT:tyI P T=some (gg,n,by_,z))(e:(o.op,o.dst,o.guard,Nat.blt d N)=(.alloc T,some d,none,true))(k:∀(b:Nat) (a:Act) (w:World),St N K W a w ((d, .pointer (some ⟨b,0,none⟩))::F) (.blk b T z::L)→wpList P ops Q rest a w):∀a w,St N K W a w F L→wpList P ops Q (o::rest) a w:=by
 simp only [Prod.mk.injEq] at e
 intro a w h
 exact wl_ex (x_alloc h hT e.1 e.2.1 e.2.2.2) (wanted_none e.2.2.1 _) fun a w ⟨b,h⟩=>k b a w h
theorem gsr {α:Type}[Enc α]{s:Ls α}(i:Nat){gg:Bool}{cs' :List Value}{L2:List Asn}(hT:tyI P T=some (gg,1,by_,z))(hi:L[i]? =some (.blk g E cs))(hat:∀w,Sh K W w L→s.At w)(e:(o.op,o.dst,o.guard,ev F x,ev F y,setO cs q s.v,putO L i (.blk g E cs'))=(.store T x y,none,none,some (.pointer (some ⟨g,q,none⟩)),some s.v,some cs',some L2))
  (k:∀a w,St N K W a w F L2→wpList P ops Q rest a w):∀a w,St N K W a w F L→wpList P ops Q (o::rest) a w:=fun a w h=>gst i hT hi e (hat w h.sh).one k a w h
def forceL :List Value→Option (List Value)
 | []=>some []
 |v::r=>match forceL r with
  |some l=>some (v::l)
  |none=>none
theorem forceL_eq :∀ {l l' :List Value},forceL l=some l' →l=l'
 | [],_,h=>by cases h;rfl
 |v::r,_,h=>by
  unfold forceL at h
  split at h
  ·next l hl=>cases h;rw [forceL_eq hl]
  ·cases h
theorem gsw (i:Nat){gg:Bool}{cs' :List Value}{L2:List Asn}(hT:tyI P T=some (gg,n,by_,z))(hi:L[i]? =some (.blk g E cs))(e:(o.op,o.dst,o.guard,ev F x,ev F y,Nat.beq vs.length n,Nat.ble (q+n) cs.length,forceL (splice cs q vs),putO L i (.blk g E cs'))=(.store T x y,none,none,some (.pointer (some ⟨g,q,none⟩)),some (.agg vs.toArray),true,true,some cs',some L2))(h1:vs.all (·.oneCell')=true)
  (k:∀a w,St N K W a w F L2→wpList P ops Q rest a w):∀a w,St N K W a w F L→wpList P ops Q (o::rest) a w:=by
 simp only [Prod.mk.injEq] at e
 obtain ⟨e1,e2,e3,e4,e5,e6,e7,e8,e9⟩:=e
 intro a w h
 refine wl_ex (x_stb (vs:=vs) h hT e1 e2 e4 e5 hi (by simp [Value.cells]) (Nat.eq_of_beq_eq_true e6) h1 (Nat.le_of_ble_eq_true e7) (forceL_eq e8)) (wanted_none e3 _) fun a' w' h' => ?_
 rw [putO_eq e9] at h'
 exact k _ _ h'
theorem gbx (e:(o.op,o.dst,o.guard,ev F x,Nat.blt d N)=(.box T x,some d,none,some v,true))(hv:v.cells=cs.toArray)(k:∀(b:Nat) (a:Act) (w:World),St N K W a w ((d, .pointer (some ⟨b,0,none⟩))::F) (.blk b T cs::L)→wpList P ops Q rest a w):∀a w,St N K W a w F L→wpList P ops Q (o::rest) a w:=by
 simp only [Prod.mk.injEq] at e
 intro a w h
 exact wl_ex (x_box h e.1 e.2.2.2.1 hv e.2.1 e.2.2.2.2) (wanted_none e.2.2.1 _) fun a w ⟨b,h⟩=>k b a w h
theorem gte {α:Type}[Enc α][Flat α]{s:Ls α}{i j:Nat}{gg:Bool}{L2:List Asn}(r:Nat)(x' :α)(hT:tyI P T=some (gg,1,by_,z))(hi:i<s.l.length)(e:(o.op,o.dst,o.guard,L[r]?,ev F x,ev F y,Enc.sz α,Nat.blt j sz,putO L r (.own E ⟨s.v,s.l.set i x'⟩))=(.store T x y,none,none,some (.own E s),some (.pointer (some (padr s.v sz i j))),some v,sz,true,some L2))(h1:v.oneCell' =true)
  (k:∀a w,St N K W a w F L2→wpList P ops Q rest a w) (hx:∀q,q<sz→Enc.cell x' q=if q=j then v else Enc.cell (nth s.l i) q:=by intro q hq;rcases q with _|_|_|_|q<;>first|rfl|omega):∀a w,St N K W a w F L→wpList P ops Q (o::rest) a w:=by
 simp only [Prod.mk.injEq] at e
 obtain ⟨e1,e2,e3,e4,e5,e6,e7,e8,e9⟩:=e
 intro a w h
 refine wl_ex (x_ste h hT e1 e2 e5 e7 e4 hi (by simpa [Nat.blt_eq] using e8) e6 (cells_oneL h1) h1 hx (fun w h=>Flat.inner _ _) (fun b hb=>(Flat.on _ _ hb).elim)) (wanted_none e3 _) fun a' w' h' => ?_
 rw [putO_eq e9] at h'
 exact k _ _ h'
theorem gtr {α β:Type}[Enc α][Flat α][Enc β]{s:Ls α}{u:Ls β}{i j:Nat}{gg:Bool}{L2:List Asn}(r:Nat)(x' :α)(hT:tyI P T=some (gg,1,by_,z))(hi:i<s.l.length)(hat:∀w,Sh K W w L→u.At w)(e:(o.op,o.dst,o.guard,L[r]?,ev F x,ev F y,Enc.sz α,Nat.blt j sz,putO L r (.own E ⟨s.v,s.l.set i x'⟩))=(.store T x y,none,none,some (.own E s),some (.pointer (some (padr s.v sz i j))),some u.v,sz,true,some L2))
  (k:∀a w,St N K W a w F L2→wpList P ops Q rest a w) (hx:∀q,q<sz→Enc.cell x' q=if q=j then u.v else Enc.cell (nth s.l i) q:=by intro q hq;rcases q with _|_|_|_|q<;>first|rfl|omega):∀a w,St N K W a w F L→wpList P ops Q (o::rest) a w:=fun a w h=>gte r x' hT hi e (hat w h.sh).one k hx a w h
theorem xCl {f:Nat}{fo:Operand}{xs:List Operand}{tys:Array TypeId}{us vs ws:List Value}{R:Value→World→Prop}(h:St N K W a w F L)(hb:bodyI P f=true)(e:(o.op,o.dst,Nat.blt d N,ev F fo,evs F xs)=(.call ⟨.value fo,xs.toArray,tys⟩,some d,true,some (.func (.func f) us.toArray ws.toArray),some vs))(hc:Rets P f (us++vs++ws) w R):Ex P o a w (fun a' w' =>∃v,R v w' ∧Fr N a' ((d,v)::F)):=by
 simp only [Prod.mk.injEq] at e
 exact x_call h hb e.1 e.2.2.2.1 e.2.2.2.2 e.2.1 e.2.2.1 hc
theorem gP (hx:∀a w,St N K W a w F L→Ex P o a w (fun a' w' =>∃u,(u=v∧Sh0 w w' [])∧Fr N a' ((d,u)::F)))(hg:o.guard=none)(k:∀a w,St N K W a w ((d,v)::F) L→wpList P ops Q rest a w):∀a w,St N K W a w F L→wpList P ops Q (o::rest) a w:=
 fun _ w h=>wl_ex (hx _ w h) (wanted_none hg _) fun a w' ⟨u,⟨hu,hs⟩,hf⟩=>by subst hu;exact k a w' ⟨hf,h.sh.call0 hs⟩
def splO :List Asn→Nat→Option (List Asn×List Asn)
 |l,0=>some ([],l)
 | [],_+1=>none
 |A::r,n+1=>match splO r n with
  |some (p,q)=>some (A::p,q)
  |none=>none
theorem splO_eq :∀ {L:List Asn} {n:Nat} {Lp Lr:List Asn},splO L n=some (Lp,Lr)→L=Lp++Lr
 |l,0,_,_,h=>by unfold splO at h;cases h;rfl
 | [],_+1,_,_,h=>by cases h
 |A::r,n+1,_,_,h=>by
  unfold splO at h
  split at h
  ·next p q hp=>cases h;rw [splO_eq hp];rfl
  ·cases h
def appO :List Asn→List Asn→Option (List Asn)
 | [],M=>some M
 |A::r,M=>match appO r M with
  |some l=>some (A::l)
  |none=>none
theorem appO_eq :∀ {L M L' :List Asn},appO L M=some L' →L++M=L'
 | [],M,_,h=>by unfold appO at h;cases h;rfl
 |A::r,M,_,h=>by
  unfold appO at h
  split at h
  ·next l hl=>cases h;rw [List.cons_append,appO_eq hl]
  ·cases h
theorem pKl {Lp Lr:List Asn}(m:Nat)(h:St N K W a w F L)(eL:splO L m=some (Lp,Lr)):Sh (fun b=>∃A∈Lp,A.fp b) w w Lp:=by
 have:=h.sh
 rw [splO_eq eL] at this
 exact this.passL
theorem gM {Rr:World→Value→World→Prop}{Lp Lr:List Asn}(m:Nat)(eL:splO L m=some (Lp,Lr))(hx:∀a w,St N K W a w F L→Ex P o a w (fun a' w' =>∃v,Rr w v w' ∧Fr N a' ((d,v)::F)))(hg:o.guard=none)
  (k:∀w v w',Rr w v w' →∃L' L2,Sh (fun b=>∃A∈Lp,A.fp b) w w' L' ∧RdIn L' Lp∧appO L' Lr=some L2∧∀a,St N K W a w' ((d,v)::F) L2→wpList P ops Q rest a w'):∀a w,St N K W a w F L→wpList P ops Q (o::rest) a w:=
 fun _ w h=>wl_ex (hx _ w h) (wanted_none hg _) fun a w' ⟨v,hr,hf⟩=>by
  obtain ⟨L',L2,hs,hi,e,k⟩:=k _ _ _ hr
  have h0:=h.sh
  rw [splO_eq eL] at h0
  have:=h0.backI hs
  rw [appO_eq e] at this
  exact k a ⟨hf,this⟩
theorem gBk {Lp Lr L' L2:List Asn}{w w' :World}{X:Act→Prop}{F:List (Nat×Value)}[hi:RdIn L' Lp](hs:Sh (fun b=>∃A∈Lp,A.fp b) w w' L')(e:appO L' Lr=some L2)(k:∀a,St N K W a w' F L2→X a):∃L' L2,Sh (fun b=>∃A∈Lp,A.fp b) w w' L' ∧RdIn L' Lp∧appO L' Lr=some L2∧∀a,St N K W a w' F L2→X a:=⟨_,_,hs,hi,e,k⟩
theorem gC {Rr:World→Value→World→Prop}(hx:∀a w,St N K W a w F L→Ex P o a w (fun a' w' =>∃v,Rr w v w' ∧Fr N a' ((d,v)::F)))(hg:o.guard=none)
  (k:∀w v w',Rr w v w' →∃L' L2,Sh0 w w' L' ∧AllNo L' ∧appO L' L=some L2∧∀a,St N K W a w' ((d,v)::F) L2→wpList P ops Q rest a w'):∀a w,St N K W a w F L→wpList P ops Q (o::rest) a w:=
 fun _ w h=>wl_ex (hx _ w h) (wanted_none hg _) fun a w' ⟨v,hr,hf⟩=>by
  obtain ⟨L',L2,hs,hi,e,k⟩:=k _ _ _ hr
  have:=h.sh.callI hs
  rw [appO_eq e] at this
  exact k a ⟨hf,this⟩
theorem gWk {L' L2 M:List Asn}{w w' :World}{X:Act→Prop}{F:List (Nat×Value)}[hi:AllNo L'](hs:Sh0 w w' L')(e:appO L' M=some L2)(k:∀a,St N K W a w' F L2→X a):∃L' L2,Sh0 w w' L' ∧AllNo L' ∧appO L' M=some L2∧∀a,St N K W a w' F L2→X a:=⟨_,_,hs,hi,e,k⟩
theorem gU {w:World}(k:∀a w,St N K W a w F L→R a w):∀a,St N K W a w F L→R a w:=fun a h=>k a w h
theorem qP {Z:Act→Prop}{f:Nat}{fo:Operand}{xs:List Operand}{tys:Array TypeId}{us vs ws:List Value}(hb:bodyI P f=true)(e:(o.op,o.guard,o.dst,Nat.blt d N,ev F fo,evs F xs)=(.call ⟨.value fo,xs.toArray,tys⟩,none,some d,true,some (.func (.func f) us.toArray ws.toArray),some vs))(hc:∀w,Sh K W w L→Rets P f (us++vs++ws) w (fun v' w' =>v' =v∧Sh0 w w' []))
  (k:∀a,Fr N a ((d,v)::F)→wpQuiet P ops (fun w=>Sh K W w L) Z rest a):∀a,Fr N a F→wpQuiet P ops (fun w=>Sh K W w L) Z (o::rest) a:=by
 simp only [Prod.mk.injEq] at e
 exact fun a h=>wq_call h hb e.1 e.2.2.2.2.1 e.2.2.2.2.2 (wanted_none e.2.1 _) e.2.2.1 e.2.2.2.1 hc k
end
theorem aO {α:Type}[Enc α]{E:TypeId}{s:Ls α}(i:Nat)(hi:L[i]? =some (.own E s)):∀w,Sh K W w L→s.At w:=fun w h=>h.own i hi
theorem aA {α:Type}[Enc α]{s:Ls α}(i:Nat)(hi:L[i]? =some (.at_ s)):∀w,Sh K W w L→s.At w:=fun w h=>h.at i hi
theorem aD {α:Type}[Enc α]{E:TypeId}{s:Ls α}(i:Nat)(hi:L[i]? =some (.deep E s)):∀w,Sh K W w L→s.At w:=fun w h=>h.deep i hi
end
def slotsOf (o:Oper):List Nat:=o.op.operands.toList.filterMap fun x=>match x with
 | .tmp t=>some t
 |_=>none
theorem slotsOf_mem {o:Oper}{t:Nat}(h:Operand.tmp t∈o.op.operands):t∈slotsOf o:=List.mem_filterMap.2 ⟨.tmp t,by simpa using h,rfl⟩
def fill (a:Act):List (Nat×Value)→Act
 | []=>a
 |(t,v)::F=>(fill a F).put (some t) v
section
variable {P:Program}{N:Nat}{K:Nat→Prop}{W w:World}{a:Act}{F F' :List (Nat×Value)}{L:List Asn}{o:Oper}{l os:List Oper}{ops:Array Oper}{Q:Exit→Act→World→Prop}
theorem fill_size :∀F:List (Nat×Value),(fill a F).tmps.size=a.tmps.size
 | []=>rfl
 |(t,v)::F=>by simp [fill,Act.put,fill_size F]
theorem fill_defers :∀F:List (Nat×Value),(fill a F).defers=a.defers
 | []=>rfl
 |(t,v)::F=>by simp [fill,Act.put,fill_defers F]
theorem fill_at :∀ {F:List (Nat×Value)},(∀x∈F,x.1<a.tmps.size)→∀t v,lk F t=some v→(fill a F).tmps[t]? =some v
 | [],_,_,_,h=>by cases h
 |(u,x)::F,hF,t,v,h=>by
  rw [lk_cons] at h
  simp only [fill,Act.put,Array.getElem?_setIfInBounds]
  by_cases e:u=t
  ·subst e
   have:=hF _ List.mem_cons_self
   simp only [if_true] at h
   cases h
   simp [fill_size,this]
  ·rw [if_neg e] at h⊢
   exact fill_at (fun x hx=>hF x (List.mem_cons_of_mem _ hx)) t v h
theorem fill_ne :∀ {F:List (Nat×Value)} {t:Nat},lk F t=none→(fill a F).tmps[t]? =a.tmps[t]?
 | [],_,_=>rfl
 |(u,x)::F,t,h=>by
  rw [lk_cons] at h
  by_cases e:u=t
  ·simp [e] at h
  ·rw [if_neg e] at h
   simp only [fill,Act.put,Array.getElem?_setIfInBounds,if_neg e]
   exact fill_ne h
theorem fill_fr (hs:a.tmps.size=N)(hd:a.defers= [])(hF:∀x∈F,x.1<N):Fr N (fill a F) F:=⟨by rw [fill_size,hs],by rw [fill_defers,hd],fill_at (by rw [hs];exact hF)⟩
theorem fill_eval (hF:∀x∈F,x.1<a.tmps.size)(h:∀t∈slotsOf o,∀v,lk F t=some v→a.tmps[t]? =some v):∀x∈o.op.operands,(fill a F).eval x=a.eval x:=by
 intro x hx
 cases x with
 |tmp t=>
  simp only [Act.eval,Array.getD_eq_getD_getElem?]
  cases hl:lk F t with
  |none=>rw [fill_ne hl]
  |some v=>rw [fill_at hF t v hl,h t (slotsOf_mem hx) v hl]
 |const c=>rfl
 |global g=>rfl
 |func f=>rfl
def noSel (o:Oper):Bool:=match o.op with
 | .select _ _=>false
 |_=>true
theorem noSel_ne (h:noSel o=true):∀cs b,o.op≠ .select cs b:=by
 intro cs b e
 simp [noSel,e] at h
structure PhF (P:Program)(N:Nat)(K:Nat→Prop)(W:World)(L:List Asn)(F:List (Nat×Value))(o:Oper)(d:Nat)(v:Value):Prop where
 dst:o.dst=some d
 lt:d<N
 at_:lk F d=some v
 run:∀(a:Act) (w:World),a.tmps.size=N→a.defers= []→(∀t∈slotsOf o,∀u,lk F t=some u→a.tmps[t]? =some u)→Sh K W w L→(execOp a.eval o).run P w= .ok (.value v) w
def ordB :List Oper→Bool
 | []=>true
 |o::r=>noSel o&&o.guard.isNone&&((o::r).all fun x=>match x.dst with
  |some d=>(slotsOf o).all fun t=> !Nat.beq d t
  |none=>true)&&(r.all fun x=>match x.dst,o.dst with
  |some d,some e=> !Nat.beq d e
  |_,_=>true)&&ordB r
theorem Runs.keep (r:Runs P ops N K W L os F [] F'):∀t,(∀o∈os,o.dst≠some t)→lk F' t=lk F t:=by
 generalize hr:([]:List Oper)=rest at r
 induction r with
 |nl=>intros;rfl
 |cn _ _ hd _ _ ih=>
  intro t ht
  rw [ih hr t fun o ho=>ht o (List.mem_cons_of_mem _ ho),lk_cons,if_neg fun e=>ht _ List.mem_cons_self (by rw [hd,e])]
 |sk _ hd _ _ ih=>
  intro t ht
  rw [ih hr t fun o ho=>ht o (List.mem_cons_of_mem _ ho),lk_cons,if_neg fun e=>ht _ List.mem_cons_self (by rw [hd,e])]
theorem Runs.fN {rest:List Oper}(r:Runs P ops N K W L os F rest F'):(∀x∈F,x.1<N)→∀x∈F',x.1<N:=by
 induction r with
 |nl=>exact id
 |cn _ _ _ hN _ ih=>exact fun h=>ih fun x hx=>(List.mem_cons.1 hx).elim (fun e=>by rw [e];simpa [Nat.blt_eq] using hN) (h x)
 |sk _ _ hN _ ih=>exact fun h=>ih fun x hx=>(List.mem_cons.1 hx).elim (fun e=>by rw [e];simpa [Nat.blt_eq] using hN) (h x)
theorem Runs.pf {a0:Act}(h0:a0.tmps.size=N)(h1:a0.defers= [])(r:Runs P ops N K W L os F [] F'):ordB os=true→(∀x∈F,x.1<N)→∀o∈os,∃d v,PhF P N K W L F' o d v:=by
 generalize hr:([]:List Oper)=rest at r
 induction r with
 |nl=>intro _ _ o ho;subst hr;cases ho
 |cn hrn hw hd hN k ih=>
  subst hr
  rename_i o l F F' d v
  intro hB hF x hx
  simp only [ordB,Bool.and_eq_true] at hB
  obtain ⟨⟨⟨⟨hs,hg⟩,hu⟩,hdd⟩,hB⟩:=hB
  have hN' :d<N:=by simpa [Nat.blt_eq] using hN
  have hF2:∀x∈(d,v)::F,x.1<N:=fun x hx=>(List.mem_cons.1 hx).elim (fun e=>by rw [e];exact hN') (hF x)
  rcases List.mem_cons.1 hx with rfl|hx
  ·have hno:∀t∈slotsOf x,∀y∈x::l,y.dst≠some t:=by
    intro t ht y hy e
    have:=List.all_eq_true.1 hu y hy
    rw [e] at this
    have:=List.all_eq_true.1 this t ht
    simp at this
   refine ⟨d,v,hd,hN', ?_,fun a w hsz hdf hsl hsh=> ?_⟩
   ·rw [k.keep d fun y hy e=> ?_,lk_cons,if_pos rfl]
    have:=List.all_eq_true.1 hdd y hy
    rw [e,hd] at this
    simp at this
   ·have hev:=fill_eval (a:=a) (F:=F) (o:=x) (by rw [hsz];exact hF) fun t ht u hu=>hsl t ht u (by
     rw [k.keep t fun y hy=>hno t ht y (List.mem_cons_of_mem _ hy),lk_cons,if_neg fun e=>hno t ht x List.mem_cons_self (by rw [hd,e])];exact hu)
    have:=hrn (fill a F) w ⟨fill_fr hsz hdf hF,hsh⟩
    rwa [execOp_congr x (noSel_ne hs) hev] at this
  ·exact ih rfl hB hF2 x hx
 |sk hw hd hN k ih=>
  intro hB hF x hx
  rename_i o l F F' d
  simp only [ordB,Bool.and_eq_true] at hB
  obtain ⟨⟨⟨⟨hs,hg⟩,hu⟩,hdd⟩,hB⟩:=hB
  have:=hw _ (fill_fr h0 h1 hF)
  rw [wanted_none (by simpa using hg)] at this
  cases this
theorem Ex.move {b:Act}{R:Act→World→Prop}(h:Ex P o b w R)(he:execOp b.eval o=execOp a.eval o):Ex P o a w (fun a' w' =>∃b',R b' w' ∧(∃v,b'.tmps=(b.put o.dst v).tmps∧a'.tmps=(a.put o.dst v).tmps)∧(b'.defers= []→a.defers= []→a'.defers= [])):=by
 intro next Q hn
 have h1:=h R (fun e _ w=>Q e a w) (fun _ _ h=>h)
 unfold Oper.wp at h1⊢
 rw [he] at h1
 generalize (execOp a.eval o).run P w=r at h1⊢
 have hdf:∀v,(a.put o.dst v).defers=a.defers:=fun v=>by cases o.dst<;>rfl
 cases r with
 |halt x w' =>cases x<;>exact h1
 |ok n w' =>
  cases n
  case value v=>exact hn _ _ ⟨_,h1,⟨v,rfl,rfl⟩,fun _ e=>by rw [hdf,e]⟩
  case skip=>exact hn _ _ ⟨_,h1,⟨undef,rfl,rfl⟩,fun _ e=>by rw [hdf,e]⟩
  case defer d=>exact hn _ _ ⟨_,h1,⟨undef,by cases o.dst<;>rfl,by cases o.dst<;>rfl⟩,fun e=>by cases ho:o.dst<;>simp [ho,Act.put] at e⟩
  case enter f args=>
   refine Calls.mono h1 fun e w'' he=> ?_
   cases e with
   |returned v=>exact hn _ _ ⟨_,he,⟨v,rfl,rfl⟩,fun _ e=>by rw [hdf,e]⟩
   |panicked c=>exact he
   |outgrown=>obtain ⟨_,w3,h3⟩:=he;exact ⟨_,w3,h3⟩
  case row r args=>exact Rows.mono h1 fun v w'' he=>hn _ _ ⟨_,he,⟨v,rfl,rfl⟩,fun _ e=>by rw [hdf,e]⟩
  all_goals exact h1
def pickO (l:List Oper):List Nat→Option (List Oper)
 | []=>some []
 |i::r=>match l[i]? with
  |some o=>match pickO l r with
   |some os=>some (o::os)
   |none=>none
  |none=>none
theorem pickO_mem :∀ {is:List Nat} {os:List Oper},pickO l is=some os→(∀o∈os,∃i∈is,l[i]? =some o)∧∀i∈is,∃o∈os,l[i]? =some o
 | [],os,h=>by cases h;exact ⟨fun o ho=>(by cases ho),fun o ho=>(by cases ho)⟩
 |i::r,os,h=>by
  unfold pickO at h
  split at h
  ·rename_i o ho
   split at h
   ·rename_i os' hos
    cases h
    obtain ⟨h1,h2⟩:=pickO_mem hos
    refine ⟨fun x hx=> ?_,fun j hj=> ?_⟩
    ·rcases List.mem_cons.1 hx with rfl|hx
     ·exact ⟨i,List.mem_cons_self,ho⟩
     ·obtain ⟨j,hj,e⟩:=h1 x hx
      exact ⟨j,List.mem_cons_of_mem _ hj,e⟩
    ·rcases List.mem_cons.1 hj with rfl|hj
     ·exact ⟨o,List.mem_cons_self,ho⟩
     ·obtain ⟨x,hx,e⟩:=h2 j hj
      exact ⟨x,List.mem_cons_of_mem _ hx,e⟩
   ·cases h
  ·cases h
def availB (l:List Oper)(ws done rem is:List Nat):Bool:=(List.range l.length).all fun i=>ws.any (Nat.beq i)||is.any (Nat.beq i)||(rem.any fun w=>ancB l i w)||done.any fun w=>ancB l w i
def operB (l:List Oper)(o:Oper):Bool:=(slotsOf o).all fun t=>(l.all fun x=>match x.dst with
  |some d=> !Nat.beq d t
  |none=>true)||o.after.any fun e=>Region.binds .any e&&match l[e.on]? with
 |some x=>(match x.dst with
  |some d=>Nat.beq d t
  |none=>false)
 |none=>false
def noneB (l:List Oper)(t:Nat):Prop:=∀o∈l,o.dst≠some t
def dstB :List Oper→Bool
 | []=>true
 |o::r=>(r.all fun x=>match x.dst,o.dst with
  |some d,some e=> !Nat.beq d e
  |_,_=>true)&&dstB r
theorem dstB_at :∀ {l:List Oper} {i j:Nat} {x y:Oper} {d:Nat},dstB l=true→l[i]? =some x→l[j]? =some y→x.dst=some d→y.dst=some d→i=j
 | [],i,_,_,_,_,_,h,_,_,_=>by simp at h
 |o::r,i,j,x,y,d,hB,hi,hj,hx,hy=>by
  simp only [dstB,Bool.and_eq_true] at hB
  match i,j with
  |0,0=>rfl
  |i+1,j+1=>
   rw [List.getElem?_cons_succ] at hi hj
   exact congrArg (· +1) (dstB_at hB.2 hi hj hx hy)
  |0,j+1=>
   simp only [List.getElem?_cons_zero,Option.some.injEq,List.getElem?_cons_succ] at hi hj
   subst hi
   have:=List.all_eq_true.1 hB.1 y (List.mem_of_getElem? hj)
   rw [hx,hy] at this
   simp at this
  |i+1,0=>
   simp only [List.getElem?_cons_zero,Option.some.injEq,List.getElem?_cons_succ] at hi hj
   subst hj
   have:=List.all_eq_true.1 hB.1 x (List.mem_of_getElem? hi)
   rw [hx,hy] at this
   simp at this
def chainB (l:List Oper):List Nat→Bool
 | []=>true
 |w::ws=>(ws.all fun x=>ancB l x w&& !Nat.beq x w)&&chainB l ws
def regB (l:List Oper)(ws:List Nat):Bool:=depsLt l 0&&dstB l&&(l.all fun o=>noSel o&&o.guard.isNone&&operB l o)&&chainB l ws
def agA (F F' :List (Nat×Value))(os:List Oper):List (Option Value):=os.map fun o=>match o.dst with
 |some d=>(match lk F d with
  |some _=>lk F' d
  |none=>none)
 |none=>none
def agB (F:List (Nat×Value))(os:List Oper):List (Option Value):=os.map fun o=>match o.dst with
 |some d=>(match lk F d with
  |some v=>some v
  |none=>none)
 |none=>none
theorem ag_at (h:agA F F' os=agB F os)(ho:o∈os){d:Nat}{v:Value}(hd:o.dst=some d)(hv:lk F d=some v):lk F' d=some v:=by
 obtain ⟨i,hi⟩:=List.getElem?_of_mem ho
 have:=congrArg (fun l=>l[i]?) h
 simp only [agA,agB,List.getElem?_map,hi,Option.map_some,hd,hv] at this
 exact Option.some.inj this
def okF (o:Oper)(F F2:List (Nat×Value)):Prop:=match o.dst with
 |some d=>∃v,F2=(d,v)::F
 |none=>F2=F
def PhH (P:Program)(l:List Oper)(N:Nat)(K:Nat→Prop)(W:World)(Q:Exit→Act→World→Prop)(ws:List Nat)(done:List Nat):List Nat→List Asn→List (Nat×Value)→Prop
 | [],L,F=>∃is os F',pickO l is=some os∧(availB l ws done [] is&&ordB os&&is.all fun i=> !ws.any (Nat.beq i))=true∧Runs P l.toArray N K W L os F [] F' ∧agA F F' os=agB F os∧∀a w,St N K W a w F' L→Q .normal a w
 |i::rem,L,F=>∃is os F' o,pickO l is=some os∧(availB l ws done (i::rem) is&&ordB os&&is.all fun i=> !ws.any (Nat.beq i))=true∧Runs P l.toArray N K W L os F [] F' ∧agA F F' os=agB F os∧l[i]? =some o∧
  ∀a w,St N K W a w F' L→Ex P o a w (fun a' w' =>∃F2 L2,St N K W a' w' F2 L2∧okF o F' F2∧PhH P l N K W Q ws (i::done) rem L2 F2)
structure PhX (P:Program)(l:List Oper)(N:Nat)(K:Nat→Prop)(W:World)(Q:Exit→Act→World→Prop)(ws done rem:List Nat)(L:List Asn)(F:List (Nat×Value)):Prop where
 fN:∀x∈F,x.1<N
 pf:∀i o,l[i]? =some o→ws.any (Nat.beq i)=false→(rem.any fun w=>ancB l i w)=false→(done.any fun w=>ancB l w i)=false→∃d v,PhF P N K W L F o d v
 fin:rem= []→∀a w,St N K W a w F L→Q .normal a w
 nxt:∀i r,rem=i::r→∃o,l[i]? =some o∧∀a w,St N K W a w F L→Ex P o a w (fun a' w' =>∃F2 L2,St N K W a' w' F2 L2∧okF o F F2∧PhH P l N K W Q ws (i::done) r L2 F2)
structure PhJ (l:List Oper)(N:Nat)(K:Nat→Prop)(W:World)(done rem:List Nat)(L:List Asn)(F:List (Nat×Value))(S:Nat→Bool)(a:Act)(w:World):Prop where
 dn:∀i∈done,S i=true
 rm:∀i∈rem,S i=false
 sz:a.tmps.size=N
 df:a.defers= []
 out:∀t v,noneB l t→lk F t=some v→a.tmps[t]? =some v
 ins:∀i o t,l[i]? =some o→o.dst=some t→S i=true→∃v,lk F t=some v∧a.tmps[t]? =some v
 sh:Sh K W w L
theorem PhH.enter {ws done rem:List Nat}{S:Nat→Bool}(hdB:dstB l=true)(h:PhH P l N K W Q ws done rem L F)(hF:∀x∈F,x.1<N)(j:PhJ l N K W done rem L F S a w):∃F',PhX P l N K W Q ws done rem L F' ∧PhJ l N K W done rem L F' S a w:=by
 have key:∀(is:List Nat) (os:List Oper) (F' :List (Nat×Value)),pickO l is=some os→(availB l ws done rem is&&ordB os&&is.all fun i=> !ws.any (Nat.beq i))=true→Runs P l.toArray N K W L os F [] F' →agA F F' os=agB F os→
   PhJ l N K W done rem L F' S a w∧∀i o,l[i]? =some o→ws.any (Nat.beq i)=false→(rem.any fun w=>ancB l i w)=false→(done.any fun w=>ancB l w i)=false→∃d v,PhF P N K W L F' o d v:=by
  intro is os F' hp hB hr ha
  simp only [Bool.and_eq_true] at hB
  obtain ⟨⟨hav,hor⟩,_⟩:=hB
  obtain ⟨hm1,hm2⟩:=pickO_mem hp
  refine ⟨⟨j.dn,j.rm,j.sz,j.df,fun t v ht hv=> ?_,fun i o t hi ho hS=> ?_,j.sh⟩,fun i o hi h1 h2 h3=> ?_⟩
  ·rw [hr.keep t fun o ho e=> ?_] at hv
   ·exact j.out t v ht hv
   ·obtain ⟨q,_,hq⟩:=hm1 o ho
    exact ht o (List.mem_of_getElem? hq) e
  ·obtain ⟨v,hv,hat⟩:=j.ins i o t hi ho hS
   refine ⟨v, ?_,hat⟩
   by_cases hos:o∈os
   ·exact ag_at ha hos ho hv
   ·rw [hr.keep t fun x hx e=> ?_]
    ·exact hv
    ·obtain ⟨q,_,hq⟩:=hm1 x hx
     have:=dstB_at hdB hi hq ho e
     subst this
     rw [hi] at hq
     cases hq
     exact hos hx
  ·have hlt:i<l.length:=(List.getElem?_eq_some_iff.1 hi).1
   have:=List.all_eq_true.1 hav i (List.mem_range.2 hlt)
   rw [h1,h2,h3,Bool.false_or,Bool.or_false,Bool.or_false] at this
   obtain ⟨z,hz,h4⟩:=List.any_eq_true.1 this
   cases Nat.eq_of_beq_eq_true h4
   obtain ⟨x,hx,hix⟩:=hm2 i hz
   rw [hi] at hix
   cases hix
   exact hr.pf j.sz j.df hor hF o hx
 cases rem with
 |nil=>
  obtain ⟨is,os,F',hp,hB,hr,ha,hQ⟩:=h
  obtain ⟨h1,h2⟩:=key is os F' hp hB hr ha
  exact ⟨F',⟨hr.fN hF,h2,fun _=>hQ,fun _ _ e=>(by cases e)⟩,h1⟩
 |cons i rem=>
  obtain ⟨is,os,F',o,hp,hB,hr,ha,ho,hx⟩:=h
  obtain ⟨h1,h2⟩:=key is os F' hp hB hr ha
  exact ⟨F',⟨hr.fN hF,h2,fun e=>(by cases e),fun _ _ e=>(by cases e;exact ⟨o,ho,hx⟩)⟩,h1⟩
theorem anc_ready {S:Nat→Bool}{i j:Nat}(hcl:ClosedB l S)(ho:l[i]? =some o)(hdep:∀e∈o.after,Region.binds .any e=true→S e.on=true)(h:ancB l i j=true):j=i∨S j=true:=by
 have hcl2:ClosedB l (upd S i):=by
  intro q oq hq hS e he hb
  by_cases e1:q=i
  ·subst e1
   rw [ho] at hq
   cases hq
   exact upd_true (hdep e he hb)
  ·rw [upd_ne (beq_no e1)] at hS
   exact upd_true (hcl q oq hq hS e he hb)
 have:=cA hcl2 i j h (upd_self S i)
 by_cases e:j=i
 ·exact .inl e
 ·rw [upd_ne (beq_no e)] at this
  exact .inr this
theorem rC {id:Nat}(ws:List Nat)(hF:(F.all fun x=>Nat.blt x.1 N)=true)(hx:PhH P l N K W Q ws [] ws L F)(hm:P.follows .mixedOrders=true:=by kernel_rfl)(hB:regB l ws=true:=by kernel_rfl):∀a w,St N K W a w F L→(Code.region id l.toArray true).wp P Q a w:=by
  intro a w h
  simp only [regB,Bool.and_eq_true] at hB
  obtain ⟨⟨⟨hdl,hdB⟩,hall⟩,hch⟩:=hB
  have hop:∀o∈l,noSel o=true∧o.guard=none∧operB l o=true:=by
    intro o ho
    have:=List.all_eq_true.1 hall o ho
    simp only [Bool.and_eq_true,Option.isNone_iff_eq_none] at this
    exact ⟨this.1.1,this.1.2,this.2⟩
  have hFN:∀x∈F,x.1<N:=fun x hx=>by simpa [Nat.blt_eq] using List.all_eq_true.1 hF x hx
  have hsl:∀ {done rem:List Nat} {L:List Asn} {F:List (Nat×Value)} {S:Nat→Bool} {a:Act} {w:World} {o:Oper},PhJ l N K W done rem L F S a w→o∈l→(∀e∈o.after,Region.binds .any e=true→S e.on=true)→∀t∈slotsOf o,∀v,lk F t=some v→a.tmps[t]? =some v:=by
    intro done rem L F S a w o j ho hdep t ht v hv
    have:=List.all_eq_true.1 (hop o ho).2.2 t ht
    rw [Bool.or_eq_true] at this
    rcases this with h1|h1
    · refine j.out t v (fun x hx e=> ?_) hv
      have:=List.all_eq_true.1 h1 x hx
      rw [e] at this
      simp at this
    · obtain ⟨k,hk,h2⟩:=Array.any_eq_true.1 h1
      simp only [Bool.and_eq_true] at h2
      obtain ⟨hb,h2⟩:=h2
      split at h2
      · rename_i x hx
        split at h2
        · rename_i d hd
          rw [Nat.eq_of_beq_eq_true h2] at hd
          obtain ⟨u,hu,hat⟩:=j.ins _ x t hx hd (hdep _ (Array.getElem_mem hk) hb)
          rw [hv] at hu
          cases hu
          exact hat
        · cases h2
      · cases h2
  refine x_any (fun S a w=>∃done rem L F,(∀i∈ws,i∈done∨i∈rem)∧(∀i,i∈done∨i∈rem→i∈ws)∧chainB l rem=true∧PhX P l N K W Q ws done rem L F∧PhJ l N K W done rem L F S a w) hm hdl ?_ ?_ ?_
  · obtain ⟨F',h1,h2⟩:=hx.enter (S:=fun _=>false) (a:=a) (w:=w.drew) hdB hFN ⟨fun i hi=>(by cases hi),fun _ _=>rfl,h.fr.size,h.fr.defers,fun t v _ hv=>h.fr.at_ t v hv,fun _ _ _ _ _ hS=>(by cases hS),h.sh.drew⟩
    exact ⟨[],ws,L,F',fun i hi=> .inr hi,fun i hi=>hi.elim (fun h=>by cases h) (fun h=>h),hch,h1,h2⟩
  · rintro S i o ho hSi hcl hdep a w ⟨done,rem,L,F,hw1,hw2,hchr,px,j⟩
    have hol:=List.mem_of_getElem? ho
    obtain ⟨hns,hg,_⟩:=hop o hol
    have hslo:=hsl j hol hdep
    by_cases hir:i∈rem
    ·
      cases rem with
      |nil=>cases hir
      |cons i0 r=>
        simp only [chainB,Bool.and_eq_true] at hchr
        have hi0:i=i0:=by
          rcases List.mem_cons.1 hir with e|hr
          · exact e
          · exfalso
            have:=List.all_eq_true.1 hchr.1 i hr
            simp only [Bool.and_eq_true,Bool.not_eq_true'] at this
            rcases anc_ready hcl ho hdep this.1 with e|e
            · rw [e] at this;simp at this
            · rw [j.rm i0 List.mem_cons_self] at e;cases e
        subst hi0
        obtain ⟨o',ho',hx⟩:=px.nxt i r rfl
        rw [ho] at ho'
        cases ho'
        have hF2:∀x∈F,x.1<a.tmps.size:=by rw [j.sz];exact px.fN
        have hev:=fill_eval (o:=o) hF2 hslo
        have hEx:=(hx (fill a F) w ⟨fill_fr j.sz j.df px.fN,j.sh⟩).move (execOp_congr o (noSel_ne hns) hev)
        unfold StepOK
        rw [if_pos (wanted_none hg _)]
        refine hEx _ _ fun a' w' ⟨b',⟨F2,L2,hst,hok,hph⟩,⟨v,hb,ha⟩,hdf⟩=> ?_
        have hsz' :a'.tmps.size=N:=by rw [ha];cases o.dst<;>simp [Act.put,j.sz]
        have hF2N:∀x∈F2,x.1<N:=by
          unfold okF at hok
          split at hok
          · rename_i d hd
            obtain ⟨v2,rfl⟩:=hok
            intro x hx
            rcases List.mem_cons.1 hx with rfl|hx
            · have h1:=hst.fr.at_ d v2 (by rw [lk_cons,if_pos rfl])
              obtain ⟨h2,_⟩:=Array.getElem?_eq_some_iff.1 h1
              rw [hst.fr.size] at h2
              exact h2
            · exact px.fN x hx
          · rw [hok];exact px.fN
        have hoth:∀t,o.dst≠some t→lk F2 t=lk F t∧a'.tmps[t]? =a.tmps[t]? :=by
          intro t ht
          refine ⟨?_, ?_⟩
          · unfold okF at hok
            split at hok
            · rename_i d hd
              obtain ⟨v2,rfl⟩:=hok
              rw [lk_cons,if_neg fun e=>ht (by rw [hd,e])]
            · rw [hok]
          · rw [ha]
            cases hd:o.dst with
            |none=>rfl
            |some d=>
              simp only [Act.put,Array.getElem?_setIfInBounds]
              rw [if_neg fun e=>ht (by rw [hd,e])]
        have hJ:PhJ l N K W (i::done) r L2 F2 (upd S i) a' w' :=by
          refine ⟨fun q hq=> ?_,fun q hq=> ?_,hsz',hdf hst.fr.defers j.df,fun t u ht hu=> ?_,fun q x t hq hxd hS=> ?_,hst.sh⟩
          · rcases List.mem_cons.1 hq with rfl|hq
            · exact upd_self _ _
            · exact upd_true (j.dn q hq)
          · have h1:=List.all_eq_true.1 hchr.1 q hq
            simp only [Bool.and_eq_true,Bool.not_eq_true'] at h1
            rw [upd_ne h1.2]
            exact j.rm q (List.mem_cons_of_mem _ hq)
          · obtain ⟨h1,h2⟩:=hoth t (ht o hol)
            rw [h2]
            rw [h1] at hu
            exact j.out t u ht hu
          · by_cases e:q=i
            · subst e
              rw [ho] at hq
              cases hq
              unfold okF at hok
              rw [hxd] at hok
              obtain ⟨v2,rfl⟩:=hok
              have h1:=hst.fr.at_ t v2 (by rw [lk_cons,if_pos rfl])
              refine ⟨v2,by rw [lk_cons,if_pos rfl], ?_⟩
              have hlt:t<N:=hF2N _ List.mem_cons_self
              rw [hb,hxd] at h1
              rw [ha,hxd]
              simp only [Act.put,Array.getElem?_setIfInBounds,if_true,fill_size,j.sz,hlt] at h1⊢
              exact h1
            · rw [upd_ne (beq_no e)] at hS
              have hne:o.dst≠some t:=fun h2=>e (dstB_at hdB hq ho hxd h2)
              obtain ⟨h1,h2⟩:=hoth t hne
              rw [h1,h2]
              exact j.ins q x t hq hxd hS
        obtain ⟨F3,h1,h2⟩:=hph.enter hdB hF2N hJ
        refine ⟨i::done,r,L2,F3,fun q hq=> ?_,fun q hq=> ?_,hchr.2,h1,h2⟩
        · rcases hw1 q hq with h3|h3
          · exact .inl (List.mem_cons_of_mem _ h3)
          · rcases List.mem_cons.1 h3 with rfl|h3
            · exact .inl List.mem_cons_self
            · exact .inr h3
        · rcases hq with hq|hq
          · rcases List.mem_cons.1 hq with rfl|hq
            · exact hw2 _ (.inr List.mem_cons_self)
            · exact hw2 _ (.inl hq)
          · exact hw2 _ (.inr (List.mem_cons_of_mem _ hq))
    ·
      have hiw:ws.any (Nat.beq i)=false:=by
        cases hb:ws.any (Nat.beq i) with
        |false=>rfl
        |true=>
          obtain ⟨z,hz,h3⟩:=List.any_eq_true.1 hb
          cases Nat.eq_of_beq_eq_true h3
          rcases hw1 i hz with h4|h4
          · rw [j.dn i h4] at hSi;cases hSi
          · exact absurd h4 hir
      have h2:(rem.any fun w=>ancB l i w)=false:=by
        cases hb:rem.any fun w=>ancB l i w with
        |false=>rfl
        |true=>
          obtain ⟨z,hz,h3⟩:=List.any_eq_true.1 hb
          rcases anc_ready hcl ho hdep h3 with e|e
          · rw [e] at hz;exact absurd hz hir
          · rw [j.rm z hz] at e;cases e
      have h3:(done.any fun w=>ancB l w i)=false:=by
        cases hb:done.any fun w=>ancB l w i with
        |false=>rfl
        |true=>
          obtain ⟨z,hz,h3⟩:=List.any_eq_true.1 hb
          rw [cA hcl z i h3 (j.dn z hz)] at hSi
          cases hSi
      obtain ⟨d,v,pf⟩:=px.pf i o ho hiw h2 h3
      unfold StepOK
      rw [if_pos (wanted_none hg _)]
      unfold Oper.wp
      rw [pf.run a w j.sz j.df hslo j.sh]
      show∃done rem L F,_
      refine ⟨done,rem,L,F,hw1,hw2,hchr,px,fun q hq=>upd_true (j.dn q hq),fun q hq=> ?_, ?_, ?_,fun t u ht hu=> ?_,fun q x t hq hxd hS=> ?_,j.sh⟩
      · rw [upd_ne (beq_no fun e=>hir (by rw [←e];exact hq))]
        exact j.rm q hq
      · rw [pf.dst];simp [Act.put,j.sz]
      · rw [pf.dst];exact j.df
      · have hne:d≠t:=fun e=>ht o hol (by rw [pf.dst,e])
        rw [pf.dst]
        simp only [Act.put,Array.getElem?_setIfInBounds,if_neg hne]
        exact j.out t u ht hu
      · by_cases e:q=i
        · subst e
          rw [ho] at hq
          cases hq
          rw [pf.dst] at hxd
          cases hxd
          refine ⟨v,pf.at_, ?_⟩
          rw [pf.dst]
          simp [Act.put,Array.getElem?_setIfInBounds,j.sz,pf.lt]
        · rw [upd_ne (beq_no e)] at hS
          obtain ⟨u,hu,hat⟩:=j.ins q x t hq hxd hS
          refine ⟨u,hu, ?_⟩
          have hne:d≠t:=fun e2=>e (dstB_at hdB hq ho hxd (by rw [pf.dst,e2]))
          rw [pf.dst]
          simp only [Act.put,Array.getElem?_setIfInBounds,if_neg hne]
          exact hat
  · rintro S hall a w ⟨done,rem,L,F,hw1,hw2,hchr,px,j⟩
    have hrem:rem= []:=by
      cases rem with
      |nil=>rfl
      |cons i r=>
        obtain ⟨o,ho,_⟩:=px.nxt i r rfl
        have:=hall i (List.getElem?_eq_some_iff.1 ho).1
        rw [j.rm i List.mem_cons_self] at this
        cases this
    refine px.fin hrem a w ⟨⟨j.sz,j.df,fun t v hv=> ?_⟩,j.sh⟩
    by_cases hn:noneB l t
    · exact j.out t v hn hv
    · have:∃o,o∈l∧o.dst=some t:=by
        apply Classical.byContradiction
        intro h1
        exact hn fun o ho e=>h1 ⟨o,ho,e⟩
      obtain ⟨o,ho,hd⟩:=this
      obtain ⟨i,hi⟩:=List.getElem?_of_mem ho
      obtain ⟨u,hu,hat⟩:=j.ins i o t hi hd (hall i (List.getElem?_eq_some_iff.1 hi).1)
      rw [hv] at hu
      cases hu
      exact hat
section
variable {ws done rem is:List Nat}{i d:Nat}{v:Value}{F2:List (Nat×Value)}{L2:List Asn}{Φ:List Asn→List (Nat×Value)→Prop}
theorem pE (is:List Nat)(e:pickO l is=some os)(r:Runs P l.toArray N K W L os F [] F')(ha:agA F F' os=agB F os)(k:∀a w,St N K W a w F' L→Q .normal a w)(hB:(availB l ws done [] is&&ordB os&&is.all fun i=> !ws.any (Nat.beq i))=true:=by kernel_rfl):PhH P l N K W Q ws done [] L F:=⟨is,os,F',e,hB,r,ha,k⟩
theorem pR (is:List Nat)(e:(pickO l is,l[i]?)=(some os,some o))(r:Runs P l.toArray N K W L os F [] F')(ha:agA F F' os=agB F os)
  (k:∀a w,St N K W a w F' L→Ex P o a w (fun a' w' =>∃F2 L2,St N K W a' w' F2 L2∧okF o F' F2∧PhH P l N K W Q ws (i::done) rem L2 F2)) (hB:(availB l ws done (i::rem) is&&ordB os&&is.all fun i=> !ws.any (Nat.beq i))=true:=by kernel_rfl):PhH P l N K W Q ws done (i::rem) L F:=by
 simp only [Prod.mk.injEq] at e
 exact ⟨is,os,F',o,e.1,hB,r,ha,e.2,k⟩
theorem okF_some (hd:o.dst=some d):okF o F ((d,v)::F):=by unfold okF;rw [hd];exact ⟨v,rfl⟩
theorem pS (hx:∀a w,St N K W a w F L→Ex P o a w (fun a' w' =>St N K W a' w' F L2))(hd:o.dst=none)(k:Φ L2 F):∀a w,St N K W a w F L→Ex P o a w (fun a' w' =>∃F2 L2,St N K W a' w' F2 L2∧okF o F F2∧Φ L2 F2):=
 fun a w h=>(hx a w h).mono fun a' w' h' =>⟨F,L2,h',by unfold okF;rw [hd],k⟩
theorem pX {α:Type}{v:α→Value}{L2:α→List Asn}(hx:∀a w,St N K W a w F L→Ex P o a w (fun a' w' =>∃b:α,St N K W a' w' ((d,v b)::F) (L2 b)))(hd:o.dst=some d)(k:∀b,Φ (L2 b) ((d,v b)::F)):∀a w,St N K W a w F L→Ex P o a w (fun a' w' =>∃F2 L2,St N K W a' w' F2 L2∧okF o F F2∧Φ L2 F2):=
 fun a w h=>(hx a w h).mono fun a' w' ⟨b,h'⟩=>⟨_,L2 b,h',okF_some hd,k b⟩
theorem pC {Rr:World→Value→World→Prop}(hx:∀a w,St N K W a w F L→Ex P o a w (fun a' w' =>∃v,Rr w v w' ∧Fr N a' ((d,v)::F)))(hd:o.dst=some d)
  (k:∀w v w',Rr w v w' →∃L' L2,Sh0 w w' L' ∧AllNo L' ∧appO L' L=some L2∧Φ L2 ((d,v)::F)):∀a w,St N K W a w F L→Ex P o a w (fun a' w' =>∃F2 L2,St N K W a' w' F2 L2∧okF o F F2∧Φ L2 F2):=
 fun a w h=>(hx a w h).mono fun a' w' ⟨v,hr,hf⟩=>by
  obtain ⟨L',L2,hs,hi,e,k⟩:=k _ _ _ hr
  have:=h.sh.callI hs
  rw [appO_eq e] at this
  exact ⟨_,L2,⟨hf,this⟩,okF_some hd,k⟩
theorem pWk {L' L2 M:List Asn}{w w' :World}{X:List Asn→Prop}[hi:AllNo L'](hs:Sh0 w w' L')(e:appO L' M=some L2)(k:X L2):∃L' L2,Sh0 w w' L' ∧AllNo L' ∧appO L' M=some L2∧X L2:=⟨_,_,hs,hi,e,k⟩
theorem pO (is:List Nat)(e:selB L is=some L2)(k:∀a w,St N K W a w F L2→Ex P o a w (fun a' w' =>∃F2 L2,St N K W a' w' F2 L2∧okF o F F2∧Φ L2 F2)):∀a w,St N K W a w F L→Ex P o a w (fun a' w' =>∃F2 L2,St N K W a' w' F2 L2∧okF o F F2∧Φ L2 F2):=fun a w h=>k a w (h.sel is e)
end
end
theorem ti_3 :tyI Tryz.prog 3=some (false,1,8, [.int .i64 0]):=by kernel_rfl
theorem ti_4 :tyI Tryz.prog 4=some (false,1,1, [.bool false]):=by kernel_rfl
theorem ti_5 :tyI Tryz.prog 5=some (false,1,1, [.int .u8 0]):=by kernel_rfl
theorem ti_22 :tyI Tryz.prog 22=some (false,1,24, [.slice none 0 0]):=by kernel_rfl
theorem sl_22 :slI Tryz.prog 22=some 33:=by kernel_rfl
theorem ti_23 :tyI Tryz.prog 23=some (false,1,24, [.slice none 0 0]):=by kernel_rfl
theorem sl_23 :slI Tryz.prog 23=some 3:=by kernel_rfl
theorem ti_25 :tyI Tryz.prog 25=some (true,4,64, [.slice none 0 0, .slice none 0 0, .int .i64 0, .int .i64 0]):=by kernel_rfl
theorem fl_25_0 :flI Tryz.prog 25 0=some 0:=by kernel_rfl
theorem fl_25_1 :flI Tryz.prog 25 1=some 1:=by kernel_rfl
theorem fl_25_2 :flI Tryz.prog 25 2=some 2:=by kernel_rfl
theorem fl_25_3 :flI Tryz.prog 25 3=some 3:=by kernel_rfl
theorem ti_26 :tyI Tryz.prog 26=some (false,1,8, [.int .i64 0]):=by kernel_rfl
theorem ti_28 :tyI Tryz.prog 28=some (true,3,24, [.int .i64 0, .int .i64 0, .int .i64 0]):=by kernel_rfl
theorem fl_28_0 :flI Tryz.prog 28 0=some 0:=by kernel_rfl
theorem ti_32 :tyI Tryz.prog 32=some (true,4,32, [.int .i64 0, .int .i64 0, .int .i64 0, .int .i64 0]):=by kernel_rfl
theorem fl_32_0 :flI Tryz.prog 32 0=some 0:=by kernel_rfl
theorem fl_32_1 :flI Tryz.prog 32 1=some 1:=by kernel_rfl
theorem fl_32_2 :flI Tryz.prog 32 2=some 2:=by kernel_rfl
theorem fl_32_3 :flI Tryz.prog 32 3=some 3:=by kernel_rfl
theorem ti_33 :tyI Tryz.prog 33=some (false,1,24, [.slice none 0 0]):=by kernel_rfl
theorem sl_33 :slI Tryz.prog 33=some 32:=by kernel_rfl
theorem ti_35 :tyI Tryz.prog 35=some (false,1,24, [.slice none 0 0]):=by kernel_rfl
theorem sl_35 :slI Tryz.prog 35=some 39:=by kernel_rfl
theorem ti_39 :tyI Tryz.prog 39=some (true,3,56, [.int .i64 0, .slice none 0 0, .slice none 0 0]):=by kernel_rfl
theorem fl_39_0 :flI Tryz.prog 39 0=some 0:=by kernel_rfl
theorem fl_39_1 :flI Tryz.prog 39 1=some 1:=by kernel_rfl
theorem fl_39_2 :flI Tryz.prog 39 2=some 2:=by kernel_rfl
theorem ti_85 :tyI Tryz.prog 85=some (false,1,8, [.pointer none]):=by kernel_rfl
theorem ti_123 :tyI Tryz.prog 123=some (false,1,8, [.pointer none]):=by kernel_rfl
theorem ti_148 :tyI Tryz.prog 148=some (false,1,8, [.pointer none]):=by kernel_rfl
theorem ti_151 :tyI Tryz.prog 151=some (false,1,24, [.slice none 0 0]):=by kernel_rfl
theorem sl_151 :slI Tryz.prog 151=some 85:=by kernel_rfl
theorem ti_153 :tyI Tryz.prog 153=some (true,2,48, [.slice none 0 0, .slice none 0 0]):=by kernel_rfl
theorem fl_153_0 :flI Tryz.prog 153 0=some 0:=by kernel_rfl
theorem fl_153_1 :flI Tryz.prog 153 1=some 1:=by kernel_rfl
theorem ti_171 :tyI Tryz.prog 171=some (false,1,24, [.slice none 0 0]):=by kernel_rfl
theorem sl_171 :slI Tryz.prog 171=some 189:=by kernel_rfl
theorem ti_173 :tyI Tryz.prog 173=some (true,5,80, [.nilIface, .pointer none, .slice none 0 0, .slice none 0 0, .bool false]):=by kernel_rfl
theorem fl_173_0 :flI Tryz.prog 173 0=some 0:=by kernel_rfl
theorem fl_173_1 :flI Tryz.prog 173 1=some 1:=by kernel_rfl
theorem fl_173_2 :flI Tryz.prog 173 2=some 2:=by kernel_rfl
theorem fl_173_3 :flI Tryz.prog 173 3=some 3:=by kernel_rfl
theorem fl_173_4 :flI Tryz.prog 173 4=some 4:=by kernel_rfl
theorem sl_175 :slI Tryz.prog 175=some 179:=by kernel_rfl
theorem ti_179 :tyI Tryz.prog 179=some (true,2,16, [.int .i64 0, .int .i64 0]):=by kernel_rfl
theorem fl_179_0 :flI Tryz.prog 179 0=some 0:=by kernel_rfl
theorem fl_179_1 :flI Tryz.prog 179 1=some 1:=by kernel_rfl
theorem fl_182_0 :flI Tryz.prog 182 0=some 0:=by kernel_rfl
theorem fl_182_1 :flI Tryz.prog 182 1=some 1:=by kernel_rfl
theorem ti_183 :tyI Tryz.prog 183=some (false,1,24, [.slice none 0 0]):=by kernel_rfl
theorem sl_183 :slI Tryz.prog 183=some 267:=by kernel_rfl
theorem fl_185_0 :flI Tryz.prog 185 0=some 0:=by kernel_rfl
theorem fl_185_1 :flI Tryz.prog 185 1=some 1:=by kernel_rfl
theorem ti_189 :tyI Tryz.prog 189=some (true,2,32, [.int .i64 0, .slice none 0 0]):=by kernel_rfl
theorem fl_189_0 :flI Tryz.prog 189 0=some 0:=by kernel_rfl
theorem fl_189_1 :flI Tryz.prog 189 1=some 1:=by kernel_rfl
theorem ti_204 :tyI Tryz.prog 204=some (false,1,24, [.slice none 0 0]):=by kernel_rfl
theorem sl_204 :slI Tryz.prog 204=some 5:=by kernel_rfl
theorem ti_247 :tyI Tryz.prog 247=some (true,65,65, [.int .u8 0, .int .u8 0, .int .u8 0, .int .u8 0, .int .u8 0, .int .u8 0, .int .u8 0, .int .u8 0, .int .u8 0, .int .u8 0, .int .u8 0, .int .u8 0, .int .u8 0, .int .u8 0, .int .u8 0, .int .u8 0, .int .u8 0, .int .u8 0, .int .u8 0, .int .u8 0, .int .u8 0, .int .u8 0, .int .u8 0, .int .u8 0, .int .u8 0, .int .u8 0, .int .u8 0, .int .u8 0, .int .u8 0, .int .u8 0, .int .u8 0, .int .u8 0, .int .u8 0, .int .u8 0, .int .u8 0, .int .u8 0, .int .u8 0, .int .u8 0, .int .u8 0, .int .u8 0, .int .u8 0, .int .u8 0, .int .u8 0, .int .u8 0, .int .u8 0, .int .u8 0, .int .u8 0, .int .u8 0, .int .u8 0, .int .u8 0, .int .u8 0, .int .u8 0, .int .u8 0, .int .u8 0, .int .u8 0, .int .u8 0, .int .u8 0, .int .u8 0, .int .u8 0, .int .u8 0, .int .u8 0, .int .u8 0, .int .u8 0, .int .u8 0, .int .u8 0]):=by kernel_rfl
theorem ti_266 :tyI Tryz.prog 266=some (true,3,24, [.bool false, .int .i64 0, .int .i64 0]):=by kernel_rfl
theorem fl_266_0 :flI Tryz.prog 266 0=some 0:=by kernel_rfl
theorem fl_266_1 :flI Tryz.prog 266 1=some 1:=by kernel_rfl
theorem fl_266_2 :flI Tryz.prog 266 2=some 2:=by kernel_rfl
theorem ti_267 :tyI Tryz.prog 267=some (false,1,24, [.slice none 0 0]):=by kernel_rfl
theorem sl_267 :slI Tryz.prog 267=some 266:=by kernel_rfl
theorem bd_16 :bodyI Tryz.prog 16=true:=by kernel_rfl
theorem bd_17 :bodyI Tryz.prog 17=true:=by kernel_rfl
theorem bd_18 :bodyI Tryz.prog 18=true:=by kernel_rfl
theorem bd_19 :bodyI Tryz.prog 19=true:=by kernel_rfl
theorem bd_43 :bodyI Tryz.prog 43=true:=by kernel_rfl
theorem bd_44 :bodyI Tryz.prog 44=true:=by kernel_rfl
theorem bd_45 :bodyI Tryz.prog 45=true:=by kernel_rfl
theorem bd_46 :bodyI Tryz.prog 46=true:=by kernel_rfl
theorem bd_47 :bodyI Tryz.prog 47=true:=by kernel_rfl
theorem bd_48 :bodyI Tryz.prog 48=true:=by kernel_rfl
theorem bd_49 :bodyI Tryz.prog 49=true:=by kernel_rfl
theorem bd_54 :bodyI Tryz.prog 54=true:=by kernel_rfl
theorem bd_55 :bodyI Tryz.prog 55=true:=by kernel_rfl
theorem bd_61 :bodyI Tryz.prog 61=true:=by kernel_rfl
theorem bd_81 :bodyI Tryz.prog 81=true:=by kernel_rfl
theorem bd_82 :bodyI Tryz.prog 82=true:=by kernel_rfl
theorem bd_83 :bodyI Tryz.prog 83=true:=by kernel_rfl
theorem bd_95 :bodyI Tryz.prog 95=true:=by kernel_rfl
theorem bd_98 :bodyI Tryz.prog 98=true:=by kernel_rfl
theorem bd_100 :bodyI Tryz.prog 100=true:=by kernel_rfl
theorem bd_101 :bodyI Tryz.prog 101=true:=by kernel_rfl
theorem bd_102 :bodyI Tryz.prog 102=true:=by kernel_rfl
theorem bd_103 :bodyI Tryz.prog 103=true:=by kernel_rfl
theorem bd_104 :bodyI Tryz.prog 104=true:=by kernel_rfl
theorem bd_105 :bodyI Tryz.prog 105=true:=by kernel_rfl
theorem bd_120 :bodyI Tryz.prog 120=true:=by kernel_rfl
theorem bd_121 :bodyI Tryz.prog 121=true:=by kernel_rfl
theorem bd_122 :bodyI Tryz.prog 122=true:=by kernel_rfl
theorem bd_123 :bodyI Tryz.prog 123=true:=by kernel_rfl
theorem bd_124 :bodyI Tryz.prog 124=true:=by kernel_rfl
theorem bd_125 :bodyI Tryz.prog 125=true:=by kernel_rfl
theorem bd_128 :bodyI Tryz.prog 128=true:=by kernel_rfl
theorem bd_129 :bodyI Tryz.prog 129=true:=by kernel_rfl
theorem bd_140 :bodyI Tryz.prog 140=true:=by kernel_rfl
theorem bd_141 :bodyI Tryz.prog 141=true:=by kernel_rfl
theorem bd_142 :bodyI Tryz.prog 142=true:=by kernel_rfl
theorem bd_143 :bodyI Tryz.prog 143=true:=by kernel_rfl
theorem bd_145 :bodyI Tryz.prog 145=true:=by kernel_rfl
theorem bd_146 :bodyI Tryz.prog 146=true:=by kernel_rfl
theorem bd_147 :bodyI Tryz.prog 147=true:=by kernel_rfl
theorem bd_153 :bodyI Tryz.prog 153=true:=by kernel_rfl
theorem bd_154 :bodyI Tryz.prog 154=true:=by kernel_rfl
theorem bd_163 :bodyI Tryz.prog 163=true:=by kernel_rfl
theorem bd_165 :bodyI Tryz.prog 165=true:=by kernel_rfl
theorem bd_167 :bodyI Tryz.prog 167=true:=by kernel_rfl
theorem bd_174 :bodyI Tryz.prog 174=true:=by kernel_rfl
theorem bd_178 :bodyI Tryz.prog 178=true:=by kernel_rfl
theorem bd_197 :bodyI Tryz.prog 197=true:=by kernel_rfl
theorem bd_200 :bodyI Tryz.prog 200=true:=by kernel_rfl
theorem bd_204 :bodyI Tryz.prog 204=true:=by kernel_rfl
theorem bd_205 :bodyI Tryz.prog 205=true:=by kernel_rfl
theorem bd_206 :bodyI Tryz.prog 206=true:=by kernel_rfl
theorem bd_208 :bodyI Tryz.prog 208=true:=by kernel_rfl
theorem bd_209 :bodyI Tryz.prog 209=true:=by kernel_rfl
theorem bd_210 :bodyI Tryz.prog 210=true:=by kernel_rfl
theorem bd_211 :bodyI Tryz.prog 211=true:=by kernel_rfl
theorem bd_212 :bodyI Tryz.prog 212=true:=by kernel_rfl
theorem bd_213 :bodyI Tryz.prog 213=true:=by kernel_rfl
theorem bd_214 :bodyI Tryz.prog 214=true:=by kernel_rfl
theorem bd_215 :bodyI Tryz.prog 215=true:=by kernel_rfl
theorem bd_216 :bodyI Tryz.prog 216=true:=by kernel_rfl
theorem bd_217 :bodyI Tryz.prog 217=true:=by kernel_rfl
theorem bd_218 :bodyI Tryz.prog 218=true:=by kernel_rfl
theorem bd_219 :bodyI Tryz.prog 219=true:=by kernel_rfl
set_option maxRecDepth 100000
set_option maxHeartbeats 1000000
def waitsB (op:Int):Bool:=decide (op=9∨op=11∨op=18)
theorem take_succ_nth {α:Type}[Inhabited α](l:List α)(k:Nat)(h:k<l.length):l.take (k+1)=l.take k++ [nth l k]:=by
 rw [List.take_succ_eq_append_getElem h,nth_lt l k h]
theorem ext_nth {α:Type}[Inhabited α](l m:List α)(hl:l.length=m.length)(h:∀i,i<l.length→nth l i=nth m i):l=m:=by
 apply List.ext_getElem hl
 intro i h1 h2
 have:=h i h1
 rwa [nth_lt l i h1,nth_lt m i h2] at this
def JumpsOK (code:List Ins):Prop:=∀i,i<code.length→((nth code i).op=14→0≤(nth code i).a∧(nth code i).a≤code.length)∧((nth code i).op=15→0≤(nth code i).b∧(nth code i).b≤code.length)
def placeL (become:List (List Ins))(i:Nat):Nat:=((become.take i).map List.length).sum
theorem placeL_succ (become:List (List Ins))(i:Nat)(h:i<become.length):placeL become (i+1)=placeL become i+(nth become i).length:=by
 unfold placeL
 rw [take_succ_nth _ _ h]
 simp
def fixIns (become:List (List Ins))(code:List Ins)(i:Nat)(x:Ins):Ins:=
 if x.op=14∧((nth code i).op=14∨(nth code i).op=15) then { x with a:=placeL become x.a.toNat }
 else if x.op=15∧(nth code i).op=15 then { x with b:=placeL become x.b.toNat }
 else if x.op=15∧(nth code i).op=17 then { x with b:=placeL become i } else x
def putUpto (become:List (List Ins))(code:List Ins)(i:Nat):List Ins:=(List.range i).flatMap fun i=>(nth become i).map (fixIns become code i)
def putL (become:List (List Ins))(code:List Ins):List Ins:=putUpto become code code.length
theorem putUpto_succ (become:List (List Ins))(code:List Ins)(i:Nat):putUpto become code (i+1)=putUpto become code i++(nth become i).map (fixIns become code i):=by
 simp [putUpto,List.range_succ]
instance : DecidableEq Pg:=fun p q=>by
 rcases p with ⟨a,b,c,d⟩;rcases q with ⟨a',b',c',d'⟩
 exact decidable_of_iff (a=a' ∧b=b' ∧c=c' ∧d=d') (by simp)
section
variable {code code2:Ls (Ls Ins)}{words words2:Ls Int}{locks regs locks2 regs2:Int}
end
set_option maxHeartbeats 2000000
theorem and_t' {p:Prop}[Decidable p]{b c:Bool}(h:p)(e:b=c):b=(decide p&&c):=by rw [decide_eq_true h,e];rfl
theorem and_f' {p:Prop}[Decidable p]{c:Bool}(h:¬p):false=(decide p&&c):=by rw [decide_eq_false h];rfl
theorem findsL_some {l:List Wt}{words:List Int}{w:Int}{i:Nat}(hi:i<l.length)(h1:(nth l i).lock=false)(h2:(nth l i).wh=w)(ha:∀j,i<j→j<l.length→¬((nth l j).lock=false∧(nth l j).wh=w)):findsL l words w=(nth l i).what:=by
 have e:l.reverse.find? (fun x=> !x.lock&&decide (x.wh=w))=some (nth l i):=by
  have hs:l=l.take i++nth l i::l.drop (i+1):=by
   have:=List.take_append_drop i l
   rw [List.drop_eq_getElem_cons hi] at this
   rw [show nth l i=l[i] from by simp [nth,hi]]
   exact this.symm
  rw [hs,List.reverse_append,List.reverse_cons,List.find?_append,List.find?_append]
  have hn:(l.drop (i+1)).reverse.find? (fun x=> !x.lock&&decide (x.wh=w))=none:=by
   rw [List.find?_eq_none]
   intro x hx
   rw [List.mem_reverse] at hx
   obtain ⟨k,hk,rfl⟩:=List.mem_iff_getElem.1 hx
   have hk2:i+1+k<l.length:=by simpa [Nat.lt_sub_iff_add_lt,Nat.add_comm] using hk
   have:=ha (i+1+k) (by omega) hk2
   rw [show nth l (i+1+k)=(l.drop (i+1))[k] from by simp [nth,hk2]] at this
   intro hc
   simp only [Bool.and_eq_true,Bool.not_eq_true',decide_eq_true_eq] at hc
   exact this hc
  rw [←hs,hn]
  simp [h1,h2]
 unfold findsL
 rw [e]
theorem findsL_none {l:List Wt}{words:List Int}{w:Int}(ha:∀j,j<l.length→¬((nth l j).lock=false∧(nth l j).wh=w)):findsL l words w=nth words w.toNat:=by
 have e:l.reverse.find? (fun x=> !x.lock&&decide (x.wh=w))=none:=by
  rw [List.find?_eq_none]
  intro x hx
  rw [List.mem_reverse] at hx
  obtain ⟨k,hk,rfl⟩:=List.mem_iff_getElem.1 hx
  have:=ha k hk
  rw [show nth l k=l[k] from by simp [nth,hk]] at this
  intro hc
  simp only [Bool.and_eq_true,Bool.not_eq_true',decide_eq_true_eq] at hc
  exact this hc
 unfold findsL
 rw [e]
set_option maxHeartbeats 4000000
set_option maxHeartbeats 20000000
structure InsR (R W L:Nat)(i:Ins):Prop where
 o1:i.op=1→0≤i.a∧i.a<R
 o2:i.op=2→(0≤i.a∧i.a<R)∧0≤i.b∧i.b<R
 o3:i.op=3∨i.op=4∨i.op=5∨i.op=6∨i.op=7→(0≤i.a∧i.a<R)∧(0≤i.b∧i.b<R)∧0≤i.c∧i.c<R
 o8:i.op=8→(0≤i.a∧i.a<R)∧0≤i.b∧i.b<W
 o9:i.op=9→(0≤i.a∧i.a<W)∧0≤i.b∧i.b<R
 o10:i.op=10∨i.op=11→(0≤i.a∧i.a<R)∧0≤i.b∧i.b<R
 o13:i.op=13→(0≤i.a∧i.a<W)∧(0≤i.b∧i.b<R)∧0≤i.c∧i.c<R
 o15:i.op=15∨i.op=16→0≤i.a∧i.a<R
 o17:i.op=17∨i.op=18→0≤i.a∧i.a<L
section
variable {m:Int}{n:Nat}{i:Ins}{x:TS}
theorem execT_1 (h:i.op=1):execT m n i x=x.put i.a i.b:=by simp [execT,h]
theorem execT_2 (h:i.op=2):execT m n i x=x.put i.a (x.reg i.b):=by simp [execT,h]
theorem execT_3 (h:i.op=3):execT m n i x=x.put i.a (wrap64 (x.reg i.b+x.reg i.c)):=by simp [execT,h]
theorem execT_4 (h:i.op=4):execT m n i x=x.put i.a (wrap64 (x.reg i.b-x.reg i.c)):=by simp [execT,h]
theorem execT_5 (h:i.op=5):execT m n i x=x.put i.a (wrap64 (x.reg i.b*x.reg i.c)):=by simp [execT,h]
theorem execT_6 (h:i.op=6):execT m n i x=x.put i.a (bit (decide (x.reg i.b<x.reg i.c))):=by simp [execT,h]
theorem execT_7 (h:i.op=7):execT m n i x=x.put i.a (bit (decide (x.reg i.b=x.reg i.c))):=by simp [execT,h]
theorem execT_8 (h:i.op=8):execT m n i x=x.put i.a (x.finds i.b):=by simp [execT,h]
theorem execT_9 (h:i.op=9):execT m n i x=x.store m ⟨false,i.a,x.reg i.b⟩:=by simp [execT,h]
theorem execT_10t (h:i.op=10)(h1:0≤x.reg i.b∧x.reg i.b<(x.words.length:Int)):execT m n i x=x.put i.a (x.finds (x.reg i.b)):=by simp [execT,h,TS.isWord,h1]
theorem execT_10f (h:i.op=10)(h1:¬(0≤x.reg i.b∧x.reg i.b<(x.words.length:Int))):execT m n i x= { x with fell:=true } :=by
 have e:x.isWord (x.reg i.b)=false:=decide_eq_false h1
 simp [execT,h,e]
theorem execT_11t (h:i.op=11)(h1:0≤x.reg i.a∧x.reg i.a<(x.words.length:Int)):execT m n i x=x.store m ⟨false,x.reg i.a,x.reg i.b⟩:=by simp [execT,h,TS.isWord,h1]
theorem execT_11f (h:i.op=11)(h1:¬(0≤x.reg i.a∧x.reg i.a<(x.words.length:Int))):execT m n i x= { x with fell:=true } :=by
 have e:x.isWord (x.reg i.a)=false:=decide_eq_false h1
 simp [execT,h,e]
theorem execT_13t (h:i.op=13)(h1:nth x.words i.a.toNat=x.reg i.b):execT m n i x= { x with words:=x.words.set i.a.toNat (x.reg i.c),regs:=x.regs.set i.b.toNat 1 } :=by simp [execT,h,h1]
theorem execT_13f (h:i.op=13)(h1:¬nth x.words i.a.toNat=x.reg i.b):execT m n i x=x.put i.b 0:=by simp [execT,h,h1]
theorem execT_14 (h:i.op=14):execT m n i x= { x with pc:=i.a } :=by simp [execT,h]
theorem execT_15t (h:i.op=15)(h1:x.reg i.a=0):execT m n i x= { x with pc:=i.b } :=by simp [execT,h,h1]
theorem execT_15f (h:i.op=15)(h1:¬x.reg i.a=0):execT m n i x=x:=by simp [execT,h,h1]
theorem execT_16 (h:i.op=16):execT m n i x= { x with prints:=x.prints++ [(n:Int),x.reg i.a] } :=by simp [execT,h]
theorem execT_17 (h:i.op=17):execT m n i x= { x with owner:=x.owner.set i.a.toNat n } :=by simp [execT,h]
theorem execT_18a (h:i.op=18)(h1:nth x.owner i.a.toNat≠n):execT m n i x= { x with fell:=true } :=by simp [execT,h,h1]
theorem execT_18b (h:i.op=18)(h1:¬nth x.owner i.a.toNat≠n)(j:Nat)(hj:j<x.wait.length)(hl:(nth x.wait j).lock=true)(hw:(nth x.wait j).wh=i.a):execT m n i x= { x with fell:=true } :=by
 have e:x.holds i.a=true:=List.any_eq_true.2 ⟨_,nth_mem _ _ hj,by simp [hl,hw]⟩
 simp [execT,h,e]
theorem execT_18c (h:i.op=18)(h1:¬nth x.owner i.a.toNat≠n)(hall:∀q,q<x.wait.length→¬((nth x.wait q).lock=true∧(nth x.wait q).wh=i.a)):execT m n i x=x.store m ⟨true,i.a,0⟩:=by
 have e:x.holds i.a=false:=by
  unfold TS.holds
  rw [List.any_eq_false]
  intro y hy
  obtain ⟨k,hk,rfl⟩:=List.mem_iff_getElem.1 hy
  have:=hall k hk
  rw [show nth x.wait k=x.wait[k] from nth_lt _ _ hk] at this
  simpa using this
 have h1' :nth x.owner i.a.toNat=n:=Decidable.not_not.1 h1
 simp [execT,h,h1',e]
theorem execT_no (h:¬i.op=1∧¬i.op=2∧¬i.op=3∧¬i.op=4∧¬i.op=5∧¬i.op=6∧¬i.op=7∧¬i.op=8∧¬i.op=9∧¬i.op=10∧¬i.op=11∧¬i.op=13∧¬i.op=14∧¬i.op=15∧¬i.op=16∧¬i.op=17∧¬i.op=18):execT m n i x=x:=by
 obtain ⟨h1,h2,h3,h4,h5,h6,h7,h8,h9,h10,h11,h13,h14,h15,h16,h17,h18⟩:=h
 simp [execT,h1,h2,h3,h4,h5,h6,h7,h8,h9,h10,h11,h13,h14,h15,h16,h17,h18]
theorem or_f {b:Bool}{p:Prop}[Decidable p](h:decide p=true):(b|| !decide p)=b:=by rw [h];simp
theorem or_t {b:Bool}{p:Prop}[Decidable p](h:decide p=false):(b|| !decide p)=true:=by rw [h];simp
end
theorem doT_0 {m:Int}{n:Nat}{c:List Ins}{k:Nat}{x:TS}(hk:k=0):doT m n c k x=execT m n (nextIns c x.pc) { x with pc:=x.pc+1 } :=by subst hk;rfl
def wtN (x:Wt):List Int:= [if x.lock=true then 1 else 0,x.wh,x.what]
def sumStep (h:Nat)(x:Int):Nat:=((h^^^toU x)*1099511628211%18446744073709551616)^^^(((h^^^toU x)*1099511628211%18446744073709551616)/2^29)
def sumL (l:List Int):Nat:=l.foldl sumStep (toU (l.length:Int))%4096
theorem sumL_lt (l:List Int):sumL l<4096:=Nat.mod_lt _ (by decide)
def lessB :List Int→List Int→Bool
 |a::l,b::m=>if a=b then lessB l m else decide (a<b)
 |l,m=>decide (l.length<m.length)
def aheadB (a b:Outc):Bool:=if a.st=b.st then (if a.words=b.words then lessB a.prints b.prints else lessB a.words b.words) else decide (a.st<b.st)
theorem LsNil {α:Type}[Enc α](w:World):(⟨.slice none 0 0, []⟩:Ls α).At w:=own_at (E:=0) (World.ownsRow_nil w 0 0 _|>fun h=>⟨h,by simp,fun i hi=>absurd hi (by simp)⟩)
def LastSum (ks:List (List Int))(n h:Nat)(r:Int):Prop:=(r= -1∧∀j,j<n→sumL (nth ks j)≠h)∨∃k:Nat,r=k∧k<n∧sumL (nth ks k)=h∧∀j,k<j→j<n→sumL (nth ks j)≠h
theorem LastSum.lt {ks:List (List Int)}{n h:Nat}{r:Int}(hl:LastSum ks n h r): -1≤r∧r<n:=by
 rcases hl with ⟨h,_⟩|⟨k,h,h2,_⟩<;>omega
theorem LastSum.at {ks:List (List Int)}{n h:Nat}{r:Int}(hl:LastSum ks n h r)(h0:0≤r):sumL (nth ks r.toNat)=h∧∀j,r.toNat<j→j<n→sumL (nth ks j)≠h:=by
 rcases hl with ⟨h,_⟩|⟨k,rfl,h2,h3,h4⟩
 ·omega
 ·exact ⟨by simpa using h3,fun j hj=>h4 j (by simpa using hj)⟩
theorem LastSum.none {ks:List (List Int)}{n h:Nat}{r:Int}(hl:LastSum ks n h r)(h0:¬0≤r):∀j,j<n→sumL (nth ks j)≠h:=by
 rcases hl with ⟨_,h⟩|⟨k,rfl,_⟩
 ·exact h
 ·omega
structure HeadsOK (ks:List (List Int))(heads before:List Int):Prop where
 hl:heads.length=4096
 bl:before.length=ks.length
 hd:∀h,h<4096→LastSum ks ks.length h (nth heads h)
 bf:∀i,i<ks.length→LastSum ks i (sumL (nth ks i)) (nth before i)
theorem nth_app0 {α:Type}[Inhabited α](l m:List α)(k:Nat):nth (l++m) k=if k<l.length then nth l k else nth m (k-l.length):=by
 simp only [nth,List.getD]
 by_cases h:k<l.length
 ·rw [List.getElem?_append_left h,if_pos h]
 ·rw [List.getElem?_append_right (by omega),if_neg h]
theorem LastSum.more {ks:List (List Int)}{n h:Nat}{r:Int}(x:List Int)(hl:LastSum ks n h r)(hn:n≤ks.length):LastSum (ks++ [x]) n h r:=by
 have e:∀j,j<n→nth (ks++ [x]) j=nth ks j:=fun j hj=>by rw [nth_app0,if_pos (by omega)]
 rcases hl with ⟨h1,h2⟩|⟨k,h1,h2,h3,h4⟩
 ·exact .inl ⟨h1,fun j hj=>by rw [e j hj];exact h2 j hj⟩
 ·exact .inr ⟨k,h1,h2,by rw [e k h2];exact h3,fun j hj hj2=>by rw [e j hj2];exact h4 j hj hj2⟩
theorem HeadsOK.put {ks:List (List Int)}{heads before:List Int}(h:HeadsOK ks heads before)(x:List Int):HeadsOK (ks++ [x]) (heads.set (sumL x) ((ks.length:Nat):Int)) (before++ [nth heads (sumL x)]):=by
 have hx:nth (ks++ [x]) ks.length=x:=by rw [nth_app0,if_neg (by omega)];simp [nth]
 refine ⟨by simpa using h.hl,by simp [h.bl],fun s hs=> ?_,fun i hi=> ?_⟩
 ·rw [nth_set]
  by_cases e:sumL x=s
  ·rw [if_pos ⟨e,by rw [h.hl];exact sumL_lt x⟩]
   exact .inr ⟨ks.length,rfl,by simp,by rw [hx];exact e,fun j hj hj2=>by simp at hj2;omega⟩
  ·rw [if_neg (fun hh=>e hh.1)]
   rcases h.hd s hs with ⟨h1,h2⟩|⟨k,h1,h2,h3,h4⟩
   ·refine .inl ⟨h1,fun j hj=> ?_⟩
    simp at hj
    rcases Nat.lt_or_ge j ks.length with hlt|hge
    ·rw [nth_app0,if_pos hlt];exact h2 j hlt
    ·obtain rfl:j=ks.length:=by omega
     rw [hx];exact e
   ·refine .inr ⟨k,h1,by simp;omega,by rw [nth_app0,if_pos h2];exact h3,fun j hj hj2=> ?_⟩
    simp at hj2
    rcases Nat.lt_or_ge j ks.length with hlt|hge
    ·rw [nth_app0,if_pos hlt];exact h4 j hj hlt
    ·obtain rfl:j=ks.length:=by omega
     rw [hx];exact e
 ·simp at hi
  rcases Nat.lt_or_ge i ks.length with hlt|hge
  ·rw [nth_app0 ks,if_pos hlt,nth_app0 before,if_pos (by rw [h.bl];exact hlt)]
   exact (h.bf i hlt).more x (by omega)
  ·obtain rfl:i=ks.length:=by omega
   rw [hx,nth_app0 before,if_neg (by rw [h.bl];omega),h.bl]
   have:=(h.hd (sumL x) (sumL_lt x)).more x (Nat.le_refl _)
   simpa [nth] using this
def PutRel (o:OutL)(l l' :List OutL):Prop:=((∃i,i<l.length∧aheadB o.out (nth l i).out=false∧aheadB (nth l i).out o.out=false)∧l' =l)∨
 ∃k,k≤l.length∧(∀j,j<k→aheadB o.out (nth l j).out=false∧aheadB (nth l j).out o.out=true)∧(k<l.length→aheadB o.out (nth l k).out=true)∧l' =l.take k++o::l.drop k
def PutInv (o:OutL)(l:List OutL)(i:Nat)(dn:Bool)(ol:List OutL):Prop:=(dn=false∧ol=l.take i∧∀j,j<i→aheadB o.out (nth l j).out=false∧aheadB (nth l j).out o.out=true)∨
 (dn=true∧∃k,k<i∧k<l.length∧(∀j,j<k→aheadB o.out (nth l j).out=false∧aheadB (nth l j).out o.out=true)∧aheadB o.out (nth l k).out=true∧ol=l.take k++o::(l.drop k).take (i-k))
theorem PutInv.one {o:OutL}{l ol:List OutL}{i:Nat}(h:PutInv o l i false ol)(hi:i<l.length)(h1:aheadB o.out (nth l i).out=true):PutInv o l (i+1) true ((ol++ [o])++ [nth l i]):=by
 rcases h with ⟨_,h2,h3⟩|⟨h,_⟩
 ·refine .inr ⟨rfl,i,by omega,hi,h3,h1, ?_⟩
  have e1:(l.drop i).take 1= [nth l i]:=by rw [List.drop_eq_getElem_cons hi,nth_lt l i hi];rfl
  rw [h2,show i+1-i=1 by omega,e1]
  simp
 ·cases h
theorem PutInv.two {o:OutL}{l ol:List OutL}{i:Nat}{dn:Bool}(h:PutInv o l i dn ol)(hi:i<l.length)(h1:dn=true∨(aheadB o.out (nth l i).out=false∧aheadB (nth l i).out o.out=true)):PutInv o l (i+1) dn (ol++ [nth l i]):=by
 rcases h with ⟨h,h2,h3⟩|⟨h,k,h2,h3,h4,h5,h6⟩
 ·refine .inl ⟨h,by rw [h2,take_succ_nth _ _ hi],fun j hj=> ?_⟩
  rcases Nat.lt_or_ge j i with hlt|hge
  ·exact h3 j hlt
  ·obtain rfl:j=i:=by omega
   rcases h1 with h1|h1
   ·rw [h] at h1;cases h1
   ·exact h1
 ·refine .inr ⟨h,k,by omega,h3,h4,h5, ?_⟩
  rw [h6,show i+1-k=(i-k)+1 by omega,take_succ_nth _ _ (by simp;omega)]
  have:nth (l.drop k) (i-k)=nth l i:=by simp only [nth,List.getD,List.getElem?_drop,show k+(i-k)=i by omega]
  rw [this];simp
theorem PutInv.rel {o:OutL}{l ol:List OutL}{i:Nat}(h:PutInv o l i true ol)(hi:i=l.length):PutRel o l ol:=by
 rcases h with ⟨h,_⟩|⟨_,k,h2,h3,h4,h5,h6⟩
 ·cases h
 ·exact .inr ⟨k,by omega,h4,fun _=>h5,by rw [h6,List.take_of_length_le (l:=l.drop k) (by rw [List.length_drop];omega)]⟩
theorem PutInv.len {o:OutL}{l ol:List OutL}{i:Nat}{dn:Bool}(h:PutInv o l i dn ol)(hi:i≤l.length):ol.length≤i+1:=by
 rcases h with ⟨_,h2,_⟩|⟨_,k,h2,h3,_,_,h6⟩
 ·rw [h2];simp;omega
 ·rw [h6];simp;omega
theorem fit_r {p:Pg}{size n:Int}(h:fitsG p size 114 n=true):0≤n∧n<p.regs:=by
 unfold fitsG at h
 simp only [Int.reduceEq,if_false,if_true,Bool.and_eq_true,decide_eq_true_eq] at h
 exact h
theorem fit_w {p:Pg}{size n:Int}(h:fitsG p size 119 n=true):0≤n∧n<p.words.length:=by
 unfold fitsG at h
 simp only [Int.reduceEq,if_false,if_true,Bool.and_eq_true,decide_eq_true_eq] at h
 exact h
theorem fit_l {p:Pg}{size n:Int}(h:fitsG p size 108 n=true):0≤n∧n<p.locks:=by
 unfold fitsG at h
 simp only [Int.reduceEq,if_false,if_true,Bool.and_eq_true,decide_eq_true_eq] at h
 exact h
theorem fit_c {p:Pg}{size n:Int}(hs:0≤size∧size≤100000)(h:fitsG p size 99 n=true):0≤n∧n≤size:=by
 unfold fitsG at h
 simp only [Int.reduceEq,if_false,if_true,Bool.and_eq_true,decide_eq_true_eq] at h
 rw [IntWalk.wrap64_in _ ⟨by omega,by omega⟩] at h
 omega
theorem num0 {p:Pg}{size:Int}{x:Ins}(h:okNumG p size x 0=true){b:UInt8}{r:List UInt8}(hk:kindsB x.op=⟨(b::r).toArray⟩):fitsG p size (b.toNat:Int) x.a=true:=by
 unfold okNumG at h
 rw [hk] at h
 rw [dif_pos (by simp [ByteArray.size])] at h
 exact h
theorem num1 {p:Pg}{size:Int}{x:Ins}(h:okNumG p size x 1=true){a b:UInt8}{r:List UInt8}(hk:kindsB x.op=⟨(a::b::r).toArray⟩):fitsG p size (b.toNat:Int) x.b=true:=by
 unfold okNumG at h
 rw [hk] at h
 rw [dif_pos (by simp [ByteArray.size])] at h
 exact h
theorem num2 {p:Pg}{size:Int}{x:Ins}(h:okNumG p size x 2=true){a b c:UInt8}{r:List UInt8}(hk:kindsB x.op=⟨(a::b::c::r).toArray⟩):fitsG p size (c.toNat:Int) x.c=true:=by
 unfold okNumG at h
 rw [hk] at h
 rw [dif_pos (by simp [ByteArray.size])] at h
 exact h
theorem insR_ok {p:Pg}{size:Int}{x:Ins}(hs:0≤size∧size≤100000)(hr:0≤p.regs)(hl:0≤p.locks)(h:OkIns p size x):InsR p.regs.toNat p.words.length p.locks.toNat x∧(x.op=14→0≤x.a∧x.a≤size)∧(x.op=15→0≤x.b∧x.b≤size):=by
 have er:(p.regs.toNat:Int)=p.regs:=Int.toNat_of_nonneg hr
 have el:(p.locks.toNat:Int)=p.locks:=Int.toNat_of_nonneg hl
 have h0:=h.n0
 have h1:=h.n1
 have h2:=h.n2
 refine ⟨⟨fun e=> ?_,fun e=> ?_,fun e=> ?_,fun e=> ?_,fun e=> ?_,fun e=> ?_,fun e=> ?_,fun e=> ?_,fun e=> ?_⟩,fun e=> ?_,fun e=> ?_⟩
 ·have k:kindsB x.op=⟨[114,110].toArray⟩:=by rw [e];unfold kindsB;simp
  rw [er];exact fit_r (num0 h0 k)
 ·have k:kindsB x.op=⟨[114,114].toArray⟩:=by rw [e];unfold kindsB;simp
  rw [er];exact ⟨fit_r (num0 h0 k),fit_r (num1 h1 k)⟩
 ·have k:kindsB x.op=⟨[114,114,114].toArray⟩:=by rcases e with e|e|e|e|e<;>(rw [e];unfold kindsB;simp)
  rw [er];exact ⟨fit_r (num0 h0 k),fit_r (num1 h1 k),fit_r (num2 h2 k)⟩
 ·have k:kindsB x.op=⟨[114,119].toArray⟩:=by rw [e];unfold kindsB;simp
  rw [er];exact ⟨fit_r (num0 h0 k),fit_w (num1 h1 k)⟩
 ·have k:kindsB x.op=⟨[119,114].toArray⟩:=by rw [e];unfold kindsB;simp
  rw [er];exact ⟨fit_w (num0 h0 k),fit_r (num1 h1 k)⟩
 ·have k:kindsB x.op=⟨[114,114].toArray⟩:=by rcases e with e|e<;>(rw [e];unfold kindsB;simp)
  rw [er];exact ⟨fit_r (num0 h0 k),fit_r (num1 h1 k)⟩
 ·have k:kindsB x.op=⟨[119,114,114].toArray⟩:=by rw [e];unfold kindsB;simp
  rw [er];exact ⟨fit_w (num0 h0 k),fit_r (num1 h1 k),fit_r (num2 h2 k)⟩
 ·rw [er]
  rcases e with e|e
  ·have k:kindsB x.op=⟨[114,99].toArray⟩:=by rw [e];unfold kindsB;simp
   exact fit_r (num0 h0 k)
  ·have k:kindsB x.op=⟨[114].toArray⟩:=by rw [e];unfold kindsB;simp
   exact fit_r (num0 h0 k)
 ·have k:kindsB x.op=⟨[108].toArray⟩:=by rcases e with e|e<;>(rw [e];unfold kindsB;simp)
  rw [el];exact fit_l (num0 h0 k)
 ·have k:kindsB x.op=⟨[99].toArray⟩:=by rw [e];unfold kindsB;simp
  exact fit_c hs (num0 h0 k)
 ·have k:kindsB x.op=⟨[114,99].toArray⟩:=by rw [e];unfold kindsB;simp
  exact fit_c hs (num1 h1 k)
theorem OkPg.insR {p:Pg}(h:OkPg p){t i:Nat}(ht:t<p.code.length)(hi:i<(nth p.code t).length):InsR p.regs.toNat p.words.length p.locks.toNat (nth (nth p.code t) i)∧((nth (nth p.code t) i).op=14→0≤(nth (nth p.code t) i).a∧(nth (nth p.code t) i).a≤(nth p.code t).length)∧((nth (nth p.code t) i).op=15→0≤(nth (nth p.code t) i).b∧(nth (nth p.code t) i).b≤(nth p.code t).length):=by
 have hl:=h.len t ht
 have:=h.regs
 have:=h.locks
 exact insR_ok ⟨by omega,by omega⟩ (by omega) (by omega) (h.ins t i ht hi)
structure WfS (R W L C:Nat)(x:TS):Prop where
 pc:0≤x.pc∧x.pc≤C
 regs:x.regs.length=R
 wait:x.wait.length≤3
 wt:∀w∈x.wait,if w.lock=true then 0≤w.wh∧w.wh<L else 0≤w.wh∧w.wh<W
 words:x.words.length=W
 owner:x.owner.length=L
section
variable {R W L C:Nat}{x:TS}
theorem WfS.put (h:WfS R W L C x)(k v:Int):WfS R W L C (x.put k v):=⟨h.pc,by simpa [TS.put] using h.regs,h.wait,h.wt,h.words,h.owner⟩
theorem WfS.fell (h:WfS R W L C x):WfS R W L C { x with fell:=true } :=⟨h.pc,h.regs,h.wait,h.wt,h.words,h.owner⟩
theorem WfS.done (h:WfS R W L C x)(w:Wt):WfS R W L C (x.done w):=by
 refine ⟨h.pc,h.regs,h.wait,h.wt, ?_, ?_⟩
 ·show (if w.lock=true then x.words else x.words.set w.wh.toNat w.what).length=W
  split
  ·exact h.words
  ·rw [List.length_set];exact h.words
 ·show (if w.lock=true then x.owner.set w.wh.toNat (-1) else x.owner).length=L
  split
  ·rw [List.length_set];exact h.owner
  ·exact h.owner
theorem WfS.store (h:WfS R W L C x){m:Int}{w:Wt}(hw:if w.lock=true then 0≤w.wh∧w.wh<L else 0≤w.wh∧w.wh<W)(hl:x.wait.length<3):WfS R W L C (x.store m w):=by
 unfold TS.store
 split
 ·refine ⟨h.pc,h.regs,by simp;omega,fun y hy=> ?_,h.words,h.owner⟩
  rcases List.mem_append.1 hy with hy|hy
  ·exact h.wt y hy
  ·obtain rfl:y=w:=by simpa using hy
   exact hw
 ·exact h.done w
theorem WfS.exec (h:WfS R W L C x){m:Int}{n:Nat}{i:Ins}(hR:InsR R W L i)(h14:i.op=14→0≤i.a∧i.a≤C)(h15:i.op=15→0≤i.b∧i.b≤C)(ha:ableL x.owner x.wait.length i=true):WfS R W L C (execT m n i x):=by
 have hst:i.op=9∨i.op=11∨i.op=18→x.wait.length<3:=by
  intro e
  unfold ableL at ha
  rw [if_pos e] at ha
  exact of_decide_eq_true ha
 by_cases e1:i.op=1
 ·rw [execT_1 e1];exact h.put _ _
 by_cases e2:i.op=2
 ·rw [execT_2 e2];exact h.put _ _
 by_cases e3:i.op=3
 ·rw [execT_3 e3];exact h.put _ _
 by_cases e4:i.op=4
 ·rw [execT_4 e4];exact h.put _ _
 by_cases e5:i.op=5
 ·rw [execT_5 e5];exact h.put _ _
 by_cases e6:i.op=6
 ·rw [execT_6 e6];exact h.put _ _
 by_cases e7:i.op=7
 ·rw [execT_7 e7];exact h.put _ _
 by_cases e8:i.op=8
 ·rw [execT_8 e8];exact h.put _ _
 by_cases e9:i.op=9
 ·rw [execT_9 e9]
  have q:=hR.o9 e9
  exact h.store (by show if (false=true) then _ else _;rw [if_neg Bool.false_ne_true];exact q.1) (hst (.inl e9))
 by_cases e10:i.op=10
 ·by_cases hw:0≤x.reg i.b∧x.reg i.b<(x.words.length:Int)
  ·rw [execT_10t e10 hw];exact h.put _ _
  ·rw [execT_10f e10 hw];exact h.fell
 by_cases e11:i.op=11
 ·by_cases hw:0≤x.reg i.a∧x.reg i.a<(x.words.length:Int)
  ·rw [execT_11t e11 hw]
   rw [h.words] at hw
   exact h.store (by show if (false=true) then _ else _;rw [if_neg Bool.false_ne_true];exact hw) (hst (.inr (.inl e11)))
  ·rw [execT_11f e11 hw];exact h.fell
 by_cases e13:i.op=13
 ·by_cases hw:nth x.words i.a.toNat=x.reg i.b
  ·rw [execT_13t e13 hw]
   exact ⟨h.pc,by simpa using h.regs,h.wait,h.wt,by simpa using h.words,h.owner⟩
  ·rw [execT_13f e13 hw];exact h.put _ _
 by_cases e14:i.op=14
 ·rw [execT_14 e14];exact ⟨h14 e14,h.regs,h.wait,h.wt,h.words,h.owner⟩
 by_cases e15:i.op=15
 ·by_cases hw:x.reg i.a=0
  ·rw [execT_15t e15 hw];exact ⟨h15 e15,h.regs,h.wait,h.wt,h.words,h.owner⟩
  ·rw [execT_15f e15 hw];exact h
 by_cases e16:i.op=16
 ·rw [execT_16 e16];exact ⟨h.pc,h.regs,h.wait,h.wt,h.words,h.owner⟩
 by_cases e17:i.op=17
 ·rw [execT_17 e17];exact ⟨h.pc,h.regs,h.wait,h.wt,h.words,by simpa using h.owner⟩
 by_cases e18:i.op=18
 ·have q:=hR.o17 (.inr e18)
  by_cases hw:nth x.owner i.a.toNat≠n
  ·rw [execT_18a e18 hw];exact h.fell
  ·by_cases hh:∃j,j<x.wait.length∧(nth x.wait j).lock=true∧(nth x.wait j).wh=i.a
   ·obtain ⟨j,hj,h1,h2⟩:=hh
    rw [execT_18b e18 hw j hj h1 h2];exact h.fell
   ·rw [execT_18c e18 hw (fun q hq hc=>hh ⟨q,hq,hc⟩)]
    exact h.store (by show if (true=true) then _ else _;rw [if_pos rfl];exact q) (hst (.inr (.inr e18)))
 rw [execT_no ⟨e1,e2,e3,e4,e5,e6,e7,e8,e9,e10,e11,e13,e14,e15,e16,e17,e18⟩]
 exact h
end
theorem mvOK_k {m:Int}{c:List Ins}{x:TS}{k:Nat}(h:mvOK m c x k=true):(k=0∧x.pc<c.length∧ableL x.owner x.wait.length (nextIns c x.pc)=true)∨(0<k∧k≤x.wait.length∧mayK m x.wait (k-1)=true):=by
 unfold mvOK at h
 split at h
 ·rename_i hk
  left
  unfold ableV at h
  simp only [Bool.and_eq_true,decide_eq_true_eq] at h
  exact ⟨hk,h⟩
 ·right
  simp only [Bool.and_eq_true,decide_eq_true_eq] at h
  exact ⟨by omega,h⟩
theorem WfS.doT {R W L:Nat}{x:TS}{m:Int}{n k:Nat}{c:List Ins}(h:WfS R W L c.length x)(hR:∀i,i<c.length→InsR R W L (nth c i)∧((nth c i).op=14→0≤(nth c i).a∧(nth c i).a≤c.length)∧((nth c i).op=15→0≤(nth c i).b∧(nth c i).b≤c.length))(hk:mvOK m c x k=true):WfS R W L c.length (Go.Proofs.YtmjkobhkkjgplaaGreatDoor.doT m n c k x):=by
 have hpc:=h.pc
 rcases mvOK_k hk with ⟨rfl,h1,h2⟩|⟨h1,h2,h3⟩
 ·rw [doT_0 rfl]
  have hn:nextIns c x.pc=nth c x.pc.toNat:=nextIns_t h1
  obtain ⟨q1,q2,q3⟩:=hR x.pc.toNat (by omega)
  rw [hn] at h2⊢
  exact WfS.exec (x:= { x with pc:=x.pc+1 }) ⟨⟨by show 0≤x.pc+1;omega,by show x.pc+1≤_;omega⟩,h.regs,h.wait,h.wt,h.words,h.owner⟩ q1 q2 q3 h2
 ·unfold Go.Proofs.YtmjkobhkkjgplaaGreatDoor.doT
  rw [if_pos h1]
  have hd:=h.done (nth x.wait (k-1))
  exact ⟨hd.pc,hd.regs,by show (x.wait.eraseIdx (k-1)).length≤3;have:=List.length_eraseIdx_le x.wait (k-1);have:=h.wait;omega,fun w hw=>h.wt w (List.mem_of_mem_eraseIdx hw),hd.words,hd.owner⟩
structure Wf (p:Pg)(s:MSt):Prop where
 ths:s.ths.length=p.code.length
 th:∀t,t<p.code.length→WfS p.regs.toNat p.words.length p.locks.toNat (nth p.code t).length (s.view t)
 words:s.words.length=p.words.length
 owner:s.owner.length=p.locks.toNat
theorem nth_set0 {α:Type}[Inhabited α](l:List α)(i k:Nat)(x:α):nth (l.set i x) k=if i=k∧i<l.length then x else nth l k:=by
 simp only [nth,List.getD,List.getElem?_set]
 by_cases h:i=k
 ·subst h
  by_cases h2:i<l.length<;>simp [h2]
 ·simp [h]
theorem putT_view {s:MSt}{t:Nat}{y:TS}(ht:t<s.ths.length):(s.putT t y).view t= { y with fell:=false } :=by
 unfold MSt.view MSt.putT
 simp [nth_set0,ht]
theorem putT_other {s:MSt}{t u:Nat}{y:TS}(h:t≠u):(s.putT t y).view u=⟨(s.view u).pc,(s.view u).regs,(s.view u).wait,y.words,y.owner,y.prints,false⟩:=by
 unfold MSt.view MSt.putT
 simp only [nth_set0]
 rw [if_neg (fun hh=>h hh.1)]
theorem Wf.begin_ {p:Pg}(h:OkPg p):Wf p (begin_ p):=by
 refine ⟨by simp [Go.Proofs.YtmjkobhkkjgplaaGreatDoor.begin_],fun t ht=> ?_,rfl,by simp [Go.Proofs.YtmjkobhkkjgplaaGreatDoor.begin_]⟩
 have e:nth (Go.Proofs.YtmjkobhkkjgplaaGreatDoor.begin_ p).ths t=⟨0,List.replicate p.regs.toNat 0, []⟩:=by
  unfold Go.Proofs.YtmjkobhkkjgplaaGreatDoor.begin_
  rw [nth_map' _ _ _ ht]
 unfold MSt.view
 rw [e]
 exact ⟨⟨Int.le_refl _,by simp⟩,by simp,by simp,fun w hw=>(by cases hw),rfl,by simp [Go.Proofs.YtmjkobhkkjgplaaGreatDoor.begin_]⟩
theorem Wf.step {p:Pg}(hok:OkPg p){s:MSt}(h:Wf p s){m:Int}{t k:Nat}(ht:t<p.code.length)(hk:mvOK m (nth p.code t) (s.view t) k=true):Wf p (s.putT t (stepT p m s t k)):=by
 have h1:=(h.th t ht).doT (m:=m) (n:=t) (fun i hi=>hok.insR ht hi) hk
 refine ⟨by simpa [MSt.putT] using h.ths,fun u hu=> ?_,h1.words,h1.owner⟩
 by_cases e:t=u
 ·subst e
  rw [putT_view (by rw [h.ths];exact ht)]
  exact ⟨h1.pc,h1.regs,h1.wait,h1.wt,h1.words,h1.owner⟩
 ·rw [putT_other e]
  have h2:=h.th u hu
  exact ⟨h2.pc,h2.regs,h2.wait,h2.wt,h1.words,h1.owner⟩
inductive Reach (p:Pg)(m:Int):MSt→Prop
 |start:Reach p m (begin_ p)
 |step {s:MSt} {t k:Nat} :Reach p m s→t<p.code.length→mvOK m (nth p.code t) (s.view t) k=true→(stepT p m s t k).fell=false→Reach p m (s.putT t (stepT p m s t k))
def Stuck_ (p:Pg)(m:Int)(s:MSt):Prop:=∀t k,t<p.code.length→mvOK m (nth p.code t) (s.view t) k=false
inductive Outs (p:Pg)(m:Int):Outc→Prop
 |done {s:MSt} :Reach p m s→ended p s=true→Outs p m ⟨0,s.words,s.prints⟩
 |stuck {s:MSt} :Reach p m s→ended p s=false→Stuck_ p m s→Outs p m ⟨2,s.words,s.prints⟩
 |fell {s:MSt} {t k:Nat} :Reach p m s→t<p.code.length→mvOK m (nth p.code t) (s.view t) k=true→(stepT p m s t k).fell=true→Outs p m ⟨1, [],(stepT p m s t k).prints⟩
theorem Reach.wf {p:Pg}(hok:OkPg p){m:Int}{s:MSt}(h:Reach p m s):Wf p s:=by
 induction h with
 |start=>exact Wf.begin_ hok
 |step _ ht hk _ ih=>exact ih.step hok ht hk
theorem mem_mvs {m:Int}{c:List Ins}{t:Nat}{x:TS}{v:Int} :v∈mvs m c t x↔∃k,mvOK m c x k=true∧v=((8*t+k:Nat):Int):=by
 unfold mvs
 rw [List.mem_append]
 constructor
 ·rintro (h|h)
  ·split at h
   ·rename_i ha
    exact ⟨0,by unfold mvOK;rw [if_pos rfl];exact ha,by simpa using h⟩
   ·cases h
  ·obtain ⟨k,hk,rfl⟩:=List.mem_map.1 h
   obtain ⟨h1,h2⟩:=List.mem_filter.1 hk
   refine ⟨k+1, ?_,rfl⟩
   unfold mvOK
   rw [if_neg (by omega)]
   have:k+1≤x.wait.length:=by have:=List.mem_range.1 h1;omega
   simp [this,h2]
 ·rintro ⟨k,hk,rfl⟩
  rcases mvOK_k hk with ⟨rfl,h1,h2⟩|⟨h1,h2,h3⟩
  ·left
   have:ableV c x=true:=by unfold ableV;simp [h1,h2]
   rw [if_pos this];simp
  ·right
   refine List.mem_map.2 ⟨k-1,List.mem_filter.2 ⟨by simp;omega,h3⟩, ?_⟩
   rw [show 8*t+(k-1)+1=8*t+k by omega]
theorem mem_moves {p:Pg}{m:Int}{s:MSt}{v:Int} :v∈moves p m s↔∃t k,t<p.code.length∧mvOK m (nth p.code t) (s.view t) k=true∧v=((8*t+k:Nat):Int):=by
 unfold moves
 rw [List.mem_flatMap]
 constructor
 ·rintro ⟨t,ht,h⟩
  obtain ⟨k,hk,e⟩:=mem_mvs.1 h
  exact ⟨t,k,by simpa using ht,hk,e⟩
 ·rintro ⟨t,k,ht,hk,e⟩
  exact ⟨t,by simpa using ht,mem_mvs.2 ⟨k,hk,e⟩⟩
theorem store_prints (m:Int)(x:TS)(w:Wt):(x.store m w).prints=x.prints:=by unfold TS.store;split<;>rfl
theorem execT_prints (m:Int)(n:Nat)(i:Ins)(x:TS):(execT m n i x).prints.length≤x.prints.length+2:=by
 by_cases e1:i.op=1
 ·rw [execT_1 e1];show x.prints.length≤_;omega
 by_cases e2:i.op=2
 ·rw [execT_2 e2];show x.prints.length≤_;omega
 by_cases e3:i.op=3
 ·rw [execT_3 e3];show x.prints.length≤_;omega
 by_cases e4:i.op=4
 ·rw [execT_4 e4];show x.prints.length≤_;omega
 by_cases e5:i.op=5
 ·rw [execT_5 e5];show x.prints.length≤_;omega
 by_cases e6:i.op=6
 ·rw [execT_6 e6];show x.prints.length≤_;omega
 by_cases e7:i.op=7
 ·rw [execT_7 e7];show x.prints.length≤_;omega
 by_cases e8:i.op=8
 ·rw [execT_8 e8];show x.prints.length≤_;omega
 by_cases e9:i.op=9
 ·rw [execT_9 e9,store_prints];omega
 by_cases e10:i.op=10
 ·by_cases hw:0≤x.reg i.b∧x.reg i.b<(x.words.length:Int)
  ·rw [execT_10t e10 hw];show x.prints.length≤_;omega
  ·rw [execT_10f e10 hw];show x.prints.length≤_;omega
 by_cases e11:i.op=11
 ·by_cases hw:0≤x.reg i.a∧x.reg i.a<(x.words.length:Int)
  ·rw [execT_11t e11 hw,store_prints];omega
  ·rw [execT_11f e11 hw];show x.prints.length≤_;omega
 by_cases e13:i.op=13
 ·by_cases hw:nth x.words i.a.toNat=x.reg i.b
  ·rw [execT_13t e13 hw];show x.prints.length≤_;omega
  ·rw [execT_13f e13 hw];show x.prints.length≤_;omega
 by_cases e14:i.op=14
 ·rw [execT_14 e14];show x.prints.length≤_;omega
 by_cases e15:i.op=15
 ·by_cases hw:x.reg i.a=0
  ·rw [execT_15t e15 hw];show x.prints.length≤_;omega
  ·rw [execT_15f e15 hw];omega
 by_cases e16:i.op=16
 ·rw [execT_16 e16];show (x.prints++_).length≤_;simp
 by_cases e17:i.op=17
 ·rw [execT_17 e17];show x.prints.length≤_;omega
 by_cases e18:i.op=18
 ·by_cases hw:nth x.owner i.a.toNat≠n
  ·rw [execT_18a e18 hw];show x.prints.length≤_;omega
  ·by_cases hh:∃j,j<x.wait.length∧(nth x.wait j).lock=true∧(nth x.wait j).wh=i.a
   ·obtain ⟨j,hj,h1,h2⟩:=hh
    rw [execT_18b e18 hw j hj h1 h2];show x.prints.length≤_;omega
   ·rw [execT_18c e18 hw (fun q hq hc=>hh ⟨q,hq,hc⟩),store_prints];omega
 rw [execT_no ⟨e1,e2,e3,e4,e5,e6,e7,e8,e9,e10,e11,e13,e14,e15,e16,e17,e18⟩]
 omega
theorem doT_prints (m:Int)(n:Nat)(c:List Ins)(k:Nat)(x:TS):(doT m n c k x).prints.length≤x.prints.length+2:=by
 unfold doT
 split
 ·show x.prints.length≤_;omega
 ·exact execT_prints _ _ _ _
theorem lessB_irr :∀l:List Int,lessB l l=false
 | []=>by simp [lessB]
 |a::l=>by unfold lessB;rw [if_pos rfl];exact lessB_irr l
theorem lessB_trans :∀ {l m n:List Int},lessB l m=true→lessB m n=true→lessB l n=true
 | [],m, [],h1,h2=>by cases m<;>simp [lessB] at h1 h2
 | [],m,c::n,h1,h2=>by simp [lessB]
 |a::l, [],n,h1,h2=>by simp [lessB] at h1
 |a::l,b::m, [],h1,h2=>by simp [lessB] at h2
 |a::l,b::m,c::n,h1,h2=>by
  unfold lessB at h1 h2⊢
  by_cases e1:a=b
  ·by_cases e2:b=c
   ·rw [if_pos e1] at h1;rw [if_pos e2] at h2;rw [if_pos (e1.trans e2)];exact lessB_trans h1 h2
   ·rw [if_neg e2] at h2;subst e1;rw [if_neg e2];exact h2
  ·rw [if_neg e1] at h1
   by_cases e2:b=c
   ·subst e2;rw [if_neg e1];exact h1
   ·rw [if_neg e2] at h2
    have h1' :a<b:=by simpa using h1
    have h2' :b<c:=by simpa using h2
    rw [if_neg (by omega)]
    simp;omega
theorem lessB_tri :∀ {l m:List Int},lessB l m=false→lessB m l=false→l=m
 | [], [],_,_=>rfl
 | [],b::m,h1,_=>by simp [lessB] at h1
 |a::l, [],_,h2=>by simp [lessB] at h2
 |a::l,b::m,h1,h2=>by
  unfold lessB at h1 h2
  by_cases e:a=b
  ·rw [if_pos e] at h1;rw [if_pos e.symm] at h2
   rw [e,lessB_tri h1 h2]
  ·rw [if_neg e] at h1;rw [if_neg (fun h=>e h.symm)] at h2
   simp at h1 h2;omega
theorem aheadB_irr (a:Outc):aheadB a a=false:=by unfold aheadB;rw [if_pos rfl,if_pos rfl];exact lessB_irr _
theorem aheadB_tri {a b:Outc}(h1:aheadB a b=false)(h2:aheadB b a=false):a=b:=by
 unfold aheadB at h1 h2
 by_cases e:a.st=b.st
 ·rw [if_pos e] at h1;rw [if_pos e.symm] at h2
  by_cases e2:a.words=b.words
  ·rw [if_pos e2] at h1;rw [if_pos e2.symm] at h2
   have e3:=lessB_tri h1 h2
   cases a;cases b;simp only at e e2 e3;rw [e,e2,e3]
  ·rw [if_neg e2] at h1;rw [if_neg (fun h=>e2 h.symm)] at h2
   exact absurd (lessB_tri h1 h2) e2
 ·rw [if_neg e] at h1;rw [if_neg (fun h=>e h.symm)] at h2
  simp at h1 h2;omega
theorem aheadB_trans {a b c:Outc}(h1:aheadB a b=true)(h2:aheadB b c=true):aheadB a c=true:=by
 unfold aheadB at h1 h2⊢
 by_cases e1:a.st=b.st
 ·rw [if_pos e1] at h1
  by_cases e2:b.st=c.st
  ·rw [if_pos e2] at h2
   rw [if_pos (e1.trans e2)]
   by_cases f1:a.words=b.words
   ·rw [if_pos f1] at h1
    by_cases f2:b.words=c.words
    ·rw [if_pos f2] at h2;rw [if_pos (f1.trans f2)];exact lessB_trans h1 h2
    ·rw [if_neg f2] at h2;rw [if_neg (fun h=>f2 (f1.symm.trans h)),f1];exact h2
   ·rw [if_neg f1] at h1
    by_cases f2:b.words=c.words
    ·rw [if_neg (fun h=>f1 (h.trans f2.symm)),←f2];exact h1
    ·rw [if_neg f2] at h2
     have h3:=lessB_trans h1 h2
     rw [if_neg (fun h=> ?_)]
     ·exact h3
     ·rw [h,lessB_irr] at h3;cases h3
  ·rw [if_neg e2] at h2;rw [if_neg (fun h=>e2 (e1.symm.trans h)),e1];exact h2
 ·rw [if_neg e1] at h1
  have h1' :a.st<b.st:=by simpa using h1
  by_cases e2:b.st=c.st
  ·rw [if_neg (by omega)];simp;omega
  ·rw [if_neg e2] at h2
   have h2' :b.st<c.st:=by simpa using h2
   rw [if_neg (by omega)];simp;omega
def Sorted_ (l:List Outc):Prop:=l.Pairwise fun a b=>aheadB a b=true
theorem PutRel.sorted {o:OutL}{l l' :List OutL}(h:PutRel o l l')(hs:Sorted_ (l.map OutL.out)):Sorted_ (l'.map OutL.out)∧∀y,y∈l'.map OutL.out↔y∈l.map OutL.out∨y=o.out:=by
 rcases h with ⟨⟨i,hi,h1,h2⟩,rfl⟩|⟨k,hk,h1,h2,rfl⟩
 ·refine ⟨hs,fun y=>⟨.inl,fun h=>h.elim id fun e=> ?_⟩⟩
  rw [e,aheadB_tri h1 h2]
  exact List.mem_map.2 ⟨_,nth_mem _ _ hi,rfl⟩
 ·have hsplit:l=l.take k++l.drop k:=(List.take_append_drop k l).symm
  have hb:∀x∈l.take k,aheadB x.out o.out=true:=by
   intro x hx
   obtain ⟨j,hj⟩:=List.getElem?_of_mem hx
   obtain ⟨hlt,e⟩:=List.getElem?_eq_some_iff.1 hj
   have hjk:j<k:=by simp at hlt;omega
   have:=(h1 j hjk).2
   rw [nth_lt _ _ (by simp at hlt;omega)] at this
   rw [←e,List.getElem_take];exact this
  have hs2:Sorted_ (l.take k|>.map OutL.out)∧Sorted_ (l.drop k|>.map OutL.out)∧∀x∈l.take k,∀y∈l.drop k,aheadB x.out y.out=true:=by
   rw [hsplit,List.map_append] at hs
   obtain ⟨a1,a2,a3⟩:=List.pairwise_append.1 hs
   exact ⟨a1,a2,fun x hx y hy=>a3 _ (List.mem_map.2 ⟨x,hx,rfl⟩) _ (List.mem_map.2 ⟨y,hy,rfl⟩)⟩
  have ha:∀x∈l.drop k,aheadB o.out x.out=true:=by
   intro x hx
   rcases Nat.lt_or_ge k l.length with hlt|hge
   ·have hok:=h2 hlt
    rw [nth_lt l k hlt] at hok
    rw [List.drop_eq_getElem_cons hlt] at hx
    rcases List.mem_cons.1 hx with rfl|hx
    ·exact hok
    ·have h3:=hs2.2.1
     rw [List.drop_eq_getElem_cons hlt,List.map_cons] at h3
     exact aheadB_trans hok ((List.pairwise_cons.1 h3).1 _ (List.mem_map.2 ⟨x,hx,rfl⟩))
   ·rw [List.drop_eq_nil_of_le hge] at hx;cases hx
  constructor
  ·unfold Sorted_
   rw [List.map_append,List.map_cons]
   refine List.pairwise_append.2 ⟨hs2.1,List.pairwise_cons.2 ⟨fun y hy=> ?_,hs2.2.1⟩,fun x hx y hy=> ?_⟩
   ·obtain ⟨z,hz,rfl⟩:=List.mem_map.1 hy;exact ha z hz
   ·obtain ⟨z,hz,rfl⟩:=List.mem_map.1 hx
    rcases List.mem_cons.1 hy with rfl|hy
    ·exact hb z hz
    ·obtain ⟨u,hu,rfl⟩:=List.mem_map.1 hy;exact hs2.2.2 z hz u hu
  ·intro y
   conv=>rhs;rw [hsplit]
   simp only [List.map_append,List.map_cons,List.mem_append,List.mem_cons]
   constructor
   ·rintro (h|h|h)
    ·exact .inl (.inl h)
    ·exact .inr h
    ·exact .inl (.inr h)
   ·rintro ((h|h)|h)
    ·exact .inl h
    ·exact .inr (.inr h)
    ·exact .inr (.inl h)
def Handled (p:Pg)(m:Int)(S:List MSt)(E:List Outc)(s:MSt)(t k:Nat):Prop:=if (stepT p m s t k).fell=true then (⟨1, [],(stepT p m s t k).prints⟩:Outc)∈E else s.putT t (stepT p m s t k)∈S
structure Expanded (p:Pg)(m:Int)(S:List MSt)(E:List Outc)(s:MSt):Prop where
 done:ended p s=true→(⟨0,s.words,s.prints⟩:Outc)∈E
 stuck:ended p s=false→Stuck_ p m s→(⟨2,s.words,s.prints⟩:Outc)∈E
 moves:∀t k,t<p.code.length→mvOK m (nth p.code t) (s.view t) k=true→Handled p m S E s t k
structure Inv (p:Pg)(m:Int)(S:List MSt)(E:List Outc)(full:Bool)(i:Nat):Prop where
 start:begin_ p∈S
 reach:∀s∈S,Reach p m s
 pr:∀j,j<S.length→(nth S j).prints.length≤2*j
 len:S.length≤4001
 hfull:full=decide (4000<S.length)
 sound:∀o∈E,Outs p m o
 sorted:Sorted_ E
 done:full=false→∀j,j<i→Expanded p m S E (nth S j)
 nd:S.Nodup
def Big (p:Pg)(m:Int):Prop:=∃S:List MSt,S.Nodup∧(∀s∈S,Reach p m s)∧4000<S.length
theorem nodup_sub :∀ {S T:List MSt},S.Nodup→(∀s∈S,s∈T)→S.length≤T.length
 | [],_,_,_=>Nat.zero_le _
 |a::S,T,h,hs=>by
  obtain ⟨h1,h2⟩:=List.nodup_cons.1 h
  have ha:=hs a (by simp)
  have:=nodup_sub (S:=S) (T:=T.erase a) h2 fun s hm=>(List.mem_erase_of_ne (fun (e:s=a)=>h1 (by rw [←e];exact hm))).2 (hs s (by simp [hm]))
  rw [List.length_erase_of_mem ha] at this
  have:=List.length_pos_of_mem ha
  simp only [List.length_cons];omega
theorem Handled.mono {p:Pg}{m:Int}{S S' :List MSt}{E E' :List Outc}{s:MSt}{t k:Nat}(h:Handled p m S E s t k)(hS:∀x∈S,x∈S')(hE:∀x∈E,x∈E'):Handled p m S' E' s t k:=by
 unfold Handled at h⊢
 split at h
 ·rename_i hf;rw [if_pos hf];exact hE _ h
 ·rename_i hf;rw [if_neg hf];exact hS _ h
theorem Expanded.mono {p:Pg}{m:Int}{S S' :List MSt}{E E' :List Outc}{s:MSt}(h:Expanded p m S E s)(hS:∀x∈S,x∈S')(hE:∀x∈E,x∈E'):Expanded p m S' E' s:=
 ⟨fun e=>hE _ (h.done e),fun e e2=>hE _ (h.stuck e e2),fun t k ht hk=>(h.moves t k ht hk).mono hS hE⟩
theorem Inv.states {p:Pg}{m:Int}{S:List MSt}{E:List Outc}{i:Nat}(h:Inv p m S E false i)(hi:S.length≤i):∀s,s∈S↔Reach p m s:=by
 intro s
 refine ⟨h.reach s,fun hs=> ?_⟩
 induction hs with
 |start=>exact h.start
 | @step s t k hr ht hk hf ih=>
  obtain ⟨j,hj⟩:=List.getElem?_of_mem ih
  obtain ⟨hlt,e⟩:=List.getElem?_eq_some_iff.1 hj
  have h9:=h.done rfl j (by omega)
  rw [nth_lt _ _ hlt,e] at h9
  have:=h9.moves _ _ ht hk
  unfold Handled at this
  rw [if_neg (by rw [hf];decide)] at this
  exact this
theorem Inv.big {p:Pg}{m:Int}{S:List MSt}{E:List Outc}{full:Bool}{i:Nat}(h:Inv p m S E full i)(hi:full=true∨S.length≤i):full=true↔Big p m:=by
 constructor
 ·intro hf
  have:=h.hfull
  rw [hf] at this
  exact ⟨S,h.nd,h.reach,of_decide_eq_true this.symm⟩
 ·rintro ⟨T,h1,h2,h3⟩
  cases hf:full with
  |true=>rfl
  |false=>
   rw [hf] at hi h
   have h4:=nodup_sub h1 fun s hs=>(h.states (hi.resolve_left Bool.false_ne_true) s).2 (h2 s hs)
   have:=h.hfull
   have:=of_decide_eq_false this.symm
   omega
theorem Inv.all {p:Pg}{m:Int}{S:List MSt}{E:List Outc}{i:Nat}(h:Inv p m S E false i)(hi:S.length≤i):∀o,o∈E↔Outs p m o:=by
 have hex:∀s∈S,Expanded p m S E s:=by
  intro s hs
  obtain ⟨j,hj⟩:=List.getElem?_of_mem hs
  obtain ⟨hlt,e⟩:=List.getElem?_eq_some_iff.1 hj
  have:=h.done rfl j (by omega)
  rwa [nth_lt _ _ hlt,e] at this
 have hall:∀s,Reach p m s→s∈S:=by
  intro s hs
  induction hs with
  |start=>exact h.start
  |step hr ht hk hf ih=>
   have:=(hex _ ih).moves _ _ ht hk
   unfold Handled at this
   rw [if_neg (by rw [hf];decide)] at this
   exact this
 intro o
 refine ⟨h.sound o,fun ho=> ?_⟩
 cases ho with
 |done hr he=>exact (hex _ (hall _ hr)).done he
 |stuck hr he hst=>exact (hex _ (hall _ hr)).stuck he hst
 |fell hr ht hk hf=>
  have:=(hex _ (hall _ hr)).moves _ _ ht hk
  unfold Handled at this
  rwa [if_pos hf] at this
theorem flatMap_congr' {α β:Type}{f g:α→List β} :∀ {l:List α},(∀x∈l,f x=g x)→l.flatMap f=l.flatMap g
 | [],_=>rfl
 |x::l,h=>by simp only [List.flatMap_cons];rw [h x (by simp),flatMap_congr' fun y hy=>h y (by simp [hy])]
theorem all_congr' {α:Type}{f g:α→Bool} :∀ {l:List α},(∀x∈l,f x=g x)→l.all f=l.all g
 | [],_=>rfl
 |x::l,h=>by simp only [List.all_cons];rw [h x (by simp),all_congr' fun y hy=>h y (by simp [hy])]
section
variable {code:Ls (Ls Ins)}{words:Ls Int}{Lk R:Nat}{mode:Int}{x:SD}
abbrev pgN (code:Ls (Ls Ins))(words:Ls Int)(Lk R:Nat):Pg:=pgOf code words (Lk:Int) (R:Int)
theorem pgN_len :(pgN code words Lk R).code.length=code.l.length:=by simp [pgN,pgOf]
theorem pgN_code {t:Nat}(ht:t<code.l.length):nth (pgN code words Lk R).code t=(nth code.l t).l:=nth_map' _ _ _ ht
structure WfX (code:Ls (Ls Ins))(words:Ls Int)(Lk R:Nat)(x:SD):Prop where
 thl:x.thr.l.length=code.l.length
 pc:∀t,t<code.l.length→0≤(nth x.thr.l t).pc∧(nth x.thr.l t).pc≤(nth code.l t).l.length
 regs:∀t,t<x.thr.l.length→(nth x.thr.l t).regs.l.length=R
 wait:∀t,t<x.thr.l.length→(nth x.thr.l t).wait.l.length≤3
 wt:∀t,t<x.thr.l.length→∀j,j<(nth x.thr.l t).wait.l.length→if (nth (nth x.thr.l t).wait.l j).lock=true then 0≤(nth (nth x.thr.l t).wait.l j).wh∧(nth (nth x.thr.l t).wait.l j).wh<x.owner.l.length else 0≤(nth (nth x.thr.l t).wait.l j).wh∧(nth (nth x.thr.l t).wait.l j).wh<x.words.l.length
 words:x.words.l.length=words.l.length
 owner:x.owner.l.length=Lk
theorem insR_N (hok:OkPg (pgN code words Lk R)){t:Nat}(ht:t<code.l.length){pc:Int}(h0:0≤pc)(h1:pc<(nth code.l t).l.length):InsR R words.l.length Lk (nextIns (nth code.l t).l pc):=by
 have h:=(hok.insR (t:=t) (i:=pc.toNat) (by rw [pgN_len];exact ht) (by rw [pgN_code ht];omega)).1
 rw [pgN_code ht] at h
 rw [nextIns_t h1]
 simpa [pgN,pgOf] using h
theorem lock_N (hok:OkPg (pgN code words Lk R)){t i:Nat}(ht:t<code.l.length)(hi:i<(nth code.l t).l.length)(h17:(nth (nth code.l t).l i).op=17):0≤(nth (nth code.l t).l i).a∧(nth (nth code.l t).l i).a<(Lk:Int):=by
 have h:=(hok.insR (t:=t) (i:=i) (by rw [pgN_len];exact ht) (by rw [pgN_code ht];exact hi)).1
 rw [pgN_code ht] at h
 have:=h.o17 (.inl h17)
 simpa [pgN,pgOf] using this
end
section
variable {p:Pg}{m:Int}{S:List MSt}{E:List Outc}{full:Bool}{i:Nat}
theorem Inv.addOut (h:Inv p m S E full i){o:Outc}{E' :List Outc}(ho:Outs p m o)(hs:Sorted_ E')(hm:∀y,y∈E' ↔y∈E∨y=o):Inv p m S E' full i:=
 ⟨h.start,h.reach,h.pr,h.len,h.hfull,fun y hy=>((hm y).1 hy).elim (h.sound y) (fun e=>e▸ho),hs,fun hf j hj=>(h.done hf j hj).mono (fun _ h=>h) fun y hy=>(hm y).2 (.inl hy),h.nd⟩
theorem Inv.next (h:Inv p m S E full i)(hx:full=false→Expanded p m S E (nth S i)):Inv p m S E full (i+1):=
 ⟨h.start,h.reach,h.pr,h.len,h.hfull,h.sound,h.sorted,fun hf j hj=>by
  rcases Nat.lt_or_ge j i with h1|h1
  ·exact h.done hf j h1
  ·obtain rfl:j=i:=by omega
   exact hx hf,h.nd⟩
theorem Inv.first (s:MSt)(hs:s=begin_ p):Inv p m [s] [] (false||decide (4000<0+1)) 0:=by
 subst hs
 refine ⟨by simp,fun x hx=> ?_,fun j hj=> ?_,by simp,by simp,fun o ho=> ?_,List.Pairwise.nil,fun _ j hj=>absurd hj (by omega),by simp⟩
 ·obtain rfl:x=begin_ p:=by simpa using hx
  exact .start
 ·simp at hj;subst hj;exact Nat.zero_le _
 ·cases ho
theorem ended_no {s:MSt}(he:ended p s=true):∀t k,t<p.code.length→mvOK m (nth p.code t) (s.view t) k=false:=by
 intro t k ht
 have h1:=(List.all_eq_true.1 he) t (by simpa using ht)
 simp only [Bool.and_eq_true,decide_eq_true_eq] at h1
 cases hk:mvOK m (nth p.code t) (s.view t) k with
 |false=>rfl
 |true=>
  rcases mvOK_k hk with ⟨rfl,h2,_⟩|⟨h2,h3,_⟩
  ·exact absurd h2 h1.1
  ·have:(s.view t).wait.length=0:=h1.2
   omega
theorem Inv.ended (h:Inv p m S E full i)(hi:i<S.length)(he:ended p (nth S i)=true){E' :List Outc}(hs:Sorted_ E')(hm:∀y,y∈E' ↔y∈E∨y=⟨0,(nth S i).words,(nth S i).prints⟩):Inv p m S E' full (i+1):=by
 have h1:=h.addOut (.done (h.reach _ (nth_mem _ _ hi)) he) hs hm
 refine h1.next fun _=>⟨fun _=>(hm _).2 (.inr rfl),fun e=> ?_,fun t k ht hk=> ?_⟩
 ·rw [he] at e;cases e
 ·rw [ended_no he t k ht] at hk;cases hk
theorem stuck_of {s:MSt}(hm:moves p m s= []):Stuck_ p m s:=by
 intro t k ht
 cases hk:mvOK m (nth p.code t) (s.view t) k with
 |false=>rfl
 |true=>
  have:((8*t+k:Nat):Int)∈moves p m s:=mem_moves.2 ⟨t,k,ht,hk,rfl⟩
  rw [hm] at this;cases this
theorem Inv.stuck (h:Inv p m S E full i)(hi:i<S.length)(he:Go.Proofs.YtmjkobhkkjgplaaGreatDoor.ended p (nth S i)=false)(hmv:moves p m (nth S i)= []){E' :List Outc}(hs:Sorted_ E')(hm:∀y,y∈E' ↔y∈E∨y=⟨2,(nth S i).words,(nth S i).prints⟩):Inv p m S E' full (i+1):=by
 have hst:=stuck_of hmv
 have h1:=h.addOut (.stuck (h.reach _ (nth_mem _ _ hi)) he hst) hs hm
 refine h1.next fun _=>⟨fun e=> ?_,fun _ _=>(hm _).2 (.inr rfl),fun t k ht hk=> ?_⟩
 ·rw [he] at e;cases e
 ·rw [hst t k ht] at hk;cases hk
def HandM (p:Pg)(m:Int)(S:List MSt)(E:List Outc)(s:MSt)(v:Int):Prop:=∀t k,v=((8*t+k:Nat):Int)→k≤3→Handled p m S E s t k
theorem HandM.mono {s:MSt}{v:Int}{S' :List MSt}{E' :List Outc}(h:HandM p m S E s v)(hS:∀x∈S,x∈S')(hE:∀x∈E,x∈E'):HandM p m S' E' s v:=fun t k e hk=>(h t k e hk).mono hS hE
theorem HandM.of {s:MSt}{v:Int}{t k:Nat}(hv:v=((8*t+k:Nat):Int))(hk:k≤3)(h:Handled p m S E s t k):HandM p m S E s v:=by
 intro t' k' e hk'
 rw [hv] at e
 have e' :8*t+k=8*t' +k' :=by omega
 obtain rfl:t=t' :=by omega
 obtain rfl:k=k' :=by omega
 exact h
end
structure TrM where
 st:Int
 steps:Nat
 words:List Int
 prints:List Int
def pickM (script:List Int)(nx l:Nat):Nat:=if 1<l∧nx<script.length then (nth script nx%(l:Int)).toNat else 0
def nextM (script:List Int)(nx l:Nat):Nat:=if 1<l∧nx<script.length then nx+1 else nx
def mvM (p:Pg)(m:Int)(s:MSt)(script:List Int)(nx:Nat):Nat:=(nth (moves p m s) (pickM script nx (moves p m s).length)).toNat
def goM (p:Pg)(m:Int)(script:List Int):Nat→Nat→MSt→Nat→TrM
 |0,_,s,k=>if ended p s=true then ⟨0,k,s.words,s.prints⟩ else if (moves p m s).length=0 then ⟨2,k,s.words,s.prints⟩ else ⟨3,k,s.words,s.prints⟩
 |n+1,nx,s,k=>
  if ended p s=true then ⟨0,k,s.words,s.prints⟩
  else if (moves p m s).length=0 then ⟨2,k,s.words,s.prints⟩
  else if (stepT p m s (mvM p m s script nx/8) (mvM p m s script nx%8)).fell=true then ⟨1,k+1,(stepT p m s (mvM p m s script nx/8) (mvM p m s script nx%8)).words,(stepT p m s (mvM p m s script nx/8) (mvM p m s script nx%8)).prints⟩
  else goM p m script n (nextM script nx (moves p m s).length) (s.putT (mvM p m s script nx/8) (stepT p m s (mvM p m s script nx/8) (mvM p m s script nx%8))) (k+1)
def runM (p:Pg)(m:Int)(script:List Int):TrM:=goM p m script 5000 0 (begin_ p) 0
structure GoI (p:Pg)(m:Int)(script:List Int)(nx:Nat)(s:MSt)(k:Nat):Prop where
 le:k≤5000
 nxk:nx≤k
 eq:goM p m script (5000-k) nx s k=runM p m script
 reach:Reach p m s
 pr:s.prints.length≤2*k
section
variable {p:Pg}{m:Int}{script:List Int}{nx k:Nat}{s:MSt}
theorem goI_start :GoI p m script 0 (begin_ p) 0:=⟨by omega,Nat.le_refl _,rfl, .start,by simp [begin_]⟩
theorem goI_ended (h:GoI p m script nx s k)(he:ended p s=true):runM p m script=⟨0,k,s.words,s.prints⟩:=by
 rw [←h.eq]
 cases 5000-k with
 |zero=>rw [goM,if_pos he]
 |succ n=>rw [goM,if_pos he]
theorem goI_stuck (h:GoI p m script nx s k)(he:ended p s=false)(hl:(moves p m s).length=0):runM p m script=⟨2,k,s.words,s.prints⟩:=by
 rw [←h.eq]
 cases 5000-k with
 |zero=>rw [goM,if_neg (by rw [he];decide),if_pos hl]
 |succ n=>rw [goM,if_neg (by rw [he];decide),if_pos hl]
theorem goI_out (h:GoI p m script nx s k)(he:ended p s=false)(hl:(moves p m s).length≠0)(hk:k=5000):runM p m script=⟨3,k,s.words,s.prints⟩:=by
 rw [←h.eq,show 5000-k=0 by omega,goM,if_neg (by rw [he];decide),if_neg hl]
theorem pick_lt (script:List Int)(nx:Nat){l:Nat}(hl:l≠0):pickM script nx l<l:=by
 unfold pickM
 split
 ·have:=Int.emod_lt_of_pos (nth script nx) (show (0:Int)<(l:Int) by omega)
  have:=Int.emod_nonneg (nth script nx) (show (l:Int)≠0 by omega)
  omega
 ·omega
theorem next_le {l:Nat} :nextM script nx l≤nx+1:=by unfold nextM;split<;>omega
theorem goI_next (h:GoI p m script nx s k)(he:ended p s=false)(hl:(moves p m s).length≠0)(hk:k≠5000){t j:Nat}(hj:j<8)(e:mvM p m s script nx=8*t+j)(ht:t<p.code.length)(hm:mvOK m (nth p.code t) (s.view t) j=true)(hpl:(stepT p m s t j).prints.length≤s.prints.length+2):
  ((stepT p m s t j).fell=true→runM p m script=⟨1,k+1,(stepT p m s t j).words,(stepT p m s t j).prints⟩)∧((stepT p m s t j).fell=false→GoI p m script (nextM script nx (moves p m s).length) (s.putT t (stepT p m s t j)) (k+1)):=by
 have hle:=h.le
 have h5:5000-k=(5000-(k+1))+1:=by omega
 have e1:(8*t+j)/8=t:=by omega
 have e2:(8*t+j)%8=j:=by omega
 have h1:=h.eq
 rw [h5,goM,if_neg (by rw [he];decide),if_neg hl] at h1
 simp only [e,e1,e2] at h1
 refine ⟨fun hf=> ?_,fun hf=> ?_⟩
 ·rw [if_pos hf] at h1;exact h1.symm
 ·rw [if_neg (by rw [hf];decide)] at h1
  refine ⟨by omega, ?_,h1, .step h.reach ht hm hf, ?_⟩
  ·have:=next_le (script:=script) (nx:=nx) (l:=(moves p m s).length);have:=h.nxk;omega
  ·show (stepT p m s t j).prints.length≤_
   have:=h.pr
   omega
end
section
variable {P:Program}{o:Oper}{N:Nat}{K:Nat→Prop}{W w:World}{a:Act}{F:List (Nat×Value)}{L:List Asn}{TH INT WT:TypeId}{vt:Value}{rows:List ThL}
end
structure Mv where
 th:Int
 st:Int
instance : Inhabited Mv:=⟨⟨0,0⟩⟩
def Mv.cell (x:Mv):Nat→Value
 |0=> .int .i64 x.th
 |_=> .int .i64 x.st
def Mv.val (x:Mv):Value:= .agg #[.int .i64 x.th, .int .i64 x.st]
instance : Enc Mv where
 sz:=2
 cell:=Mv.cell
 whole:=Mv.val
 agg:=true
 inner _ _:=True
 on _ _:=False
 one h:=by cases h
 many _ _:=rfl
 keep _ _ _ h _:=h
 lt _ _ _ _ h:=h.elim
instance : Flat Mv:=⟨fun _ _ h=>h,fun _ _=>trivial⟩
instance : One Mv:=⟨fun x w _ q hq=>by rcases q with _|q<;>rfl⟩
def mvsV (m:Int)(c:List Ins)(t:Nat)(x:TS):List Mv:=(if ableV c x=true then [⟨(t:Int),-1⟩] else [])++((List.range x.wait.length).filter (mayK m x.wait)).map fun k=>⟨(t:Int),(k:Int)⟩
def movesV (p:Pg)(m:Int)(s:MSt):List Mv:=(List.range p.code.length).flatMap fun t=>mvsV m (nth p.code t) t (s.view t)
def mvNum (x:Mv):Int:=8*x.th+(x.st+1)
theorem mvsV_map (m:Int)(c:List Ins)(t:Nat)(x:TS):(mvsV m c t x).map mvNum=mvs m c t x:=by
 unfold mvsV mvs
 rw [List.map_append,List.map_map]
 have e1:(if ableV c x=true then [(⟨(t:Int),-1⟩:Mv)] else []).map mvNum=if ableV c x=true then [((8*t:Nat):Int)] else []:=by
  split
  ·simp [mvNum]
  ·rfl
 rw [e1]
 congr 1
theorem movesV_map (p:Pg)(m:Int)(s:MSt):(movesV p m s).map mvNum=moves p m s:=by
 unfold movesV moves
 rw [List.map_flatMap]
 congr 1
 funext t
 exact mvsV_map _ _ _ _
theorem movesV_len (p:Pg)(m:Int)(s:MSt):(movesV p m s).length=(moves p m s).length:=by rw [←movesV_map,List.length_map]
theorem mem_mvsV {m:Int}{c:List Ins}{t:Nat}{x:TS}{v:Mv}(h:v∈mvsV m c t x):∃j:Nat,mvOK m c x j=true∧v=⟨(t:Int),(j:Int)-1⟩:=by
 unfold mvsV at h
 rcases List.mem_append.1 h with h|h
 ·split at h
  ·rename_i ha
   obtain rfl:v=⟨(t:Int),-1⟩:=by simpa using h
   exact ⟨0,by unfold mvOK;rw [if_pos rfl];exact ha,rfl⟩
  ·cases h
 ·obtain ⟨k,hk,rfl⟩:=List.mem_map.1 h
  obtain ⟨h1,h2⟩:=List.mem_filter.1 hk
  have h1:=List.mem_range.1 h1
  refine ⟨k+1, ?_, ?_⟩
  ·unfold mvOK
   rw [if_neg (by omega),decide_eq_true (by omega),Nat.add_sub_cancel,h2];rfl
  ·show (⟨(t:Int),(k:Int)⟩:Mv)=⟨(t:Int),((k+1:Nat):Int)-1⟩
   congr 1
   omega
theorem movesV_at {p:Pg}{m:Int}{s:MSt}{i:Nat}(hi:i<(movesV p m s).length):∃t j,t<p.code.length∧mvOK m (nth p.code t) (s.view t) j=true∧nth (movesV p m s) i=⟨(t:Int),(j:Int)-1⟩∧nth (moves p m s) i=((8*t+j:Nat):Int):=by
 obtain ⟨t,ht,h⟩:=List.mem_flatMap.1 (nth_mem _ _ hi)
 have ht:=List.mem_range.1 ht
 obtain ⟨j,hj,e⟩:=mem_mvsV h
 refine ⟨t,j,ht,hj,e, ?_⟩
 rw [←movesV_map,nth_map' _ _ _ hi]
 show mvNum (nth (movesV p m s) i)=_
 have e' :nth (movesV p m s) i=⟨(t:Int),(j:Int)-1⟩:=e
 rw [e']
 show 8*(t:Int)+((j:Int)-1+1)=_
 omega
theorem execT_elim {Q:TS→Prop}{m:Int}{n:Nat}{i:Ins}{x:TS}(hx:Q x)(hput:∀k v,Q (x.put k v))(hst:∀w:Wt,(w.lock=true→w.what=0)→Q (x.store m w))(hf:Q { x with fell:=true })(hcas:∀a b,Q { x with words:=a,regs:=b })(hpc:∀p,Q { x with pc:=p })
  (hpr:∀v,Q { x with prints:=x.prints++ [(n:Int),v] }) (how:∀a,Q { x with owner:=x.owner.set a n }):Q (execT m n i x):=by
 by_cases e1:i.op=1
 ·rw [execT_1 e1];exact hput _ _
 by_cases e2:i.op=2
 ·rw [execT_2 e2];exact hput _ _
 by_cases e3:i.op=3
 ·rw [execT_3 e3];exact hput _ _
 by_cases e4:i.op=4
 ·rw [execT_4 e4];exact hput _ _
 by_cases e5:i.op=5
 ·rw [execT_5 e5];exact hput _ _
 by_cases e6:i.op=6
 ·rw [execT_6 e6];exact hput _ _
 by_cases e7:i.op=7
 ·rw [execT_7 e7];exact hput _ _
 by_cases e8:i.op=8
 ·rw [execT_8 e8];exact hput _ _
 by_cases e9:i.op=9
 ·rw [execT_9 e9];exact hst _ (fun h=>by cases h)
 by_cases e10:i.op=10
 ·by_cases h:0≤x.reg i.b∧x.reg i.b<(x.words.length:Int)
  ·rw [execT_10t e10 h];exact hput _ _
  ·rw [execT_10f e10 h];exact hf
 by_cases e11:i.op=11
 ·by_cases h:0≤x.reg i.a∧x.reg i.a<(x.words.length:Int)
  ·rw [execT_11t e11 h];exact hst _ (fun h=>by cases h)
  ·rw [execT_11f e11 h];exact hf
 by_cases e13:i.op=13
 ·by_cases h:nth x.words i.a.toNat=x.reg i.b
  ·rw [execT_13t e13 h];exact hcas _ _
  ·rw [execT_13f e13 h];exact hput _ _
 by_cases e14:i.op=14
 ·rw [execT_14 e14];exact hpc _
 by_cases e15:i.op=15
 ·by_cases h:x.reg i.a=0
  ·rw [execT_15t e15 h];exact hpc _
  ·rw [execT_15f e15 h];exact hx
 by_cases e16:i.op=16
 ·rw [execT_16 e16];exact hpr _
 by_cases e17:i.op=17
 ·rw [execT_17 e17];exact how _
 by_cases e18:i.op=18
 ·by_cases h1:nth x.owner i.a.toNat≠n
  ·rw [execT_18a e18 h1];exact hf
  ·by_cases h2:∃q,q<x.wait.length∧(nth x.wait q).lock=true∧(nth x.wait q).wh=i.a
   ·obtain ⟨q,hq,h3,h4⟩:=h2
    rw [execT_18b e18 h1 q hq h3 h4];exact hf
   ·rw [execT_18c e18 h1 (fun q hq h9=>h2 ⟨q,hq,h9⟩)];exact hst _ (fun _=>rfl)
 rw [execT_no ⟨e1,e2,e3,e4,e5,e6,e7,e8,e9,e10,e11,e13,e14,e15,e16,e17,e18⟩]
 exact hx
def wh0 (l:List Wt):Prop:=∀x∈l,x.lock=true→x.what=0
theorem store_wh0 {m:Int}{x:TS}{w:Wt}(h:wh0 x.wait)(hw:w.lock=true→w.what=0):wh0 (x.store m w).wait:=by
 unfold TS.store
 split
 ·intro y hy
  rcases List.mem_append.1 hy with hy|hy
  ·exact h y hy
  ·obtain rfl:y=w:=by simpa using hy
   exact hw
 ·exact h
theorem execT_wh0 {m:Int}{n:Nat}{i:Ins}{x:TS}(h:wh0 x.wait):wh0 (execT m n i x).wait:=
 execT_elim (Q:=fun y=>wh0 y.wait) h (fun _ _=>h) (fun _ hw=>store_wh0 h hw) h (fun _ _=>h) (fun _=>h) (fun _=>h) (fun _=>h)
theorem doT_wh0 {m:Int}{n k:Nat}{c:List Ins}{x:TS}(h:wh0 x.wait):wh0 (doT m n c k x).wait:=by
 unfold doT
 split
 ·exact fun y hy=>h y (List.mem_of_mem_eraseIdx hy)
 ·exact execT_wh0 (x:= { x with pc:=x.pc+1 }) h
theorem Reach.wh0_ {p:Pg}{m:Int}{s:MSt}(h:Reach p m s):∀t,wh0 (s.view t).wait:=by
 induction h with
 |start=>
  intro t
  show wh0 (nth (begin_ p).ths t).wait
  unfold begin_
  rcases Nat.lt_or_ge t p.code.length with h|h
  ·rw [nth_map' _ _ _ h];exact fun x hx=>by cases hx
  ·simp [nth,List.getD,h];exact fun x hx=>by cases hx
 |step hr ht hk hf ih=>
  rename_i s t k
  intro u
  by_cases e:t=u
  ·subst e
   rcases Nat.lt_or_ge t s.ths.length with hl|hl
   ·rw [putT_view hl]
    exact doT_wh0 (ih t)
   ·show wh0 (nth (s.ths.set t _) t).wait
    rw [List.set_eq_of_length_le hl]
    exact ih t
  ·rw [putT_other e]
   exact ih u
theorem set_ge {l:List Int}{i:Nat}{v:Int}(h:∀x∈l,-1≤x)(hv: -1≤v):∀x∈l.set i v,-1≤x:=fun x hx=>by
 rcases List.mem_or_eq_of_mem_set hx with h1|rfl
 ·exact h x h1
 ·exact hv
theorem done_ge {x:TS}{w:Wt}(h:∀v∈x.owner,-1≤v):∀v∈(x.done w).owner,-1≤v:=by
 unfold TS.done
 show∀v∈(if w.lock=true then x.owner.set w.wh.toNat (-1) else x.owner),-1≤v
 split
 ·exact set_ge h (by decide)
 ·exact h
theorem store_ge {m:Int}{x:TS}{w:Wt}(h:∀v∈x.owner,-1≤v):∀v∈(x.store m w).owner,-1≤v:=by
 unfold TS.store
 split
 ·exact h
 ·exact done_ge h
theorem execT_ge {m:Int}{n:Nat}{i:Ins}{x:TS}(h:∀v∈x.owner,-1≤v):∀v∈(execT m n i x).owner,-1≤v:=
 execT_elim (Q:=fun y=>∀v∈y.owner,-1≤v) h (fun _ _=>h) (fun _ _=>store_ge h) h (fun _ _=>h) (fun _=>h) (fun _=>h) (fun _=>set_ge h (by omega))
theorem doT_ge {m:Int}{n k:Nat}{c:List Ins}{x:TS}(h:∀v∈x.owner,-1≤v):∀v∈(doT m n c k x).owner,-1≤v:=by
 unfold doT
 split
 ·exact done_ge h
 ·exact execT_ge h
theorem Reach.owner_ge {p:Pg}{m:Int}{s:MSt}(h:Reach p m s):∀v∈s.owner,-1≤v:=by
 induction h with
 |start=>
  intro v hv
  have:=List.eq_of_mem_replicate hv
  omega
 |step hr ht hk hf ih=>exact doT_ge (x:=_) ih
theorem nth_app_ge {α:Type}[Inhabited α](l m:List α)(i:Nat)(h:l.length≤i):nth (l++m) i=nth m (i-l.length):=by simp only [nth,List.getD,List.getElem?_append_right h]
theorem nth_replicate {α:Type}[Inhabited α](n:Nat)(x:α)(i:Nat)(h:i<n):nth (List.replicate n x) i=x:=by simp [nth,h]
theorem nth_app_lt {α:Type}[Inhabited α](l m:List α)(i:Nat)(h:i<l.length):nth (l++m) i=nth l i:=by simp [nth,List.getElem?_append_left h]
def becL (B:Nat→Ins→List Ins)(code:List Ins):List (List Ins):=(List.range code.length).map fun i=>B i (nth code i)
theorem becL_len (B:Nat→Ins→List Ins)(code:List Ins):(becL B code).length=code.length:=by simp [becL]
theorem becL_nth (B:Nat→Ins→List Ins)(code:List Ins)(i:Nat)(h:i<code.length):nth (becL B code) i=B i (nth code i):=by simp [becL,nth,h]
def fixMv (become:List (List Ins))(code:List Ins)(i:Nat)(x:Ins):Ins:=
 if x.op=14∧((nth code i).op=14∨(nth code i).op=15) then { x with a:=placeL become x.a.toNat }
 else if x.op=15∧(nth code i).op=15 then { x with b:=placeL become x.b.toNat } else x
def outUpto (B:Nat→Ins→List Ins)(code:List Ins)(k:Nat):List Ins:=(List.range k).flatMap fun i=>B i (nth code i)
def fromUpto (B:Nat→Ins→List Ins)(code:List Ins)(k:Nat):List Int:=(List.range k).flatMap fun i=>List.replicate (B i (nth code i)).length (i:Int)
theorem outUpto_succ (B:Nat→Ins→List Ins)(code:List Ins)(k:Nat):outUpto B code (k+1)=outUpto B code k++B k (nth code k):=by simp [outUpto,List.range_succ]
theorem fromUpto_succ (B:Nat→Ins→List Ins)(code:List Ins)(k:Nat):fromUpto B code (k+1)=fromUpto B code k++List.replicate (B k (nth code k)).length (k:Int):=by simp [fromUpto,List.range_succ]
theorem fromUpto_len (B:Nat→Ins→List Ins)(code:List Ins)(k:Nat):(fromUpto B code k).length=(outUpto B code k).length:=by
 induction k with
 |zero=>rfl
 |succ k ih=>rw [fromUpto_succ,outUpto_succ];simp [ih]
theorem fromUpto_at (B:Nat→Ins→List Ins)(code:List Ins)(k q:Nat)(h:q<(fromUpto B code k).length):0≤nth (fromUpto B code k) q∧(nth (fromUpto B code k) q).toNat<k∧∃j,j<(B (nth (fromUpto B code k) q).toNat (nth code (nth (fromUpto B code k) q).toNat)).length∧nth (outUpto B code k) q=nth (B (nth (fromUpto B code k) q).toNat (nth code (nth (fromUpto B code k) q).toNat)) j:=by
 induction k with
 |zero=>simp [fromUpto] at h
 |succ k ih=>
  rw [fromUpto_succ] at h⊢
  by_cases hq:q<(fromUpto B code k).length
  ·obtain ⟨h1,h2,j,h3,h4⟩:=ih hq
   rw [nth_app_lt _ _ _ hq]
   refine ⟨h1,by omega,j,h3, ?_⟩
   rw [outUpto_succ,nth_app_lt _ _ _ (by rw [←fromUpto_len];exact hq)]
   exact h4
  ·rw [List.length_append,List.length_replicate] at h
   have hn:nth (fromUpto B code k++List.replicate (B k (nth code k)).length (k:Int)) q=(k:Int):=by
    have hq2:q-(fromUpto B code k).length<(B k (nth code k)).length:=by omega
    rw [nth_app_ge _ _ _ (by omega),nth_replicate _ _ _ hq2]
   rw [hn]
   refine ⟨by omega,by omega,q-(fromUpto B code k).length,by simp;omega, ?_⟩
   rw [outUpto_succ]
   simp only [nth,List.getD,List.getElem?_append_right (show (outUpto B code k).length≤q by rw [←fromUpto_len];omega),fromUpto_len]
   rfl
theorem placeL_out (B:Nat→Ins→List Ins)(code:List Ins)(k:Nat)(h:k≤code.length):(outUpto B code k).length=placeL (becL B code) k:=by
 induction k with
 |zero=>rfl
 |succ k ih=>
  rw [outUpto_succ,placeL_succ _ _ (by rw [becL_len];omega),becL_nth _ _ _ (by omega),List.length_append,ih (by omega)]
def movedL (B:Nat→Ins→List Ins)(code:List Ins):List Ins:=(List.range code.length).flatMap fun i=>(B i (nth code i)).map (fixMv (becL B code) code i)
theorem movedL_of (B:Nat→Ins→List Ins)(code:List Ins)(ou:List Ins)(hl:ou.length=(outUpto B code code.length).length)
  (h:∀q,q<ou.length→nth ou q=fixMv (becL B code) code (nth (fromUpto B code code.length) q).toNat (nth (outUpto B code code.length) q)):ou=movedL B code:=by
 have key:∀k,(List.range k).flatMap (fun i=>(B i (nth code i)).map (fixMv (becL B code) code i))=(List.range (outUpto B code k).length).map fun q=>fixMv (becL B code) code (nth (fromUpto B code k) q).toNat (nth (outUpto B code k) q):=by
  intro k
  induction k with
  |zero=>rfl
  |succ k ih=>
   rw [List.range_succ,List.flatMap_append,ih]
   apply ext_nth
   ·simp [outUpto_succ]
   ·intro q hq
    have hql:q<(outUpto B code k).length+(B k (nth code k)).length:=by simpa using hq
    have hq2:q<(outUpto B code (k+1)).length:=by rw [outUpto_succ];simpa using hql
    have e2:nth ((List.range (outUpto B code (k+1)).length).map fun q=>fixMv (becL B code) code (nth (fromUpto B code (k+1)) q).toNat (nth (outUpto B code (k+1)) q)) q=fixMv (becL B code) code (nth (fromUpto B code (k+1)) q).toNat (nth (outUpto B code (k+1)) q):=by simp [nth,hq2]
    rw [e2,fromUpto_succ,outUpto_succ]
    by_cases h1:q<(outUpto B code k).length
    ·rw [nth_app_lt _ _ _ (by simpa using h1),nth_app_lt _ _ _ (by rw [fromUpto_len];exact h1),nth_app_lt _ _ _ h1]
     simp [nth,h1]
    ·have h3:q-(outUpto B code k).length<(B k (nth code k)).length:=by omega
     have e3:nth (fromUpto B code k++List.replicate (B k (nth code k)).length (k:Int)) q=(k:Int):=by
      rw [nth_app_ge _ _ _ (by rw [fromUpto_len];omega),fromUpto_len,nth_replicate _ _ _ h3]
     have e4:nth (outUpto B code k++B k (nth code k)) q=nth (B k (nth code k)) (q-(outUpto B code k).length):=by
      simp only [nth,List.getD,List.getElem?_append_right (show (outUpto B code k).length≤q by omega)]
     rw [e3,e4]
     rw [nth_app_ge _ _ _ (by simp;omega)]
     simp only [List.flatMap_cons,List.flatMap_nil,List.append_nil,List.length_map,List.length_range]
     rw [nth_map' _ _ _ h3]
     simp
 unfold movedL
 rw [key]
 apply ext_nth
 ·simpa using hl
 ·intro q hq
  rw [h q hq]
  have:q<(outUpto B code code.length).length:=by omega
  simp [nth,this]
def BecB (B:Nat→Ins→List Ins)(code:List Ins):Prop:=∀i,i<code.length→∀k,k<(B i (nth code i)).length→
 ((nth (B i (nth code i)) k).op≠14∨((nth code i).op≠14∧(nth code i).op≠15)∨(0≤(nth (B i (nth code i)) k).a∧(nth (B i (nth code i)) k).a≤code.length))∧
 ((nth (B i (nth code i)) k).op≠15∨(nth code i).op≠15∨(0≤(nth (B i (nth code i)) k).b∧(nth (B i (nth code i)) k).b≤code.length))
theorem cloneI_c (x:Ls Int)(W:World)(hx:x.At W)(hl:x.l.length≤100000):
    Rets Tryz.prog 44 [x.v] W (fun v w' =>∃s:Ls Int,v=s.v∧Sh0 W w' [.own 3 (⟨s.v,x.l⟩:Ls Int)]):=by
 refine gen Tryz.func44 Tryz.ntmps44 (Sh0.ext1 hx:Sh (fun _=>False) W W [.at_ x]) rfl fun a10 h10=>gG h10<|sG (oM 1 rfl<|.nl)<|gK fun _ k12=>sG (oM 1 rfl<|oV (r_eqnil (s:=x) sl_23 rfl rfl rfl (fun w h=>(h.at 0 rfl))) rfl<|.nl)<|?_;clear h10
 refine gCb rfl (fun hb14=> ?_) fun hb14=> ?_
 ·skip
  refine sG (oM 1 rfl<|.nl)<|gR<|uT<|fun a16 w16 h16=>x_ret1 (fn:=Tryz.f44) (t:=2) rfl h16 rfl<|⟨⟨.slice none 0 0, []⟩,rfl, ?_⟩
  rw [nilB_nil hx (by assumption)]
  exact (h16.sh.nil (α:=Int) 3).sel (L' := [_]) [0] rfl
 refine gS<|hK k12<|sK fun _ k17=>gE1 (fun _ _ h_=>x_lit0 (α:=Int) h_ sl_23 ti_3 rfl rfl rfl) rfl fun v18=>gRn (oM 1 rfl<|.nl)<|gE1 (fun _ _ h_=>x_app (r:=0) (rm:=1) (s:=(⟨v18, []⟩:Ls Int)) (m:=x) h_ sl_23 ti_3 rfl rfl rfl rfl rfl rfl rfl (fun w h=>(h.at 1 rfl)) (fun b hb=> .inr hb) (fun q hq b hb=> .inr ⟨q,hq,hb⟩) rfl rfl rfl inferInstance (show (([]).length+x.l.length)*8≤140737488355328∧([]).length+x.l.length≤140737488355328 from om9) rfl rfl) rfl fun v19=>gRn (oM 1 rfl<|.nl)<|nK k17<|gR<|fun a20 w20 h20=>x_ret1 (fn:=Tryz.f44) (t:=2) rfl h20 rfl<|⟨⟨v19, []⟩,rfl, ?_⟩
 exact (h20.sh.sel [0] rfl)
theorem moved_c (code:Ls Ins)(bf:FuncId)(us ws:List Value)(B:Nat→Ins→List Ins)(Env:Asn)(W:World)(hc:code.At W)(hcl:code.l.length≤5000)(hbd:bodyI Tryz.prog bf=true)(hEf:∀b,¬Env.fp b)(hEo:Env.ok W)(hbec:∀(w:World) (i:Nat),Env.ok w→i<code.l.length→Rets Tryz.prog bf (us++ [.int .i64 (i:Int), .agg #[.int .i64 (nth code.l i).op, .int .i64 (nth code.l i).a, .int .i64 (nth code.l i).b, .int .i64 (nth code.l i).c]]++ws) w (fun v w' =>∃s:Ls Ins,v=s.v∧Sh0 w w' [.own 32 (⟨s.v,B i (nth code.l i)⟩:Ls Ins)]))(hB8:∀i,i<code.l.length→(B i (nth code.l i)).length≤8)(hbok:BecB B code.l):
    Rets Tryz.prog 45 [code.v, .func (.func bf) us.toArray ws.toArray] W (fun v w' =>∃s:Ls Ins,v=s.v∧s.l=movedL B code.l∧Sh0 W w' [.own 32 s]):=by
 refine gen Tryz.func45 Tryz.ntmps45 (Sh0.ext (by intro A hA;simp at hA;rcases hA with rfl|rfl;exact hc;exact hEo) (by intro A hA b hb;simp at hA;rcases hA with rfl|rfl;exact hb;exact hEf b hb):Sh (fun _=>False) W W [.at_ code,Env]) rfl fun a10 h10=>gG h10<|sG (oM 1 rfl<|.nl)<|sG (oM 1 rfl<|.nl)<|sK fun _ k13=>gNl (aA 0 rfl) fun hl14=>gRn (oM 1 rfl<|oln sl_33 (aA 0 rfl) rfl<|oadN _ 1 om9 rfl<|.nl)<|gE1 (fun _ _ h_=>x_make (n:=code.l.length+1) (0:Int) h_ sl_23 ti_3 rfl rfl rfl rfl rfl (show 8*(code.l.length+1)≤140737488355328∧code.l.length+1≤140737488355328 from om9) (fun w=>Flat.inner _ _) (fun b=>Flat.on _ _) rfl rfl) rfl fun v15=>gRn (oM 1 rfl<|.nl)<|nK k13<|sK fun _ k16=>gE1 (fun _ _ h_=>x_lit0 (α:=Int) h_ sl_23 ti_3 rfl rfl rfl) rfl fun v17=>gRn (oM 1 rfl<|.nl)<|nK k16<|gK fun _ k18=>sG (oM 1 rfl<|oln sl_33 (aA 2 rfl) rfl<|oM 1 rfl<|.nl)<|gB<|fun a22 w22 h22=> ?_;clear h10
 have h21:=h22.nil (α:=Ins) 32
 clear h22
 refine x_loop (fun m a w=>∃(k:Nat) (out:List Ins) (vo:Value) (fr:List Int) (vf:Value) (pl:List Int),(k≤code.l.length)∧(out=outUpto B code.l k)∧(fr=fromUpto B code.l k)∧(pl.length=code.l.length+1)∧(∀j,j<k→nth pl j=(placeL (becL B code.l) j:Int))∧(out.length≤8*k)∧(fr.length=out.length)∧St 115 (fun _=>False) W a w [(0,code.v),(1, .func (.func bf) us.toArray ws.toArray),(5,vo),(6,v15),(7,vf),(18,code.v),(19, .int .i64 ((code.l.length:Nat):Int)),(20, .int .i64 ((k:Nat):Int))] [.own 3 (⟨vf,fr⟩:Ls Int), .own 3 (⟨v15,pl⟩:Ls Int), .at_ code,Env, .own 32 (⟨vo,out⟩:Ls Ins)]∧m=code.l.length-k) ⟨_,0, [],(.slice none 0 0), [],v17,List.replicate (code.l.length+1) 0,(by omega),(rfl),(rfl),(by simp),(fun j hj=>absurd hj (by omega)),(by simp),(by simp),h21.nrm ⟨rfl,rfl,rfl,rfl,rfl,rfl,rfl,rfl,trivial⟩ [1,2,3,4,0] rfl,rfl⟩ ?_
 clear h21
 rintro m20 a20 w20 ⟨k,out,vo,fr,vf,pl,hk,hout,hfr,hpl,hplv,ho8,hf8,h20,hm20⟩
 refine gG h20<|sG (oltN _ _ rfl<|.nl)<|gK fun _ k24=>gcd rfl (fun hb25 hp25=> ?_) fun hb25 hp25=> ?_;clear h20
 ·skip
  refine gS<|hK k24<|gK fun _ k26=>gB<|sK fun _ k27=>gRn (oM 1 rfl<|oxN sl_33 ti_32 (aA 2 rfl) _ om9 rfl<|olw2 [.int .i64 ((nth code.l k).op), .int .i64 ((nth code.l k).a), .int .i64 ((nth code.l k).b), .int .i64 ((nth code.l k).c)] ti_32 (aA 2 rfl) om9 rfl<|.nl)<|gal ti_32 rfl fun b28=>gRn (oM 1 rfl<|.nl)<|gsw 0 ti_32 rfl rfl rfl<|nK k27<|sK fun _ k30=>gNl (aO 5 rfl) fun (hl31:out.length≤140737488355328)=>gNl (aO 2 rfl) fun (hl32:pl.length≤140737488355328)=>gRn (oM 3 rfl<|oln (n:=out.length) sl_33 (aO 5 rfl) rfl<|oxN sl_23 ti_3 (aO 2 rfl) _ om9 rfl<|.nl)<|gte 2 (((out.length:Nat):Int):Int) ti_3 om9 rfl rfl<|nK k30<|gK fun _ k34=>sK fun _ k35=>gRn (oM 2 rfl<|olw 0 ti_32 rfl rfl<|.nl)<|gC (fun _ _ h_=>xCl h_ hbd rfl (hbec _ k (h_.sh.ok Env (List.mem_of_getElem? (i:=4) rfl)) (by omega))) rfl<|?_
  rintro _ _ w36 ⟨s36,rfl,hs36⟩
  refine gWk hs36 rfl<|gU<|gNl (aO 0 rfl) fun (hl37:(B k (nth code.l k)).length≤140737488355328)=>gRn (oln (n:=(B k (nth code.l k)).length) sl_33 (aO 0 rfl) rfl<|oM 1 rfl<|.nl)<|nK k35<|gB<|fun a39 w39 h39=> ?_;clear hs36
  refine x_loop (fun m a w=>∃(q:Nat) (fr2:List Int) (vf2:Value),(q≤(B k (nth code.l k)).length)∧(fr2=fr++List.replicate q (k:Int))∧(fr2.length=fr.length+q)∧St 115 (fun _=>False) W a w [(0,code.v),(1, .func (.func bf) us.toArray ws.toArray),(5,vo),(6,v15),(7,vf2),(8, .int .i64 ((k:Nat):Int)),(9, .pointer (some ⟨b28,0,none⟩)),(18,code.v),(19, .int .i64 ((code.l.length:Nat):Int)),(20, .int .i64 ((k:Nat):Int)),(34, .int .i64 (((B k (nth code.l k)).length:Nat):Int)),(35, .int .i64 ((q:Nat):Int))] [.blk b28 32 [.int .i64 ((nth code.l k).op), .int .i64 ((nth code.l k).a), .int .i64 ((nth code.l k).b), .int .i64 ((nth code.l k).c)], .own 3 (⟨vf2,fr2⟩:Ls Int), .own 3 (⟨v15,pl.set k ((out.length:Nat):Int)⟩:Ls Int), .at_ code,Env, .own 32 (⟨vo,out⟩:Ls Ins)]∧m=(B k (nth code.l k)).length-q) ⟨_,0,fr,vf,(by omega),(by simp),(by simp),h39.nrm ⟨rfl,rfl,rfl,rfl,rfl,rfl,rfl,rfl,rfl,rfl,rfl,rfl,trivial⟩ [1,2,3,4,5,6] rfl,rfl⟩ ?_
  clear h39
  rintro m38 a38 w38 ⟨q,fr2,vf2,hq,hfr2,hq2,h38,hm38⟩
  have h8k:=hB8 k (by omega)
  refine gG h38<|sG (oltN _ _ rfl<|.nl)<|gK fun _ k41=>gcd rfl (fun hb42 hp42=> ?_) fun hb42 hp42=> ?_;clear h38
  ·skip
   refine gS<|hK k41<|gK fun _ k43=>gB<|gL<|gRn (oM 2 rfl<|.nl)<|gE1 (fun _ _ h_=>x_lit (n:=1) (cs:= [.int .i64 ((k:Nat):Int)]) ([((k:Nat):Int)]:List Int) h_ sl_23 ti_3 rfl rfl rfl (by decide) rfl (by kernel_rfl) rfl (fun q hq w h=>Flat.inner _ _) (fun q hq b hb=>(Flat.on _ _ hb).elim) rfl rfl) rfl fun v44=>gE1 (fun _ _ h_=>x_app (r:=2) (rm:=0) (s:=(⟨vf2,fr2⟩:Ls Int)) (m:=(⟨v44, [((k:Nat):Int)]⟩:Ls Int)) h_ sl_23 ti_3 rfl rfl rfl rfl rfl rfl rfl (fun w h=>(h.own 0 rfl)) (fun b hb=>own_on (h_.sh.ok _ (List.mem_of_getElem? (i:=0) rfl)) hb) (fun q hq b hb=>⟨q,hq,hb⟩) rfl rfl rfl inferInstance (show (fr2.length+([((k:Nat):Int)]).length)*8≤140737488355328∧fr2.length+([((k:Nat):Int)]).length≤140737488355328 from om9) rfl rfl) rfl fun v45=>gRn (oM 1 rfl<|.nl)<|nK k43<|gL<|gRn (oadN _ 1 om9 rfl<|oM 1 rfl<|.nl)<|nN<|fun a46 w46 h46=>x_again ⟨_, ?_,q+1,fr2++([((k:Nat):Int)]),v45, ?_, ?_, ?_,h46.nrm ⟨rfl,rfl,rfl,rfl,rfl,rfl,rfl,rfl,rfl,rfl,rfl,rfl,trivial⟩ [1,2,3,4,5,6] rfl,rfl⟩
   · rw [hm38];first|omega|(simp only [lens9];omega)
   · omega
   · rw [hfr2,List.append_assoc,List.replicate_succ']
   · simp;omega
  refine gX<|hK k34<|gL<|gRn (oM 3 rfl<|olw 0 ti_32 rfl rfl<|.nl)<|gC (fun _ _ h_=>xCl h_ hbd rfl (hbec _ k (h_.sh.ok Env (List.mem_of_getElem? (i:=4) rfl)) (by omega))) rfl<|?_
  rintro _ _ w47 ⟨s47,rfl,hs47⟩
  refine gWk hs47 rfl<|gU<|gE1 (fun _ _ h_=>x_app (r:=6) (rm:=0) (s:=(⟨vo,out⟩:Ls Ins)) (m:=(⟨s47.v,B k (nth code.l k)⟩:Ls Ins)) h_ sl_33 ti_32 rfl rfl rfl rfl rfl rfl rfl (fun w h=>(h.own 0 rfl)) (fun b hb=>own_on (h_.sh.ok _ (List.mem_of_getElem? (i:=0) rfl)) hb) (fun q hq b hb=>⟨q,hq,hb⟩) rfl rfl rfl inferInstance (show (out.length+(B k (nth code.l k)).length)*32≤140737488355328∧out.length+(B k (nth code.l k)).length≤140737488355328 from om9) rfl rfl) rfl fun v48=>gRn (oM 1 rfl<|.nl)<|nK k26<|gL<|gRn (oadN _ 1 om9 rfl<|oM 1 rfl<|.nl)<|nN<|fun a49 w49 h49=> ?_;clear hs47
  refine x_again ⟨_, ?_,k+1,out++(B k (nth code.l k)),v48,fr2,vf2,pl.set k ((out.length:Nat):Int), ?_, ?_, ?_, ?_, ?_, ?_, ?_,h49.nrm ⟨rfl,rfl,rfl,rfl,rfl,rfl,rfl,rfl,trivial⟩ [2,3,4,5,6] rfl,rfl⟩
  · rw [hm20];first|omega|(simp only [lens9];omega)
  · omega
  · rw [outUpto_succ,hout]
  · rw [fromUpto_succ,←hfr,hfr2,show q=(B k (nth code.l k)).length by omega]
  · simpa using hpl
  · intro j hj;rw [nth_set];split;(rename_i hh;obtain ⟨rfl,_⟩:=hh;rw [hout,placeL_out _ _ _ (by omega)]);exact hplv j (by omega)
  · have:=hB8 k (by omega);simp;omega
  · rw [hfr2];simp;omega
 refine gX<|hK k18<|sK fun _ k50=>gNl (aO 4 rfl) fun (hl51:out.length≤140737488355328)=>gNl (aO 1 rfl) fun (hl52:pl.length≤140737488355328)=>gRn (oM 2 rfl<|oln sl_33 (aA 2 rfl) rfl<|oM 1 rfl<|oln (n:=out.length) sl_33 (aO 4 rfl) rfl<|oxN sl_23 ti_3 (aO 1 rfl) _ om9 rfl<|.nl)<|gte 1 (((out.length:Nat):Int):Int) ti_3 om9 rfl rfl<|nK k50<|?_
 have hkk:k=code.l.length:=by omega
 have hplw:∀j,j≤code.l.length→nth (pl.set code.l.length (out.length:Int)) j=(placeL (becL B code.l) j:Int):=by
  intro j hj;rw [nth_set];split;(rename_i hh;obtain ⟨rfl,_⟩:=hh;rw [hout,hkk,placeL_out _ _ _ (by omega)]);exact hplv j (by omega)
 have hpm0:(pl.set code.l.length (out.length:Int)).length=code.l.length+1:=by simpa using hpl
 generalize hpg:pl.set code.l.length (out.length:Int)=pm at*
 rw [hkk] at hout hfr
 have hat:=fun q (hq:q<fr.length)=>fromUpto_at B code.l code.l.length q (by rw [←hfr];exact hq)
 rw [←hfr,←hout] at hat
 clear hplv hpg hpl
 refine gK fun _ k54=>sG (oM 1 rfl<|oln (n:=out.length) sl_33 (aO 4 rfl) rfl<|oM 1 rfl<|.nl)<|gB<|fun a57 w57 h57=>x_loop (fun m a w=>∃(k3:Nat) (ou:List Ins),(k3≤out.length)∧(ou.length=out.length)∧(∀j,j<k3→nth ou j=fixMv (becL B code.l) code.l (nth fr j).toNat (nth out j))∧(∀j,k3≤j→nth ou j=nth out j)∧St 115 (fun _=>False) W a w [(0,code.v),(5,vo),(6,v15),(7,vf),(56, .int .i64 ((out.length:Nat):Int)),(57, .int .i64 ((k3:Nat):Int))] [.own 3 (⟨vf,fr⟩:Ls Int), .own 3 (⟨v15,pm⟩:Ls Int), .at_ code,Env, .own 32 (⟨vo,ou⟩:Ls Ins)]∧m=out.length-k3) ⟨_,0,out,(by omega),(rfl),(fun j hj=>absurd hj (by omega)),(fun j hj=>rfl),h57.nf ⟨rfl,rfl,rfl,rfl,rfl,rfl,trivial⟩,rfl⟩ ?_
 clear h57
 rintro m56 a56 w56 ⟨k3,ou,hk3,hol,hdone,hrest,h56,hm56⟩
 refine gG h56<|sG (oltN _ _ rfl<|.nl)<|gK fun _ k59=>gcd rfl (fun hb60 hp60=> ?_) fun hb60 hp60=> ?_;clear h56
 ·skip
  refine gS<|hK k59<|gK fun _ k61=>gB<|sG (oM 2 rfl<|.nl)<|?_
  have hr3:=hrest k3 (by omega)
  obtain ⟨hf0,hf1,jj,hj1,hj2⟩:=hat k3 (by omega)
  have hbk:=hbok _ hf1 jj hj1
  rw [←hj2,←hr3] at hbk
  refine sK fun _ k63=>gNl (aO 0 rfl) fun (hl64:fr.length≤140737488355328)=>gRn (oM 3 rfl<|oxN sl_23 ti_3 (aO 0 rfl) _ om9 rfl<|olE (.int .i64 (nth fr k3)) ti_3 (aO 0 rfl) om9 rfl<|oxI sl_33 ti_32 (aA 2 rfl) om9 rfl<|ofE fl_32_0 rfl<|olI ti_3 (aA 2 rfl) om9 rfl<|oM 1 rfl<|.nl)<|nK k63<|sK fun _ k65=>gNl (aO 4 rfl) fun (hl66:ou.length≤140737488355328)=>gRn (oM 2 rfl<|oxN sl_33 ti_32 (aO 4 rfl) _ om9 rfl<|oM 1 rfl<|.nl)<|nK k65<|sK fun _ k67=>gRn (oM 1 rfl<|onl rfl<|ofE fl_32_0 rfl<|olE (.int .i64 ((nth ou k3).op)) ti_3 (aO 4 rfl) om9 rfl<|oeqI _ _ rfl<|oM 1 rfl<|.nl)<|?_
  rcases dsp ((nth ou k3).op=14) with ⟨hb68,hp68⟩|⟨hb68,hp68⟩
  ·skip
   refine gRn (oG hb68 (r_move rfl rfl) rfl<|oG hb68 (r_eqlI (p:=(nth code.l ((nth fr k3).toNat)).op) (q:=14) rfl rfl rfl) rfl<|oG hb68 (r_move rfl rfl) rfl<|.nl)<|?_
   rcases dsp ((nth code.l ((nth fr k3).toNat)).op=14) with ⟨hb69,hp69⟩|⟨hb69,hp69⟩
   ·skip
    refine gRn (oKs 2 hb69 rfl rfl<|oG hb68 (r_pickT rfl rfl hb69 rfl) rfl<|opT hb68 rfl<|.nl)<|nK k67<|gF [0,5,6,7,11,12,56,57,83] rfl<|gcT rfl rfl<|gL<|gNl (aO 1 rfl) fun (hl70:pm.length≤140737488355328)=>gRn (oM 3 rfl<|onl rfl<|ofE fl_32_1 rfl<|olE (.int .i64 ((nth ou k3).a)) ti_3 (aO 4 rfl) om9 rfl<|oxI sl_23 ti_3 (aO 1 rfl) om9 rfl<|olE (.int .i64 (nth pm (((nth ou k3).a).toNat))) ti_3 (aO 1 rfl) om9 rfl<|onl rfl<|ofE fl_32_1 rfl<|.nl)<|gte 4 ({ nth ou k3 with a:=nth pm (((nth ou k3).a).toNat) } :Ins) ti_3 om9 rfl rfl<|nK k61<|gL<|gRn (oadN _ 1 om9 rfl<|oM 1 rfl<|.nl)<|nN<|fun a72 w72 h72=>x_again ⟨_, ?_,k3+1,ou.set k3 ({ nth ou k3 with a:=nth pm (((nth ou k3).a).toNat) }), ?_, ?_, ?_, ?_,h72.nf ⟨rfl,rfl,rfl,rfl,rfl,rfl,trivial⟩,rfl⟩
    · rw [hm56];first|omega|(simp only [lens9];omega)
    · omega
    · first|simpa using hol|exact hol
    · intro j hj;rcases Nat.lt_or_ge j k3 with h|h;(first|(rw [nth_set,if_neg (by omega)];exact hdone j h)|exact hdone j h);obtain rfl:j=k3:=(by omega);have hr:=hrest j (by omega);have hr1:=congrArg Ins.op hr;have hr2:=congrArg Ins.a hr;have hr4:=congrArg Ins.b hr;(try (rw [nth_set,if_pos ⟨rfl,by omega⟩]));rw [hr];unfold fixMv;(repeat' split)<;>first|(exfalso;omega)|rfl|(rw [hplw _ (by omega)])
    · intro j hj;first|(rw [nth_set,if_neg (by omega)];exact hrest j (by omega))|exact hrest j (by omega)
   refine gRn (oG hb69 (r_move rfl rfl) rfl<|oG hb69 (r_eqlI (p:=(nth code.l ((nth fr k3).toNat)).op) (q:=15) rfl rfl rfl) rfl<|oG hb68 (r_pickF rfl rfl hb69 rfl) rfl<|opT hb68 rfl<|.nl)<|nK k67<|gF [0,5,6,7,11,12,56,57,83] rfl<|gcd rfl (fun hb73 hp73=> ?_) fun hb73 hp73=> ?_
   ·skip
    refine gL<|gNl (aO 1 rfl) fun (hl74:pm.length≤140737488355328)=>gRn (oM 3 rfl<|onl rfl<|ofE fl_32_1 rfl<|olE (.int .i64 ((nth ou k3).a)) ti_3 (aO 4 rfl) om9 rfl<|oxI sl_23 ti_3 (aO 1 rfl) om9 rfl<|olE (.int .i64 (nth pm (((nth ou k3).a).toNat))) ti_3 (aO 1 rfl) om9 rfl<|onl rfl<|ofE fl_32_1 rfl<|.nl)<|gte 4 ({ nth ou k3 with a:=nth pm (((nth ou k3).a).toNat) } :Ins) ti_3 om9 rfl rfl<|nK k61<|gL<|gRn (oadN _ 1 om9 rfl<|oM 1 rfl<|.nl)<|nN<|fun a76 w76 h76=>x_again ⟨_, ?_,k3+1,ou.set k3 ({ nth ou k3 with a:=nth pm (((nth ou k3).a).toNat) }), ?_, ?_, ?_, ?_,h76.nf ⟨rfl,rfl,rfl,rfl,rfl,rfl,trivial⟩,rfl⟩
    · rw [hm56];first|omega|(simp only [lens9];omega)
    · omega
    · first|simpa using hol|exact hol
    · intro j hj;rcases Nat.lt_or_ge j k3 with h|h;(first|(rw [nth_set,if_neg (by omega)];exact hdone j h)|exact hdone j h);obtain rfl:j=k3:=(by omega);have hr:=hrest j (by omega);have hr1:=congrArg Ins.op hr;have hr2:=congrArg Ins.a hr;have hr4:=congrArg Ins.b hr;(try (rw [nth_set,if_pos ⟨rfl,by omega⟩]));rw [hr];unfold fixMv;(repeat' split)<;>first|(exfalso;omega)|rfl|(rw [hplw _ (by omega)])
    · intro j hj;first|(rw [nth_set,if_neg (by omega)];exact hrest j (by omega))|exact hrest j (by omega)
   refine sG (oM 1 rfl<|onl rfl<|ofE fl_32_0 rfl<|olE (.int .i64 ((nth ou k3).op)) ti_3 (aO 4 rfl) om9 rfl<|oeqI _ _ rfl<|oM 1 rfl<|oKs 2 (decide_eq_false (by omega)) rfl rfl<|opF (decide_eq_false (by omega)) rfl<|.nl)<|gcF rfl rfl<|gS<|hK k61<|gL<|gRn (oadN _ 1 om9 rfl<|oM 1 rfl<|.nl)<|nN<|fun a78 w78 h78=>x_again ⟨_, ?_,k3+1,ou, ?_, ?_, ?_, ?_,h78.nf ⟨rfl,rfl,rfl,rfl,rfl,rfl,trivial⟩,rfl⟩
   · rw [hm56];first|omega|(simp only [lens9];omega)
   · omega
   · first|simpa using hol|exact hol
   · intro j hj;rcases Nat.lt_or_ge j k3 with h|h;(first|(rw [nth_set,if_neg (by omega)];exact hdone j h)|exact hdone j h);obtain rfl:j=k3:=(by omega);have hr:=hrest j (by omega);have hr1:=congrArg Ins.op hr;have hr2:=congrArg Ins.a hr;have hr4:=congrArg Ins.b hr;(try (rw [nth_set,if_pos ⟨rfl,by omega⟩]));rw [hr];unfold fixMv;(repeat' split)<;>first|(exfalso;omega)|rfl|(rw [hplw _ (by omega)])
   · intro j hj;first|(rw [nth_set,if_neg (by omega)];exact hrest j (by omega))|exact hrest j (by omega)
  refine gRn (oKs 3 hb68 rfl rfl<|oK2 rfl<|oK2 rfl<|oK hb68 rfl<|opF hb68 rfl<|.nl)<|nK k67<|gF [0,5,6,7,11,12,56,57,83] rfl<|gcF rfl rfl<|sK fun _ k79=>gRn (oM 1 rfl<|onl rfl<|ofE fl_32_0 rfl<|olE (.int .i64 ((nth ou k3).op)) ti_3 (aO 4 rfl) om9 rfl<|oeqI _ _ rfl<|oM 1 rfl<|.nl)<|?_
  rcases dsp ((nth ou k3).op=15) with ⟨hb80,hp80⟩|⟨hb80,hp80⟩
  ·skip
   refine gRn (oG hb80 (r_move rfl rfl) rfl<|oG hb80 (r_eqlI (p:=(nth code.l ((nth fr k3).toNat)).op) (q:=15) rfl rfl rfl) rfl<|opT hb80 rfl<|.nl)<|nK k79<|gcd rfl (fun hb81 hp81=> ?_) fun hb81 hp81=> ?_
   ·skip
    refine gL<|gNl (aO 1 rfl) fun (hl82:pm.length≤140737488355328)=>gRn (oM 3 rfl<|onl rfl<|ofE fl_32_2 rfl<|olE (.int .i64 ((nth ou k3).b)) ti_3 (aO 4 rfl) om9 rfl<|oxI sl_23 ti_3 (aO 1 rfl) om9 rfl<|olE (.int .i64 (nth pm (((nth ou k3).b).toNat))) ti_3 (aO 1 rfl) om9 rfl<|onl rfl<|ofE fl_32_2 rfl<|.nl)<|gte 4 ({ nth ou k3 with b:=nth pm (((nth ou k3).b).toNat) } :Ins) ti_3 om9 rfl rfl<|nK k61<|gL<|gRn (oadN _ 1 om9 rfl<|oM 1 rfl<|.nl)<|nN<|fun a84 w84 h84=>x_again ⟨_, ?_,k3+1,ou.set k3 ({ nth ou k3 with b:=nth pm (((nth ou k3).b).toNat) }), ?_, ?_, ?_, ?_,h84.nf ⟨rfl,rfl,rfl,rfl,rfl,rfl,trivial⟩,rfl⟩
    · rw [hm56];first|omega|(simp only [lens9];omega)
    · omega
    · first|simpa using hol|exact hol
    · intro j hj;rcases Nat.lt_or_ge j k3 with h|h;(first|(rw [nth_set,if_neg (by omega)];exact hdone j h)|exact hdone j h);obtain rfl:j=k3:=(by omega);have hr:=hrest j (by omega);have hr1:=congrArg Ins.op hr;have hr2:=congrArg Ins.a hr;have hr4:=congrArg Ins.b hr;(try (rw [nth_set,if_pos ⟨rfl,by omega⟩]));rw [hr];unfold fixMv;(repeat' split)<;>first|(exfalso;omega)|rfl|(rw [hplw _ (by omega)])
    · intro j hj;first|(rw [nth_set,if_neg (by omega)];exact hrest j (by omega))|exact hrest j (by omega)
   refine gS<|hK k61<|gL<|gRn (oadN _ 1 om9 rfl<|oM 1 rfl<|.nl)<|nN<|fun a85 w85 h85=>x_again ⟨_, ?_,k3+1,ou, ?_, ?_, ?_, ?_,h85.nf ⟨rfl,rfl,rfl,rfl,rfl,rfl,trivial⟩,rfl⟩
   · rw [hm56];first|omega|(simp only [lens9];omega)
   · omega
   · first|simpa using hol|exact hol
   · intro j hj;rcases Nat.lt_or_ge j k3 with h|h;(first|(rw [nth_set,if_neg (by omega)];exact hdone j h)|exact hdone j h);obtain rfl:j=k3:=(by omega);have hr:=hrest j (by omega);have hr1:=congrArg Ins.op hr;have hr2:=congrArg Ins.a hr;have hr4:=congrArg Ins.b hr;(try (rw [nth_set,if_pos ⟨rfl,by omega⟩]));rw [hr];unfold fixMv;(repeat' split)<;>first|(exfalso;omega)|rfl|(rw [hplw _ (by omega)])
   · intro j hj;first|(rw [nth_set,if_neg (by omega)];exact hrest j (by omega))|exact hrest j (by omega)
  refine gRn (oKs 2 hb80 rfl rfl<|opF hb80 rfl<|.nl)<|nK k79<|gcF rfl rfl<|gS<|hK k61<|gL<|gRn (oadN _ 1 om9 rfl<|oM 1 rfl<|.nl)<|nN<|fun a86 w86 h86=>x_again ⟨_, ?_,k3+1,ou, ?_, ?_, ?_, ?_,h86.nf ⟨rfl,rfl,rfl,rfl,rfl,rfl,trivial⟩,rfl⟩
  · rw [hm56];first|omega|(simp only [lens9];omega)
  · omega
  · first|simpa using hol|exact hol
  · intro j hj;rcases Nat.lt_or_ge j k3 with h|h;(first|(rw [nth_set,if_neg (by omega)];exact hdone j h)|exact hdone j h);obtain rfl:j=k3:=(by omega);have hr:=hrest j (by omega);have hr1:=congrArg Ins.op hr;have hr2:=congrArg Ins.a hr;have hr4:=congrArg Ins.b hr;(try (rw [nth_set,if_pos ⟨rfl,by omega⟩]));rw [hr];unfold fixMv;(repeat' split)<;>first|(exfalso;omega)|rfl|(rw [hplw _ (by omega)])
  · intro j hj;first|(rw [nth_set,if_neg (by omega)];exact hrest j (by omega))|exact hrest j (by omega)
 refine gX<|hK k54<|sG (oM 2 rfl<|.nl)<|gR<|fun a88 w88 h88=>x_ret1 (fn:=Tryz.f45) (t:=4) rfl h88 rfl<|⟨⟨vo,ou⟩,rfl, ?_,(h88.sh.sel [4] rfl)⟩
 refine movedL_of B code.l ou (by rw [←hout];exact hol) fun q hq=> ?_
 rw [←hfr,←hout];exact hdone q (by omega)
theorem ti_97 :tyI Tryz.prog 97=some (false,1,16, [.nilIface]):=by kernel_rfl
theorem dec_neg {x:Int}(h: -1≤x):decide (x<0)=decide (x= -1):=decide_eq_decide.2 ⟨fun h9=>by omega,fun h9=>by omega⟩
def movF (m:Int)(code:Ls (Ls Ins))(thr:List ThQ)(q:List (List Wt))(owner:List Int)(t:Nat):List Mv:=mvsV m (nth code.l t).l t ⟨(nth thr t).pc, [],nth q t, [],owner, [],false⟩
def movesF (m:Int)(code:Ls (Ls Ins))(thr:List ThQ)(q:List (List Wt))(owner:List Int)(n:Nat):List Mv:=(List.range n).flatMap (movF m code thr q owner)
theorem movesF_succ (m:Int)(code:Ls (Ls Ins))(thr:List ThQ)(q:List (List Wt))(owner:List Int)(n:Nat):movesF m code thr q owner (n+1)=movesF m code thr q owner n++movF m code thr q owner n:=by simp [movesF,List.range_succ]
def ableF (code:Ls (Ls Ins))(thr:List ThQ)(q:List (List Wt))(owner:List Int)(t:Nat):Bool:=decide ((nth thr t).pc<((nth code.l t).l.length:Int))&&ableL owner (nth q t).length (nextIns (nth code.l t).l (nth thr t).pc)
theorem movF_eq {m:Int}{code:Ls (Ls Ins)}{thr:List ThQ}{q:List (List Wt)}{owner rl:List Int}{t:Nat}(hr:rl=((List.range (nth q t).length).filter (mayK m (nth q t))).map (fun k=>((k:Nat):Int))):
  movF m code thr q owner t=(if ableF code thr q owner t=true then [⟨(t:Int),-1⟩] else [])++rl.map (fun x=>(⟨(t:Int),x⟩:Mv)):=by
 rw [hr,List.map_map];rfl
theorem movF_len {m:Int}{code:Ls (Ls Ins)}{thr:List ThQ}{q:List (List Wt)}{owner:List Int}{t:Nat} :(movF m code thr q owner t).length≤1+(nth q t).length:=by
 unfold movF mvsV
 rw [List.length_append,List.length_map]
 have h1:∀c:Bool,(if c=true then [(⟨(t:Int),-1⟩:Mv)] else []).length≤1:=fun c=>by cases c<;>simp
 have h2:((List.range (nth q t).length).filter (mayK m (nth q t))).length≤(nth q t).length:=Nat.le_trans (List.length_filter_le _ _) (by simp)
 have h3:=h1 (ableV (nth code.l t).l ⟨(nth thr t).pc, [],nth q t, [],owner, [],false⟩)
 show _+((List.range (nth q t).length).filter (mayK m (nth q t))).length≤_
 omega
def endF2 (code:Ls (Ls Ins))(thr:List ThQ)(q:List (List Wt))(t:Nat):Bool:=decide (¬(nth thr t).pc<((nth code.l t).l.length:Int))&&decide ((nth q t).length=0)
def endedF (code:Ls (Ls Ins))(thr:List ThQ)(q:List (List Wt)):Bool:=(List.range code.l.length).all (endF2 code thr q)
theorem endF2_t {code:Ls (Ls Ins)}{thr:List ThQ}{q:List (List Wt)}{t:Nat}(h:¬(nth thr t).pc<((nth code.l t).l.length:Int))(h2:(nth q t).length=0):endF2 code thr q t=true:=by unfold endF2;rw [decide_eq_true h,decide_eq_true h2];rfl
theorem endedF_t {code:Ls (Ls Ins)}{thr:List ThQ}{q:List (List Wt)}(h:∀j,j<code.l.length→endF2 code thr q j=true):endedF code thr q=true:=by
 unfold endedF;rw [List.all_eq_true];intro j hj;exact h j (by simpa using hj)
theorem endedF_f {code:Ls (Ls Ins)}{thr:List ThQ}{q:List (List Wt)}{t:Nat}(ht:t<code.l.length)(h:(nth thr t).pc<((nth code.l t).l.length:Int)∨¬(nth q t).length=0):endedF code thr q=false:=by
 unfold endedF;rw [List.all_eq_false]
 refine ⟨t,by simpa using ht, ?_⟩
 unfold endF2
 rcases h with h|h
 ·rw [decide_eq_false (by omega)];simp
 ·rw [decide_eq_false h];simp
theorem pnext_c (M:MemS)(g gp:Nat)(code:Ls (Ls Ins))(thr:Ls ThQ)(words owner:Ls Int)(q:M.σ)(pw pv:Value)(locks nregs:Int)(fell:Bool)(t:Nat)(W:World)(hM:MemI Tryz.prog 182 3 M)(hB:Blk W g 173 #[.iface M.T (.pointer (some M.u)), .pointer (some ⟨gp,0,none⟩),thr.v,pv, .bool fell])(hP:Blk W gp 25 #[code.v,pw, .int .i64 locks, .int .i64 nregs])(h_code:code.At W)(h_thr:thr.At W)(hR:MemRd 182 M W words owner q)(ht:t<code.l.length)(ht2:t<thr.l.length)(hpc:0≤(nth thr.l t).pc∧(nth thr.l t).pc≤(nth code.l t).l.length):
    Rets Tryz.prog 128 [.pointer (some ⟨g,0,none⟩), .int .i64 ((t:Nat):Int)] W (fun v w' =>v= .tuple #[(nextIns (nth code.l t).l (nth thr.l t).pc).val, .bool (decide ((nth thr.l t).pc<((nth code.l t).l.length:Int)))]∧Sh0 W w' []):=by
 refine gen Tryz.func128 Tryz.ntmps128 (Sh0.ext (by intro A hA;simp only [List.mem_cons,List.not_mem_nil,or_false] at hA;rcases hA with rfl|rfl|rfl|rfl|rfl|rfl|rfl|rfl;exact hB;exact hP;exact h_code;exact h_thr;exact hR.blk;exact hR.wa;exact hR.oa;exact (fun A hA=>by obtain rfl:=List.mem_singleton.1 hA;exact hR.x)) (by intro A hA b hb;simp only [List.mem_cons,List.not_mem_nil,or_false] at hA;rcases hA with rfl|rfl|rfl|rfl|rfl|rfl|rfl|rfl<;>exact hb):Sh (fun _=>False) W W [.rblk g 173 [.iface M.T (.pointer (some M.u)), .pointer (some ⟨gp,0,none⟩),thr.v,pv, .bool fell], .rblk gp 25 [code.v,pw, .int .i64 locks, .int .i64 nregs], .at_ code, .at_ thr, .rblk M.g0 182 [words.v,owner.v], .at_ words, .at_ owner, .ro [M.X q]]) rfl fun a10 h10=>gG h10<|sK fun _ k11=>gal ti_32 rfl fun b12=>gRn (oM 1 rfl<|.nl)<|nK k11<|gK fun _ k13=>gK fun _ k14=>gNl (aA 4 rfl) fun hl15=>gNl (aA 3 rfl) fun hl16=>gNl (fun w h=>((h.at 3 rfl).nth t (show t<code.l.length from (by omega)))) fun (hl17:((nth code.l t).l).length≤140737488355328)=>rQ (oM 1 rfl<|onf fl_173_2 rfl<|olR 1 ti_171 rfl rfl<|oM 1 rfl<|oxN sl_171 ti_189 (aA 4 rfl) _ om9 rfl<|ofE fl_189_0 rfl<|olI ti_3 (aA 4 rfl) om9 rfl<|oM 1 rfl<|onf fl_173_1 rfl<|olR 1 ti_148 rfl rfl<|onf fl_25_0 rfl<|olR 2 ti_22 rfl rfl<|oM 1 rfl<|oxN sl_22 ti_33 (aA 3 rfl) _ om9 rfl<|olE ((nth code.l t).v) ti_33 (aA 3 rfl) om9 rfl<|oln (n:=((nth code.l t).l).length) sl_33 (fun w h=>((h.at 3 rfl).nth t (show t<code.l.length from (by omega)))) rfl<|oeqI _ _ rfl<|.nl)<|hK k14<|?_;clear h10
 refine gcd rfl (fun hb18 hp18=> ?_) fun hb18 hp18=> ?_
 ·skip
  refine sK fun _ k19=>gRn (oV (r_build (cs:= [.int .i64 0, .int .i64 0, .int .i64 0, .int .i64 0]) rfl rfl (by kernel_rfl)) rfl<|.nl)<|gsw 0 ti_32 rfl rfl rfl<|gRn (oM 1 rfl<|.nl)<|nK k19<|gF [4,5] rfl<|gR<|uT<|fun a21 w21 h21=>x_retct (fn:=Tryz.f128) (t:=4) (u:=5) (i:=0) ti_32 rfl h21 rfl rfl rfl rfl<|⟨?_,(h21.sh.sel [] rfl)⟩
  first|(rw [nextIns_t (by omega),decide_eq_true (by omega)];rfl)|(rw [nextIns_f (by omega),decide_eq_false (by omega)];rfl)
 refine gS<|hK k13<|gK fun _ k22=>rT 20 [] (oM 1 rfl<|onf fl_173_1 rfl<|olR 1 ti_148 rfl rfl<|onf fl_25_0 rfl<|olR 2 ti_22 rfl rfl<|oM 1 rfl<|oxN sl_22 ti_33 (aA 3 rfl) _ om9 rfl<|olE ((nth code.l t).v) ti_33 (aA 3 rfl) om9 rfl<|oM 1 rfl<|onf fl_173_2 rfl<|olR 1 ti_171 rfl rfl<|oM 1 rfl<|oxN sl_171 ti_189 (aA 4 rfl) _ om9 rfl<|ofE fl_189_0 rfl<|olI ti_3 (aA 4 rfl) om9 rfl<|oxI sl_33 ti_32 (fun w h=>((h.at 3 rfl).nth t (show t<code.l.length from (by omega)))) om9 rfl<|olw2 [.int .i64 ((nth ((nth code.l t).l) (((nth thr.l t).pc).toNat)).op), .int .i64 ((nth ((nth code.l t).l) (((nth thr.l t).pc).toNat)).a), .int .i64 ((nth ((nth code.l t).l) (((nth thr.l t).pc).toNat)).b), .int .i64 ((nth ((nth code.l t).l) (((nth thr.l t).pc).toNat)).c)] ti_32 (fun w h=>((h.at 3 rfl).nth t (show t<code.l.length from (by omega)))) om9 rfl<|.nl)<|gsw 0 ti_32 rfl rfl rfl<|gRn (oM 1 rfl<|.nl)<|nK k22<|gF [4,5] rfl<|gR<|fun a24 w24 h24=>x_retct (fn:=Tryz.f128) (t:=4) (u:=5) (i:=0) ti_32 rfl h24 rfl rfl rfl rfl<|⟨?_,(h24.sh.sel [] rfl)⟩
 first|(rw [nextIns_t (by omega),decide_eq_true (by omega)];rfl)|(rw [nextIns_f (by omega),decide_eq_false (by omega)];rfl)
theorem pable_c (M:MemS)(g gp:Nat)(code:Ls (Ls Ins))(thr:Ls ThQ)(words owner:Ls Int)(q:M.σ)(pw pv:Value)(locks nregs:Int)(fell:Bool)(t:Nat)(W:World)(hM:MemI Tryz.prog 182 3 M)(hB:Blk W g 173 #[.iface M.T (.pointer (some M.u)), .pointer (some ⟨gp,0,none⟩),thr.v,pv, .bool fell])(hP:Blk W gp 25 #[code.v,pw, .int .i64 locks, .int .i64 nregs])(h_code:code.At W)(h_thr:thr.At W)(hR:MemRd 182 M W words owner q)(hql:(M.qs q).length=code.l.length)(hw3:∀t,t<code.l.length→(nth (M.qs q) t).length≤3)(htl:thr.l.length=code.l.length)(hpc:∀t,t<code.l.length→0≤(nth thr.l t).pc∧(nth thr.l t).pc≤(nth code.l t).l.length)(hlk:∀t,t<code.l.length→∀i,i<(nth code.l t).l.length→(nth (nth code.l t).l i).op=17→0≤(nth (nth code.l t).l i).a∧(nth (nth code.l t).l i).a<owner.l.length)(hge:∀v∈owner.l,-1≤v)(ht:t<code.l.length):
    Rets Tryz.prog 129 [.pointer (some ⟨g,0,none⟩), .int .i64 ((t:Nat):Int)] W (fun v w' =>v= .bool (ableF code thr.l (M.qs q) owner.l t)∧Sh0 W w' []):=by
 have hpct:=hpc t (by omega)
 refine gen Tryz.func129 Tryz.ntmps129 (Sh0.ext (by intro A hA;simp only [List.mem_cons,List.not_mem_nil,or_false] at hA;rcases hA with rfl|rfl|rfl|rfl|rfl|rfl|rfl|rfl;exact hB;exact hP;exact h_code;exact h_thr;exact hR.blk;exact hR.wa;exact hR.oa;exact (fun A hA=>by obtain rfl:=List.mem_singleton.1 hA;exact hR.x)) (by intro A hA b hb;simp only [List.mem_cons,List.not_mem_nil,or_false] at hA;rcases hA with rfl|rfl|rfl|rfl|rfl|rfl|rfl|rfl<;>exact hb):Sh (fun _=>False) W W [.rblk g 173 [.iface M.T (.pointer (some M.u)), .pointer (some ⟨gp,0,none⟩),thr.v,pv, .bool fell], .rblk gp 25 [code.v,pw, .int .i64 locks, .int .i64 nregs], .at_ code, .at_ thr, .rblk M.g0 182 [words.v,owner.v], .at_ words, .at_ owner, .ro [M.X q]]) rfl fun a10 h10=>gG h10<|sG (oM 1 rfl<|.nl)<|sK fun _ k12=>gRn (oM 2 rfl<|.nl)<|fun a14 w14 h14=>wl_ex (x_call h14 bd_128 rfl rfl rfl rfl rfl (pnext_c M g gp code thr words owner q _ _ _ _ _ t _ hM (h14.sh.rblk 0 rfl) (h14.sh.rblk 1 rfl) (h14.sh.at 2 rfl) (h14.sh.at 3 rfl) ⟨h14.sh.rblk 4 rfl,h14.sh.at 5 rfl,h14.sh.at 6 rfl,(h14.sh.ok _ (List.mem_of_getElem? (i:=7) rfl)) _ (List.mem_singleton.2 rfl)⟩ (by omega) (by omega) (by omega))) (wanted_none rfl _) ?_;clear h10
 rintro a15 w15 ⟨_,⟨hv15,hs15⟩,hf15⟩
 subst hv15
 have h15:St 54 (fun _=>False) W a15 w15 _ _:=⟨hf15,h14.sh.call0 hs15⟩
 clear hf15 hs15
 clear h14
 refine gG h15<|gRn (oM 1 rfl<|oxt rfl<|oxt rfl<|.nl)<|gal ti_32 rfl fun b16=>gsw 0 ti_32 rfl rfl rfl<|gRn (oM 1 rfl<|.nl)<|nK k12<|gK fun _ k18=>sG (oM 1 rfl<|ont rfl<|.nl)<|?_;clear h15
 refine gCb rfl (fun hb20=> ?_) fun hb20=> ?_
 ·have hp20:¬((nth thr.l t).pc<((nth code.l t).l.length:Int)):=by simpa using hb20
  refine sG (oM 1 rfl<|.nl)<|gR<|uT<|fun a22 w22 h22=>x_ret1 (fn:=Tryz.f129) (t:=4) rfl h22 rfl<|⟨?_,(h22.sh.sel [] rfl)⟩
  congr 1
  unfold ableF
  first|exact and_f' (by omega)|(refine and_t' (by omega) ?_;unfold ableL;first|(rw [if_pos (by omega)];done)|(rw [if_neg (by omega),if_pos (by omega)];done)|(rw [if_neg (by omega),if_neg (by omega),if_pos (by omega)];first|exact and_f' (by omega)|exact and_t' (by omega) (dec_neg hge2))|(rw [if_neg (by omega),if_neg (by omega),if_neg (by omega)]))
 have hp20:(nth thr.l t).pc<((nth code.l t).l.length:Int):=by simpa using hb20
 refine gS<|hK k18<|?_
 have hnx:=nextIns_t (c:=(nth code.l t).l) (pc:=(nth thr.l t).pc) (by omega)
 have hlk2:=hlk t ht (nth thr.l t).pc.toNat (by omega)
 rw [←hnx] at hlk2
 refine sK fun _ k23=>gRn (oM 1 rfl<|onf fl_173_0 rfl<|olR 1 ti_97 rfl rfl<|oM 1 rfl<|.nl)<|gP (fun _ _ h_=>x_inv2 h_ rfl rfl rfl rfl rfl (hM.waits _ words owner q t ⟨h_.sh.rblk 5 rfl,h_.sh.at 6 rfl,h_.sh.at 7 rfl,(h_.sh.ok _ (List.mem_of_getElem? (i:=8) rfl)) _ (List.mem_singleton.2 rfl)⟩ (by omega) (hw3 t (by omega)))) rfl<|gRn (oM 1 rfl<|.nl)<|nK k23<|gK fun _ k25=>sG (ofB fl_32_0 rfl<|olB 0 ti_3 rfl rfl<|.nl)<|gB<|gK fun _ k27=>sG (oeqI _ _ rfl<|oM 1 rfl<|.nl)<|gcd rfl (fun hb29 hp29=> ?_) fun hb29 hp29=> ?_
 ·skip
  refine gS<|hK k27<|gcT rfl hb29<|sG (oM 1 rfl<|oltN _ 3 rfl<|oM 1 rfl<|.nl)<|gF [4] rfl<|gR<|uB<|uT<|fun a31 w31 h31=>x_ret1 (fn:=Tryz.f129) (t:=4) rfl h31 rfl<|⟨?_,(h31.sh.sel [] rfl)⟩
  congr 1
  unfold ableF
  first|exact and_f' (by omega)|(refine and_t' (by omega) ?_;unfold ableL;first|(rw [if_pos (by omega)];done)|(rw [if_neg (by omega),if_pos (by omega)];done)|(rw [if_neg (by omega),if_neg (by omega),if_pos (by omega)];first|exact and_f' (by omega)|exact and_t' (by omega) (dec_neg hge2))|(rw [if_neg (by omega),if_neg (by omega),if_neg (by omega)]))
 refine sG (oeqI _ _ rfl<|oM 1 rfl<|.nl)<|gcd rfl (fun hb33 hp33=> ?_) fun hb33 hp33=> ?_
 ·skip
  refine gS<|hK k27<|gcT rfl hb33<|sG (oM 1 rfl<|oltN _ 3 rfl<|oM 1 rfl<|.nl)<|gF [4] rfl<|gR<|uB<|uT<|fun a35 w35 h35=>x_ret1 (fn:=Tryz.f129) (t:=4) rfl h35 rfl<|⟨?_,(h35.sh.sel [] rfl)⟩
  congr 1
  unfold ableF
  first|exact and_f' (by omega)|(refine and_t' (by omega) ?_;unfold ableL;first|(rw [if_pos (by omega)];done)|(rw [if_neg (by omega),if_pos (by omega)];done)|(rw [if_neg (by omega),if_neg (by omega),if_pos (by omega)];first|exact and_f' (by omega)|exact and_t' (by omega) (dec_neg hge2))|(rw [if_neg (by omega),if_neg (by omega),if_neg (by omega)]))
 refine gL<|gRn (oeqI _ _ rfl<|oM 1 rfl<|.nl)<|nK k27<|gcd rfl (fun hb36 hp36=> ?_) fun hb36 hp36=> ?_
 ·skip
  refine sG (oM 1 rfl<|oltN _ 3 rfl<|oM 1 rfl<|.nl)<|gF [4] rfl<|gR<|uB<|uT<|fun a38 w38 h38=>x_ret1 (fn:=Tryz.f129) (t:=4) rfl h38 rfl<|⟨?_,(h38.sh.sel [] rfl)⟩
  congr 1
  unfold ableF
  first|exact and_f' (by omega)|(refine and_t' (by omega) ?_;unfold ableL;first|(rw [if_pos (by omega)];done)|(rw [if_neg (by omega),if_pos (by omega)];done)|(rw [if_neg (by omega),if_neg (by omega),if_pos (by omega)];first|exact and_f' (by omega)|exact and_t' (by omega) (dec_neg hge2))|(rw [if_neg (by omega),if_neg (by omega),if_neg (by omega)]))
 refine gK fun _ k39=>sG (oeqI _ _ rfl<|oM 1 rfl<|.nl)<|gF [0,5,7,23,30] rfl<|gcd rfl (fun hb41 hp41=> ?_) fun hb41 hp41=> ?_
 ·skip
  refine gS<|hK k39<|gcT rfl hb41<|sG (oM 1 rfl<|oeqN _ 0 rfl<|oM 1 rfl<|.nl)<|gR<|uB<|uT<|fun a43 w43 h43=>x_ret1 (fn:=Tryz.f129) (t:=4) rfl h43 rfl<|⟨?_,(h43.sh.sel [] rfl)⟩
  congr 1
  unfold ableF
  first|exact and_f' (by omega)|(refine and_t' (by omega) ?_;unfold ableL;first|(rw [if_pos (by omega)];done)|(rw [if_neg (by omega),if_pos (by omega)];done)|(rw [if_neg (by omega),if_neg (by omega),if_pos (by omega)];first|exact and_f' (by omega)|exact and_t' (by omega) (dec_neg hge2))|(rw [if_neg (by omega),if_neg (by omega),if_neg (by omega)]))
 refine gL<|gRn (oeqI _ _ rfl<|oM 1 rfl<|.nl)<|nK k39<|gcd rfl (fun hb44 hp44=> ?_) fun hb44 hp44=> ?_
 ·skip
  refine sG (oM 1 rfl<|oeqN _ 0 rfl<|oM 1 rfl<|.nl)<|gR<|uB<|uT<|fun a46 w46 h46=>x_ret1 (fn:=Tryz.f129) (t:=4) rfl h46 rfl<|⟨?_,(h46.sh.sel [] rfl)⟩
  congr 1
  unfold ableF
  first|exact and_f' (by omega)|(refine and_t' (by omega) ?_;unfold ableL;first|(rw [if_pos (by omega)];done)|(rw [if_neg (by omega),if_pos (by omega)];done)|(rw [if_neg (by omega),if_neg (by omega),if_pos (by omega)];first|exact and_f' (by omega)|exact and_t' (by omega) (dec_neg hge2))|(rw [if_neg (by omega),if_neg (by omega),if_neg (by omega)]))
 refine sG (oeqI _ _ rfl<|oM 1 rfl<|.nl)<|gcd rfl (fun hb48 hp48=> ?_) fun hb48 hp48=> ?_
 ·skip
  have hlk3:=hlk2 (by assumption)
  have hge2:=hge _ (nth_mem owner.l (nextIns (nth code.l t).l (nth thr.l t).pc).a.toNat (by omega))
  refine gK fun _ k49=>fun a50 w50 h50=>x_quiet (by kernel_rfl) (by kernel_rfl) h50 fun _ z51=>qQ h50.fr<|qRn (oM 1 rfl<|oeqN _ 0 rfl<|oM 1 rfl<|.nl)<|?_
  rcases dsp ((nth (M.qs q) t).length=0) with ⟨hb52,hp52⟩|⟨hb52,hp52⟩
  ·skip
   refine qRn (oG hb52 (r_move rfl rfl) rfl<|oG hb52 (r_nil rfl rfl) rfl<|oG hb52 (r_fieldB (r:=0) fl_173_0 rfl rfl rfl) rfl<|oG hb52 (r_ldbR ti_97 rfl rfl (fun w h=>h.rblk 1 rfl) rfl) rfl<|.nl)<|fun _ hq=>wq_inv hq rfl rfl rfl (wanted_yes hq rfl rfl rfl rfl hb52) rfl rfl (fun w h=>(hM.base _ words owner q ⟨h.rblk 5 rfl,h.at 6 rfl,h.at 7 rfl,(h.ok _ (List.mem_of_getElem? (i:=8) rfl)) _ (List.mem_singleton.2 rfl)⟩))<|qRn (oG hb52 (r_nil rfl rfl) rfl<|oG hb52 (r_fieldB (r:=1) fl_182_1 rfl rfl rfl) rfl<|oG hb52 (r_ldbR ti_23 rfl rfl (fun w h=>h.rblk 5 rfl) rfl) rfl<|oG hb52 (r_fieldB (r:=1) fl_32_1 rfl rfl rfl) rfl<|oG hb52 (r_ldb (i:=0) ti_3 rfl rfl rfl rfl) rfl<|.nl)<|?_
   have hl64:owner.l.length≤140737488355328:=(h50.sh.at 7 rfl).len
   refine qRn (oG hb52 (r_ixI (s:=owner) (q:=(nextIns (nth code.l t).l (nth thr.l t).pc).a) sl_23 ti_3 rfl rfl rfl (fun w h=>(h.at 7 rfl)) (show 0≤(nextIns (nth code.l t).l (nth thr.l t).pc).a∧(nextIns (nth code.l t).l (nth thr.l t).pc).a<owner.l.length from om9)) rfl<|oG hb52 (r_lde (s:=owner) (i:=((nextIns (nth code.l t).l (nth thr.l t).pc).a).toNat) (v:= .int .i64 (nth owner.l (((nextIns (nth code.l t).l (nth thr.l t).pc).a).toNat))) ti_3 rfl rfl rfl (fun w h=>(h.at 7 rfl)) (show ((nextIns (nth code.l t).l (nth thr.l t).pc).a).toNat<owner.l.length from om9) (Nat.le_of_ble_eq_true rfl) rfl) rfl<|oG hb52 (r_lssI (p:=nth owner.l (((nextIns (nth code.l t).l (nth thr.l t).pc).a).toNat)) (q:=0) rfl rfl rfl) rfl<|opT hb52 rfl<|oM 1 rfl<|.nl)<|qN z51<|?_;clear h50
   refine hK k49<|gF [4] rfl<|gR<|uB<|uT<|fun a67 w67 h67=>x_ret1 (fn:=Tryz.f129) (t:=4) rfl h67 rfl<|⟨?_,(h67.sh.sel [] rfl)⟩
   congr 1
   unfold ableF
   first|exact and_f' (by omega)|(refine and_t' (by omega) ?_;unfold ableL;first|(rw [if_pos (by omega)];done)|(rw [if_neg (by omega),if_pos (by omega)];done)|(rw [if_neg (by omega),if_neg (by omega),if_pos (by omega)];first|exact and_f' (by omega)|exact and_t' (by omega) (dec_neg hge2))|(rw [if_neg (by omega),if_neg (by omega),if_neg (by omega)]))
  refine qRn (oKs 13 hb52 rfl rfl<|opF hb52 rfl<|oM 1 rfl<|.nl)<|qN z51<|?_;clear h50
  refine hK k49<|gF [4] rfl<|gR<|uB<|uT<|fun a69 w69 h69=>x_ret1 (fn:=Tryz.f129) (t:=4) rfl h69 rfl<|⟨?_,(h69.sh.sel [] rfl)⟩
  congr 1
  unfold ableF
  first|exact and_f' (by omega)|(refine and_t' (by omega) ?_;unfold ableL;first|(rw [if_pos (by omega)];done)|(rw [if_neg (by omega),if_pos (by omega)];done)|(rw [if_neg (by omega),if_neg (by omega),if_pos (by omega)];first|exact and_f' (by omega)|exact and_t' (by omega) (dec_neg hge2))|(rw [if_neg (by omega),if_neg (by omega),if_neg (by omega)]))
 refine gS<|hK k25<|sG (oM 1 rfl<|.nl)<|gR<|fun a71 w71 h71=>x_ret1 (fn:=Tryz.f129) (t:=4) rfl h71 rfl<|⟨?_,(h71.sh.sel [] rfl)⟩
 congr 1
 unfold ableF
 first|exact and_f' (by omega)|(refine and_t' (by omega) ?_;unfold ableL;first|(rw [if_pos (by omega)];done)|(rw [if_neg (by omega),if_pos (by omega)];done)|(rw [if_neg (by omega),if_neg (by omega),if_pos (by omega)];first|exact and_f' (by omega)|exact and_t' (by omega) (dec_neg hge2))|(rw [if_neg (by omega),if_neg (by omega),if_neg (by omega)]))
theorem pmoves_c (M:MemS)(g gp:Nat)(code:Ls (Ls Ins))(thr:Ls ThQ)(words owner:Ls Int)(q:M.σ)(pw pv:Value)(locks nregs:Int)(fell:Bool)(W:World)(hM:MemI Tryz.prog 182 3 M)(hB:Blk W g 173 #[.iface M.T (.pointer (some M.u)), .pointer (some ⟨gp,0,none⟩),thr.v,pv, .bool fell])(hP:Blk W gp 25 #[code.v,pw, .int .i64 locks, .int .i64 nregs])(h_code:code.At W)(h_thr:thr.At W)(hR:MemRd 182 M W words owner q)(hql:(M.qs q).length=code.l.length)(hw3:∀t,t<code.l.length→(nth (M.qs q) t).length≤3)(htl:thr.l.length=code.l.length)(hpc:∀t,t<code.l.length→0≤(nth thr.l t).pc∧(nth thr.l t).pc≤(nth code.l t).l.length)(hlk:∀t,t<code.l.length→∀i,i<(nth code.l t).l.length→(nth (nth code.l t).l i).op=17→0≤(nth (nth code.l t).l i).a∧(nth (nth code.l t).l i).a<owner.l.length)(hge:∀v∈owner.l,-1≤v)(hcl:code.l.length≤4):
    Rets Tryz.prog 121 [.pointer (some ⟨g,0,none⟩)] W (fun v w' =>∃s:Ls Mv,v=s.v∧s.l=movesF M.m code thr.l (M.qs q) owner.l code.l.length∧Sh0 W w' [.own 179 s]):=by
 refine gen Tryz.func121 Tryz.ntmps121 (Sh0.ext (by intro A hA;simp only [List.mem_cons,List.not_mem_nil,or_false] at hA;rcases hA with rfl|rfl|rfl|rfl|rfl|rfl|rfl|rfl;exact hB;exact hP;exact h_code;exact h_thr;exact hR.blk;exact hR.wa;exact hR.oa;exact (fun A hA=>by obtain rfl:=List.mem_singleton.1 hA;exact hR.x)) (by intro A hA b hb;simp only [List.mem_cons,List.not_mem_nil,or_false] at hA;rcases hA with rfl|rfl|rfl|rfl|rfl|rfl|rfl|rfl<;>exact hb):Sh (fun _=>False) W W [.rblk g 173 [.iface M.T (.pointer (some M.u)), .pointer (some ⟨gp,0,none⟩),thr.v,pv, .bool fell], .rblk gp 25 [code.v,pw, .int .i64 locks, .int .i64 nregs], .at_ code, .at_ thr, .rblk M.g0 182 [words.v,owner.v], .at_ words, .at_ owner, .ro [M.X q]]) rfl fun a10 h10=>gG h10<|sG (oM 1 rfl<|.nl)<|sG (oM 1 rfl<|.nl)<|gK fun _ k13=>sK fun _ k14=>gNl (aA 3 rfl) fun hl15=>gRn (oM 1 rfl<|onf fl_173_2 rfl<|olR 0 ti_171 rfl rfl<|oln sl_171 (aA 3 rfl) rfl<|oM 1 rfl<|.nl)<|nK k14<|gB<|fun a18 w18 h18=> ?_;clear h10
 have h17:=h18.nil (α:=Mv) 179
 clear h18
 refine x_loop (fun m a w=>∃(t:Nat) (ml:List Mv) (vm:Value),(t≤thr.l.length)∧(ml=movesF M.m code thr.l (M.qs q) owner.l t)∧(ml.length≤4*t)∧St 43 (fun _=>False) W a w [(0, .pointer (some ⟨g,0,none⟩)),(3,vm),(11, .int .i64 ((thr.l.length:Nat):Int)),(12, .int .i64 ((t:Nat):Int))] [.rblk g 173 [.iface M.T (.pointer (some M.u)), .pointer (some ⟨gp,0,none⟩),thr.v,pv, .bool fell], .rblk gp 25 [code.v,pw, .int .i64 locks, .int .i64 nregs], .at_ code, .at_ thr, .rblk M.g0 182 [words.v,owner.v], .at_ words, .at_ owner, .ro [M.X q], .own 179 (⟨vm,ml⟩:Ls Mv)]∧m=thr.l.length-t) ⟨_,0, [],(.slice none 0 0),(by omega),(rfl),(by simp),h17.nrm ⟨rfl,rfl,rfl,rfl,trivial⟩ [1,2,3,4,5,6,7,8,0] rfl,rfl⟩ ?_
 clear h17
 rintro m16 a16 w16 ⟨t,ml,vm,ht,hml,hmn,h16,hm16⟩
 refine gG h16<|sG (oltN _ _ rfl<|.nl)<|gK fun _ k20=>gcd rfl (fun hb21 hp21=> ?_) fun hb21 hp21=> ?_;clear h16
 ·skip
  refine gS<|hK k20<|gK fun _ k22=>gB<|sG (oM 2 rfl<|.nl)<|gK fun _ k24=>sK fun _ k25=>gRn (oM 2 rfl<|.nl)<|gC (fun _ _ h_=>xCl h_ bd_129 rfl (pable_c M g gp code thr words owner q _ _ _ _ _ t _ hM (h_.sh.rblk 0 rfl) (h_.sh.rblk 1 rfl) (h_.sh.at 2 rfl) (h_.sh.at 3 rfl) ⟨h_.sh.rblk 4 rfl,h_.sh.at 5 rfl,h_.sh.at 6 rfl,(h_.sh.ok _ (List.mem_of_getElem? (i:=7) rfl)) _ (List.mem_singleton.2 rfl)⟩ hql hw3 htl hpc hlk hge (by omega))) rfl<|?_
  rintro _ _ w26 ⟨rfl,hs26⟩
  refine gWk hs26 rfl<|gU<|nK k25<|?_;clear hs26
  refine gCb rfl (fun hb27=> ?_) fun hb27=> ?_
  ·skip
   refine gL<|gRn (oM 2 rfl<|oV (r_build (cs:= [.int .i64 ((t:Nat):Int), .int .i64 (-1)]) rfl rfl (by kernel_rfl)) rfl<|.nl)<|gE1 (fun _ _ h_=>x_lit (n:=1) (cs:= [.int .i64 ((t:Nat):Int), .int .i64 (-1)]) ([(⟨((t:Nat):Int),(-1)⟩:Mv)]:List Mv) h_ sl_175 ti_179 rfl rfl rfl (by decide) rfl (by kernel_rfl) rfl (fun q hq w h=>Flat.inner _ _) (fun q hq b hb=>(Flat.on _ _ hb).elim) rfl rfl) rfl fun v28=>gE1 (fun _ _ h_=>x_app (r:=9) (rm:=0) (s:=(⟨vm,ml⟩:Ls Mv)) (m:=(⟨v28, [(⟨((t:Nat):Int),(-1)⟩:Mv)]⟩:Ls Mv)) h_ sl_175 ti_179 rfl rfl rfl rfl rfl rfl rfl (fun w h=>(h.own 0 rfl)) (fun b hb=>own_on (h_.sh.ok _ (List.mem_of_getElem? (i:=0) rfl)) hb) (fun q hq b hb=>⟨q,hq,hb⟩) rfl rfl rfl inferInstance (show (ml.length+([(⟨((t:Nat):Int),(-1)⟩:Mv)]).length)*16≤140737488355328∧ml.length+([(⟨((t:Nat):Int),(-1)⟩:Mv)]).length≤140737488355328 from om9) rfl rfl) rfl fun v29=>gRn (oM 1 rfl<|.nl)<|nK k24<|sK fun _ k30=>gRn (oM 1 rfl<|onf fl_173_0 rfl<|olR 1 ti_97 rfl rfl<|oM 1 rfl<|.nl)<|gC (fun _ _ h_=>x_inv2 h_ rfl rfl rfl rfl rfl (hM.ready _ words owner q t ⟨h_.sh.rblk 5 rfl,h_.sh.at 6 rfl,h_.sh.at 7 rfl,(h_.sh.ok _ (List.mem_of_getElem? (i:=8) rfl)) _ (List.mem_singleton.2 rfl)⟩ (by omega) (hw3 t (by omega)))) rfl<|?_
   rintro _ _ w31 ⟨rl,rfl,hrl,hs31⟩
   refine gWk hs31 rfl<|gU<|gNl (aO 0 rfl) fun hl32=>gRn (oln sl_23 (aO 0 rfl) rfl<|oM 1 rfl<|.nl)<|nK k30<|gB<|?_;clear hs31
   have hwt:=hw3 t (by omega)
   have hrn:rl.l.length≤3:=by rw [hrl,List.length_map];exact Nat.le_trans (List.length_filter_le _ _) (by simpa using hwt)
   intro a34 w34 h34
   refine x_loop (fun m a w=>∃(k:Nat) (ml2:List Mv) (vm2:Value),(k≤rl.l.length)∧(ml2=ml++((if ableF code thr.l (M.qs q) owner.l t=true then [⟨(t:Int),-1⟩] else [])++(rl.l.take k).map (fun x=>(⟨(t:Int),x⟩:Mv))))∧(ml2.length≤4*t+1+k)∧St 43 (fun _=>False) W a w [(0, .pointer (some ⟨g,0,none⟩)),(3,vm2),(4, .int .i64 ((t:Nat):Int)),(11, .int .i64 ((thr.l.length:Nat):Int)),(12, .int .i64 ((t:Nat):Int)),(28,rl.v),(29, .int .i64 ((rl.l.length:Nat):Int)),(30, .int .i64 ((k:Nat):Int))] [.own 3 rl, .own 179 (⟨v28, [(⟨((t:Nat):Int),(-1)⟩:Mv)]⟩:Ls Mv), .rblk g 173 [.iface M.T (.pointer (some M.u)), .pointer (some ⟨gp,0,none⟩),thr.v,pv, .bool fell], .rblk gp 25 [code.v,pw, .int .i64 locks, .int .i64 nregs], .at_ code, .at_ thr, .rblk M.g0 182 [words.v,owner.v], .at_ words, .at_ owner, .ro [M.X q], .own 179 (⟨vm2,ml2⟩:Ls Mv)]∧m=rl.l.length-k) ⟨_,0,ml++([(⟨((t:Nat):Int),(-1)⟩:Mv)]),v29,(by omega),(by first|(rw [if_pos (by assumption)];simp)|(rw [if_neg (by rw [show ableF code thr.l (M.qs q) owner.l t=false by assumption];decide)];simp)),(by simp;omega),h34.nf ⟨rfl,rfl,rfl,rfl,rfl,rfl,rfl,rfl,trivial⟩,rfl⟩ ?_
   clear h34
   rintro m33 a33 w33 ⟨k,ml2,vm2,hk,hml2,hmn2,h33,hm33⟩
   refine gG h33<|sG (oltN _ _ rfl<|.nl)<|gK fun _ k36=>gcd rfl (fun hb37 hp37=> ?_) fun hb37 hp37=> ?_;clear h33
   ·skip
    refine gS<|hK k36<|gK fun _ k38=>gB<|sG (oxN sl_23 ti_3 (aO 0 rfl) _ om9 rfl<|olI ti_3 (aO 0 rfl) om9 rfl<|oM 1 rfl<|.nl)<|gL<|gRn (oM 3 rfl<|oV (r_build (cs:= [.int .i64 ((t:Nat):Int), .int .i64 (nth rl.l k)]) rfl rfl (by kernel_rfl)) rfl<|.nl)<|gE1 (fun _ _ h_=>x_lit (n:=1) (cs:= [.int .i64 ((t:Nat):Int), .int .i64 (nth rl.l k)]) ([(⟨((t:Nat):Int),nth rl.l k⟩:Mv)]:List Mv) h_ sl_175 ti_179 rfl rfl rfl (by decide) rfl (by kernel_rfl) rfl (fun q hq w h=>Flat.inner _ _) (fun q hq b hb=>(Flat.on _ _ hb).elim) rfl rfl) rfl fun v40=>gE1 (fun _ _ h_=>x_app (r:=11) (rm:=0) (s:=(⟨vm2,ml2⟩:Ls Mv)) (m:=(⟨v40, [(⟨((t:Nat):Int),nth rl.l k⟩:Mv)]⟩:Ls Mv)) h_ sl_175 ti_179 rfl rfl rfl rfl rfl rfl rfl (fun w h=>(h.own 0 rfl)) (fun b hb=>own_on (h_.sh.ok _ (List.mem_of_getElem? (i:=0) rfl)) hb) (fun q hq b hb=>⟨q,hq,hb⟩) rfl rfl rfl inferInstance (show (ml2.length+([(⟨((t:Nat):Int),nth rl.l k⟩:Mv)]).length)*16≤140737488355328∧ml2.length+([(⟨((t:Nat):Int),nth rl.l k⟩:Mv)]).length≤140737488355328 from om9) rfl rfl) rfl fun v41=>gRn (oM 1 rfl<|.nl)<|nK k38<|gL<|gRn (oadN _ 1 om9 rfl<|oM 1 rfl<|.nl)<|nN<|fun a42 w42 h42=>x_again ⟨_, ?_,k+1,ml2++([(⟨((t:Nat):Int),nth rl.l k⟩:Mv)]),v41, ?_, ?_, ?_,h42.nrm ⟨rfl,rfl,rfl,rfl,rfl,rfl,rfl,rfl,trivial⟩ [1,2,3,4,5,6,7,8,9,10,11] rfl,rfl⟩
    · rw [hm33];first|omega|(simp only [lens9];omega)
    · omega
    · rw [take_succ_nth _ _ (by omega),List.map_append,hml2];simp only [List.append_assoc,List.map_cons,List.map_nil]
    · first|omega|(simp;omega)
   refine gX<|hK k22<|gL<|gRn (oadN _ 1 om9 rfl<|oM 1 rfl<|.nl)<|nN<|fun a43 w43 h43=>x_again ⟨_, ?_,t+1,ml2,vm2, ?_, ?_, ?_,h43.nrm ⟨rfl,rfl,rfl,rfl,trivial⟩ [2,3,4,5,6,7,8,9,10] rfl,rfl⟩
   · rw [hm16];first|omega|(simp only [lens9];omega)
   · omega
   · rw [movesF_succ,←hml,movF_eq hrl,hml2,List.take_of_length_le (by omega)]
   · omega
  refine gS<|hK k24<|sK fun _ k44=>gRn (oM 1 rfl<|onf fl_173_0 rfl<|olR 0 ti_97 rfl rfl<|oM 1 rfl<|.nl)<|gC (fun _ _ h_=>x_inv2 h_ rfl rfl rfl rfl rfl (hM.ready _ words owner q t ⟨h_.sh.rblk 4 rfl,h_.sh.at 5 rfl,h_.sh.at 6 rfl,(h_.sh.ok _ (List.mem_of_getElem? (i:=7) rfl)) _ (List.mem_singleton.2 rfl)⟩ (by omega) (hw3 t (by omega)))) rfl<|?_
  rintro _ _ w45 ⟨rl,rfl,hrl,hs45⟩
  refine gWk hs45 rfl<|gU<|gNl (aO 0 rfl) fun hl46=>gRn (oln sl_23 (aO 0 rfl) rfl<|oM 1 rfl<|.nl)<|nK k44<|gB<|?_;clear hs45
  have hwt:=hw3 t (by omega)
  have hrn:rl.l.length≤3:=by rw [hrl,List.length_map];exact Nat.le_trans (List.length_filter_le _ _) (by simpa using hwt)
  intro a48 w48 h48
  refine x_loop (fun m a w=>∃(k:Nat) (ml2:List Mv) (vm2:Value),(k≤rl.l.length)∧(ml2=ml++((if ableF code thr.l (M.qs q) owner.l t=true then [⟨(t:Int),-1⟩] else [])++(rl.l.take k).map (fun x=>(⟨(t:Int),x⟩:Mv))))∧(ml2.length≤4*t+1+k)∧St 43 (fun _=>False) W a w [(0, .pointer (some ⟨g,0,none⟩)),(3,vm2),(4, .int .i64 ((t:Nat):Int)),(11, .int .i64 ((thr.l.length:Nat):Int)),(12, .int .i64 ((t:Nat):Int)),(28,rl.v),(29, .int .i64 ((rl.l.length:Nat):Int)),(30, .int .i64 ((k:Nat):Int))] [.own 3 rl, .rblk g 173 [.iface M.T (.pointer (some M.u)), .pointer (some ⟨gp,0,none⟩),thr.v,pv, .bool fell], .rblk gp 25 [code.v,pw, .int .i64 locks, .int .i64 nregs], .at_ code, .at_ thr, .rblk M.g0 182 [words.v,owner.v], .at_ words, .at_ owner, .ro [M.X q], .own 179 (⟨vm2,ml2⟩:Ls Mv)]∧m=rl.l.length-k) ⟨_,0,ml,vm,(by omega),(by first|(rw [if_pos (by assumption)];simp)|(rw [if_neg (by rw [show ableF code thr.l (M.qs q) owner.l t=false by assumption];decide)];simp)),(by simp;omega),h48.nf ⟨rfl,rfl,rfl,rfl,rfl,rfl,rfl,rfl,trivial⟩,rfl⟩ ?_
  clear h48
  rintro m47 a47 w47 ⟨k,ml2,vm2,hk,hml2,hmn2,h47,hm47⟩
  refine gG h47<|sG (oltN _ _ rfl<|.nl)<|gK fun _ k50=>gcd rfl (fun hb51 hp51=> ?_) fun hb51 hp51=> ?_;clear h47
  ·skip
   refine gS<|hK k50<|gK fun _ k52=>gB<|sG (oxN sl_23 ti_3 (aO 0 rfl) _ om9 rfl<|olI ti_3 (aO 0 rfl) om9 rfl<|oM 1 rfl<|.nl)<|gL<|gRn (oM 3 rfl<|oV (r_build (cs:= [.int .i64 ((t:Nat):Int), .int .i64 (nth rl.l k)]) rfl rfl (by kernel_rfl)) rfl<|.nl)<|gE1 (fun _ _ h_=>x_lit (n:=1) (cs:= [.int .i64 ((t:Nat):Int), .int .i64 (nth rl.l k)]) ([(⟨((t:Nat):Int),nth rl.l k⟩:Mv)]:List Mv) h_ sl_175 ti_179 rfl rfl rfl (by decide) rfl (by kernel_rfl) rfl (fun q hq w h=>Flat.inner _ _) (fun q hq b hb=>(Flat.on _ _ hb).elim) rfl rfl) rfl fun v54=>gE1 (fun _ _ h_=>x_app (r:=10) (rm:=0) (s:=(⟨vm2,ml2⟩:Ls Mv)) (m:=(⟨v54, [(⟨((t:Nat):Int),nth rl.l k⟩:Mv)]⟩:Ls Mv)) h_ sl_175 ti_179 rfl rfl rfl rfl rfl rfl rfl (fun w h=>(h.own 0 rfl)) (fun b hb=>own_on (h_.sh.ok _ (List.mem_of_getElem? (i:=0) rfl)) hb) (fun q hq b hb=>⟨q,hq,hb⟩) rfl rfl rfl inferInstance (show (ml2.length+([(⟨((t:Nat):Int),nth rl.l k⟩:Mv)]).length)*16≤140737488355328∧ml2.length+([(⟨((t:Nat):Int),nth rl.l k⟩:Mv)]).length≤140737488355328 from om9) rfl rfl) rfl fun v55=>gRn (oM 1 rfl<|.nl)<|nK k52<|gL<|gRn (oadN _ 1 om9 rfl<|oM 1 rfl<|.nl)<|nN<|fun a56 w56 h56=>x_again ⟨_, ?_,k+1,ml2++([(⟨((t:Nat):Int),nth rl.l k⟩:Mv)]),v55, ?_, ?_, ?_,h56.nrm ⟨rfl,rfl,rfl,rfl,rfl,rfl,rfl,rfl,trivial⟩ [1,2,3,4,5,6,7,8,9,10] rfl,rfl⟩
   · rw [hm47];first|omega|(simp only [lens9];omega)
   · omega
   · rw [take_succ_nth _ _ (by omega),List.map_append,hml2];simp only [List.append_assoc,List.map_cons,List.map_nil]
   · first|omega|(simp;omega)
  refine gX<|hK k22<|gL<|gRn (oadN _ 1 om9 rfl<|oM 1 rfl<|.nl)<|nN<|fun a57 w57 h57=>x_again ⟨_, ?_,t+1,ml2,vm2, ?_, ?_, ?_,h57.nrm ⟨rfl,rfl,rfl,rfl,trivial⟩ [1,2,3,4,5,6,7,8,9] rfl,rfl⟩
  · rw [hm16];first|omega|(simp only [lens9];omega)
  · omega
  · rw [movesF_succ,←hml,movF_eq hrl,hml2,List.take_of_length_le (by omega)]
  · omega
 refine gX<|hK k13<|sG (oM 2 rfl<|.nl)<|gR<|fun a59 w59 h59=>x_ret1 (fn:=Tryz.f121) (t:=2) rfl h59 rfl<|⟨⟨vm,ml⟩,rfl, ?_,(h59.sh.sel [8] rfl)⟩
 rw [←show t=code.l.length by omega];exact hml
theorem pended_c (M:MemS)(g gp:Nat)(code:Ls (Ls Ins))(thr:Ls ThQ)(words owner:Ls Int)(q:M.σ)(pw pv:Value)(locks nregs:Int)(fell:Bool)(W:World)(hM:MemI Tryz.prog 182 3 M)(hB:Blk W g 173 #[.iface M.T (.pointer (some M.u)), .pointer (some ⟨gp,0,none⟩),thr.v,pv, .bool fell])(hP:Blk W gp 25 #[code.v,pw, .int .i64 locks, .int .i64 nregs])(h_code:code.At W)(h_thr:thr.At W)(hR:MemRd 182 M W words owner q)(hql:(M.qs q).length=code.l.length)(hw3:∀t,t<code.l.length→(nth (M.qs q) t).length≤3)(htl:thr.l.length=code.l.length)(hpc:∀t,t<code.l.length→0≤(nth thr.l t).pc∧(nth thr.l t).pc≤(nth code.l t).l.length)(hcl:code.l.length≤4):
    Rets Tryz.prog 122 [.pointer (some ⟨g,0,none⟩)] W (fun v w' =>v= .bool (endedF code thr.l (M.qs q))∧Sh0 W w' []):=by
 refine gen Tryz.func122 Tryz.ntmps122 (Sh0.ext (by intro A hA;simp only [List.mem_cons,List.not_mem_nil,or_false] at hA;rcases hA with rfl|rfl|rfl|rfl|rfl|rfl|rfl|rfl;exact hB;exact hP;exact h_code;exact h_thr;exact hR.blk;exact hR.wa;exact hR.oa;exact (fun A hA=>by obtain rfl:=List.mem_singleton.1 hA;exact hR.x)) (by intro A hA b hb;simp only [List.mem_cons,List.not_mem_nil,or_false] at hA;rcases hA with rfl|rfl|rfl|rfl|rfl|rfl|rfl|rfl<;>exact hb):Sh (fun _=>False) W W [.rblk g 173 [.iface M.T (.pointer (some M.u)), .pointer (some ⟨gp,0,none⟩),thr.v,pv, .bool fell], .rblk gp 25 [code.v,pw, .int .i64 locks, .int .i64 nregs], .at_ code, .at_ thr, .rblk M.g0 182 [words.v,owner.v], .at_ words, .at_ owner, .ro [M.X q]]) rfl fun a10 h10=>gG h10<|sG (oM 1 rfl<|.nl)<|gK fun _ k12=>sK fun _ k13=>gNl (aA 3 rfl) fun hl14=>gRn (oM 1 rfl<|onf fl_173_2 rfl<|olR 0 ti_171 rfl rfl<|oln sl_171 (aA 3 rfl) rfl<|oM 1 rfl<|.nl)<|nK k13<|gB<|fun a16 w16 h16=>x_loop (fun m a w=>∃(t:Nat),(t≤thr.l.length)∧(∀j,j<t→endF2 code thr.l (M.qs q) j=true)∧St 31 (fun _=>False) W a w [(0, .pointer (some ⟨g,0,none⟩)),(10, .int .i64 ((thr.l.length:Nat):Int)),(11, .int .i64 ((t:Nat):Int))] [.rblk g 173 [.iface M.T (.pointer (some M.u)), .pointer (some ⟨gp,0,none⟩),thr.v,pv, .bool fell], .rblk gp 25 [code.v,pw, .int .i64 locks, .int .i64 nregs], .at_ code, .at_ thr, .rblk M.g0 182 [words.v,owner.v], .at_ words, .at_ owner, .ro [M.X q]]∧m=thr.l.length-t) ⟨_,0,(by omega),(fun j hj=>absurd hj (by omega)),h16.nf ⟨rfl,rfl,rfl,trivial⟩,rfl⟩ ?_;clear h10
 clear h16
 rintro m15 a15 w15 ⟨t,ht,hall,h15,hm15⟩
 refine gG h15<|sG (oltN _ _ rfl<|.nl)<|gK fun _ k18=>gcd rfl (fun hb19 hp19=> ?_) fun hb19 hp19=> ?_;clear h15
 ·skip
  refine gS<|hK k18<|gK fun _ k20=>gB<|sG (oM 2 rfl<|.nl)<|?_
  have hpct:=hpc t (by omega)
  refine sK fun _ k22=>gRn (oM 2 rfl<|.nl)<|fun a24 w24 h24=>wl_ex (x_call h24 bd_128 rfl rfl rfl rfl rfl (pnext_c M g gp code thr words owner q _ _ _ _ _ t _ hM (h24.sh.rblk 0 rfl) (h24.sh.rblk 1 rfl) (h24.sh.at 2 rfl) (h24.sh.at 3 rfl) ⟨h24.sh.rblk 4 rfl,h24.sh.at 5 rfl,h24.sh.at 6 rfl,(h24.sh.ok _ (List.mem_of_getElem? (i:=7) rfl)) _ (List.mem_singleton.2 rfl)⟩ (by omega) (by omega) (by omega))) (wanted_none rfl _) ?_
  rintro a25 w25 ⟨_,⟨hv25,hs25⟩,hf25⟩
  subst hv25
  have h25:St 31 (fun _=>False) W a25 w25 _ _:=⟨hf25,h24.sh.call0 hs25⟩
  clear hf25 hs25
  clear h24
  refine gG h25<|gRn (oM 1 rfl<|oxt rfl<|oxt rfl<|.nl)<|gal ti_32 rfl fun b26=>gsw 0 ti_32 rfl rfl rfl<|gRn (oM 1 rfl<|.nl)<|nK k22<|sK fun _ k28=>gRn (oM 2 rfl<|.nl)<|?_;clear h25
  rcases dsp ((nth thr.l t).pc<((nth code.l t).l.length:Int)) with ⟨hb29,hp29⟩|⟨hb29,hp29⟩
  ·skip
   refine gRn (oKs 7 hb29 rfl rfl<|opT hb29 rfl<|.nl)<|nK k28<|gcT rfl rfl<|sG (oM 1 rfl<|.nl)<|gF [2] rfl<|gR<|uB<|uT<|uT<|uB<|uT<|fun a31 w31 h31=>x_ret1 (fn:=Tryz.f122) (t:=2) rfl h31 rfl<|⟨?_,(h31.sh.sel [] rfl)⟩
   congr 1
   first|exact (endedF_t (fun j hj=>hall j (by omega))).symm|exact (endedF_f (t:=t) (by omega) (by first|exact .inl (by omega)|exact .inr (by omega))).symm
  refine gRn (oG hb29 (r_move rfl rfl) rfl<|oG hb29 (r_nil rfl rfl) rfl<|oG hb29 (r_fieldB (r:=0) fl_173_0 rfl rfl rfl) rfl<|oG hb29 (r_ldbR ti_97 rfl rfl (fun w h=>h.rblk 1 rfl) rfl) rfl<|oG hb29 (r_move rfl rfl) rfl<|.nl)<|fun a32 w32 h32=>wl_ex (x_inv2 h32 rfl rfl rfl rfl rfl (hM.waits _ words owner q t ⟨h32.sh.rblk 5 rfl,h32.sh.at 6 rfl,h32.sh.at 7 rfl,(h32.sh.ok _ (List.mem_of_getElem? (i:=8) rfl)) _ (List.mem_singleton.2 rfl)⟩ (by omega) (hw3 t (by omega)))) (wanted_yes h32.fr rfl rfl rfl rfl hb29) ?_
  rintro a33 w33 ⟨_,⟨rfl,hs33⟩,hf33⟩
  have h33:St 31 (fun _=>False) W a33 w33 _ _:=⟨hf33,h32.sh.call0 hs33⟩
  clear hf33 hs33
  clear h32
  refine gG h33<|gRn (oG hb29 (r_gtrN (p:=(nth (M.qs q) t).length) (q:=0) rfl rfl rfl) rfl<|opF hb29 rfl<|.nl)<|nK k28<|?_;clear h33
  refine gcd rfl (fun hb34 hp34=> ?_) fun hb34 hp34=> ?_
  ·skip
   refine sG (oM 1 rfl<|.nl)<|gF [2] rfl<|gR<|uB<|uT<|uT<|uB<|uT<|fun a36 w36 h36=>x_ret1 (fn:=Tryz.f122) (t:=2) rfl h36 rfl<|⟨?_,(h36.sh.sel [] rfl)⟩
   congr 1
   first|exact (endedF_t (fun j hj=>hall j (by omega))).symm|exact (endedF_f (t:=t) (by omega) (by first|exact .inl (by omega)|exact .inr (by omega))).symm
  refine gS<|hK k20<|gL<|gRn (oadN _ 1 om9 rfl<|oM 1 rfl<|.nl)<|nN<|fun a37 w37 h37=>x_again ⟨_, ?_,t+1, ?_, ?_,h37.nrm ⟨rfl,rfl,rfl,trivial⟩ [1,2,3,4,5,6,7,8] rfl,rfl⟩
  · rw [hm15];first|omega|(simp only [lens9];omega)
  · omega
  · intro j hj;rcases Nat.lt_or_ge j t with h9|h9;(exact hall j h9);obtain rfl:j=t:=(by omega);exact endF2_t (by omega) (by omega)
 refine gX<|hK k12<|sG (oM 1 rfl<|.nl)<|gR<|fun a39 w39 h39=>x_ret1 (fn:=Tryz.f122) (t:=2) rfl h39 rfl<|⟨?_,(h39.sh.sel [] rfl)⟩
 congr 1
 first|exact (endedF_t (fun j hj=>hall j (by omega))).symm|exact (endedF_f (t:=t) (by omega) (by first|exact .inl (by omega)|exact .inr (by omega))).symm
theorem pbit_c (b:Bool)(W:World):
    Rets Tryz.prog 145 [.bool b] W (fun v w' =>v= .int .i64 (bit b)∧Sh0 W w' []):=by
 refine gen Tryz.func145 Tryz.ntmps145 (Sh0.start _:Sh (fun _=>False) W W []) rfl fun a10 h10=>gG h10<|sG (oM 1 rfl<|.nl)<|gK fun _ k12=>sG (oM 1 rfl<|.nl)<|?_;clear h10
 refine gCb rfl (fun hb14=> ?_) fun hb14=> ?_
 ·skip
  refine sG (oM 1 rfl<|.nl)<|gR<|uT<|fun a16 w16 h16=>x_ret1 (fn:=Tryz.f145) (t:=2) rfl h16 rfl<|⟨?_,(h16.sh.sel [] rfl)⟩
  first|(rw [show b=true by assumption];rfl)|(rw [show b=false by assumption];rfl)
 refine gS<|hK k12<|sG (oM 1 rfl<|.nl)<|gR<|fun a18 w18 h18=>x_ret1 (fn:=Tryz.f145) (t:=2) rfl h18 rfl<|⟨?_,(h18.sh.sel [] rfl)⟩
 first|(rw [show b=true by assumption];rfl)|(rw [show b=false by assumption];rfl)
theorem pwords_c (M:MemS)(g gp:Nat)(code:Ls (Ls Ins))(thr:Ls ThQ)(words owner:Ls Int)(q:M.σ)(pw pv:Value)(locks nregs:Int)(fell:Bool)(W:World)(hM:MemI Tryz.prog 182 3 M)(hB:Blk W g 173 #[.iface M.T (.pointer (some M.u)), .pointer (some ⟨gp,0,none⟩),thr.v,pv, .bool fell])(hP:Blk W gp 25 #[code.v,pw, .int .i64 locks, .int .i64 nregs])(h_code:code.At W)(h_thr:thr.At W)(hR:MemRd 182 M W words owner q)(hwn:words.l.length≤100000):
    Rets Tryz.prog 120 [.pointer (some ⟨g,0,none⟩)] W (fun v w' =>∃s:Ls Int,v=s.v∧s.l=words.l∧Sh0 W w' [.own 3 s]):=by
 refine gen Tryz.func120 Tryz.ntmps120 (Sh0.ext (by intro A hA;simp only [List.mem_cons,List.not_mem_nil,or_false] at hA;rcases hA with rfl|rfl|rfl|rfl|rfl|rfl|rfl|rfl;exact hB;exact hP;exact h_code;exact h_thr;exact hR.blk;exact hR.wa;exact hR.oa;exact (fun A hA=>by obtain rfl:=List.mem_singleton.1 hA;exact hR.x)) (by intro A hA b hb;simp only [List.mem_cons,List.not_mem_nil,or_false] at hA;rcases hA with rfl|rfl|rfl|rfl|rfl|rfl|rfl|rfl<;>exact hb):Sh (fun _=>False) W W [.rblk g 173 [.iface M.T (.pointer (some M.u)), .pointer (some ⟨gp,0,none⟩),thr.v,pv, .bool fell], .rblk gp 25 [code.v,pw, .int .i64 locks, .int .i64 nregs], .at_ code, .at_ thr, .rblk M.g0 182 [words.v,owner.v], .at_ words, .at_ owner, .ro [M.X q]]) rfl fun a10 h10=>gG h10<|sG (oM 1 rfl<|.nl)<|sK fun _ k12=>gRn (oM 1 rfl<|onf fl_173_0 rfl<|olR 0 ti_97 rfl rfl<|.nl)<|gP (fun _ _ h_=>x_inv2 h_ rfl rfl rfl rfl rfl (hM.base _ words owner q ⟨h_.sh.rblk 4 rfl,h_.sh.at 5 rfl,h_.sh.at 6 rfl,(h_.sh.ok _ (List.mem_of_getElem? (i:=7) rfl)) _ (List.mem_singleton.2 rfl)⟩)) rfl<|gRn (onf fl_182_0 rfl<|olR 4 ti_23 rfl rfl<|.nl)<|gC (fun _ _ h_=>xCl h_ bd_44 rfl (cloneI_c words _ (h_.sh.at 5 rfl) (by first|omega|(simp only [lens9];omega)))) rfl<|?_;clear h10
 rintro _ _ w14 ⟨s14,rfl,hs14⟩
 refine gWk hs14 rfl<|gU<|gRn (oM 1 rfl<|.nl)<|nK k12<|gR<|fun a15 w15 h15=> ?_;clear hs14
 refine x_ret1 (fn:=Tryz.f120) (t:=2) rfl h15 rfl ?_
 exact ⟨⟨s14.v,words.l⟩,rfl,rfl,(h15.sh.sel [0] rfl)⟩
theorem pbit_t {b:Bool}(h:b=true)(W:World):Rets Tryz.prog 145 [.bool b] W (fun v w' =>v= .int .i64 1∧Sh0 W w' []):=by subst h;exact pbit_c true W
theorem pbit_f {b:Bool}(h:b=false)(W:World):Rets Tryz.prog 145 [.bool b] W (fun v w' =>v= .int .i64 0∧Sh0 W w' []):=by subst h;exact pbit_c false W
def mstR (rows:List ThR)(qs:List (List Wt))(words owner prints:List Int):MSt:=⟨(List.range rows.length).map fun t=>⟨(nth rows t).pc,(nth rows t).regs.l,nth qs t⟩,words,owner,prints⟩
section
variable {code:Ls (Ls Ins)}{words0:Ls Int}{Lk R:Nat}{m:Int}{rows:List ThR}{qs:List (List Wt)}{words owner prints script:List Int}{nx k t:Nat}
theorem mstR_len :(mstR rows qs words owner prints).ths.length=rows.length:=by simp [mstR]
theorem nth_range {n i:Nat}(h:i<n):nth (List.range n) i=i:=by simp [nth,h]
theorem mstR_th (ht:t<rows.length):nth (mstR rows qs words owner prints).ths t=⟨(nth rows t).pc,(nth rows t).regs.l,nth qs t⟩:=by
 unfold mstR
 show nth ((List.range rows.length).map _) t=_
 rw [nth_map' _ _ _ (by simpa using ht),nth_range ht]
theorem mstR_view (ht:t<rows.length):(mstR rows qs words owner prints).view t=⟨(nth rows t).pc,(nth rows t).regs.l,nth qs t,words,owner,prints,false⟩:=by
 unfold MSt.view
 rw [mstR_th ht]
 rfl
theorem toQ_at (ht:t<rows.length):nth (rows.map ThR.toQ) t=(nth rows t).toQ:=nth_map' _ _ _ ht
theorem movesF_eq (hl:rows.length=code.l.length):movesF m code (rows.map ThR.toQ) qs owner code.l.length=movesV (pgN code words0 Lk R) m (mstR rows qs words owner prints):=by
 unfold movesF movesV
 rw [pgN_len]
 refine flatMap_congr' fun t ht=> ?_
 have ht' :t<code.l.length:=by simpa using ht
 rw [pgN_code ht',mstR_view (by omega)]
 unfold movF
 rw [toQ_at (by omega)]
 rfl
theorem endedF_eq (hl:rows.length=code.l.length):endedF code (rows.map ThR.toQ) qs=ended (pgN code words0 Lk R) (mstR rows qs words owner prints):=by
 unfold endedF ended
 rw [pgN_len]
 refine all_congr' fun t ht=> ?_
 have ht' :t<code.l.length:=by simpa using ht
 rw [pgN_code ht',mstR_th (by omega)]
 unfold endF2
 rw [toQ_at (by omega)]
 rfl
theorem mstR_put {x:ThR}{y:TS}(ht:t<rows.length)(hq:t<qs.length)(e1:x.pc=y.pc)(e2:x.regs.l=y.regs):mstR (rows.set t x) (qs.set t y.wait) y.words y.owner y.prints=(mstR rows qs words owner prints).putT t y:=by
 have key:(mstR (rows.set t x) (qs.set t y.wait) y.words y.owner y.prints).ths=((mstR rows qs words owner prints).putT t y).ths:=by
  refine ext_nth _ _ (by simp [mstR,MSt.putT]) fun i hi=> ?_
  have hi' :i<rows.length:=by simpa [mstR] using hi
  rw [mstR_th (by simpa using hi')]
  show _=nth ((mstR rows qs words owner prints).ths.set t ⟨y.pc,y.regs,y.wait⟩) i
  rw [nth_set0,nth_set0,nth_set0,mstR_len]
  by_cases e:t=i
  ·subst e
   rw [if_pos ⟨rfl,ht⟩,if_pos ⟨rfl,hq⟩,if_pos ⟨rfl,ht⟩,e1,e2]
  ·rw [if_neg (fun h=>e h.1),if_neg (fun h=>e h.1),if_neg (fun h=>e h.1),mstR_th hi']
 show MSt.mk _ _ _ _=MSt.mk _ _ _ _
 have h2:((List.range (rows.set t x).length).map fun u=>(⟨(nth (rows.set t x) u).pc,(nth (rows.set t x) u).regs.l,nth (qs.set t y.wait) u⟩:Th))=(mstR rows qs words owner prints).ths.set t ⟨y.pc,y.regs,y.wait⟩:=key
 rw [h2]
theorem doT_pr {n k:Nat}{c:List Ins}{x:TS} :(doT m n c k x).prints.length≤x.prints.length+2:=by
 unfold doT
 split
 ·show x.prints.length≤_
  omega
 ·refine execT_elim (Q:=fun y=>y.prints.length≤x.prints.length+2) (x:= { x with pc:=x.pc+1 }) ?_ (fun _ _=> ?_) (fun w _=> ?_) ?_ (fun _ _=> ?_) (fun _=> ?_) (fun _=> ?_) (fun _=> ?_)
  all_goals first
   |(show x.prints.length≤_;omega)
   |(show (x.prints++_).length≤_;simp)
   |skip
  unfold TS.store
  split<;>(show x.prints.length≤_;omega)
structure GoX (code:Ls (Ls Ins))(words0:Ls Int)(Lk R:Nat)(m:Int)(script:List Int)(nx k:Nat)(rows:List ThR)(qs:List (List Wt))(words owner prints:List Int):Prop where
 go:GoI (pgN code words0 Lk R) m script nx (mstR rows qs words owner prints) k
 rl:rows.length=code.l.length
 ql:qs.length=code.l.length
theorem GoX.start (hr:rows.map ThR.th=List.replicate code.l.length ⟨0,List.replicate R 0, []⟩)(hq:qs=List.replicate code.l.length [])(hw:words=words0.l)(ho:owner=List.replicate Lk (-1)):GoX code words0 Lk R m script 0 0 rows qs words owner []:=by
 have hl:rows.length=code.l.length:=by simpa using congrArg List.length hr
 have e:mstR rows qs words owner []=begin_ (pgN code words0 Lk R):=by
  unfold mstR begin_
  have h1:((List.range rows.length).map fun t=>(⟨(nth rows t).pc,(nth rows t).regs.l,nth qs t⟩:Th))=(pgN code words0 Lk R).code.map fun _=>⟨0,List.replicate (pgN code words0 Lk R).regs.toNat 0, []⟩:=by
   refine ext_nth _ _ (by simp [hl,pgN,pgOf]) fun i hi=> ?_
   have hi' :i<rows.length:=by simpa using hi
   have h2:=congrArg (fun l=>nth l i) hr
   simp only [nth_map' ThR.th _ _ hi',nth_replicate _ _ _ (show i<code.l.length by omega)] at h2
   rw [nth_map' _ _ _ (by simpa using hi'),nth_range hi',nth_map' _ _ _ (by rw [pgN_len];omega),hq,nth_replicate _ _ _ (by omega)]
   have h3:=congrArg Th.pc h2
   have h4:=congrArg Th.regs h2
   simp only [ThR.th] at h3 h4
   rw [h3,h4]
   simp [pgN,pgOf]
  rw [h1,hw,ho]
  simp [pgN,pgOf]
 refine ⟨by rw [e];exact goI_start,hl,by rw [hq];simp⟩
structure GoF (code:Ls (Ls Ins))(words0:Ls Int)(Lk R:Nat)(rows:List ThR)(qs:List (List Wt))(words owner:List Int):Prop where
 rl:rows.length=code.l.length
 hpc:∀t,t<code.l.length→0≤(nth (rows.map ThR.toQ) t).pc∧(nth (rows.map ThR.toQ) t).pc≤(nth code.l t).l.length
 hw3:∀t,t<code.l.length→(nth qs t).length≤3
 hlk:∀t,t<code.l.length→∀i,i<(nth code.l t).l.length→(nth (nth code.l t).l i).op=17→0≤(nth (nth code.l t).l i).a∧(nth (nth code.l t).l i).a<owner.length
 hge:∀v∈owner,-1≤v
 hwl:words.length=words0.l.length
 hol:owner.length=Lk
 hreg:∀t,t<code.l.length→(nth rows t).regs.l.length=R
 hwt:∀t,t<code.l.length→∀j,j<(nth qs t).length→if (nth (nth qs t) j).lock=true then 0≤(nth (nth qs t) j).wh∧(nth (nth qs t) j).wh<owner.length else 0≤(nth (nth qs t) j).wh∧(nth (nth qs t) j).wh<words.length
 hwh0:∀t,t<code.l.length→∀x∈nth qs t,x.lock=true→x.what=0
theorem GoX.len (hc:code.l.length≤4)(hw3:∀t,t<code.l.length→(nth qs t).length≤3)(n:Nat)(hn:n≤code.l.length):(movesF m code (rows.map ThR.toQ) qs owner n).length≤4*n:=by
 induction n with
 |zero=>simp [movesF]
 |succ n ih=>
  rw [movesF_succ,List.length_append]
  have h1:=ih (by omega)
  have h2:=hw3 n (by omega)
  have h3:=movF_len (m:=m) (code:=code) (thr:=rows.map ThR.toQ) (q:=qs) (owner:=owner) (t:=n)
  omega
theorem GoX.pick (h:GoX code words0 Lk R m script nx k rows qs words owner prints){ml:List Mv}(hml:ml=movesF m code (rows.map ThR.toQ) qs owner code.l.length)(hl:ml.length≠0)(h3:∀t,t<code.l.length→(nth qs t).length≤3):
  ∃t j,t<code.l.length∧mvOK m (nth code.l t).l ⟨(nth rows t).pc,(nth rows t).regs.l,nth qs t,words,owner,prints,false⟩ j=true∧j<8∧nth ml (pickM script nx ml.length)=⟨(t:Int),(j:Int)-1⟩∧mvM (pgN code words0 Lk R) m (mstR rows qs words owner prints) script nx=8*t+j:=by
 have e:ml=movesV (pgN code words0 Lk R) m (mstR rows qs words owner prints):=by rw [hml];exact movesF_eq h.rl
 have el:ml.length=(moves (pgN code words0 Lk R) m (mstR rows qs words owner prints)).length:=by rw [e,movesV_len]
 have hp:=pick_lt script nx hl
 obtain ⟨t,j,h1,h2,h4,h5⟩:=movesV_at (p:=pgN code words0 Lk R) (m:=m) (s:=mstR rows qs words owner prints) (i:=pickM script nx ml.length) (by rw [←e];exact hp)
 rw [pgN_len] at h1
 rw [pgN_code h1,mstR_view (by rw [h.rl];exact h1)] at h2
 refine ⟨t,j,h1,h2, ?_,by rw [e] at h4⊢;exact h4, ?_⟩
 ·rcases mvOK_k h2 with ⟨h9,_⟩|⟨_,h9,_⟩
  ·omega
  ·have:=h3 t h1
   change j≤(nth qs t).length at h9
   omega
 ·unfold mvM
  rw [←el,h5]
  omega
theorem GoX.next (h:GoX code words0 Lk R m script nx k rows qs words owner prints)(he:endedF code (rows.map ThR.toQ) qs=false){l:Nat}(hl:l=(movesF m code (rows.map ThR.toQ) qs owner code.l.length).length)(hl0:l≠0)(hk:k≠5000){t j:Nat}(ht:t<code.l.length)(hj:j<8)(hm:mvOK m (nth code.l t).l ⟨(nth rows t).pc,(nth rows t).regs.l,nth qs t,words,owner,prints,false⟩ j=true)
  (e:mvM (pgN code words0 Lk R) m (mstR rows qs words owner prints) script nx=8*t+j) {y:TS} (hy:y=doT m t (nth code.l t).l j ⟨(nth rows t).pc,(nth rows t).regs.l,nth qs t,words,owner,prints,false⟩) {x:ThR} (e1:x.pc=y.pc) (e2:x.regs.l=y.regs):
  (y.fell=true→runM (pgN code words0 Lk R) m script=⟨1,k+1,y.words,y.prints⟩)∧(y.fell=false→GoX code words0 Lk R m script (nextM script nx l) (k+1) (rows.set t x) (qs.set t y.wait) y.words y.owner y.prints):=by
 have hr:t<rows.length:=by rw [h.rl];exact ht
 have hst:stepT (pgN code words0 Lk R) m (mstR rows qs words owner prints) t j=y:=by
  unfold stepT
  rw [pgN_code ht,mstR_view hr,hy]
 have hl' :l=(moves (pgN code words0 Lk R) m (mstR rows qs words owner prints)).length:=by
  rw [hl,movesF_eq (words0:=words0) (Lk:=Lk) (R:=R) (words:=words) (prints:=prints) h.rl,movesV_len]
 obtain ⟨a,b⟩:=goI_next h.go (by rw [←endedF_eq h.rl];exact he) (by rw [←hl'];exact hl0) hk hj e (by rw [pgN_len];exact ht) (by rw [pgN_code ht,mstR_view hr];exact hm) (by rw [hst,hy];exact doT_pr)
 rw [hst] at a b
 refine ⟨a,fun hf=> ?_⟩
 have h2:=b hf
 rw [←hl',←mstR_put hr (by rw [h.ql];exact ht) e1 e2] at h2
 exact ⟨h2,by simpa using h.rl,by simpa using h.ql⟩
theorem GoX.ended (h:GoX code words0 Lk R m script nx k rows qs words owner prints)(he:endedF code (rows.map ThR.toQ) qs=true):runM (pgN code words0 Lk R) m script=⟨0,k,words,prints⟩:=goI_ended h.go (by rw [←endedF_eq h.rl];exact he)
theorem GoX.stuck (h:GoX code words0 Lk R m script nx k rows qs words owner prints)(he:endedF code (rows.map ThR.toQ) qs=false)(hl:(movesF m code (rows.map ThR.toQ) qs owner code.l.length).length=0):runM (pgN code words0 Lk R) m script=⟨2,k,words,prints⟩:=
 goI_stuck h.go (by rw [←endedF_eq h.rl];exact he) (by rw [←movesV_len,←movesF_eq h.rl];exact hl)
theorem GoX.out (h:GoX code words0 Lk R m script nx k rows qs words owner prints)(he:endedF code (rows.map ThR.toQ) qs=false)(hl:(movesF m code (rows.map ThR.toQ) qs owner code.l.length).length≠0)(hk:k=5000):runM (pgN code words0 Lk R) m script=⟨3,k,words,prints⟩:=
 goI_out h.go (by rw [←endedF_eq h.rl];exact he) (by rw [←movesV_len,←movesF_eq h.rl];exact hl) hk
end
def dg (d:Nat):Nat:=if d<10 then 48+d else 87+d
def undg (b:Nat):Nat:=if b<58 then b-48 else b-87
def digs (n:Nat):List Nat:=if h:n<36 then [dg n] else digs (n/36)++ [dg (n%36)]
termination_by n
decreasing_by omega
def num36 (n:Int):List Nat:=if n<0 then 45::digs n.natAbs else digs n.natAbs
def putB (l:List Int):List Nat:=l.flatMap (fun n=>num36 n++ [32])++ [59]
def valD (l:List Nat):Nat:=l.foldl (fun a b=>a*36+undg b) 0
theorem digs_lo {n:Nat}(h:n<36):digs n= [dg n]:=by rw [digs,dif_pos h]
theorem digs_hi {n:Nat}(h:¬n<36):digs n=digs (n/36)++ [dg (n%36)]:=by rw [digs,dif_neg h]
theorem undg_dg {d:Nat}(h:d<36):undg (dg d)=d:=by
 unfold dg undg
 split<;>split<;>omega
theorem valD_digs (n:Nat):valD (digs n)=n:=by
 induction n using Nat.strongRecOn with
 |_ n ih=>
  by_cases h:n<36
  ·rw [digs_lo h];simp [valD,undg_dg h]
  ·rw [digs_hi h]
   unfold valD
   rw [List.foldl_append]
   have:=ih (n/36) (by omega)
   unfold valD at this
   rw [this]
   simp only [List.foldl_cons,List.foldl_nil]
   rw [undg_dg (by omega)]
   omega
theorem digs_ok (n:Nat):digs n≠ []∧∀b∈digs n,b≠32∧b≠59∧b≠45∧b<128:=by
 induction n using Nat.strongRecOn with
 |_ n ih=>
  have hd:∀d,d<36→dg d≠32∧dg d≠59∧dg d≠45∧dg d<128:=by
   intro d hd
   unfold dg
   split<;>omega
  by_cases h:n<36
  ·rw [digs_lo h]
   refine ⟨by simp,fun b hb=> ?_⟩
   obtain rfl:b=dg n:=by simpa using hb
   exact hd n h
  ·rw [digs_hi h]
   refine ⟨by simp,fun b hb=> ?_⟩
   rcases List.mem_append.1 hb with hb|hb
   ·exact (ih (n/36) (by omega)).2 b hb
   ·obtain rfl:b=dg (n%36):=by simpa using hb
    exact hd _ (by omega)
theorem num36_ok (n:Int):num36 n≠ []∧∀b∈num36 n,b≠32∧b≠59∧b<128:=by
 have h:=digs_ok n.natAbs
 unfold num36
 split
 ·refine ⟨by simp,fun b hb=> ?_⟩
  rcases List.mem_cons.1 hb with rfl|hb
  ·decide
  ·exact ⟨(h.2 b hb).1,(h.2 b hb).2.1,(h.2 b hb).2.2.2⟩
 ·exact ⟨h.1,fun b hb=>⟨(h.2 b hb).1,(h.2 b hb).2.1,(h.2 b hb).2.2.2⟩⟩
theorem num36_inj {a b:Int}(h:num36 a=num36 b):a=b:=by
 unfold num36 at h
 have hne:∀n (l:List Nat),digs n=45::l→False:=fun n l e=>by
  have:=(digs_ok n).2 45 (by rw [e];simp)
  exact this.2.2.1 rfl
 split at h<;>split at h
 ·have:=congrArg valD (List.cons.inj h).2
  rw [valD_digs,valD_digs] at this
  omega
 ·exact (hne _ _ h.symm).elim
 ·exact (hne _ _ h).elim
 ·have:=congrArg valD h
  rw [valD_digs,valD_digs] at this
  omega
theorem split_at {z:Nat} :∀ {a b r r' :List Nat},(∀x∈a,x≠z)→(∀x∈b,x≠z)→a++z::r=b++z::r' →a=b∧r=r'
 | [], [],r,r',_,_,h=>⟨rfl,(List.cons.inj h).2⟩
 | [],y::b,r,r',_,h2,h=>((h2 y (by simp)) (List.cons.inj h).1.symm).elim
 |x::a, [],r,r',h1,_,h=>((h1 x (by simp)) (List.cons.inj h).1).elim
 |x::a,y::b,r,r',h1,h2,h=>by
  obtain ⟨e1,e2⟩:=List.cons.inj h
  obtain ⟨e3,e4⟩:=split_at (a:=a) (b:=b) (fun q hq=>h1 q (by simp [hq])) (fun q hq=>h2 q (by simp [hq])) e2
  exact ⟨by rw [e1,e3],e4⟩
theorem putB_inj :∀ {l m:List Int} {r r' :List Nat},putB l++r=putB m++r' →l=m∧r=r'
 | [], [],r,r',h=>⟨rfl,by simpa [putB] using h⟩
 | [],y::m,r,r',h=>by
  exfalso
  obtain ⟨h1,h2⟩:=num36_ok y
  obtain ⟨b,l,e⟩:=List.exists_cons_of_ne_nil h1
  have h3:=h2 b (by rw [e];simp)
  simp only [putB,List.flatMap_nil,List.flatMap_cons,e,List.nil_append,List.cons_append,List.cons.injEq] at h
  exact h3.2.1 h.1.symm
 |x::l, [],r,r',h=>by
  exfalso
  obtain ⟨h1,h2⟩:=num36_ok x
  obtain ⟨b,l',e⟩:=List.exists_cons_of_ne_nil h1
  have h3:=h2 b (by rw [e];simp)
  simp only [putB,List.flatMap_nil,List.flatMap_cons,e,List.nil_append,List.cons_append,List.cons.injEq] at h
  exact h3.2.1 h.1
 |x::l,y::m,r,r',h=>by
  have h' :num36 x++32::(putB l++r)=num36 y++32::(putB m++r'):=by simpa [putB,List.append_assoc] using h
  obtain ⟨e1,e2⟩:=split_at (fun q hq=>((num36_ok x).2 q hq).1) (fun q hq=>((num36_ok y).2 q hq).1) h'
  obtain ⟨e3,e4⟩:=putB_inj e2
  exact ⟨by rw [num36_inj e1,e3],e4⟩
theorem keyB_inj :∀ {L M:List (List Int)},L.flatMap putB=M.flatMap putB→L=M
 | [], [],_=>rfl
 | [],y::M,h=>by simp [putB] at h
 |x::L, [],h=>by simp [putB] at h
 |x::L,y::M,h=>by
  simp only [List.flatMap_cons] at h
  obtain ⟨e1,e2⟩:=putB_inj h
  rw [e1,keyB_inj e2]
theorem putB_lt {l:List Int} :∀b∈putB l,b<128:=by
 intro b hb
 unfold putB at hb
 rcases List.mem_append.1 hb with hb|hb
 ·obtain ⟨n,_,hb⟩:=List.mem_flatMap.1 hb
  rcases List.mem_append.1 hb with hb|hb
  ·exact ((num36_ok n).2 b hb).2.2
  ·obtain rfl:b=32:=by simpa using hb
   decide
 ·obtain rfl:b=59:=by simpa using hb
  decide
def keyLL (tq:List (List Wt)→List (List Int))(s:MSt):List (List Int):=s.ths.flatMap (fun t=> [[t.pc],t.regs])++([s.words,s.owner]++(tq (s.ths.map Th.wait)++ [s.prints]))
def keyB (tq:List (List Wt)→List (List Int))(s:MSt):List Nat:=(keyLL tq s).flatMap putB
def TqOK (tq:List (List Wt)→List (List Int))(Q:List (List Wt)→Prop):Prop:=∀q q' r r',Q q→Q q' →q.length=q'.length→tq q++r=tq q' ++r' →q=q' ∧r=r'
theorem pr_inj :∀ {l m:List Th} {r r' :List (List Int)},l.length=m.length→l.flatMap (fun t=> [[t.pc],t.regs])++r=m.flatMap (fun t=> [[t.pc],t.regs])++r' →l.map (fun t=>(t.pc,t.regs))=m.map (fun t=>(t.pc,t.regs))∧r=r'
 | [], [],r,r',_,h=>⟨rfl,h⟩
 | [],_::_,_,_,hl,_=>by simp at hl
 |_::_, [],_,_,hl,_=>by simp at hl
 |x::l,y::m,r,r',hl,h=>by
  simp only [List.flatMap_cons,List.append_assoc,List.cons_append,List.nil_append,List.cons.injEq] at h
  obtain ⟨⟨e1,_⟩,e2,h2⟩:=h
  obtain ⟨e3,e4⟩:=pr_inj (by simpa using hl) h2
  exact ⟨by rw [List.map_cons,List.map_cons,e3,e1,e2],e4⟩
theorem ths_ext :∀ {l m:List Th},l.map (fun t=>(t.pc,t.regs))=m.map (fun t=>(t.pc,t.regs))→l.map Th.wait=m.map Th.wait→l=m
 | [], [],_,_=>rfl
 | [],_::_,h,_=>by simp at h
 |_::_, [],h,_=>by simp at h
 |x::l,y::m,h1,h2=>by
  simp only [List.map_cons,List.cons.injEq,Prod.mk.injEq] at h1 h2
  rw [ths_ext h1.2 h2.2]
  congr 1
  cases x;cases y
  simp only at h1 h2
  rw [h1.1.1,h1.1.2,h2.1]
theorem keyLL_inj {p:Pg}{tq:List (List Wt)→List (List Int)}{Q:List (List Wt)→Prop}(ht:TqOK tq Q){s s' :MSt}(h:Wf p s)(h' :Wf p s')(hq:Q (s.ths.map Th.wait))(hq' :Q (s'.ths.map Th.wait))(e:keyB tq s=keyB tq s'):s=s' :=by
 have e:=keyB_inj e
 unfold keyLL at e
 have hl:s.ths.length=s'.ths.length:=by rw [h.ths,h'.ths]
 obtain ⟨e1,e2⟩:=pr_inj hl e
 simp only [List.cons_append,List.nil_append,List.cons.injEq] at e2
 obtain ⟨e3,e4,e5⟩:=e2
 obtain ⟨e6,e7⟩:=ht _ _ _ _ hq hq' (by simpa using hl) e5
 have e8:=ths_ext e1 e6
 cases s;cases s'
 simp only at e3 e4 e7 e8
 rw [e8,e3,e4]
 congr 1
 simpa using e7
def tqB (q:List (List Wt)):List (List Int):=q.flatMap fun l=>l.map wtN++ [[]]
theorem tq_one :∀ {l l' :List Wt} {r r' :List (List Int)},l.map wtN++ []::r=l'.map wtN++ []::r' →l=l' ∧r=r'
 | [], [],r,r',h=>⟨rfl,(List.cons.inj h).2⟩
 | [],y::l',r,r',h=>by simp [wtN] at h
 |x::l, [],r,r',h=>by simp [wtN] at h
 |x::l,y::l',r,r',h=>by
  obtain ⟨e1,e2⟩:=List.cons.inj h
  obtain ⟨e3,e4⟩:=tq_one e2
  refine ⟨?_,e4⟩
  rw [e3]
  congr 1
  unfold wtN at e1
  simp only [List.cons.injEq] at e1
  have hlk:x.lock=y.lock:=by
   cases hx:x.lock<;>cases hy:y.lock<;>simp [hx,hy] at e1⊢
  cases x;cases y
  simp only at hlk e1
  rw [hlk,e1.2.1,e1.2.2.1]
theorem tqB_ok :TqOK tqB (fun _=>True):=by
 intro q
 induction q with
 |nil=>
  intro q' r r' _ _ hl e
  have:q' = []:=List.eq_nil_of_length_eq_zero hl.symm
  subst this
  exact ⟨rfl,e⟩
 |cons l q ih=>
  intro q' r r' _ _ hl e
  rcases q' with _|⟨l',q'⟩
  ·simp at hl
  ·simp only [tqB,List.flatMap_cons,List.append_assoc,List.cons_append,List.nil_append] at e
   obtain ⟨e1,e2⟩:=tq_one e
   obtain ⟨e3,e4⟩:=ih q' r r' trivial trivial (by simpa using hl) e2
   exact ⟨by rw [e1,e3],e4⟩
instance : Enc UInt8 where
 sz:=1
 cell x _:= .int .u8 (x.toNat:Int)
 whole x:= .int .u8 (x.toNat:Int)
 agg:=false
 inner _ _:=True
 on _ _:=False
 one _:=⟨rfl,fun _=>rfl⟩
 many h:=by cases h
 keep _ _ _ h _:=h
 lt _ _ _ _ h:=h.elim
instance : Flat UInt8:=⟨fun _ _ h=>h,fun _ _=>trivial⟩
instance : One UInt8:=⟨fun x w _ q hq=>rfl⟩
def by8 (l:List Nat):List UInt8:=l.map UInt8.ofNat
theorem by8_app (l m:List Nat):by8 (l++m)=by8 l++by8 m:=List.map_append
theorem by8_inj :∀ {l m:List Nat},(∀b∈l,b<128)→(∀b∈m,b<128)→by8 l=by8 m→l=m
 | [], [],_,_,_=>rfl
 | [],_::_,_,_,h=>by simp [by8] at h
 |_::_, [],_,_,h=>by simp [by8] at h
 |x::l,y::m,h1,h2,h=>by
  simp only [by8,List.map_cons,List.cons.injEq] at h
  have hx:=h1 x (by simp)
  have hy:=h2 y (by simp)
  have e:=congrArg UInt8.toNat h.1
  simp only [UInt8.toNat_ofNat'] at e
  rw [by8_inj (l:=l) (m:=m) (fun b hb=>h1 b (by simp [hb])) (fun b hb=>h2 b (by simp [hb])) h.2]
  congr 1
  omega
def keyS (tq:List (List Wt)→List (List Int))(s:MSt):ByteArray:=⟨(by8 (keyB tq s)).toArray⟩
theorem keyB_lt {tq:List (List Wt)→List (List Int)}{s:MSt} :∀b∈keyB tq s,b<128:=by
 intro b hb
 obtain ⟨l,_,hb⟩:=List.mem_flatMap.1 hb
 exact putB_lt b hb
theorem keyS_inj {p:Pg}{tq:List (List Wt)→List (List Int)}{Q:List (List Wt)→Prop}(ht:TqOK tq Q){s s' :MSt}(h:Wf p s)(h' :Wf p s')(hq:Q (s.ths.map Th.wait))(hq' :Q (s'.ths.map Th.wait))(e:keyS tq s=keyS tq s'):s=s' :=by
 refine keyLL_inj ht h h' hq hq' (by8_inj keyB_lt keyB_lt ?_)
 have e1:(by8 (keyB tq s)).toArray=(by8 (keyB tq s')).toArray:=congrArg ByteArray.data e
 simpa using e1
section
variable {K:Nat→Prop}{W w:World}{L:List Asn}
theorem Sh.frz {α:Type}[Enc α](x:α)(A:List Asn)(h:Sh K W w (A++L))(hi:Enc.inner x w)(ho:∀b,Enc.on x b→∃B∈A,B.fp b∨B.rd b):Sh K W w (.rd1 x::L):=by
 refine Sh.step (Lp:=A) (Lr:=L) (L' := [.rd1 x]) h (Chg.refl _ _) ?_ ?_ ?_ ?_ (List.pairwise_singleton _ _)
 ·intro B hB;obtain rfl:=List.mem_singleton.1 hB;exact hi
 ·intro B hB b hb;obtain rfl:=List.mem_singleton.1 hB;exact hb.elim
 ·intro B hB b hb;obtain rfl:=List.mem_singleton.1 hB;exact .inl (ho b hb)
 ·intro B hB b hb;obtain rfl:=List.mem_singleton.1 hB;exact hb.elim
end
structure MemF where
 ι:Type
 mem:ι→MemS
 T:TypeId
 m:Int
 tq:List (List Wt)→List (List Int)
 Q:List (List Wt)→Prop
 i0:ι
 q0:(mem i0).σ
structure PSD (F:MemF) where
 gp:Nat
 i:F.ι
 q:(F.mem i).σ
 g:Nat
 vt:Value
 rows:List ThR
 prints:Ls Int
 words:Ls Int
 owner:Ls Int
section
variable {F:MemF}
instance : Inhabited (PSD F):=⟨⟨0,F.i0,F.q0,0, .tuple #[], [],default,default,default⟩⟩
def PSD.M (x:PSD F):MemS:=F.mem x.i
def PSD.A (x:PSD F):List Asn:=
  [.blk x.g 173 [.iface (F.mem x.i).T (.pointer (some (F.mem x.i).u)), .pointer (some ⟨x.gp,0,none⟩),x.vt,x.prints.v, .bool false], .own 189 (⟨x.vt,x.rows.map ThR.toQ⟩:Ls ThQ), .big (regA 3 x.rows), .own 3 x.prints,
   .blk (F.mem x.i).g0 182 [x.words.v,x.owner.v], .own 3 x.words, .own 3 x.owner,(F.mem x.i).X x.q]
def PSD.qs (x:PSD F):List (List Wt):=(F.mem x.i).qs x.q
def PSD.st (x:PSD F):MSt:=mstR x.rows x.qs x.words.l x.owner.l x.prints.l
instance : Enc (PSD F) where
 sz:=1
 cell x _:= .pointer (some ⟨x.g,0,none⟩)
 whole x:= .pointer (some ⟨x.g,0,none⟩)
 agg:=false
 inner x w:=∀A∈x.A,A.ok w
 on x b:=∃A∈x.A,A.fp b∨A.rd b
 one _:=⟨rfl,fun _=>rfl⟩
 many h:=by cases h
 keep x w w' h hb A hA:=A.keep w w' (h A hA) fun b hb' =>hb b ⟨A,hA,hb'⟩
 lt x w h b hb:=by obtain ⟨A,hA,hb⟩:=hb;exact A.lt w (h A hA) b hb
instance : One (PSD F):=⟨fun _ _ _ _ _=>rfl⟩
structure PSD.Rd (x:PSD F)(w:World):Prop where
 blk:Blk w x.g 173 #[.iface (F.mem x.i).T (.pointer (some (F.mem x.i).u)), .pointer (some ⟨x.gp,0,none⟩),x.vt,x.prints.v, .bool false]
 thr:(⟨x.vt,x.rows.map ThR.toQ⟩:Ls ThQ).At w
 row:∀r∈x.rows,r.regs.At w
 prints:x.prints.At w
 mem:MemRd 182 (F.mem x.i) w x.words x.owner x.q
theorem PSD.rd {x:PSD F}{w:World}(h:Enc.inner x w):x.Rd w:=by
 have h:∀A∈x.A,A.ok w:=h
 have a1:=h _ (List.mem_of_getElem? (i:=0) rfl)
 have a2:=h _ (List.mem_of_getElem? (i:=1) rfl)
 have a3:=h _ (List.mem_of_getElem? (i:=2) rfl)
 have a4:=h _ (List.mem_of_getElem? (i:=3) rfl)
 have a5:=h _ (List.mem_of_getElem? (i:=4) rfl)
 have a6:=h _ (List.mem_of_getElem? (i:=5) rfl)
 have a7:=h _ (List.mem_of_getElem? (i:=6) rfl)
 have a8:=h _ (List.mem_of_getElem? (i:=7) rfl)
 exact ⟨a1,own_at a2,fun r hr=>own_at (a3.1 _ (List.mem_map.2 ⟨r,hr,rfl⟩)),own_at a4,a5,own_at a6,own_at a7,a8⟩
theorem PSD.frz {K:Nat→Prop}{W w:World}{L:List Asn}(hX:∀i q b,¬((F.mem i).X q).rd b)(x:PSD F)(h:Sh K W w (x.A++L)):Sh K W w (.rd1 x::L)∧∀b,Enc.on x b→K b∨W.heap.size≤b:=by
 refine ⟨Sh.frz x x.A h (fun A hA=>h.ok A (List.mem_append.2 (.inl hA))) fun b hb=>hb, ?_⟩
 rintro b ⟨A,hA,hb⟩
 rcases hb with hb|hb
 ·exact h.mine A (List.mem_append.2 (.inl hA)) b hb
 ·exfalso
  simp only [PSD.A,List.mem_cons,List.not_mem_nil,or_false] at hA
  rcases hA with rfl|rfl|rfl|rfl|rfl|rfl|rfl|rfl
  ·exact hb
  ·exact Flat.noRd hb
  ·exact regNoRd hb
  ·exact Flat.noRd hb
  ·exact hb
  ·exact Flat.noRd hb
  ·exact Flat.noRd hb
  ·exact hX _ _ _ hb
theorem PSD.st_len {x:PSD F} :x.st.ths.length=x.rows.length:=mstR_len
theorem psd_facts {code:Ls (Ls Ins)}{words0:Ls Int}{Lk R:Nat}{m:Int}(hok:OkPg (pgN code words0 Lk R)){x:PSD F}(hr:Go.Proofs.YtmjkobhkkjgplaaGreatDoor.Reach (pgN code words0 Lk R) m x.st)(hl:x.rows.length=code.l.length):GoF code words0 Lk R x.rows x.qs x.words.l x.owner.l:=by
 have hwf:=hr.wf hok
 have hw:x.words.l.length=words0.l.length:=hwf.words
 have ho:x.owner.l.length=Lk:=by have:=hwf.owner;simpa [pgN,pgOf,mstR,PSD.st] using this
 have hv:∀t,t<code.l.length→WfS R words0.l.length Lk (nth code.l t).l.length ⟨(nth x.rows t).pc,(nth x.rows t).regs.l,nth x.qs t,x.words.l,x.owner.l,x.prints.l,false⟩:=by
  intro t ht
  have:=hwf.th t (by rw [pgN_len];exact ht)
  unfold PSD.st at this
  rw [pgN_code ht,mstR_view (by rw [hl];exact ht)] at this
  simpa [pgN,pgOf] using this
 refine ⟨hl,fun t ht=> ?_,fun t ht=>(hv t ht).wait,fun t ht i hi h17=> ?_,hr.owner_ge,hw,ho,fun t ht=>(hv t ht).regs,fun t ht j hj=> ?_,fun t ht=> ?_⟩
 ·rw [toQ_at (by rw [hl];exact ht)]
  exact (hv t ht).pc
 ·rw [ho];exact lock_N hok ht hi h17
 ·rw [ho,hw];exact (hv t ht).wt _ (nth_mem _ _ hj)
 ·have h9:=hr.wh0_ t
  unfold PSD.st at h9
  rw [mstR_view (by rw [hl];exact ht)] at h9
  exact h9
end
def arI (P:Program)(T:TypeId):Option (Nat×TypeId):=match P.underlying T with
 |some (.array n e)=>some (n,e)
 |_=>none
theorem arI_parts {P:Program}{T e:TypeId}{n:Nat}(h:arI P T=some (n,e)):P.underlying T=some (.array n e):=by
 unfold arI at h
 split at h
 ·rename_i hu;cases h;exact hu
 ·cases h
section
variable {P:Program}{o:Oper}{N:Nat}{K:Nat→Prop}{W w:World}{a:Act}{F:List (Nat×Value)}{L:List Asn}
theorem r_ixAr {T e:TypeId}{gg:Bool}{m by_:Nat}{z:List Value}{x y:Operand}{n g q:Nat}(hT:arI P T=some (n,e))(he:tyI P e=some (gg,m,by_,z))(hm:m=1)(ho:o.op= .indexAddr T x y)(hx:ev F x=some (.pointer (some ⟨g,0,none⟩)))(hy:ev F y=some (.int .i64 (q:Int)))(hq:q<n):Rn P o N K W F L (.pointer (some ⟨g,q,none⟩)):=fun a w h=>by
 obtain ⟨i,d,zv,hi,hd,_,rfl,_⟩:=tyI_parts he
 have hu:=arI_parts hT
 have hel:P.elem T=e:=by simp [Program.elem,hu]
 have hal:P.arrayLen T=n:=by simp [Program.arrayLen,hu]
 have hu' :P.underlying T=some (.array (P.arrayLen T) (P.elem T)):=by rw [hel,hal];exact hu
 have e1:=run_indexAt_array (P:=P) (w:=w) T ⟨g,0,none⟩ .i64 (q:Int) hu'
 rw [if_pos ⟨by omega,by rw [hal];omega⟩,hel,run_sizeOf hi,Result.andThen_ok,hm] at e1
 unfold execOp
 simp only [ho,h.fr.ev hx,h.fr.ev hy,Sem.run_bind,e1,Result.andThen_ok,Sem.run_pure]
 simp [Addr.add_lit]
structure BArr where
 l:List Bool
instance : Inhabited BArr:=⟨⟨List.replicate 200 false⟩⟩
instance : Enc BArr where
 sz:=200
 cell x j:= .bool (nth x.l j)
 whole x:= .agg ((List.range 200).map fun j=> .bool (nth x.l j)).toArray
 agg:=true
 inner x _:=x.l.length=200
 on _ _:=False
 one h:=by cases h
 many _ _:=rfl
 keep _ _ _ h _:=h
 lt _ _ _ _ hb:=hb.elim
end
section
variable {P:Program}{o:Oper}{N:Nat}{K:Nat→Prop}{W w:World}{a:Act}{F:List (Nat×Value)}{L:List Asn}
end
structure RV where
 v:Value
instance : Inhabited RV:=⟨⟨.slice none 0 0⟩⟩
instance : Enc RV where
 sz:=1
 cell x _:=x.v
 whole x:=x.v
 agg:=false
 inner _ _:=True
 on _ _:=False
 one _:=⟨rfl,fun _=>rfl⟩
 many h:=by cases h
 keep _ _ _ h _:=h
 lt _ _ _ _ h:=h.elim
instance : Flat RV:=⟨fun _ _ h=>h,fun _ _=>trivial⟩
def Asn.hold {α:Type}[Enc α](s:Ls α):Asn where
 fp:=s.on
 rd _:=False
 ok w:=s.At w
 keep w w' h hb:=h.keep fun b hb' =>hb b (.inl hb')
 lt w h b hb:=hb.elim (fun hb=>h.lt hb) fun hb=>hb.elim
section
variable {α:Type}
def rvs (M:List (Ls α)):List RV:=M.map fun s=>⟨s.v⟩
def matX (R:Ls α→Asn)(E:TypeId)(v:Value)(M:List (Ls α)):List Asn:= .own E (⟨v,rvs M⟩:Ls RV)::M.map R
theorem rvs_len (M:List (Ls α)):(rvs M).length=M.length:=List.length_map _
theorem nth_rvs (M:List (Ls α))(i:Nat):(nth (rvs M) i).v=(nth M i).v:=by
 rcases Nat.lt_or_ge i M.length with h|h
 ·rw [nth_lt _ _ h,nth_lt _ _ (show i<(rvs M).length by rw [rvs_len];exact h)]
  simp [rvs]
 ·have h1:nth M i=default:=by simp [nth,List.getD,h]
  have h2:nth (rvs M) i=default:=by simp [nth,List.getD,rvs_len,h]
  rw [h1,h2];rfl
theorem rvs_set (M:List (Ls α))(i:Nat)(s:Ls α):(rvs M).set i ⟨s.v⟩=rvs (M.set i s):=by simp [rvs,List.map_set]
end
section
variable {α:Type}[Enc α]
theorem encL_rvs (M:List (Ls α)):encL (rvs M)=encL M:=by
 have:∀s:Ls α,cellsOf (⟨s.v⟩:RV)=cellsOf s:=fun s=>rfl
 induction M with
 |nil=>rfl
 |cons s M ih=>
  have h1:encL (rvs (s::M))=cellsOf (⟨s.v⟩:RV)++encL (rvs M):=by simp [encL,rvs]
  have h2:encL (s::M)=cellsOf s++encL M:=by simp [encL]
  rw [h1,h2,ih,this]
end
section
variable {K:Nat→Prop}{W w:World}{L:List Asn}{α:Type}{R:Ls α→Asn}{E:TypeId}{v:Value}{M:List (Ls α)}
theorem Sh.matAt (h:Sh K W w L)(i:Nat)(hi:L[i]? =some (.big (matX R E v M))):(⟨v,rvs M⟩:Ls RV).At w:=
 own_at (E:=E) ((h.ok _ (List.mem_of_getElem? hi)).1 _ (List.mem_cons_self ..))
end
section
variable {P:Program}{o:Oper}{N:Nat}{K:Nat→Prop}{W w:World}{a:Act}{F:List (Nat×Value)}{L:List Asn}{α:Type}[Enc α]{R:Ls α→Asn}{E IE:TypeId}{v:Value}{M:List (Ls α)}
theorem Sh.matRow (h:Sh K W w L)(i:Nat)(hi:L[i]? =some (.big (matX (.own IE) E v M)))(j:Nat)(hj:j<M.length):(nth M j).At w:=
 own_at (E:=IE) ((h.ok _ (List.mem_of_getElem? hi)).1 _ (List.mem_cons_of_mem _ (List.mem_map.2 ⟨_,nth_mem _ _ hj,rfl⟩)))
theorem Sh.nils (n:Nat)(h:Sh K W w L):Sh K W w (List.replicate n (.own IE (⟨.slice none 0 0, []⟩:Ls α))++L):=by
 induction n with
 |zero=>exact h
 |succ n ih=>rw [List.replicate_succ];exact ih.nil IE
theorem Sh.tail {A:Asn}(h:Sh K W w (A::L)):Sh K W w L:=
 ⟨h.chg,fun B hB=>h.ok B (List.mem_cons_of_mem _ hB),fun B hB=>h.mine B (List.mem_cons_of_mem _ hB),fun B hB=>h.self B (List.mem_cons_of_mem _ hB),(List.pairwise_cons.1 h.apart).2⟩
theorem Sh.matMk {n:Nat}(h:Sh K W w (.own E (⟨v,List.replicate n ⟨.slice none 0 0⟩⟩:Ls RV)::L)):Sh K W w (.big (matX (.own IE) E v (List.replicate n (⟨.slice none 0 0, []⟩:Ls α)))::L):=by
 refine Sh.close ?_
 have h2:=(h.nils (α:=α) (IE:=IE) n)
 have e:rvs (List.replicate n (⟨.slice none 0 0, []⟩:Ls α))=List.replicate n ⟨.slice none 0 0⟩:=by simp [rvs]
 unfold matX
 rw [e,List.map_replicate]
 exact h2.perm List.perm_middle
theorem x_makeMat {d:Nat}{T e:TypeId}{gg:Bool}{by_ n:Nat}{x y:Operand}(h:St N K W a w F L)(hT:slI P T=some e)(he:tyI P e=some (gg,1,by_, [.slice none 0 0]))(ho:o.op= .makeSlice T x y)(hx:ev F x=some (.int .i64 (n:Int)))(hy:ev F y=some (.int .i64 (n:Int)))
  (hn:by_*n≤140737488355328∧n≤140737488355328) (hd:o.dst=some d) (hdN:Nat.blt d N=true) (IE:TypeId) (α:Type) [Enc α]:
  Ex P o a w (fun a' w' =>∃v:Value,St N K W a' w' ((d,v)::F) (.big (matX (.own IE) e v (List.replicate n (⟨.slice none 0 0, []⟩:Ls α)))::L)):=
 (x_make (⟨.slice none 0 0⟩:RV) h hT he ho hx hy rfl rfl hn (fun _=>trivial) (fun _ h=>h) hd hdN).mono fun a' w' ⟨v,h⟩=>⟨v,h.fr,h.sh.matMk⟩
theorem x_stMat {T:TypeId}{gg:Bool}{by_ i:Nat}{z:List Value}{x y:Operand}{s:Ls α}(h:St N K W a w F (.big (matX R E v M)::R s::L))(hT:tyI P T=some (gg,1,by_,z))(ho:o.op= .store T x y)(hd:o.dst=none)
  (hx:ev F x=some (.pointer (some (padr v 1 i 0)))) (hy:ev F y=some s.v) (hi:i<M.length) (hat:s.At w):
  Ex P o a w (fun a' w' =>St N K W a' w' F (.big (matX R E v (M.set i s))::L)):=by
 have h1:St N K W a w F (.own E (⟨v,rvs M⟩:Ls RV)::(M.map R++(R s::L))):=⟨h.fr,h.sh.open_⟩
 refine (x_ste (s:=(⟨v,rvs M⟩:Ls RV)) (r:=0) (i:=i) (j:=0) (x' :=⟨s.v⟩) h1 hT ho hd hx rfl rfl (by rw [rvs_len];exact hi) (by decide) hy (cells_oneL hat.one) hat.one (fun q hq=> ?_) (fun _ _=>trivial) (fun b hb=>hb.elim)).mono fun a' w' h2=>⟨h2.fr, ?_⟩
 ·obtain rfl:q=0:=by omega
  rfl
 ·have h3:Sh K W w' (.own E (⟨v,rvs (M.set i s)⟩:Ls RV)::(M.map R++(R s::L))):=by
   rw [←rvs_set];exact h2.sh
  have h4:Sh K W w' (R M[i]::(.own E (⟨v,rvs (M.set i s)⟩:Ls RV)::((M.eraseIdx i).map R++(R s::L)))):=h3.perm (by
   refine List.Perm.trans ((List.Perm.append_right _ ((perm_erase M i hi).map R)).cons _) ?_
   exact List.Perm.swap _ _ _)
  refine Sh.close (h4.tail.perm ?_)
  refine List.Perm.cons _ ?_
  refine List.perm_middle.trans ?_
  have:=((perm_set s M i hi).map R).symm
  exact this.append_right L
theorem Sh.matDeep (h:Sh K W w (.big (matX R E v M)::L))(hR:∀s w,(R s).ok w→s.At w∧∀b,s.on b→(R s).fp b):Sh K W w (.deep E (⟨v,M⟩:Ls (Ls α))::L):=by
 obtain ⟨hok,hap,hse⟩:=h.ok _ (List.mem_cons_self ..)
 have h0:=hok _ (List.mem_cons_self ..)
 obtain ⟨hown,hlen,_⟩:=h0
 have hm:∀i,i<M.length→R (nth M i)∈M.map R:=fun i hi=>List.mem_map.2 ⟨_,nth_mem _ _ hi,rfl⟩
 have hr:∀i,i<M.length→(nth M i).At w∧∀b,(nth M i).on b→(R (nth M i)).fp b:=fun i hi=>hR _ w (hok _ (List.mem_cons_of_mem _ (hm i hi)))
 have h2:=h.put (i:=0) (A' := .deep E (⟨v,M⟩:Ls (Ls α))) rfl (Chg.refl _ _) ⟨by
   rw [encL_rvs] at hown
   have:(rvs M).length=M.length:=rvs_len M
   simp only [this] at hown
   exact hown,by rw [←rvs_len];exact hlen,fun i hi=>(hr i hi).1,fun b hb ⟨i,hi,hb2⟩=> ?_⟩ (fun b hb=> .inl ?_) (fun b hb=>hb.elim) (fun b _ hb=>hb)
 ·exact h2
 ·have:=(List.pairwise_cons.1 hap).1 _ (hm i hi) b
  exact (this.1 hb).1 ((hr i hi).2 b hb2)
 ·rcases hb with hb|⟨i,hi,hb⟩
  ·exact ⟨_,List.mem_cons_self ..,hb⟩
  ·exact ⟨_,List.mem_cons_of_mem _ (hm i hi),(hr i hi).2 b hb⟩
theorem own_mat [Flat α](s:Ls α)(w:World)(h:(Asn.own E s).ok w):s.At w∧∀b,s.on b→(Asn.own E s).fp b:=⟨own_at h,fun b hb=>(own_on h hb).elim id fun h9=>Flat.noRd h9⟩
end
section
variable {P:Program}{o:Oper}{N:Nat}{K:Nat→Prop}{W w:World}{a:Act}{F:List (Nat×Value)}{L:List Asn}
end
section
variable {P:Program}{o:Oper}{N:Nat}{K:Nat→Prop}{W w:World}{a:Act}{F:List (Nat×Value)}{L:List Asn}{α:Type}[Enc α]
end
section
variable {P:Program}{o:Oper}{N:Nat}{K:Nat→Prop}{W w:World}{a:Act}{F:List (Nat×Value)}{L:List Asn}
theorem Sh.front {i:Nat}{A:Asn}(h:Sh K W w L)(hi:L[i]? =some A):Sh K W w (A::L.eraseIdx i):=by
 obtain ⟨hl,he⟩:=List.getElem?_eq_some_iff.1 hi
 have:=perm_erase L i hl
 rw [he] at this
 exact h.perm this
theorem Sh.unfront {i:Nat}{A A' :Asn}(h:Sh K W w (A' ::L.eraseIdx i))(hi:L[i]? =some A):Sh K W w (L.set i A'):=
 h.perm (perm_set A' L i (List.getElem?_eq_some_iff.1 hi).1).symm
theorem mem_erase {i j:Nat}{B:Asn}(hj:L[j]? =some B)(hne:Nat.beq i j=false):B∈L.eraseIdx i:=by
 have hne' :i≠j:=by rintro rfl;simp at hne
 rcases Nat.lt_or_ge j i with h|h
 ·refine List.mem_of_getElem? (i:=j) ?_
  rw [List.getElem?_eraseIdx,if_pos h];exact hj
 ·refine List.mem_of_getElem? (i:=j-1) ?_
  rw [List.getElem?_eraseIdx,if_neg (by omega)]
  rw [show j-1+1=j by omega];exact hj
section
variable {α:Type}[Enc α]{E IE:TypeId}{v:Value}{M:List (Ls α)}
def holeX (R:Ls α→Asn)(E:TypeId)(v:Value)(M:List (Ls α))(i:Nat):List Asn:= .own E (⟨v,rvs M⟩:Ls RV)::(M.eraseIdx i).map R
theorem x_appMat [Flat α]{d:Nat}{T e:TypeId}{gg:Bool}{sz by_ r rm i:Nat}{z:List Value}{x y:Operand}{m:Ls α}{B:Asn}(h:St N K W a w F L)(hT:slI P T=some e)(he:tyI P e=some (gg,sz,by_,z))(ho:o.op= .call ⟨.builtin .append, #[x,y], #[T,T]⟩)
  (hx:ev F x=some (nth M i).v) (hy:ev F y=some m.v) (hr:L[r]? =some (.big (matX (.own IE) E v M))) (hi:i<M.length) (hE:IE=e) (hrm:L[rm]? =some B) (hne:Nat.beq r rm=false) (hat:∀w,Sh K W w L→m.At w) (hon:∀b,m.on b→B.fp b∨B.rd b)
  (hsz:Enc.sz α=sz) (hpos:Nat.blt 0 sz=true) (hzl:z.length=sz) (h1:One α) (hn:((nth M i).l.length+m.l.length)*by_≤140737488355328∧(nth M i).l.length+m.l.length≤140737488355328) (hd:o.dst=some d) (hdN:Nat.blt d N=true):
  Ex P o a w (fun a' w' =>∃u:Value,St N K W a' w' ((d,u)::F) (.own IE ⟨u,(nth M i).l++m.l⟩::L.set r (.big (holeX (.own IE) E v M i)))):=by
 have hB:=mem_erase hrm hne
 have hp:(matX (.own IE) E v M++L.eraseIdx r).Perm (.own IE (nth M i)::(holeX (.own IE) E v M i++L.eraseIdx r)):=by
  unfold matX holeX
  rw [nth_lt _ _ hi]
  refine List.Perm.trans ((List.Perm.append_right _ ((perm_erase M i hi).map (Asn.own IE))).cons _) ?_
  exact List.Perm.swap _ _ _
 have h1' :Sh K W w (.own IE (nth M i)::(holeX (.own IE) E v M i++L.eraseIdx r)):=(h.sh.front hr).open_.perm hp
 have back:∀w,Sh K W w (.own IE (nth M i)::(holeX (.own IE) E v M i++L.eraseIdx r))→Sh K W w L:=fun w h9=>by
  have h8:=((h9.perm hp.symm).close).unfront hr
  obtain ⟨hl,he⟩:=List.getElem?_eq_some_iff.1 hr
  rw [←he,List.set_getElem_self] at h8
  exact h8
 obtain ⟨rm2,hrm2⟩:=List.getElem?_of_mem hB
 have hidx:(Asn.own IE (nth M i)::(holeX (.own IE) E v M i++L.eraseIdx r))[(holeX (.own IE) E v M i).length+rm2+1]? =some B:=by
  rw [List.getElem?_cons_succ,List.getElem?_append_right (by omega)]
  simpa using hrm2
 refine (x_app (r:=0) (s:=nth M i) ⟨h.fr,h1'⟩ hT he ho hx hy rfl hE hidx rfl (fun w h9=>hat w (back w h9)) hon (fun q hq b hb=>(Flat.on _ _ hb).elim) hsz hpos hzl h1 hn hd hdN).mono fun a' w' ⟨u,h2⟩=>⟨u,h2.fr, ?_⟩
 have h3:Sh K W w' (.own IE ⟨u,(nth M i).l++m.l⟩::(holeX (.own IE) E v M i++L.eraseIdx r)):=h2.sh
 have h4:Sh K W w' (holeX (.own IE) E v M i++(.own IE ⟨u,(nth M i).l++m.l⟩::L.eraseIdx r)):=h3.perm List.perm_middle.symm
 have h5:=h4.close.perm (List.Perm.swap _ _ _)
 have h6:Sh K W w' (.big (holeX (.own IE) E v M i)::(.own IE ⟨u,(nth M i).l++m.l⟩::L.eraseIdx r)):=h5.perm (List.Perm.swap _ _ _)
 refine h6.perm ?_
 refine (List.Perm.swap _ _ _).trans (List.Perm.cons _ ?_)
 exact (perm_set _ L r (List.getElem?_eq_some_iff.1 hr).1).symm
theorem x_stHole {T:TypeId}{gg:Bool}{by_ i r:Nat}{z:List Value}{x y:Operand}{s:Ls α}{R:Ls α→Asn}(h:St N K W a w F (R s::L))(hT:tyI P T=some (gg,1,by_,z))(ho:o.op= .store T x y)(hd:o.dst=none)
  (hx:ev F x=some (.pointer (some (padr v 1 i 0)))) (hy:ev F y=some s.v) (hr:L[r]? =some (.big (holeX R E v M i))) (hi:i<M.length) (hat:s.At w):
  Ex P o a w (fun a' w' =>St N K W a' w' F (L.set r (.big (matX R E v (M.set i s))))):=by
 have h0:Sh K W w (.big (holeX R E v M i)::(R s::L.eraseIdx r)):=(h.sh.front (i:=r+1) (by rw [List.getElem?_cons_succ];exact hr)).perm (by simp)
 have h1:St N K W a w F (.own E (⟨v,rvs M⟩:Ls RV)::((M.eraseIdx i).map R++(R s::L.eraseIdx r))):=⟨h.fr,h0.open_⟩
 refine (x_ste (s:=(⟨v,rvs M⟩:Ls RV)) (r:=0) (i:=i) (j:=0) (x' :=⟨s.v⟩) h1 hT ho hd hx rfl rfl (by rw [rvs_len];exact hi) (by decide) hy (cells_oneL hat.one) hat.one (fun q hq=> ?_) (fun _ _=>trivial) (fun b hb=>hb.elim)).mono fun a' w' h2=>⟨h2.fr, ?_⟩
 ·obtain rfl:q=0:=by omega
  rfl
 ·have h3:Sh K W w' (.own E (⟨v,rvs (M.set i s)⟩:Ls RV)::((M.eraseIdx i).map R++(R s::L.eraseIdx r))):=by
   rw [←rvs_set];exact h2.sh
  have h4:Sh K W w' (.big (matX R E v (M.set i s))::L.eraseIdx r):=by
   refine Sh.close (h3.perm (List.Perm.cons _ ?_))
   refine List.perm_middle.trans ?_
   have:=((perm_set s M i hi).map R).symm
   exact this.append_right _
  exact h4.unfront hr
end
end
instance : DecidableEq ByteArray:=fun a b=>decidable_of_iff (a.data=b.data) ⟨fun h=>by cases a;cases b;simp only at h;rw [h],fun h=>by rw [h]⟩
def keysS (l:List ByteArray):List (Value×Value):=l.map fun s=>(.string s, .bool true)
def MapStr (w:World)(g:Nat)(l:List ByteArray):Prop:=∃es clock,w.heap[g]? =some (.map es clock)∧pairsOf es=keysS l
theorem MapStr.of_block {w w' :World}{g:Nat}{l:List ByteArray}(h:MapStr w g l)(hb:w'.heap[g]? =w.heap[g]?):MapStr w' g l:=by
 obtain ⟨es,c,h1,h2⟩:=h
 exact ⟨es,c,hb.trans h1,h2⟩
theorem MapStr.lt {w:World}{g:Nat}{l:List ByteArray}(h:MapStr w g l):g<w.heap.size:=by
 obtain ⟨es,c,h1,_⟩:=h
 exact (Array.getElem?_eq_some_iff.1 h1).1
def Asn.strO (g:Nat)(l:List ByteArray):Asn where
 fp b:=g=b
 rd _:=False
 ok w:=MapStr w g l
 keep w w' h hb:=h.of_block (hb g (.inl rfl))
 lt w h b hb:=by
  rcases hb with rfl|hb
  ·exact h.lt
  ·exact hb.elim
theorem beq_str (a b:ByteArray):(a==b)=decide (a=b):=by
 obtain ⟨x⟩:=a
 obtain ⟨y⟩:=b
 show (x==y)=_
 by_cases h:x=y
 ·subst h;simp
 ·have h2:(⟨x⟩:ByteArray)≠⟨y⟩:=fun e=>h (congrArg ByteArray.data e)
  rw [decide_eq_false h2]
  simpa using h
instance : LawfulBEq ByteArray where
 eq_of_beq h:=by rw [beq_str] at h;exact of_decide_eq_true h
 rfl {a} :=by rw [beq_str];exact decide_eq_true rfl
def atS (k:ByteArray):List ByteArray→Nat→Option (Nat×Value)
 | [],_=>none
 |j::r,i=>if k=j then some (i, .bool true) else atS k r (i+1)
theorem atS_spec (k:ByteArray):∀(l:List ByteArray) (i:Nat),(∃j,atS k l i=some (i+j, .bool true)∧l[j]? =some k)∨(atS k l i=none∧k∉l)
 | [],i=> .inr ⟨rfl,by simp⟩
 |x::r,i=>by
  unfold atS
  by_cases h:k=x
  ·subst h;exact .inl ⟨0,by rw [if_pos rfl];rfl,rfl⟩
  ·rw [if_neg h]
   rcases atS_spec k r (i+1) with ⟨j,h1,h2⟩|⟨h1,h2⟩
   ·exact .inl ⟨j+1,by rw [h1,show i+1+j=i+(j+1) by omega],by simpa using h2⟩
   ·exact .inr ⟨h1,by simp [h,h2]⟩
theorem findNow_str (k:ByteArray):∀(es:List MapEntry) (l:List ByteArray) (i:Nat),(es.map fun e=>(e.key,e.val))=keysS l→Instr.findNow .string (.string k) es i=some (atS k l i)
 | [], [],_,_=>rfl
 | [],_::_,_,h=>by simp [keysS] at h
 |_::_, [],_,h=>by simp [keysS] at h
 |e::es,j::l,i,h=>by
  simp only [keysS,List.map_cons,List.cons.injEq,Prod.mk.injEq] at h
  obtain ⟨⟨hk,hv⟩,hr⟩:=h
  have ih:=findNow_str k es l (i+1) hr
  simp only [Instr.findNow,hk,Instr.sameNow]
  unfold atS
  rw [beq_str]
  by_cases hkj:k=j
  ·simp [hkj,hv]
  ·simp [hkj,ih]
structure MapTStr (P:Program)(T kT eT:TypeId):Prop where
 map:P.underlying T=some (.map kT eT)
 str:P.underlying kT=some .string
 zero:∀w,(zeroValue eT).run P w= .ok (.bool false) w
section
variable {P:Program}{o:Oper}{N:Nat}{K:Nat→Prop}{W w:World}{a:Act}{F:List (Nat×Value)}{L:List Asn}{T kT eT:TypeId}{l:List ByteArray}{k:ByteArray}{g:Nat}
theorem run_findKey_str (hK:P.underlying kT=some .string){es:Array MapEntry}(h:pairsOf es=keysS l):(Instr.findKey kT (.string k) es.toList).run P w= .ok (atS k l 0) w:=by
 simp [Instr.findKey,run_underlying hK,findNow_str k es.toList l 0 h]
theorem run_checkKey_str (b:Bool)(n:Nat)(hK:P.underlying kT=some .string):(Instr.checkKey b (n+1) kT (.string k)).run P w= .ok () w:=by
 simp [Instr.checkKey,run_underlying hK]
theorem run_lookStr (hT:MapTStr P T kT eT)(h:MapStr w g l):(Instr.lookup T (.map (some g)) (.string k) false).run P w= .ok (.bool (decide (k∈l))) w:=by
 obtain ⟨es,c,h1,h2⟩:=h
 have e0:(getObj g).run P w= .ok (.map es c) w:=by simp [getObj,Sem.run,h1]
 have e1:=run_findKey_str (P:=P) (w:=w) (k:=k) hT.str h2
 have e2:=run_checkKey_str (P:=P) (w:=w) (k:=k) es.isEmpty 9999 hT.str
 rcases atS_spec k l 0 with ⟨j,h3,h4⟩|⟨h3,h4⟩
 ·rw [decide_eq_true (List.mem_of_getElem? h4)]
  rw [h3] at e1
  simp [Instr.lookup,run_underlying hT.map,e0,e1,e2]
 ·rw [decide_eq_false h4]
  rw [h3] at e1
  simp [Instr.lookup,run_underlying hT.map,e0,e1,e2,hT.zero]
theorem r_lookStr {x y:Operand}{i:Nat}(hT:MapTStr P T kT eT)(ho:o.op= .lookup T x y false)(hx:ev F x=some (.map (some g)))(hy:ev F y=some (.string k))(hi:L[i]? =some (.strO g l)):Rn P o N K W F L (.bool (decide (k∈l))):=fun a w h=>by
 have key:=run_lookStr (k:=k) hT (h.sh.ok _ (List.mem_of_getElem? hi))
 unfold execOp
 simp only [ho,h.fr.ev hx,h.fr.ev hy,Sem.run_bind,key,Result.andThen_ok,Sem.run_pure]
theorem x_makeStr {d:Nat}(h:St N K W a w F L)(ho:o.op= .makeMap T none)(hd:o.dst=some d)(hdN:Nat.blt d N=true):Ex P o a w (fun a' w' =>∃g:Nat,St N K W a' w' ((d, .map (some g))::F) (.strO g []::L)):=by
 have hrun:(Instr.makeMap T none).run P w= .ok (.map (some w.heap.size)) (w.alloc (.map #[] 0)):=run_makeMap T w
 refine Ex.of_run (v:= .map (some w.heap.size)) (w' :=w.alloc (.map #[] 0)) ?_ ⟨w.heap.size, ?_⟩
 ·unfold execOp
  simp only [ho,Option.map_none,Sem.run_bind,hrun,Result.andThen_ok,Sem.run_pure]
 ·rw [hd]
  have h1:Sh K W (w.alloc (.map #[] 0)) (.strO w.heap.size []::L):=
   h.sh.push (Chg.alloc _ w _) ⟨#[],0,Go.heap_alloc_new w _,rfl⟩ (fun b hb=>by rw [←(show w.heap.size=b from hb)];exact Nat.le_refl _) (fun b hb=>hb.elim) (fun b _ hb=>hb)
  exact ⟨h.fr.put d (by simpa [Nat.blt_eq] using hdN) _,h1⟩
theorem x_updStrG {x y z:Operand}{i:Nat}(h:St N K W a w F L)(hT:MapTStr P T kT eT)(ho:o.op= .mapUpdate T x y z∨o.op= .insert T x y z)(hd:o.dst=none)(hx:ev F x=some (.map (some g)))(hy:ev F y=some (.string k))(hz:ev F z=some (.bool true))(hi:L[i]? =some (.strO g l))(hk:k∉l):
  Ex P o a w (fun a' w' =>St N K W a' w' F (L.set i (.strO g (l++ [k])))):=by
 obtain ⟨es,c,h1,h2⟩:MapStr w g l:=h.sh.ok _ (List.mem_of_getElem? hi)
 have hlt:g<w.heap.size:=(Array.getElem?_eq_some_iff.1 h1).1
 have e0:(getObj g).run P w= .ok (.map es c) w:=by simp [getObj,Sem.run,h1]
 have e1:=run_findKey_str (P:=P) (w:=w) (k:=k) hT.str h2
 have e2:=run_checkKey_str (P:=P) (w:=w) (k:=k) false 9999 hT.str
 have e3:atS k l 0=none:=by
  rcases atS_spec k l 0 with ⟨j,_,h4⟩|⟨h3,_⟩
  ·exact absurd (List.mem_of_getElem? h4) hk
  ·exact h3
 rw [e3] at e1
 have hrun:(Instr.mapUpdate T (.map (some g)) (.string k) (.bool true)).run P w= .ok () (World.setMap w g (es.push { key:= .string k,val:= .bool true,born:=c }) (c+1)):=by
  simp [Instr.mapUpdate,run_underlying hT.map,e0,e1,e2,setObj,Sem.run,h1,World.setMap]
 refine Ex.of_skip (w' :=World.setMap w g (es.push { key:= .string k,val:= .bool true,born:=c }) (c+1)) ?_ ?_
 ·unfold execOp
  rcases ho with ho|ho<;>simp only [ho,h.fr.ev hx,h.fr.ev hy,h.fr.ev hz,Sem.run_bind,hrun,Result.andThen_ok,Sem.run_pure]
 ·rw [hd]
  have hg:w.grownBy (World.setMap w g (es.push { key:= .string k,val:= .bool true,born:=c }) (c+1)) (some g):=⟨rfl,rfl,rfl,by simp [World.setMap],fun j hj hne=>by
   have:g≠j:=fun e=>hne (by rw [e])
   simp [World.setMap,Array.getElem?_setIfInBounds,this]⟩
  refine ⟨h.fr,h.sh.put hi (Chg.grown hg (fun b hb=>Option.some.inj hb)) ⟨es.push { key:= .string k,val:= .bool true,born:=c },c+1,by simp [World.setMap,hlt], ?_⟩ (fun b hb=> .inl hb) (fun b hb=>hb.elim) (fun b _ hb=>hb)⟩
  simp [pairsOf,keysS] at h2⊢
  exact h2
theorem x_updStr {x y z:Operand}{i:Nat}(h:St N K W a w F L)(hT:MapTStr P T kT eT)(ho:o.op= .mapUpdate T x y z)(hd:o.dst=none)(hx:ev F x=some (.map (some g)))(hy:ev F y=some (.string k))(hz:ev F z=some (.bool true))(hi:L[i]? =some (.strO g l))(hk:k∉l):
  Ex P o a w (fun a' w' =>St N K W a' w' F (L.set i (.strO g (l++ [k])))):=x_updStrG h hT (.inl ho) hd hx hy hz hi hk
theorem x_updStrI {x y z:Operand}{i:Nat}(h:St N K W a w F L)(hT:MapTStr P T kT eT)(ho:o.op= .insert T x y z)(hd:o.dst=none)(hx:ev F x=some (.map (some g)))(hy:ev F y=some (.string k))(hz:ev F z=some (.bool true))(hi:L[i]? =some (.strO g l))(hk:k∉l):
  Ex P o a w (fun a' w' =>St N K W a' w' F (L.set i (.strO g (l++ [k])))):=x_updStrG h hT (.inr ho) hd hx hy hz hi hk
theorem r_lenStrO {x:Operand}{i:Nat}(hT:MapTStr P T kT eT)(ho:o.op= .call ⟨.builtin .len, #[x], #[T]⟩)(hx:ev F x=some (.map (some g)))(hi:L[i]? =some (.strO g l)):Rn P o N K W F L (.int .i64 ((l.length:Nat):Int)):=fun a w h=>by
 obtain ⟨es,c,h1,h2⟩:MapStr w g l:=h.sh.ok _ (List.mem_of_getElem? hi)
 have hl:es.size=l.length:=by
  have:=congrArg List.length h2
  simpa [pairsOf,keysS] using this
 have e0:(getObj g).run P w= .ok (.map es c) w:=by simp [getObj,Sem.run,h1]
 have key:∀ty,(Builtin.len_ #[T] ty #[.map (some g)]).run P w= .ok (.int .i64 ((l.length:Nat):Int)) w:=fun ty=>by
  simp [Builtin.len_,run_underlying hT.map,goInt,e0,hl]
 unfold execOp
 simp [ho,resolve,invoke,builtin,h.fr.ev hx,key]
end
def bv (x:UInt8):Value:= .int .u8 (x.toNat:Int)
theorem nth_bv {l:List UInt8}{q:Nat}(h:q<l.length):(l.map bv)[q]? =some (bv (nth l q)):=by
 rw [List.getElem?_map,List.getElem?_eq_getElem h,nth_lt _ _ h];rfl
theorem splice_bv {l:List UInt8}{q:Nat}{n:UInt8}(h:q<l.length):splice (l.map bv) q [bv n]=(l.set q n).map bv:=by
 unfold splice
 rw [List.set_eq_take_append_cons_drop,if_pos h]
 simp
section
variable {P:Program}{o:Oper}{N:Nat}{K:Nat→Prop}{W w:World}{a:Act}{F:List (Nat×Value)}{L:List Asn}
theorem x_allocBy {d:Nat}{T:TypeId}{g:Bool}{n by_ k:Nat}{z:List Value}(h:St N K W a w F L)(hT:tyI P T=some (g,n,by_,z))(hz:z=(List.replicate k 0).map bv)(ho:o.op= .alloc T)(hd:o.dst=some d)(hdN:Nat.blt d N=true):
  Ex P o a w (fun a' w' =>∃b:Nat,St N K W a' w' ((d, .pointer (some ⟨b,0,none⟩))::F) (.blk b T ((List.replicate k 0).map bv)::L)):=by
 subst hz;exact x_alloc h hT ho hd hdN
theorem x_stBy {T:TypeId}{gg:Bool}{by_:Nat}{z:List Value}{x y:Operand}{g q i:Nat}{n:UInt8}{E:TypeId}{l:List UInt8}(h:St N K W a w F L)(hT:tyI P T=some (gg,1,by_,z))(ho:o.op= .store T x y)(hd:o.dst=none)
  (hx:ev F x=some (.pointer (some ⟨g,q,none⟩))) (hy:ev F y=some (.int .u8 (n.toNat:Int))) (hi:L[i]? =some (.blk g E (l.map bv))) (hq:q<l.length):
  Ex P o a w (fun a' w' =>St N K W a' w' F (L.set i (.blk g E ((l.set q n).map bv)))):=
 x_stb h hT ho hd hx hy hi (vs:= [bv n]) rfl rfl rfl (by rw [List.length_map];omega) (splice_bv hq)
def arrS (g q n:Nat):Value:= .slice (some ⟨g,q,none⟩) (n-q) (n-q)
theorem r_slBy {T e:TypeId}{n m by_ q g:Nat}{gg:Bool}{z:List Value}{x y:Operand}(hT:arI P T=some (n,e))(he:tyI P e=some (gg,m,by_,z))(hm:m=1)(ho:o.op= .slice T x (some y) none none)
  (hx:ev F x=some (.pointer (some ⟨g,0,none⟩))) (hy:ev F y=some (.int .i64 (q:Int))) (hq:q<n):Rn P o N K W F L (arrS g q n):=fun a w h=>by
 subst hm
 obtain ⟨ti,d,zv,hi,hd,_,hs,_⟩:=tyI_parts he
 have hu:=arI_parts hT
 have hel:P.elem T=e:=by simp [Program.elem,hu]
 have hal:P.arrayLen T=n:=by simp [Program.arrayLen,hu]
 have hu' :P.underlying T=some (.array (P.arrayLen T) (P.elem T)):=by rw [hel,hal];exact hu
 have e2:=run_sliceAt_array_l (P:=P) w T ⟨g,0,none⟩ hu' .i64 (q:Int) (by omega) (by rw [hal];omega)
 have hs1:ti.size=1:=by first|exact hs|exact hs.symm
 rw [hel,run_sizeOf hi,Result.andThen_ok,hal,hs1] at e2
 unfold execOp
 simp only [ho,h.fr.ev hx,h.fr.ev hy,Option.map_some,Option.map_none,Sem.run_bind,e2,Result.andThen_ok,Sem.run_pure,slicedAt,arrS]
 simp only [Int.toNat_natCast]
 rw [if_neg (by omega)]
 simp [Addr.add]
 try omega
theorem arr_at {g q n i:Nat}{E:TypeId}{l:List UInt8}(h:Sh K W w L)(hi:L[i]? =some (.blk g E (l.map bv)))(hl:l.length=n)(hq:q≤n)(hn:n≤1000):(⟨arrS g q n,l.drop q⟩:Ls UInt8).At w:=by
 have hb:Blk w g E (l.map bv).toArray:=h.ok _ (List.mem_of_getElem? hi)
 refine ⟨some ⟨g,q,none⟩,n-q, ?_, ?_, ?_, ?_, ?_, ?_, ?_, ?_⟩
 ·show arrS g q n= .slice _ (l.drop q).length _
  unfold arrS
  rw [List.length_drop,hl]
 ·show (l.drop q).length≤n-q
  rw [List.length_drop,hl]
  exact Nat.le_refl _
 ·show n-q≤maxLen
  have:(1000:Nat)≤maxLen:=by decide
  omega
 ·show (l.drop q).length≤_
  rw [List.length_drop,hl];omega
 ·intro _;exact ⟨_,rfl,rfl⟩
 ·intro _;exact hb.lt
 ·intro i' j hi' hj
  have hi2:i' <(l.drop q).length:=hi'
  rw [List.length_drop] at hi2
  have hj0:j=0:=by have:Enc.sz UInt8=1:=rfl;omega
  subst hj0
  have e:(nth (l.drop q) i')=nth l (q+i'):=by simp [nth,List.getD,List.getElem?_drop]
  show w.cell? ⟨g,q+i' *1+0,none⟩=some (bv (nth (l.drop q) i'))
  rw [e,Nat.mul_one,Nat.add_zero]
  exact (hb.cell (q+i')).trans (by simpa using nth_bv (by omega))
 ·intro i' _;trivial
theorem arr_on {g q n:Nat}{E:TypeId}{l:List UInt8}{b:Nat}(hb:(⟨arrS g q n,l.drop q⟩:Ls UInt8).on b):(Asn.blk g E (l.map bv)).fp b:=by
 rcases hb with ⟨h0,h⟩|⟨i',_,h⟩
 ·exact (show g=b from h).symm
 ·exact h.elim
theorem r_cvStr {T D e:TypeId}{x:Operand}{s:Ls UInt8}(hT:P.underlying T=some (.slice e))(he:P.underlying e=some (.int .u8))(hD:P.underlying D=some .string)(ho:o.op= .convert T D x)(hx:ev F x=some s.v)(hat:∀w,Sh K W w L→s.At w)(h0:0<s.l.length):
  Rn P o N K W F L (.string ⟨s.l.toArray⟩):=fun a w h=>by
 obtain ⟨A,cap,hv,hA⟩:=hat w h.sh
 obtain ⟨ad,e1,hsp⟩:=hA.some h0
 have e1' :A=some ad:=e1
 subst e1'
 have key:=run_convert_bytes_back (P:=P) w T D e ad cap s.l hT he hD (fun j hj=>by
  have hc:=hA.cell j 0 hj (by decide)
  obtain ⟨blk,off,sp⟩:=ad
  simp only at hsp
  subst hsp
  rw [Addr.add_lit]
  have e2:(⟨some ⟨blk,off,none⟩,cap,s.l⟩:Sl UInt8).adr 1 j 0=⟨blk,off+j,none⟩:=by simp [Sl.adr]
  rw [←e2]
  refine hc.trans ?_
  show some (Value.int .u8 ((nth s.l j).toNat:Int))=_
  rw [nth_lt _ _ hj])
 unfold execOp
 simp only [ho,h.fr.ev hx,hv,Sem.run_bind,key,Result.andThen_ok,Sem.run_pure]
end
def R64 (n:Int):Prop:= -9223372036854775808≤n∧n<9223372036854775808
def R64L (l:List Int):Prop:=∀n∈l,R64 n
theorem R64.wrap (n:Int):R64 (wrap64 n):=by unfold wrap64 R64;omega
theorem R64.bit (b:Bool):R64 (Go.Proofs.YtmjkobhkkjgplaaGreatDoor.bit b):=by unfold Go.Proofs.YtmjkobhkkjgplaaGreatDoor.bit R64;split<;>omega
theorem R64L.nth {l:List Int}(h:R64L l)(i:Nat):R64 (nth l i):=by
 rcases Nat.lt_or_ge i l.length with h1|h1
 ·exact h _ (nth_mem _ _ h1)
 ·have e:Go.Proofs.YtmjkobhkkjgplaaGreatDoor.nth l i=0:=by simp [Go.Proofs.YtmjkobhkkjgplaaGreatDoor.nth,List.getD,h1]
  rw [e];unfold R64;omega
theorem R64L.set {l:List Int}(h:R64L l)(i:Nat){v:Int}(hv:R64 v):R64L (l.set i v):=fun n hn=>by
 rcases List.mem_or_eq_of_mem_set hn with h1|rfl
 ·exact h n h1
 ·exact hv
theorem R64L.app {l m:List Int}(h:R64L l)(h2:R64L m):R64L (l++m):=fun n hn=>(List.mem_append.1 hn).elim (h n) (h2 n)
def R64W (l:List Wt):Prop:=∀x∈l,R64 x.wh∧R64 x.what
def R64I (i:Ins):Prop:=R64 i.a∧R64 i.b∧R64 i.c
structure TSR (x:TS):Prop where
 regs:R64L x.regs
 wait:R64W x.wait
 words:R64L x.words
 owner:R64L x.owner
 prints:R64L x.prints
section
variable {x:TS}{m:Int}
theorem TSR.put (h:TSR x)(k:Int){v:Int}(hv:R64 v):TSR (x.put k v):=⟨h.regs.set _ hv,h.wait,h.words,h.owner,h.prints⟩
theorem TSR.reg (h:TSR x)(k:Int):R64 (x.reg k):=h.regs.nth _
theorem TSR.finds (h:TSR x)(w:Int):R64 (x.finds w):=by
 unfold TS.finds findsL
 split
 ·rename_i y hy
  exact (h.wait y (by have:=List.mem_of_find?_eq_some hy;simpa using this)).2
 ·exact h.words.nth _
theorem TSR.done (h:TSR x){w:Wt}(hw:R64 w.what):TSR (x.done w):=by
 refine ⟨h.regs,h.wait, ?_, ?_,h.prints⟩
 ·show R64L (if w.lock=true then x.words else x.words.set w.wh.toNat w.what)
  split
  ·exact h.words
  ·exact h.words.set _ hw
 ·show R64L (if w.lock=true then x.owner.set w.wh.toNat (-1) else x.owner)
  split
  ·exact h.owner.set _ (by unfold R64;omega)
  ·exact h.owner
theorem TSR.store (h:TSR x){w:Wt}(h1:R64 w.wh)(h2:R64 w.what):TSR (x.store m w):=by
 unfold TS.store
 split
 ·refine ⟨h.regs,fun y hy=> ?_,h.words,h.owner,h.prints⟩
  rcases List.mem_append.1 hy with hy|hy
  ·exact h.wait y hy
  ·obtain rfl:y=w:=by simpa using hy
   exact ⟨h1,h2⟩
 ·exact h.done h2
theorem TSR.fell (h:TSR x):TSR { x with fell:=true } :=⟨h.regs,h.wait,h.words,h.owner,h.prints⟩
theorem TSR.exec (h:TSR x){n:Nat}(hn:n<1000){i:Ins}(hi:R64I i):TSR (execT m n i x):=by
 obtain ⟨ha,hb,hc⟩:=hi
 by_cases e1:i.op=1
 ·rw [execT_1 e1];exact h.put _ hb
 by_cases e2:i.op=2
 ·rw [execT_2 e2];exact h.put _ (h.reg _)
 by_cases e3:i.op=3
 ·rw [execT_3 e3];exact h.put _ (.wrap _)
 by_cases e4:i.op=4
 ·rw [execT_4 e4];exact h.put _ (.wrap _)
 by_cases e5:i.op=5
 ·rw [execT_5 e5];exact h.put _ (.wrap _)
 by_cases e6:i.op=6
 ·rw [execT_6 e6];exact h.put _ (.bit _)
 by_cases e7:i.op=7
 ·rw [execT_7 e7];exact h.put _ (.bit _)
 by_cases e8:i.op=8
 ·rw [execT_8 e8];exact h.put _ (h.finds _)
 by_cases e9:i.op=9
 ·rw [execT_9 e9];exact h.store ha (h.reg _)
 by_cases e10:i.op=10
 ·by_cases hw:0≤x.reg i.b∧x.reg i.b<(x.words.length:Int)
  ·rw [execT_10t e10 hw];exact h.put _ (h.finds _)
  ·rw [execT_10f e10 hw];exact h.fell
 by_cases e11:i.op=11
 ·by_cases hw:0≤x.reg i.a∧x.reg i.a<(x.words.length:Int)
  ·rw [execT_11t e11 hw];exact h.store (h.reg _) (h.reg _)
  ·rw [execT_11f e11 hw];exact h.fell
 by_cases e13:i.op=13
 ·by_cases hw:nth x.words i.a.toNat=x.reg i.b
  ·rw [execT_13t e13 hw]
   exact ⟨h.regs.set _ (by unfold R64;omega),h.wait,h.words.set _ (h.reg _),h.owner,h.prints⟩
  ·rw [execT_13f e13 hw];exact h.put _ (by unfold R64;omega)
 by_cases e14:i.op=14
 ·rw [execT_14 e14];exact ⟨h.regs,h.wait,h.words,h.owner,h.prints⟩
 by_cases e15:i.op=15
 ·by_cases hw:x.reg i.a=0
  ·rw [execT_15t e15 hw];exact ⟨h.regs,h.wait,h.words,h.owner,h.prints⟩
  ·rw [execT_15f e15 hw];exact h
 by_cases e16:i.op=16
 ·rw [execT_16 e16]
  refine ⟨h.regs,h.wait,h.words,h.owner,h.prints.app fun v hv=> ?_⟩
  rcases List.mem_cons.1 hv with rfl|hv
  ·unfold R64;omega
  ·obtain rfl:v=_:=by simpa using hv
   exact h.reg _
 by_cases e17:i.op=17
 ·rw [execT_17 e17];exact ⟨h.regs,h.wait,h.words,h.owner.set _ (by unfold R64;omega),h.prints⟩
 by_cases e18:i.op=18
 ·by_cases hw:nth x.owner i.a.toNat≠n
  ·rw [execT_18a e18 hw];exact h.fell
  ·by_cases hh:∃j,j<x.wait.length∧(nth x.wait j).lock=true∧(nth x.wait j).wh=i.a
   ·obtain ⟨j,hj,h1,h2⟩:=hh
    rw [execT_18b e18 hw j hj h1 h2];exact h.fell
   ·rw [execT_18c e18 hw (fun q hq hc=>hh ⟨q,hq,hc⟩)]
    exact h.store ha (by show R64 0;unfold R64;omega)
 rw [execT_no ⟨e1,e2,e3,e4,e5,e6,e7,e8,e9,e10,e11,e13,e14,e15,e16,e17,e18⟩]
 exact h
theorem TSR.doT (h:TSR x){n k:Nat}(hn:n<1000){c:List Ins}(hc:∀i∈c,R64I i):TSR (Go.Proofs.YtmjkobhkkjgplaaGreatDoor.doT m n c k x):=by
 unfold Go.Proofs.YtmjkobhkkjgplaaGreatDoor.doT
 split
 ·have hw:R64 (nth x.wait (k-1)).what:=by
   rcases Nat.lt_or_ge (k-1) x.wait.length with h1|h1
   ·exact (h.wait _ (nth_mem _ _ h1)).2
   ·have e:nth x.wait (k-1)=⟨false,0,0⟩:=by simp [nth,List.getD,h1];rfl
    rw [e];show R64 0;unfold R64;omega
  have hd:=h.done hw
  exact ⟨hd.regs,fun y hy=>h.wait y (List.mem_of_mem_eraseIdx hy),hd.words,hd.owner,hd.prints⟩
 ·refine TSR.exec (x:= { x with pc:=x.pc+1 }) ⟨h.regs,h.wait,h.words,h.owner,h.prints⟩ hn ?_
  unfold nextIns
  split
  ·rename_i h1
   rcases Nat.lt_or_ge x.pc.toNat c.length with h2|h2
   ·exact hc _ (nth_mem _ _ h2)
   ·have e:nth c x.pc.toNat=default:=by simp [nth,List.getD,h2]
    rw [e]
    exact ⟨by show R64 0;unfold R64;omega,by show R64 0;unfold R64;omega,by show R64 0;unfold R64;omega⟩
  ·exact ⟨by show R64 0;unfold R64;omega,by show R64 0;unfold R64;omega,by show R64 0;unfold R64;omega⟩
end
structure PgR (p:Pg):Prop where
 code:∀c∈p.code,∀i∈c,R64I i
 words:R64L p.words
theorem Reach.r64 {p:Pg}(hp:PgR p)(hl:p.code.length<1000){m:Int}{s:MSt}(h:Reach p m s):∀t,TSR (s.view t):=by
 have nilT:∀(s:MSt) t,s.ths.length≤t→(s.view t).regs= []∧(s.view t).wait= []:=fun s t ht=>by
  have e:nth s.ths t=default:=by simp [nth,List.getD,ht]
  unfold MSt.view
  rw [e];exact ⟨rfl,rfl⟩
 induction h with
 |start=>
  intro t
  have ho:R64L (List.replicate p.locks.toNat (-1)):=fun n hn=>by rw [List.eq_of_mem_replicate hn];unfold R64;omega
  refine ⟨?_, ?_,hp.words,ho,fun n hn=>(by cases hn)⟩
  ·show R64L (nth (begin_ p).ths t).regs
   unfold begin_
   rcases Nat.lt_or_ge t p.code.length with h|h
   ·rw [nth_map' _ _ _ h];exact fun n hn=>by rw [List.eq_of_mem_replicate hn];unfold R64;omega
   ·simp [nth,List.getD,h];exact fun n hn=>by cases hn
  ·show R64W (nth (begin_ p).ths t).wait
   unfold begin_
   rcases Nat.lt_or_ge t p.code.length with h|h
   ·rw [nth_map' _ _ _ h];exact fun n hn=>by cases hn
   ·simp [nth,List.getD,h];exact fun n hn=>by cases hn
 | @step s t k hr ht hk hf ih=>
  have h1:TSR (stepT p m s t k):=TSR.doT (ih t) (by omega) (hp.code _ (nth_mem _ _ ht))
  intro u
  by_cases e:t=u
  ·subst e
   rcases Nat.lt_or_ge t s.ths.length with hlt|hlt
   ·rw [putT_view hlt]
    exact ⟨h1.regs,h1.wait,h1.words,h1.owner,h1.prints⟩
   ·have e2:(s.putT t (stepT p m s t k)).ths=s.ths:=List.set_eq_of_length_le hlt
    obtain ⟨q1,q2⟩:=nilT (s.putT t (stepT p m s t k)) t (by rw [e2];exact hlt)
    exact ⟨by rw [q1];exact fun n hn=>(by cases hn),by rw [q2];exact fun n hn=>(by cases hn),h1.words,h1.owner,h1.prints⟩
  ·rw [putT_other e]
   exact ⟨(ih u).regs,(ih u).wait,h1.words,h1.owner,h1.prints⟩
def MemF.tells (F:MemF)(i:F.ι)(words owner:Ls Int)(q:(F.mem i).σ):List (List Int):= [words.l,owner.l]++F.tq ((F.mem i).qs q)
structure MemFI (P:Program)(PL INT BX BY KEY:Nat)(F:MemF):Prop where
 ok:∀i,MemI P PL INT (F.mem i)
 hT:∀i,(F.mem i).T=F.T
 hm:∀i,(F.mem i).m=F.m
 tq:TqOK F.tq F.Q
 qQ:∀i q,F.Q ((F.mem i).qs q)
 copy:∀(w:World) (i:F.ι) (words owner:Ls Int) (q:(F.mem i).σ),MemRd PL (F.mem i) w words owner q→words.l.length≤64→owner.l.length≤4→((F.mem i).qs q).length≤4→(∀l∈(F.mem i).qs q,l.length≤3)→
  InvM P (F.mem i).T (F.mem i).u "Copy" [] w (fun v w' =>∃(i' :F.ι) (words' owner' :Ls Int) (q' :(F.mem i').σ),v= .iface (F.mem i').T (.pointer (some (F.mem i').u))∧words'.l=words.l∧owner'.l=owner.l∧(F.mem i').qs q' =(F.mem i).qs q∧Sh0 w w' (memA PL INT (F.mem i') words' owner' q'))
 tell:∀(K:Nat→Prop) (W:World) (i:F.ι) (words owner:Ls Int) (q:(F.mem i).σ) (gb:Nat) (bs:Ls UInt8),Sh K W W [.blk gb BX [bs.v], .own BY bs, .rblk (F.mem i).g0 PL [words.v,owner.v], .at_ words, .at_ owner, .ro [(F.mem i).X q]]→
  words.l.length≤64→owner.l.length≤4→((F.mem i).qs q).length≤4→(∀l∈(F.mem i).qs q,l.length≤3)→R64L words.l→R64L owner.l→(∀l∈(F.mem i).qs q,R64W l)→bs.l.length≤1000000000000→
  InvM P (F.mem i).T (F.mem i).u "Tell" [.func (.func KEY) #[] #[.pointer (some ⟨gb,0,none⟩)]] W (fun v w' =>v= .tuple #[]∧∃bs' :Ls UInt8,bs'.l=bs.l++by8 ((F.tells i words owner q).flatMap putB)∧bs'.l.length≤bs.l.length+100000∧
   Sh K W w' [.blk gb BX [bs'.v], .own BY bs', .rblk (F.mem i).g0 PL [words.v,owner.v], .at_ words, .at_ owner, .ro [(F.mem i).X q]])
def Asn.rgs (rows:List ThR):Asn where
 fp _:=False
 rd b:=∃r∈rows,r.regs.on b
 ok w:=∀r∈rows,r.regs.At w
 keep w w' h hb r hr:=(h r hr).keep fun b hb' =>hb b (.inr ⟨r,hr,hb'⟩)
 lt w h b hb:=by rcases hb with hb|⟨r,hr,hb⟩;exact hb.elim;exact (h r hr).lt hb
theorem rgs_at {K:Nat→Prop}{W w:World}{L:List Asn}{rows:List ThR}(h:Sh K W w L)(i:Nat)(hi:L[i]? =some (.rgs rows))(t:Nat)(ht:t<rows.length):(nth rows t).regs.At w:=h.ok _ (List.mem_of_getElem? hi) _ (nth_mem _ _ ht)
theorem num36_len (n:Int)(h: -9223372036854775808≤n∧n<9223372036854775808):(num36 n).length≤65:=by
 have key:∀k n,n<36^(k+1)→(digs n).length≤k+1:=by
  intro k
  induction k with
  |zero=>intro n hn;rw [digs_lo (by simpa using hn)];simp
  |succ k ih=>
   intro n hn
   by_cases h36:n<36
   ·rw [digs_lo h36];simp
   ·rw [digs_hi h36,List.length_append]
    have:=ih (n/36) (by rw [Nat.div_lt_iff_lt_mul (by decide),←Nat.pow_succ];exact hn)
    simp only [List.length_cons,List.length_nil]
    omega
 have:=key 63 n.natAbs (by
  have:(36:Nat)^64>9223372036854775808:=by decide
  omega)
 unfold num36
 split
 ·simp only [List.length_cons];omega
 ·omega
theorem putB_len {l:List Int}(h:∀n∈l,-9223372036854775808≤n∧n<9223372036854775808):(putB l).length≤66*l.length+1:=by
 unfold putB
 rw [List.length_append]
 have:(l.flatMap fun n=>num36 n++ [32]).length≤66*l.length:=by
  induction l with
  |nil=>simp
  |cons x l ih=>
   rw [List.flatMap_cons,List.length_append,List.length_append,List.length_cons]
   have h1:=num36_len x (h x (by simp))
   have h2:=ih fun n hn=>h n (by simp [hn])
   simp only [List.length_cons,List.length_nil]
   omega
 simp only [List.length_cons,List.length_nil]
 omega
section
variable {P:Program}{o:Oper}{N:Nat}{K:Nat→Prop}{W w:World}{F:List (Nat×Value)}{L:List Asn}{T U D:TypeId}{x y:Operand}
theorem r_cvUN {p:Nat}(hs:P.underlying T=some (.int .i64))(hd:P.underlying D=some (.int .u64))(ho:o.op= .convert T D x)(hx:ev F x=some (.int .i64 ((p:Nat):Int)))(hp:p<18446744073709551616):Rn P o N K W F L (.int .u64 ((p:Nat):Int)):=by
 have h:=r_cvU (P:=P) (N:=N) (K:=K) (W:=W) (L:=L) hs hd ho hx
 rwa [show toU ((p:Nat):Int)=p by unfold toU;omega] at h
theorem r_andS {p:Nat}(ho:o.op= .binOp .and T x y U)(hx:ev F x=some (.int .u64 ((p:Nat):Int)))(hy:ev F y=some (.int .u64 4294967295))(hp:p<4294967296):Rn P o N K W F L (.int .u64 ((p:Nat):Int)):=r_bin ho hx hy fun w=>by
 rw [binOp_and]
 have h1:Op.intBits .and .u64 (p:Int) 4294967295=pure (.int .u64 (bits .and .u64 p 4294967295)):=rfl
 have h2:=bits_and_u64_nat p 4294967295 (by omega) (by omega)
 have e:p&&&4294967295=p:=by rw [show (4294967295:Nat)=2^32-1 from rfl,Nat.and_two_pow_sub_one_eq_mod];exact Nat.mod_eq_of_lt hp
 rw [h1,show (4294967295:Int)=((4294967295:Nat):Int) from rfl,h2,e];rfl
theorem r_shrS {p:Nat}(ho:o.op= .binOp .shr T x y U)(hx:ev F x=some (.int .u64 ((p:Nat):Int)))(hy:ev F y=some (.int .u64 32))(hp:p<4294967296):Rn P o N K W F L (.int .u64 ((0:Nat):Int)):=by
 have h:=r_shrU (P:=P) (N:=N) (K:=K) (W:=W) (L:=L) (k:=32) ho hx hy (by decide)
 rwa [show p/2^32=0 from Nat.div_eq_of_lt hp] at h
theorem r_mulS {p q r:Nat}(ho:o.op= .binOp .mul T x y U)(hx:ev F x=some (.int .u64 ((p:Nat):Int)))(hy:ev F y=some (.int .u64 ((q:Nat):Int)))(hr:p*q=r)(hb:r<18446744073709551616):Rn P o N K W F L (.int .u64 ((r:Nat):Int)):=by
 have h:=r_mulU (P:=P) (N:=N) (K:=K) (W:=W) (L:=L) ho hx hy
 rwa [hr,Nat.mod_eq_of_lt hb] at h
theorem r_addS {p q r:Nat}(ho:o.op= .binOp .add T x y U)(hx:ev F x=some (.int .u64 ((p:Nat):Int)))(hy:ev F y=some (.int .u64 ((q:Nat):Int)))(hr:p+q=r)(hb:r<18446744073709551616):Rn P o N K W F L (.int .u64 ((r:Nat):Int)):=r_bin ho hx hy fun w=>by
 subst hr
 have:(((p:Nat):Int)+(q:Nat))%18446744073709551616=((p+q:Nat):Int):=by omega
 simp [go_sem,IntKind.wrap_u64,this]
end
structure KE where
 k:Int
 v:Int
 b:Nat
def KE.e (x:KE):MapEntry:=⟨.int .i64 x.k, .int .i64 x.v,x.b⟩
def KE.kv (x:KE):Int×Int:=(x.k,x.v)
structure MapC (w:World)(g:Nat)(c:List KE)(t:Nat):Prop where
 blk:w.heap[g]? =some (.map (c.map KE.e).toArray t)
 born:(c.map (·.b)).Nodup
 below:∀x∈c,x.b<t
 keys:(c.map (·.k)).Nodup
def MapZ (w:World)(g:Nat)(l:List (Int×Int)):Prop:=∃c t,MapC w g c t∧c.map KE.kv=l
theorem MapC.of_block {w w' :World}{g:Nat}{c:List KE}{t:Nat}(h:MapC w g c t)(hb:w'.heap[g]? =w.heap[g]?):MapC w' g c t:=⟨hb.trans h.blk,h.born,h.below,h.keys⟩
theorem MapC.lt {w:World}{g:Nat}{c:List KE}{t:Nat}(h:MapC w g c t):g<w.heap.size:=(Array.getElem?_eq_some_iff.1 h.blk).1
def vz (l:List (Int×Int)):List (Int×Value):=l.map fun x=>(x.1, .int .i64 x.2)
theorem MapZ.int {w:World}{g:Nat}{l:List (Int×Int)}(h:MapZ w g l):MapI w g (vz l):=by
 obtain ⟨c,t,h1,rfl⟩:=h
 exact ⟨_,t,h1.blk,by simp [pairsOf,keysI,vz,KE.e,KE.kv,Function.comp_def]⟩
theorem MapZ.keys {w:World}{g:Nat}{l:List (Int×Int)}(h:MapZ w g l):(l.map (·.1)).Nodup:=by
 obtain ⟨c,t,h1,rfl⟩:=h
 have:=h1.keys
 rw [List.map_map]
 exact this
structure MapTZ (P:Program)(T kT eT:TypeId):Prop where
 map:P.underlying T=some (.map kT eT)
 int:P.underlying kT=some (.int .i64)
 zero:∀w,(zeroValue eT).run P w= .ok (.int .i64 0) w
section
variable {P:Program}{o:Oper}{N:Nat}{K:Nat→Prop}{W w:World}{a:Act}{F:List (Nat×Value)}{L:List Asn}{T kT eT:TypeId}{p:Option Nat}{l:List (Int×Int)}{k v:Int}{g:Nat}
end
section
variable {P:Program}{o:Oper}{N:Nat}{K:Nat→Prop}{W w:World}{a:Act}{F:List (Nat×Value)}{L:List Asn}{T kT eT:TypeId}{l:List (Int×Int)}{g r t:Nat}{c:List KE}{s:List Nat}
end
section
variable {pd:Int→Int→Bool}{c:List KE}{s:List Nat}{x:KE}
end
structure MP where
 p:Option Nat
 l:List (Int×Int)
instance : Inhabited MP:=⟨⟨none, []⟩⟩
section
variable {P:Program}{o:Oper}{N:Nat}{K:Nat→Prop}{W w:World}{a:Act}{F:List (Nat×Value)}{L:List Asn}{T kT eT E:TypeId}{v:Value}{M:List MP}{l:List (Int×Int)}{p:Option Nat}{g:Nat}
end
section
variable {N:Nat}{K:Nat→Prop}{W w:World}{a:Act}{F:List (Nat×Value)}{L:List Asn}{α:Type}[Enc α][Flat α]
end
section
variable {P:Program}{o:Oper}{N:Nat}{K:Nat→Prop}{W w:World}{a:Act}{F:List (Nat×Value)}{L:List Asn}
end
section
variable {P:Program}{o:Oper}{N:Nat}{K:Nat→Prop}{W w:World}{F:List (Nat×Value)}{L:List Asn}{T U D:TypeId}{x y:Operand}
theorem r_quoU {p q:Nat}(ho:o.op= .binOp .quo T x y U)(hx:ev F x=some (.int .u64 ((p:Nat):Int)))(hy:ev F y=some (.int .u64 ((q:Nat):Int)))(hq:0<q∧p<18446744073709551616):Rn P o N K W F L (.int .u64 (((p/q:Nat)):Int)):=r_bin ho hx hy fun w=>by
 have h1:¬(q:Int)=0:=by omega
 have h0:¬q=0:=by omega
 have h2:(p:Int).tdiv q=((p/q:Nat):Int):=by rw [Int.tdiv_eq_ediv_of_nonneg (by omega)];rfl
 have h3:(((p/q:Nat):Int))%18446744073709551616=((p/q:Nat):Int):=by
  have hz:p/q<18446744073709551616:=Nat.lt_of_le_of_lt (Nat.div_le_self _ _) hq.2
  generalize p/q=z at hz
  omega
 rw [Int.natCast_ediv] at h3
 simp [go_sem,h0,h1,h2,IntKind.wrap_u64,h3]
theorem r_subU {p q:Nat}(ho:o.op= .binOp .sub T x y U)(hx:ev F x=some (.int .u64 ((p:Nat):Int)))(hy:ev F y=some (.int .u64 ((q:Nat):Int)))(hq:q≤p∧p<18446744073709551616):Rn P o N K W F L (.int .u64 (((p-q:Nat)):Int)):=r_bin ho hx hy fun w=>by
 have:(((p:Nat):Int)-(q:Nat))%18446744073709551616=((p-q:Nat):Int):=by omega
 simp [go_sem,IntKind.wrap_u64,this]
theorem r_negU {p:Nat}(ho:o.op= .unOp .neg T x)(hx:ev F x=some (.int .u64 ((p:Nat):Int))):Rn P o N K W F L (.int .u64 (((toU (-(p:Int)):Nat)):Int)):=fun a w h=>by
 have e:(-(p:Int))%18446744073709551616=((toU (-(p:Int)):Nat):Int):=by unfold toU;omega
 unfold execOp
 simp only [ho,h.fr.ev hx]
 simp [unary_neg,Op.intArith,IntKind.wrap_u64,e]
theorem r_ixStrU {s:ByteArray}{q:Nat}(hT:P.underlying T=some .string)(ho:o.op= .index T x y)(hx:ev F x=some (.string s))(hz:ev F y=some (.int .u64 ((q:Nat):Int)))(hq:q<s.size):Rn P o N K W F L (.int .u8 ((s[q]'hq).toNat:Int)):=fun a w h=>by
 have key:(Instr.index T (.string s) (.int .u64 (q:Int))).run P w= .ok (.int .u8 ((s[q]'hq).toNat:Int)) w:=by
  rw [run_index_string _ _ _ _ _ hT]
  simp [hq]
 unfold execOp
 simp only [ho,h.fr.ev hx,h.fr.ev hz,Sem.run_bind,key,Result.andThen_ok,Sem.run_pure]
end
theorem toU_neg {n:Int}(h:n<0∧-9223372036854775808≤n):toU (-((toU n:Nat):Int))=n.natAbs:=by unfold toU;omega
theorem toU_pos {n:Int}(h:¬n<0)(h2:n<9223372036854775808):toU n=n.natAbs:=by unfold toU;omega
def digS :ByteArray:=⟨#[48,49,50,51,52,53,54,55,56,57,97,98,99,100,101,102,103,104,105,106,107,108,109,110,111,112,113,114,115,116,117,118,119,120,121,122]⟩
theorem digS_at {q:Nat}(h:q<digS.size):digS[q]'h=UInt8.ofNat (dg q):=by
 have key:∀i:Fin 36,digS[i.1]'i.2=UInt8.ofNat (dg i.1):=by decide
 exact key ⟨q,h⟩
theorem dig_room {u k:Nat}(h:u≤18446744073709551615/36^k)(hu:36≤u):k<12:=by
 apply Classical.byContradiction
 intro hk
 have h1:36^12≤36^k:=Nat.pow_le_pow_right (by decide) (by omega)
 have h2:18446744073709551615/36^k≤18446744073709551615/36^12:=Nat.div_le_div_left h1 (by decide)
 have h3:18446744073709551615/36^12=3:=by decide
 omega
theorem dig_next {u k:Nat}(h:u≤18446744073709551615/36^k):u/36≤18446744073709551615/36^(k+1):=by
 rw [Nat.pow_succ,←Nat.div_div_eq_div_mul]
 exact Nat.div_le_div_right h
theorem dig_step {u0 u i:Nat}{l:List UInt8}{b:UInt8}(h:by8 (digs u0)=by8 (digs u)++l.drop (i+1))(hu:36≤u)(hi:i<l.length)(hb:b=UInt8.ofNat (dg (u-u/36*36))):by8 (digs u0)=by8 (digs (u/36))++(l.set i b).drop i:=by
 have e:u-u/36*36=u%36:=by omega
 rw [h,digs_hi (by omega),by8_app,hb,e,List.drop_eq_getElem_cons (show i<(l.set i _).length by rw [List.length_set];exact hi),List.getElem_set_self,List.drop_set_of_lt (by omega),List.append_assoc]
 rfl
theorem dig_last {u0 u i:Nat}{l:List UInt8}{b:UInt8}(h:by8 (digs u0)=by8 (digs u)++l.drop (i+1))(hu:¬36≤u)(hi:i<l.length)(hb:b=UInt8.ofNat (dg u)):by8 (digs u0)=(l.set i b).drop i:=by
 rw [h,digs_lo (by omega),hb,List.drop_eq_getElem_cons (show i<(l.set i _).length by rw [List.length_set];exact hi),List.getElem_set_self,List.drop_set_of_lt (by omega)]
 rfl
theorem moved_put (B:Nat→Ins→List Ins)(code:List Ins)(h:∀i,i<code.length→∀x∈B i (nth code i),x.op=15→(nth code i).op≠17):movedL B code=putL (becL B code) code:=by
 unfold movedL putL putUpto
 simp only [List.flatMap]
 congr 1
 apply List.map_congr_left
 intro i hi
 have hi' :i<code.length:=by simpa using hi
 rw [becL_nth _ _ _ hi']
 apply List.map_congr_left
 intro x hx
 unfold fixMv fixIns
 have:=h i hi' x hx
 split
 ·rfl
 ·split
  ·rfl
  ·rw [if_neg (fun hh=>this hh.1 hh.2)]
theorem ok_thread {code:Ls (Ls Ins)}{words:Ls Int}{locks regs:Int}(h:OkPg (pgOf code words locks regs))(t:Nat)(ht:t<code.l.length):(nth code.l t).l.length≤400∧JumpsOK (nth code.l t).l:=by
 have e:nth (pgOf code words locks regs).code t=(nth code.l t).l:=nth_map' _ _ _ ht
 have ht' :t<(pgOf code words locks regs).code.length:=by simpa [pgOf] using ht
 refine ⟨by rw [←e];exact h.len t ht',fun i hi=> ?_⟩
 have hi2:=h.ins t i ht' (by rw [e];exact hi)
 rw [e] at hi2
 have hw:wrap64 (((nth code.l t).l.length:Int)+1)=((nth code.l t).l.length:Int)+1:=by
  have hlen:=h.len t ht'
  rw [e] at hlen
  exact IntWalk.wrap64_in _ ⟨by omega,by omega⟩
 refine ⟨fun h14=> ?_,fun h15=> ?_⟩
 ·have h0:=hi2.n0
  unfold okNumG at h0
  rw [h14] at h0
  have hk:kindsB 14=⟨#[99]⟩:=by unfold kindsB;simp
  rw [hk] at h0
  simp only [show (0:Nat)<(⟨#[99]⟩:ByteArray).size from by decide,dif_pos] at h0
  have:fitsG (pgOf code words locks regs) (nth code.l t).l.length 99 (nth (nth code.l t).l i).a=true:=h0
  unfold fitsG at this
  simp only [Int.reduceEq,if_false,if_true,hw,Bool.and_eq_true,decide_eq_true_eq] at this
  omega
 ·have h0:=hi2.n1
  unfold okNumG at h0
  rw [h15] at h0
  have hk:kindsB 15=⟨#[114,99]⟩:=by unfold kindsB;simp
  rw [hk] at h0
  simp only [show (1:Nat)<(⟨#[114,99]⟩:ByteArray).size from by decide,dif_pos] at h0
  have:fitsG (pgOf code words locks regs) (nth code.l t).l.length 99 (nth (nth code.l t).l i).b=true:=h0
  unfold fitsG at this
  simp only [Int.reduceEq,if_false,if_true,hw,Bool.and_eq_true,decide_eq_true_eq] at this
  omega
theorem ok_len {code:Ls (Ls Ins)}{words:Ls Int}{locks regs:Int}(h:OkPg (pgOf code words locks regs)):1≤code.l.length∧code.l.length≤4∧words.l.length≤64∧0≤locks∧locks≤4∧1≤regs∧regs≤200:=by
 have h1:=h.code
 have h2:=h.words
 have h3:=h.locks
 have h4:=h.regs
 simp only [pgOf,List.length_map] at h1 h2 h3 h4
 omega
theorem nil_at {α:Type}[Enc α](w:World):(⟨.slice none 0 0, []⟩:Ls α).At w:=(((Sh0.start w).nil (α:=α) 0).own 0 rfl)
theorem Sh.nilAt {α:Type}[Enc α]{K:Nat→Prop}{W w:World}{L:List Asn}(h:Sh K W w L):(⟨.slice none 0 0, []⟩:Ls α).At w:=nil_at w
end Go.Proofs.YtmjkobhkkjgplaaGreatDoor
