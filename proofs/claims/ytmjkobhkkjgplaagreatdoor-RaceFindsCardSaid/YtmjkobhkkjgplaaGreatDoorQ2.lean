/- Part 2 of the texts. -/
import Derived.Test.YtmjkobhkkjgplaaGreatDoorQ1
namespace Go.Proofs.YtmjkobhkkjgplaaGreatDoor
open Go.RowKit
set_option linter.unusedSimpArgs false
set_option linter.unusedVariables false
theorem lens9 :(∀ {α:Type} (l m:List α),(l++m).length=l.length+m.length)∧(∀ {α:Type} (a:α) (l:List α),(a::l).length=l.length+1)∧(∀ {α:Type},([]:List α).length=0)∧(∀ {α:Type} (l:List α) (i:Nat) (a:α),(l.set i a).length=l.length)∧(∀ {α:Type} (n:Nat) (a:α),(List.replicate n a).length=n)∧(∀ {α β:Type} (f:α→β) (l:List α),(l.map f).length=l.length)∧(∀n:Nat,(List.range n).length=n):=
 ⟨fun l m=>List.length_append,fun a l=>List.length_cons,List.length_nil,fun l i a=>List.length_set,fun n a=>List.length_replicate,fun f l=>List.length_map f,fun n=>List.length_range⟩
theorem om9 {p:Prop}(h:p:=by first|omega|(simp only [lens9];omega)):p:=h
inductive Runs (P:Program)(ops:Array Oper)(N:Nat)(K:Nat→Prop)(W:World)(L:List Asn):List Oper→List (Nat×Value)→List Oper→List (Nat×Value)→Prop
 |nl {l:List Oper} {F:List (Nat×Value)} :Runs P ops N K W L l F l F
 |cn {o:Oper} {l l' :List Oper} {F F' :List (Nat×Value)} {d:Nat} {v:Value} (hr:Rn P o N K W F L v) (hw:∀a,Fr N a F→Region.wanted o (yielded ops a.tmps)=true) (hd:o.dst=some d) (hN:Nat.blt d N=true) (k:Runs P ops N K W L l ((d,v)::F) l' F'):Runs P ops N K W L (o::l) F l' F'
 |sk {o:Oper} {l l' :List Oper} {F F' :List (Nat×Value)} {d:Nat} (hw:∀a,Fr N a F→Region.wanted o (yielded ops a.tmps)=false) (hd:o.dst=some d) (hN:Nat.blt d N=true) (k:Runs P ops N K W L l ((d,undef)::F) l' F'):Runs P ops N K W L (o::l) F l' F'
section
variable {P:Program}{N:Nat}{K:Nat→Prop}{W w:World}{a:Act}{F F' F2:List (Nat×Value)}{L L' :List Asn}{o:Oper}{ops:Array Oper}{l l' l2 rest:List Oper}{Q:Exit→Act→World→Prop}{c c' :Code}{R:Act→World→Prop}
theorem Runs.go (r:Runs P ops N K W L l F l' F'):∀ {a:Act},St N K W a w F L→(∀a,St N K W a w F' L→wpList P ops Q l' a w)→wpList P ops Q l a w:=by
 induction r with
 |nl=>exact fun h k=>k _ h
 |cn hr hw hd hN _ ih=>exact fun h k=>wl_val h hr (hw _ h.fr) hd hN fun a h=>ih h k
 |sk hw hd hN _ ih=>exact fun h k=>wl_skip h (hw _ h.fr) hd hN fun a h=>ih h k
theorem Runs.goQ {Z:Act→Prop}(r:Runs P ops N K W L l F l' F'):∀ {a:Act},Fr N a F→(∀a,Fr N a F' →wpQuiet P ops (fun w=>Sh K W w L) Z l' a)→wpQuiet P ops (fun w=>Sh K W w L) Z l a:=by
 induction r with
 |nl=>exact fun h k=>k _ h
 |cn hr hw hd hN _ ih=>exact fun h k=>wq_val h hr (hw _ h) hd hN fun a h=>ih h k
 |sk hw hd hN _ ih=>exact fun h k=>wq_skip h (hw _ h) hd hN fun a h=>ih h k
theorem gG (h:St N K W a w F L)(k:∀a w,St N K W a w F L→R a w):R a w:=k a w h
theorem gRn (r:Runs P ops N K W L l F l' F')(k:∀a w,St N K W a w F' L→wpList P ops Q l' a w):∀a w,St N K W a w F L→wpList P ops Q l a w:=fun _ w h=>r.go h fun a h=>k a w h
theorem sG {id:Nat}(r:Runs P l.toArray N K W L l F [] F')(k:∀a w,St N K W a w F' L→c.wp P Q a w):∀a w,St N K W a w F L→(Code.seq (.region id l.toArray false) c).wp P Q a w:=
 fun _ w h=>wp_seq_k fun _ hK=>wp_region_lit (r.go h fun a h=>wpList_nil (hK _ _ (k a w h)))
theorem sK {id:Nat}(k:∀R:Act→World→Prop,(∀a w,c.wp P Q a w→R a w)→∀a w,St N K W a w F L→wpList P l.toArray (Exit.then R Q) l a w):∀a w,St N K W a w F L→(Code.seq (.region id l.toArray false) c).wp P Q a w:=
 fun _ w h=>wp_seq_k fun R hK=>wp_region_lit (k R hK _ w h)
theorem nK {Q0:Exit→Act→World→Prop}(hk:∀a w,c.wp P Q a w→Q0 .normal a w)(k:∀a w,St N K W a w F L→c.wp P Q a w):∀a w,St N K W a w F L→wpList P ops Q0 [] a w:=fun _ w h=>wpList_nil (hk _ _ (k _ w h))
theorem hK {X:Act→World→Prop}(hk:∀a w,c.wp P Q a w→X a w)(k:∀a w,St N K W a w F L→c.wp P Q a w):∀a w,St N K W a w F L→X a w:=fun _ w h=>hk _ _ (k _ w h)
theorem gK (k:∀R:Act→World→Prop,(∀a w,c'.wp P Q a w→R a w)→∀a w,St N K W a w F L→c.wp P (Exit.then R Q) a w):∀a w,St N K W a w F L→(Code.seq c c').wp P Q a w:=
 fun _ w h=>wp_seq_k fun R hK=>k R hK _ w h
theorem gL {id:Nat}(k:∀a w,St N K W a w F L→wpList P l.toArray Q l a w):∀a w,St N K W a w F L→(Code.region id l.toArray false).wp P Q a w:=fun _ w h=>wp_region_lit (k _ w h)
theorem nN (k:∀a w,St N K W a w F L→Q .normal a w):∀a w,St N K W a w F L→wpList P ops Q [] a w:=fun _ w h=>wpList_nil (k _ w h)
theorem gCb {x:Operand}{b:Bool}(hc:ev F x=some (.bool b))(ht:b=true→∀a w,St N K W a w F L→c.wp P Q a w)(hf:b=false→∀a w,St N K W a w F L→c'.wp P Q a w):∀a w,St N K W a w F L→(Code.cond x c c').wp P Q a w:=
 fun _ w h=>x_cond h hc (fun hb=>ht hb _ w h) (fun hb=>hf hb _ w h)
theorem gcd {x:Operand}{p:Prop}[Decidable p](hc:ev F x=some (.bool (decide p)))(ht:decide p=true→p→∀a w,St N K W a w F L→c.wp P Q a w)(hf:decide p=false→¬p→∀a w,St N K W a w F L→c'.wp P Q a w):∀a w,St N K W a w F L→(Code.cond x c c').wp P Q a w:=
 gCb hc (fun hb=>ht hb (of_decide_eq_true hb)) fun hb=>hf hb (of_decide_eq_false hb)
theorem dsp (p:Prop)[Decidable p]:(decide p=true∧p)∨(decide p=false∧¬p):=by
 by_cases h:p
 ·exact .inl ⟨decide_eq_true h,h⟩
 ·exact .inr ⟨decide_eq_false h,h⟩
theorem gcT {x:Operand}{b:Bool}(hc:ev F x=some (.bool b))(hb:b=true)(k:∀a w,St N K W a w F L→c.wp P Q a w):∀a w,St N K W a w F L→(Code.cond x c c').wp P Q a w:=fun _ w h=>x_condT h hc hb (k _ w h)
theorem gcF {x:Operand}{b:Bool}(hc:ev F x=some (.bool b))(hb:b=false)(k:∀a w,St N K W a w F L→c'.wp P Q a w):∀a w,St N K W a w F L→(Code.cond x c c').wp P Q a w:=fun _ w h=>x_condF h hc hb (k _ w h)
theorem gB {id:Nat}(k:∀a w,St N K W a w F L→c.wp P (Exit.inBlock id Q) a w):∀a w,St N K W a w F L→(Code.block id c).wp P Q a w:=fun _ w h=>wp_block (k _ w h)
theorem gS (k:∀a w,St N K W a w F L→Q .normal a w):∀a w,St N K W a w F L→Code.skip.wp P Q a w:=fun _ w h=>wp_skip (k _ w h)
theorem gX {id:Nat}(k:∀a w,St N K W a w F L→Q (.exit id) a w):∀a w,St N K W a w F L→(Code.exit id).wp P Q a w:=fun _ w h=>wp_exit (k _ w h)
theorem gR (k:∀a w,St N K W a w F L→Q .ret a w):∀a w,St N K W a w F L→Code.ret.wp P Q a w:=fun _ w h=>wp_ret (k _ w h)
def argF :List Value→Option (List (Nat×Value))
 | []=>some []
 | [a]=>some [(0,a)]
 | [a,b]=>some [(0,a),(1,b)]
 | [a,b,c]=>some [(0,a),(1,b),(2,c)]
 | [a,b,c,d]=>some [(0,a),(1,b),(2,c),(3,d)]
 | [a,b,c,d,e]=>some [(0,a),(1,b),(2,c),(3,d),(4,e)]
 | [a,b,c,d,e,f]=>some [(0,a),(1,b),(2,c),(3,d),(4,e),(5,f)]
 | [a,b,c,d,e,f,g]=>some [(0,a),(1,b),(2,c),(3,d),(4,e),(5,f),(6,g)]
 | [a,b,c,d,e,f,g,h]=>some [(0,a),(1,b),(2,c),(3,d),(4,e),(5,f),(6,g),(7,h)]
 | [a,b,c,d,e,f,g,h,i]=>some [(0,a),(1,b),(2,c),(3,d),(4,e),(5,f),(6,g),(7,h),(8,i)]
 | [a,b,c,d,e,f,g,h,i,j]=>some [(0,a),(1,b),(2,c),(3,d),(4,e),(5,f),(6,g),(7,h),(8,i),(9,j)]
 |_=>none
theorem argF_eq {vs:List Value}{F:List (Nat×Value)}(h:argF vs=some F):((vs.zipIdx 0).map fun x=>(x.2,x.1))=F:=by
 unfold argF at h
 split at h<;>cases h<;>rfl
theorem gen {f:FuncId}{fn:Func}{vs:List Value}{X:Value→World→Prop}(hf:P.funcs[f]? =some fn)(hN:fn.ntmps=N)(hS:Sh K W W L)(e:(fn.body,argF vs,Nat.ble vs.length N)=(some c,some F,true))(k:∀a,St N K W a W F L→c.wp P (bodyPost P fn fun e w' =>∃v,e= .returned v∧X v w') a W):Rets P f vs W X:=by
 simp only [Prod.mk.injEq] at e
 exact x_enter hf e.1 hN (Nat.le_of_ble_eq_true e.2.2) fun a h=>k a ⟨by rw [argF_eq e.2.1] at h;exact h,hS⟩
theorem uT {X:Act→World→Prop}(k:∀a w,St N K W a w F L→Q .ret a w):∀a w,St N K W a w F L→Exit.then X Q .ret a w:=k
theorem uB {id:Nat}(k:∀a w,St N K W a w F L→Q .ret a w):∀a w,St N K W a w F L→Exit.inBlock id Q .ret a w:=k
theorem gNl {α:Type}[Enc α]{s:Ls α}(hat:∀w,Sh K W w L→s.At w)(k:s.l.length≤140737488355328→∀a w,St N K W a w F L→R a w):∀a w,St N K W a w F L→R a w:=fun a w h=>k (hat w h.sh).len a w h
theorem gE {L2:List Asn}(hx:∀a w,St N K W a w F L→Ex P o a w (fun a' w' =>St N K W a' w' F2 L2))(hg:o.guard=none)(k:∀a w,St N K W a w F2 L2→wpList P ops Q rest a w):∀a w,St N K W a w F L→wpList P ops Q (o::rest) a w:=
 fun _ w h=>wl_ex (hx _ w h) (wanted_none hg _) fun a w h=>k a w h
theorem gE1 {α:Sort 1}{F2:α→List (Nat×Value)}{L2:α→List Asn}(hx:∀a w,St N K W a w F L→Ex P o a w (fun a' w' =>∃b:α,St N K W a' w' (F2 b) (L2 b)))(hg:o.guard=none)(k:∀b a w,St N K W a w (F2 b) (L2 b)→wpList P ops Q rest a w):∀a w,St N K W a w F L→wpList P ops Q (o::rest) a w:=
 fun _ w h=>wl_ex (hx _ w h) (wanted_none hg _) fun a w ⟨b,h⟩=>k b a w h
def pickF (F:List (Nat×Value)):List Nat→Option (List (Nat×Value))
 | []=>some []
 |t::r=>match lk F t with
  |some v=>match pickF F r with
   |some F' =>some ((t,v)::F')
   |none=>none
  |none=>none
theorem pickF_ok :∀ {ts:List Nat} {F' :List (Nat×Value)},pickF F ts=some F' →frOK F F'
 | [],F',e=>by cases e;trivial
 |t::r,F',e=>by
  unfold pickF at e
  split at e
  ·rename_i v hv
   split at e
   ·rename_i F2 hF
    cases e
    exact ⟨hv,pickF_ok hF⟩
   ·cases e
  ·cases e
theorem gF (ts:List Nat)(e:pickF F ts=some F')(k:∀a w,St N K W a w F' L→R a w):∀a w,St N K W a w F L→R a w:=fun a w h=>k a w (h.nf (pickF_ok e))
theorem gO (is:List Nat)(e2:selB L is=some L')(k:∀a w,St N K W a w F L' →R a w):∀a w,St N K W a w F L→R a w:=fun a w h=>k a w (h.sel is e2)
theorem qQ {Y:Act→Prop}(h:Fr N a F)(k:∀a,Fr N a F→Y a):Y a:=k a h
theorem qRn {Z:Act→Prop}(r:Runs P ops N K W L l F l' F')(k:∀a,Fr N a F' →wpQuiet P ops (fun w=>Sh K W w L) Z l' a):∀a,Fr N a F→wpQuiet P ops (fun w=>Sh K W w L) Z l a:=fun _ h=>r.goQ h k
theorem qN {Z:Act→Prop}(z:∀a,(∀w,Sh K W w L→R a w)→Z a)(k:∀a w,St N K W a w F L→R a w):∀a,Fr N a F→wpQuiet P ops (fun w=>Sh K W w L) Z [] a:=fun a h=>wpQuiet_nil (z a fun w hw=>k a w ⟨h,hw⟩)
theorem rQ {id:Nat}(r:Runs P l.toArray N K W L l F [] F')(k:∀a w,St N K W a w F' L→Q .normal a w)(hm:P.follows .mixedOrders=true:=by kernel_rfl)(hB:Region.lexB .any l.toArray=true:=by kernel_rfl):∀a w,St N K W a w F L→(Code.region id l.toArray true).wp P Q a w:=
 fun _ w h=>x_quiet hm hB h fun Z hZ=>r.goQ h.fr fun a hf=>wpQuiet_nil (hZ a fun w hw=>k a w ⟨hf,hw⟩)
theorem rT {id:Nat}(m:Nat)(ps:List Nat)(r:Runs P l.toArray N K W L (opsAt l.toArray ps++opsAt l.toArray (quietIs m ps)) F [] F')
  (k:∀a w,St N K W a w F' L→wpList P l.toArray (fun e a w=>match e with| .normal=>Q .normal a w|_=>False) (l.drop m) a w) (hm:P.follows .mixedOrders=true:=by kernel_rfl) (hB:tailB l m ps=true:=by kernel_rfl):∀a w,St N K W a w F L→(Code.region id l.toArray true).wp P Q a w:=
 fun _ w h=>x_tail m ps hm hB h fun Z hZ=>r.goQ h.fr fun a hf=>wpQuiet_nil (hZ a fun w hw=>k a w ⟨hf,hw⟩)
section
variable {d g k q r j n by_ sz i2:Nat}{T E e:TypeId}{x y:Operand}{v:Value}{z cs vs:List Value}
theorem wn (hg:o.guard=none):∀a,Fr N a F→Region.wanted o (yielded ops a.tmps)=true:=fun _ _=>wanted_none hg _
theorem oV (hr:Rn P o N K W F L v)(e:(o.dst,o.guard,Nat.blt d N)=(some d,none,true))(k:Runs P ops N K W L l ((d,v)::F) l' F'):Runs P ops N K W L (o::l) F l' F' :=by
 simp only [Prod.mk.injEq] at e
 exact .cn hr (wn e.2.1) e.1 e.2.2 k
theorem oG {b want:Bool}{t:Nat}{oj:Oper}(hb:b=want)(hr:Rn P o N K W F L v)(e:(o.dst,o.guard,ops[j]?,oj.dst,lk F t,Nat.blt d N)=(some d,some (j,want),some oj,some t,some (.bool b),true))(k:Runs P ops N K W L l ((d,v)::F) l' F'):Runs P ops N K W L (o::l) F l' F' :=by
 simp only [Prod.mk.injEq] at e
 exact .cn hr (fun a h=>wanted_yes h e.2.1 e.2.2.1 e.2.2.2.1 e.2.2.2.2.1 hb) e.1 e.2.2.2.2.2 k
theorem oK {b want:Bool}{t:Nat}{oj:Oper}(hb:b= !want)(e:(o.dst,o.guard,ops[j]?,oj.dst,lk F t,Nat.blt d N)=(some d,some (j,want),some oj,some t,some (.bool b),true))(k:Runs P ops N K W L l ((d,undef)::F) l' F'):Runs P ops N K W L (o::l) F l' F' :=by
 simp only [Prod.mk.injEq] at e
 exact .sk (fun a h=>wanted_no h e.2.1 e.2.2.1 e.2.2.2.1 e.2.2.2.2.1 hb) e.1 e.2.2.2.2.2 k
theorem oK2 {want:Bool}{t:Nat}{oj:Oper}(e:(o.dst,o.guard,ops[j]?,oj.dst,lk F t,Nat.blt d N)=(some d,some (j,want),some oj,some t,some undef,true))(k:Runs P ops N K W L l ((d,undef)::F) l' F'):Runs P ops N K W L (o::l) F l' F' :=by
 simp only [Prod.mk.injEq] at e
 exact .sk (fun a h=>wanted_no2 h e.2.1 e.2.2.1 e.2.2.2.1 e.2.2.2.2.1) e.1 e.2.2.2.2.2 k
def skF (N j t:Nat)(want:Bool):Nat→List Oper→List (Nat×Value)→Option (List Oper×List (Nat×Value))
 |0,l,F=>some (l,F)
 |n+1,o::l,F=>match o.guard with
  |some (j',w')=>bif Nat.beq j' j&&(w' ==want) then match o.dst with
   |some d=>bif Nat.blt d N&& !(Nat.beq d t) then skF N j t want n l ((d,undef)::F) else none
   |none=>none
   else none
  |none=>none
 |_+1, [],_=>none
theorem oKs (n:Nat){b want:Bool}{j t:Nat}{oj:Oper}(hb:b= !want)(e:(o.guard,ops[j]?,oj.dst,lk F t)=(some (j,want),some oj,some t,some (.bool b)))(hs:skF N j t want n (o::l) F=some (l2,F2))(k:Runs P ops N K W L l2 F2 l' F'):Runs P ops N K W L (o::l) F l' F' :=by
 simp only [Prod.mk.injEq] at e
 obtain ⟨_,e1,e2,e3⟩:=e
 generalize o::l=m at hs⊢
 induction n generalizing m F with
 |zero=>cases hs;exact k
 |succ n ih=>
  cases m with
  |nil=>cases hs
  |cons o m=>
   unfold skF at hs
   split at hs
   ·rename_i j' w' hg
    cases hc:Nat.beq j' j&&(w' ==want) with
    |false=>rw [hc] at hs;cases hs
    |true=>
     rw [hc,cond_true] at hs
     obtain ⟨h1,h2⟩:=Bool.and_eq_true_iff.1 hc
     cases Nat.eq_of_beq_eq_true h1
     obtain rfl:w' =want:=by simpa using h2
     split at hs
     ·rename_i d hd
      cases hc2:Nat.blt d N&& !(Nat.beq d t) with
      |false=>rw [hc2] at hs;cases hs
      |true=>
       rw [hc2,cond_true] at hs
       obtain ⟨h3,h4⟩:=Bool.and_eq_true_iff.1 hc2
       have h5:d≠t:=fun e=>by subst e;simp at h4
       exact .sk (fun a h=>wanted_no h hg e1 e2 e3 hb) hd h3 (ih (by rw [lk_cons,if_neg h5];exact e3) m hs)
     ·cases hs
   ·cases hs
theorem oM (n:Nat)(e:mvN N n l F=some (l2,F2))(k:Runs P ops N K W L l2 F2 l' F'):Runs P ops N K W L l F l' F' :=by
 induction n generalizing l F with
 |zero=>cases e;exact k
 |succ n ih=>
  cases l with
  |nil=>cases e
  |cons o l=>
   unfold mvN at e
   split at e
   ·rename_i d x hg hd ho
    split at e
    ·rename_i v hv
     cases hb:Nat.blt d N with
     |false=>rw [hb] at e;cases e
     |true=>rw [hb] at e;exact .cn (r_move ho hv) (wn hg) hd hb (ih e)
    ·cases e
   ·rename_i d x hg hd ho
    split at e
    ·rename_i v hv
     cases hb:Nat.blt d N with
     |false=>rw [hb] at e;cases e
     |true=>rw [hb] at e;exact .cn (r_assign ho hv) (wn hg) hd hb (ih e)
    ·cases e
   ·cases e
theorem onl {p:Addr}(e:(o.dst,o.op,ev F x,okg o d N)=(some d, .nilCheck x,some (.pointer (some p)),true))(k:Runs P ops N K W L l ((d, .pointer (some p))::F) l' F'):Runs P ops N K W L (o::l) F l' F' :=by
 simp only [Prod.mk.injEq,okg,Bool.and_eq_true,Option.isNone_iff_eq_none] at e
 exact .cn (r_nil e.2.1 e.2.2.1) (wn e.2.2.2.1) e.1 e.2.2.2.2 k
theorem ofB {f:Nat}(hT:flI P T f=some k)(e:(o.dst,o.op,ev F x,okg o d N)=(some d, .fieldAddr T x f,some (.pointer (some ⟨g,0,none⟩)),true))(kk:Runs P ops N K W L l ((d, .pointer (some ⟨g,k,none⟩))::F) l' F'):Runs P ops N K W L (o::l) F l' F' :=by
 simp only [Prod.mk.injEq,okg,Bool.and_eq_true,Option.isNone_iff_eq_none] at e
 exact .cn (r_fieldB hT e.2.1 e.2.2.1 (Nat.zero_add k)) (wn e.2.2.2.1) e.1 e.2.2.2.2 kk
theorem onf {o2:Oper}{f d2:Nat}{p:Addr}{y:Operand}(hT:flI P T f=some k)(e:(o.dst,o.op,ev F x,okg o d N,o2.dst,o2.op,ev ((d, .pointer (some p))::F) y,okg o2 d2 N)=(some d, .nilCheck x,some (.pointer (some p)),true,some d2, .fieldAddr T y f,some (.pointer (some ⟨g,0,none⟩)),true))
  (kk:Runs P ops N K W L l ((d2, .pointer (some ⟨g,k,none⟩))::(d, .pointer (some p))::F) l' F'):Runs P ops N K W L (o::o2::l) F l' F' :=by
 simp only [Prod.mk.injEq] at e
 obtain ⟨e1,e2,e3,e4,e5,e6,e7,e8⟩:=e
 exact onl (by rw [e1,e2,e3,e4]) (ofB hT (by rw [e5,e6,e7,e8]) kk)
theorem olB (i:Nat)(hT:tyI P T=some (false,n,by_,z))(hi:L[i]? =some (.blk g E cs))(e:(o.dst,o.op,ev F x,okg o d N,cs[q]?)=(some d, .load T x,some (.pointer (some ⟨g,q,none⟩)),true,some v))(k:Runs P ops N K W L l ((d,v)::F) l' F'):Runs P ops N K W L (o::l) F l' F' :=by
 simp only [Prod.mk.injEq,okg,Bool.and_eq_true,Option.isNone_iff_eq_none] at e
 exact .cn (r_ldb hT e.2.1 e.2.2.1 hi e.2.2.2.2) (wn e.2.2.2.1.1) e.1 e.2.2.2.1.2 k
theorem olR (i:Nat)(hT:tyI P T=some (false,n,by_,z))(hi:L[i]? =some (.rblk g E cs))(e:(o.dst,o.op,ev F x,okg o d N,cs[q]?)=(some d, .load T x,some (.pointer (some ⟨g,q,none⟩)),true,some v))(k:Runs P ops N K W L l ((d,v)::F) l' F'):Runs P ops N K W L (o::l) F l' F' :=by
 simp only [Prod.mk.injEq,okg,Bool.and_eq_true,Option.isNone_iff_eq_none] at e
 exact .cn (r_ldbR hT e.2.1 e.2.2.1 (fun w h=>h.rblk i hi) e.2.2.2.2) (wn e.2.2.2.1.1) e.1 e.2.2.2.1.2 k
theorem onfl (i:Nat){o2 o3:Oper}{f d2 d3:Nat}{T' :TypeId}{p:Addr}{y u:Operand}(hT:flI P T f=some k)(hT' :tyI P T' =some (false,n,by_,z))(hi:L[i]? =some (.blk g E cs))
  (e:(o.dst,o.op,ev F x,okg o d N,o2.dst,o2.op,ev ((d, .pointer (some p))::F) y,okg o2 d2 N,o3.dst,o3.op,ev ((d2, .pointer (some ⟨g,k,none⟩))::(d, .pointer (some p))::F) u,okg o3 d3 N,cs[k]?)=(some d, .nilCheck x,some (.pointer (some p)),true,some d2, .fieldAddr T y f,some (.pointer (some ⟨g,0,none⟩)),true,some d3, .load T' u,some (.pointer (some ⟨g,k,none⟩)),true,some v))
  (kk:Runs P ops N K W L l ((d3,v)::(d2, .pointer (some ⟨g,k,none⟩))::(d, .pointer (some p))::F) l' F'):Runs P ops N K W L (o::o2::o3::l) F l' F' :=by
 simp only [Prod.mk.injEq] at e
 obtain ⟨e1,e2,e3,e4,e5,e6,e7,e8,e9,f1,f2,f3,f4⟩:=e
 exact onl (by rw [e1,e2,e3,e4]) (ofB hT (by rw [e5,e6,e7,e8]) (olB i hT' hi (by rw [e9,f1,f2,f3,f4]) kk))
def takeO :List Value→Nat→Nat→Option (List Value)
 |_,_,0=>some []
 | [],_,_+1=>none
 |_::r,q+1,n+1=>takeO r q (n+1)
 |v::r,0,n+1=>match takeO r 0 n with
  |some l=>some (v::l)
  |none=>none
theorem takeO_eq :∀ {cs:List Value} {q n:Nat} {vs:List Value},takeO cs q n=some vs→(cs.drop q).take n=vs∧vs.length=n
 |cs,q,0,vs,h=>by unfold takeO at h;cases h;simp
 | [],q,n+1,vs,h=>by cases q<;>cases h
 |_::r,q+1,n+1,vs,h=>by
  unfold takeO at h
  simpa using takeO_eq h
 |v::r,0,n+1,vs,h=>by
  unfold takeO at h
  split at h
  ·next l hl=>
   cases h
   obtain ⟨h1,h2⟩:=takeO_eq hl
   refine ⟨?_,by simp [h2]⟩
   rw [List.drop_zero] at h1⊢
   rw [List.take_succ_cons,h1]
  ·cases h
theorem olw (i:Nat)(hT:tyI P T=some (true,n,by_,z))(hi:L[i]? =some (.blk g E cs))(e:(o.dst,o.op,ev F x,okg o d N,takeO cs q n)=(some d, .load T x,some (.pointer (some ⟨g,q,none⟩)),true,some vs))(k:Runs P ops N K W L l ((d, .agg vs.toArray)::F) l' F'):Runs P ops N K W L (o::l) F l' F' :=by
 simp only [Prod.mk.injEq,okg,Bool.and_eq_true,Option.isNone_iff_eq_none] at e
 exact .cn (r_ldbw hT e.2.1 e.2.2.1 hi (takeO_eq e.2.2.2.2).1 (takeO_eq e.2.2.2.2).2) (wn e.2.2.2.1.1) e.1 e.2.2.2.1.2 k
theorem oxt {i:Nat}{vs:Array Value}(e:(o.dst,o.op,ev F x,okg o d N,vs[i]?)=(some d, .extract x i,some (.tuple vs),true,some v))(k:Runs P ops N K W L l ((d,v)::F) l' F'):Runs P ops N K W L (o::l) F l' F' :=by
 simp only [Prod.mk.injEq,okg,Bool.and_eq_true,Option.isNone_iff_eq_none] at e
 exact .cn (r_extract e.2.1 e.2.2.1 e.2.2.2.2) (wn e.2.2.2.1.1) e.1 e.2.2.2.1.2 k
theorem opT {b:Bool}{c x y:Operand}(hb:b=true)(e:(o.dst,o.op,ev F c,ev F x,okg o d N)=(some d, .pick c x y,some (.bool b),some v,true))(k:Runs P ops N K W L l ((d,v)::F) l' F'):Runs P ops N K W L (o::l) F l' F' :=by
 simp only [Prod.mk.injEq,okg,Bool.and_eq_true,Option.isNone_iff_eq_none] at e
 exact .cn (r_pickT e.2.1 e.2.2.1 hb e.2.2.2.1) (wn e.2.2.2.2.1) e.1 e.2.2.2.2.2 k
theorem opF {b:Bool}{c x y:Operand}(hb:b=false)(e:(o.dst,o.op,ev F c,ev F y,okg o d N)=(some d, .pick c x y,some (.bool b),some v,true))(k:Runs P ops N K W L l ((d,v)::F) l' F'):Runs P ops N K W L (o::l) F l' F' :=by
 simp only [Prod.mk.injEq,okg,Bool.and_eq_true,Option.isNone_iff_eq_none] at e
 exact .cn (r_pickF e.2.1 e.2.2.1 hb e.2.2.2.1) (wn e.2.2.2.2.1) e.1 e.2.2.2.2.2 k
theorem ont {b:Bool}(e:(o.dst,o.op,ev F x,okg o d N)=(some d, .unOp .not T x,some (.bool b),true))(k:Runs P ops N K W L l ((d, .bool (!b))::F) l' F'):Runs P ops N K W L (o::l) F l' F' :=by
 simp only [Prod.mk.injEq,okg,Bool.and_eq_true,Option.isNone_iff_eq_none] at e
 exact .cn (r_not e.2.1 e.2.2.1) (wn e.2.2.2.1) e.1 e.2.2.2.2 k
section
variable {α:Type}[Enc α]{s:Ls α}{gb:Bool}
theorem oxN {kd:IntKind}(hT:slI P T=some e)(he:tyI P e=some (gb,n,by_,z))(hat:∀w,Sh K W w L→s.At w)(q:Nat)(hb:q<s.l.length)(e' :(o.dst,o.op,ev F x,ev F y,okg o d N)=(some d, .indexAddr T x y,some s.v,some (.int kd (q:Int)),true))
  (k:Runs P ops N K W L l ((d, .pointer (some (padr s.v n q 0)))::F) l' F'):Runs P ops N K W L (o::l) F l' F' :=by
 simp only [Prod.mk.injEq,okg,Bool.and_eq_true,Option.isNone_iff_eq_none] at e'
 exact .cn (r_ixN hT he e'.2.1 e'.2.2.1 e'.2.2.2.1 hat hb) (wn e'.2.2.2.2.1) e'.1 e'.2.2.2.2.2 k
theorem oxI {kd:IntKind}{q:Int}(hT:slI P T=some e)(he:tyI P e=some (gb,n,by_,z))(hat:∀w,Sh K W w L→s.At w)(hb:0≤q∧q<s.l.length)(e' :(o.dst,o.op,ev F x,ev F y,okg o d N)=(some d, .indexAddr T x y,some s.v,some (.int kd q),true))
  (k:Runs P ops N K W L l ((d, .pointer (some (padr s.v n q.toNat 0)))::F) l' F'):Runs P ops N K W L (o::l) F l' F' :=by
 simp only [Prod.mk.injEq,okg,Bool.and_eq_true,Option.isNone_iff_eq_none] at e'
 exact .cn (r_ixI hT he e'.2.1 e'.2.2.1 e'.2.2.2.1 hat hb) (wn e'.2.2.2.2.1) e'.1 e'.2.2.2.2.2 k
theorem ofE {f i:Nat}(hT:flI P T f=some k)(e:(o.dst,o.op,ev F x,okg o d N)=(some d, .fieldAddr T x f,some (.pointer (some (padr v sz i 0))),true))(kk:Runs P ops N K W L l ((d, .pointer (some (padr v sz i k)))::F) l' F'):Runs P ops N K W L (o::l) F l' F' :=by
 simp only [Prod.mk.injEq,okg,Bool.and_eq_true,Option.isNone_iff_eq_none] at e
 exact .cn (r_fieldE hT e.2.1 e.2.2.1 (Nat.zero_add k)) (wn e.2.2.2.1) e.1 e.2.2.2.2 kk
theorem olE {i:Nat}(v:Value)(hT:tyI P T=some (false,n,by_,z))(hat:∀w,Sh K W w L→s.At w)(hi:i<s.l.length)(e:(o.dst,o.op,ev F x,okg o d N,Enc.sz α,Nat.blt j sz,Enc.cell (nth s.l i) j)=(some d, .load T x,some (.pointer (some (padr s.v sz i j))),true,sz,true,v))(k:Runs P ops N K W L l ((d,v)::F) l' F'):Runs P ops N K W L (o::l) F l' F' :=by
 simp only [Prod.mk.injEq,okg,Bool.and_eq_true,Option.isNone_iff_eq_none] at e
 exact .cn (r_lde hT e.2.1 e.2.2.1 e.2.2.2.2.1 hat hi (by simpa [Nat.blt_eq] using e.2.2.2.2.2.1) e.2.2.2.2.2.2) (wn e.2.2.2.1.1) e.1 e.2.2.2.1.2 k
theorem olI {i:Nat}{kd:IntKind}{u:Int}(hT:tyI P T=some (false,n,by_,z))(hat:∀w,Sh K W w L→s.At w)(hi:i<s.l.length)(e:(o.dst,o.op,ev F x,okg o d N,Enc.sz α,Nat.blt j sz,Enc.cell (nth s.l i) j)=(some d, .load T x,some (.pointer (some (padr s.v sz i j))),true,sz,true, .int kd u))(k:Runs P ops N K W L l ((d, .int kd u)::F) l' F'):Runs P ops N K W L (o::l) F l' F' :=olE (.int kd u) hT hat hi e k
theorem olw2 {i:Nat}(vs:List Value)(hT:tyI P T=some (true,n,by_,z))(hat:∀w,Sh K W w L→s.At w)(hi:i<s.l.length)(e:(o.dst,o.op,ev F x,okg o d N,Enc.sz α,Nat.ble (j+n) sz,(List.range n).map (fun q=>Enc.cell (nth s.l i) (j+q)))=(some d, .load T x,some (.pointer (some (padr s.v sz i j))),true,sz,true,vs))(k:Runs P ops N K W L l ((d, .agg vs.toArray)::F) l' F'):Runs P ops N K W L (o::l) F l' F' :=by
 simp only [Prod.mk.injEq,okg,Bool.and_eq_true,Option.isNone_iff_eq_none] at e
 exact .cn (r_ldew hT e.2.1 e.2.2.1 e.2.2.2.2.1 hat hi (Nat.le_of_ble_eq_true e.2.2.2.2.2.1) e.2.2.2.2.2.2) (wn e.2.2.2.1.1) e.1 e.2.2.2.1.2 k
theorem oln {n:Nat}(hT:slI P T=some e)(hat:∀w,Sh K W w L→s.At w)(e' :(o.dst,o.op,ev F x,okg o d N,s.l.length)=(some d, .call ⟨.builtin .len, #[x], #[T]⟩,some s.v,true,n))(k:Runs P ops N K W L l ((d, .int .i64 (n:Int))::F) l' F'):Runs P ops N K W L (o::l) F l' F' :=by
 simp only [Prod.mk.injEq,okg,Bool.and_eq_true,Option.isNone_iff_eq_none] at e'
 exact .cn (r_len hT e'.2.1 e'.2.2.1 hat e'.2.2.2.2) (wn e'.2.2.2.1.1) e'.1 e'.2.2.2.1.2 k
end
section
variable {U:TypeId}{kd:IntKind}
theorem oltN (p q:Nat)(e:(o.dst,o.op,ev F x,ev F y,okg o d N)=(some d, .binOp .lss T x y U,some (.int kd (p:Int)),some (.int kd (q:Int)),true))(k:Runs P ops N K W L l ((d, .bool (decide (p<q)))::F) l' F'):Runs P ops N K W L (o::l) F l' F' :=by
 simp only [Prod.mk.injEq,okg,Bool.and_eq_true,Option.isNone_iff_eq_none] at e
 exact .cn (r_lssN e.2.1 e.2.2.1 e.2.2.2.1) (wn e.2.2.2.2.1) e.1 e.2.2.2.2.2 k
theorem oltI (p q:Int)(e:(o.dst,o.op,ev F x,ev F y,okg o d N)=(some d, .binOp .lss T x y U,some (.int kd p),some (.int kd q),true))(k:Runs P ops N K W L l ((d, .bool (decide (p<q)))::F) l' F'):Runs P ops N K W L (o::l) F l' F' :=by
 simp only [Prod.mk.injEq,okg,Bool.and_eq_true,Option.isNone_iff_eq_none] at e
 exact .cn (r_lssI e.2.1 e.2.2.1 e.2.2.2.1) (wn e.2.2.2.2.1) e.1 e.2.2.2.2.2 k
theorem ogtN (p q:Nat)(e:(o.dst,o.op,ev F x,ev F y,okg o d N)=(some d, .binOp .gtr T x y U,some (.int kd (p:Int)),some (.int kd (q:Int)),true))(k:Runs P ops N K W L l ((d, .bool (decide (q<p)))::F) l' F'):Runs P ops N K W L (o::l) F l' F' :=by
 simp only [Prod.mk.injEq,okg,Bool.and_eq_true,Option.isNone_iff_eq_none] at e
 exact .cn (r_gtrN e.2.1 e.2.2.1 e.2.2.2.1) (wn e.2.2.2.2.1) e.1 e.2.2.2.2.2 k
theorem ogtI (p q:Int)(e:(o.dst,o.op,ev F x,ev F y,okg o d N)=(some d, .binOp .gtr T x y U,some (.int kd p),some (.int kd q),true))(k:Runs P ops N K W L l ((d, .bool (decide (q<p)))::F) l' F'):Runs P ops N K W L (o::l) F l' F' :=by
 simp only [Prod.mk.injEq,okg,Bool.and_eq_true,Option.isNone_iff_eq_none] at e
 exact .cn (r_gtrI e.2.1 e.2.2.1 e.2.2.2.1) (wn e.2.2.2.2.1) e.1 e.2.2.2.2.2 k
theorem ogeN (p q:Nat)(e:(o.dst,o.op,ev F x,ev F y,okg o d N)=(some d, .binOp .geq T x y U,some (.int kd (p:Int)),some (.int kd (q:Int)),true))(k:Runs P ops N K W L l ((d, .bool (decide (q≤p)))::F) l' F'):Runs P ops N K W L (o::l) F l' F' :=by
 simp only [Prod.mk.injEq,okg,Bool.and_eq_true,Option.isNone_iff_eq_none] at e
 exact .cn (r_geqN e.2.1 e.2.2.1 e.2.2.2.1) (wn e.2.2.2.2.1) e.1 e.2.2.2.2.2 k
theorem ogeI (p q:Int)(e:(o.dst,o.op,ev F x,ev F y,okg o d N)=(some d, .binOp .geq T x y U,some (.int kd p),some (.int kd q),true))(k:Runs P ops N K W L l ((d, .bool (decide (q≤p)))::F) l' F'):Runs P ops N K W L (o::l) F l' F' :=by
 simp only [Prod.mk.injEq,okg,Bool.and_eq_true,Option.isNone_iff_eq_none] at e
 exact .cn (r_geqI e.2.1 e.2.2.1 e.2.2.2.1) (wn e.2.2.2.2.1) e.1 e.2.2.2.2.2 k
theorem oeqN (p q:Nat)(e:(o.dst,o.op,ev F x,ev F y,okg o d N)=(some d, .binOp .eql T x y U,some (.int kd (p:Int)),some (.int kd (q:Int)),true))(k:Runs P ops N K W L l ((d, .bool (decide (p=q)))::F) l' F'):Runs P ops N K W L (o::l) F l' F' :=by
 simp only [Prod.mk.injEq,okg,Bool.and_eq_true,Option.isNone_iff_eq_none] at e
 exact .cn (r_eqlN e.2.1 e.2.2.1 e.2.2.2.1) (wn e.2.2.2.2.1) e.1 e.2.2.2.2.2 k
theorem oeqI (p q:Int)(e:(o.dst,o.op,ev F x,ev F y,okg o d N)=(some d, .binOp .eql T x y U,some (.int kd p),some (.int kd q),true))(k:Runs P ops N K W L l ((d, .bool (decide (p=q)))::F) l' F'):Runs P ops N K W L (o::l) F l' F' :=by
 simp only [Prod.mk.injEq,okg,Bool.and_eq_true,Option.isNone_iff_eq_none] at e
 exact .cn (r_eqlI e.2.1 e.2.2.1 e.2.2.2.1) (wn e.2.2.2.2.1) e.1 e.2.2.2.2.2 k
theorem oneN (p q:Nat)(e:(o.dst,o.op,ev F x,ev F y,okg o d N)=(some d, .binOp .neq T x y U,some (.int kd (p:Int)),some (.int kd (q:Int)),true))(k:Runs P ops N K W L l ((d, .bool (decide (p≠q)))::F) l' F'):Runs P ops N K W L (o::l) F l' F' :=by
 simp only [Prod.mk.injEq,okg,Bool.and_eq_true,Option.isNone_iff_eq_none] at e
 exact .cn (r_neqN e.2.1 e.2.2.1 e.2.2.2.1) (wn e.2.2.2.2.1) e.1 e.2.2.2.2.2 k
theorem oneI (p q:Int)(e:(o.dst,o.op,ev F x,ev F y,okg o d N)=(some d, .binOp .neq T x y U,some (.int kd p),some (.int kd q),true))(k:Runs P ops N K W L l ((d, .bool (decide (p≠q)))::F) l' F'):Runs P ops N K W L (o::l) F l' F' :=by
 simp only [Prod.mk.injEq,okg,Bool.and_eq_true,Option.isNone_iff_eq_none] at e
 exact .cn (r_neqI e.2.1 e.2.2.1 e.2.2.2.1) (wn e.2.2.2.2.1) e.1 e.2.2.2.2.2 k
theorem oadN (p q:Nat)(hb:p+q<9223372036854775808)(e:(o.dst,o.op,ev F x,ev F y,okg o d N)=(some d, .binOp .add T x y U,some (.int .i64 (p:Int)),some (.int .i64 (q:Int)),true))(k:Runs P ops N K W L l ((d, .int .i64 ((p+q:Nat):Int))::F) l' F'):Runs P ops N K W L (o::l) F l' F' :=by
 simp only [Prod.mk.injEq,okg,Bool.and_eq_true,Option.isNone_iff_eq_none] at e
 exact .cn (r_addN e.2.1 e.2.2.1 e.2.2.2.1 hb) (wn e.2.2.2.2.1) e.1 e.2.2.2.2.2 k
theorem oadI (p q:Int)(hb: -9223372036854775808≤p+q∧p+q<9223372036854775808)(e:(o.dst,o.op,ev F x,ev F y,okg o d N)=(some d, .binOp .add T x y U,some (.int .i64 p),some (.int .i64 q),true))(k:Runs P ops N K W L l ((d, .int .i64 (p+q))::F) l' F'):Runs P ops N K W L (o::l) F l' F' :=by
 simp only [Prod.mk.injEq,okg,Bool.and_eq_true,Option.isNone_iff_eq_none] at e
 exact .cn (r_addI e.2.1 e.2.2.1 e.2.2.2.1 hb) (wn e.2.2.2.2.1) e.1 e.2.2.2.2.2 k
theorem osbN (p q:Nat)(hb:q≤p∧p<9223372036854775808)(e:(o.dst,o.op,ev F x,ev F y,okg o d N)=(some d, .binOp .sub T x y U,some (.int .i64 (p:Int)),some (.int .i64 (q:Int)),true))(k:Runs P ops N K W L l ((d, .int .i64 ((p-q:Nat):Int))::F) l' F'):Runs P ops N K W L (o::l) F l' F' :=by
 simp only [Prod.mk.injEq,okg,Bool.and_eq_true,Option.isNone_iff_eq_none] at e
 exact .cn (r_subN e.2.1 e.2.2.1 e.2.2.2.1 hb) (wn e.2.2.2.2.1) e.1 e.2.2.2.2.2 k
theorem osbI (p q:Int)(hb: -9223372036854775808≤p-q∧p-q<9223372036854775808)(e:(o.dst,o.op,ev F x,ev F y,okg o d N)=(some d, .binOp .sub T x y U,some (.int .i64 p),some (.int .i64 q),true))(k:Runs P ops N K W L l ((d, .int .i64 (p-q))::F) l' F'):Runs P ops N K W L (o::l) F l' F' :=by
 simp only [Prod.mk.injEq,okg,Bool.and_eq_true,Option.isNone_iff_eq_none] at e
 exact .cn (r_subI e.2.1 e.2.2.1 e.2.2.2.1 hb) (wn e.2.2.2.2.1) e.1 e.2.2.2.2.2 k
theorem omlN (p q:Nat)(hb:p*q<9223372036854775808)(e:(o.dst,o.op,ev F x,ev F y,okg o d N)=(some d, .binOp .mul T x y U,some (.int .i64 (p:Int)),some (.int .i64 (q:Int)),true))(k:Runs P ops N K W L l ((d, .int .i64 ((p*q:Nat):Int))::F) l' F'):Runs P ops N K W L (o::l) F l' F' :=by
 simp only [Prod.mk.injEq,okg,Bool.and_eq_true,Option.isNone_iff_eq_none] at e
 exact .cn (r_mulN e.2.1 e.2.2.1 e.2.2.2.1 hb) (wn e.2.2.2.2.1) e.1 e.2.2.2.2.2 k
theorem oquN (p q:Nat)(hb:0<q∧p<9223372036854775808)(e:(o.dst,o.op,ev F x,ev F y,okg o d N)=(some d, .binOp .quo T x y U,some (.int .i64 (p:Int)),some (.int .i64 (q:Int)),true))(k:Runs P ops N K W L l ((d, .int .i64 ((p/q:Nat):Int))::F) l' F'):Runs P ops N K W L (o::l) F l' F' :=by
 simp only [Prod.mk.injEq,okg,Bool.and_eq_true,Option.isNone_iff_eq_none] at e
 exact .cn (r_quoN e.2.1 e.2.2.1 e.2.2.2.1 hb) (wn e.2.2.2.2.1) e.1 e.2.2.2.2.2 k
theorem ormN (p q:Nat)(hb:0<q∧p<9223372036854775808)(e:(o.dst,o.op,ev F x,ev F y,okg o d N)=(some d, .binOp .rem T x y U,some (.int .i64 (p:Int)),some (.int .i64 (q:Int)),true))(k:Runs P ops N K W L l ((d, .int .i64 ((p%q:Nat):Int))::F) l' F'):Runs P ops N K W L (o::l) F l' F' :=by
 simp only [Prod.mk.injEq,okg,Bool.and_eq_true,Option.isNone_iff_eq_none] at e
 exact .cn (r_remN e.2.1 e.2.2.1 e.2.2.2.1 hb) (wn e.2.2.2.2.1) e.1 e.2.2.2.2.2 k
end
theorem r_buildS {parts:List (Nat×Operand)}{pv:List (Nat×Value)}{cs:List Value}(ho:o.op= .build T parts.toArray)(hx:evp F parts=some pv)(hb:∀w,Sh K W w L→P.built T pv=some cs.toArray):Rn P o N K W F L (.agg cs.toArray):=fun a w h=>r_build ho hx (hb w h.sh) a w h
def setO :List Value→Nat→Value→Option (List Value)
 | [],_,_=>none
 |_::r,0,v=>some (v::r)
 |u::r,q+1,v=>match setO r q v with
  |some l=>some (u::l)
  |none=>none
theorem setO_eq :∀ {cs:List Value} {q:Nat} {v:Value} {cs' :List Value},setO cs q v=some cs' →q+1≤cs.length∧splice cs q [v]=cs'
 | [],_,_,_,h=>by cases h
 |u::r,0,v,_,h=>by cases h;exact ⟨by simp,by simp [splice]⟩
 |u::r,q+1,v,cs',h=>by
  unfold setO at h
  split at h
  ·next l hl=>
   cases h
   obtain ⟨h1,h2⟩:=setO_eq hl
   refine ⟨by simpa using h1, ?_⟩
   rw [←h2]
   simp [splice,Nat.add_right_comm q 1 1]
  ·cases h
def putO :List Asn→Nat→Asn→Option (List Asn)
 | [],_,_=>none
 |_::r,0,v=>some (v::r)
 |u::r,q+1,v=>match putO r q v with
  |some l=>some (u::l)
  |none=>none
theorem putO_eq :∀ {L:List Asn} {q:Nat} {A:Asn} {L' :List Asn},putO L q A=some L' →L.set q A=L'
 | [],_,_,_,h=>by cases h
 |u::r,0,v,_,h=>by cases h;rfl
 |u::r,q+1,v,cs',h=>by
  unfold putO at h
  split at h
  ·next l hl=>cases h;rw [List.set_cons_succ,putO_eq hl]
  ·cases h
theorem gst (i:Nat){gg:Bool}{cs' :List Value}{L2:List Asn}(hT:tyI P T=some (gg,1,by_,z))(hi:L[i]? =some (.blk g E cs))(e:(o.op,o.dst,o.guard,ev F x,ev F y,setO cs q v,putO L i (.blk g E cs'))=(.store T x y,none,none,some (.pointer (some ⟨g,q,none⟩)),some v,some cs',some L2))(h1:v.oneCell' =true)
  (k:∀a w,St N K W a w F L2→wpList P ops Q rest a w):∀a w,St N K W a w F L→wpList P ops Q (o::rest) a w:=by
 simp only [Prod.mk.injEq] at e
 obtain ⟨e1,e2,e3,e4,e5,e6,e7⟩:=e
 intro a w h
 obtain ⟨h3,h4⟩:=setO_eq e6
 refine wl_ex (x_stb (vs:= [v]) h hT e1 e2 e4 e5 hi (cells_oneL h1) rfl (allOne_cons h1 allOne_nil) h3 h4) (wanted_none e3 _) fun a' w' h' => ?_
 rw [putO_eq e7] at h'
 exact k _ _ h'
theorem gal {gg:Bool}(hT:tyI P T=some (gg,n,by_,z))(e:(o.op,o.dst,o.guard,Nat.blt d N)=(.alloc T,some d,none,true))(k:∀(b:Nat) (a:Act) (w:World),St N K W a w ((d, .pointer (some ⟨b,0,none⟩))::F) (.blk b T z::L)→wpList P ops Q rest a w):∀a w,St N K W a w F L→wpList P ops Q (o::rest) a w:=by
 simp only [Prod.mk.injEq] at e
 intro a w h
 exact wl_ex (x_alloc h hT e.1 e.2.1 e.2.2.2) (wanted_none e.2.2.1 _) fun a w ⟨b,h⟩=>k b a w h
theorem gsr {α:Type}[Enc α]{s:Ls α}(i:Nat){gg:Bool}{cs' :List Value}{L2:List Asn}(hT:tyI P T=some (gg,1,by_,z))(hi:L[i]? =some (.blk g E cs))(hat:∀w,Sh K W w L→s.At w)(e:(o.op,o.dst,o.guard,ev F x,ev F y,setO cs q s.v,putO L i (.blk g E cs'))=(.store T x y,none,none,some (.pointer (some ⟨g,q,none⟩)),some s.v,some cs',some L2))
  (k:∀a w,St N K W a w F L2→wpList P ops Q rest a w):∀a w,St N K W a w F L→wpList P ops Q (o::rest) a w:=fun a w h=>gst i hT hi e (hat w h.sh).one k a w h
def forceL :List Value→Option (List Value)
 | []=>some []
 |v::r=>match forceL r with
  |some l=>some (v::l)
  |none=>none
theorem forceL_eq :∀ {l l' :List Value},forceL l=some l' →l=l'
 | [],_,h=>by cases h;rfl
 |v::r,_,h=>by
  unfold forceL at h
  split at h
  ·next l hl=>cases h;rw [forceL_eq hl]
  ·cases h
theorem gsw (i:Nat){gg:Bool}{cs' :List Value}{L2:List Asn}(hT:tyI P T=some (gg,n,by_,z))(hi:L[i]? =some (.blk g E cs))(e:(o.op,o.dst,o.guard,ev F x,ev F y,Nat.beq vs.length n,Nat.ble (q+n) cs.length,forceL (splice cs q vs),putO L i (.blk g E cs'))=(.store T x y,none,none,some (.pointer (some ⟨g,q,none⟩)),some (.agg vs.toArray),true,true,some cs',some L2))(h1:vs.all (·.oneCell')=true)
  (k:∀a w,St N K W a w F L2→wpList P ops Q rest a w):∀a w,St N K W a w F L→wpList P ops Q (o::rest) a w:=by
 simp only [Prod.mk.injEq] at e
 obtain ⟨e1,e2,e3,e4,e5,e6,e7,e8,e9⟩:=e
 intro a w h
 refine wl_ex (x_stb (vs:=vs) h hT e1 e2 e4 e5 hi (by simp [Value.cells]) (Nat.eq_of_beq_eq_true e6) h1 (Nat.le_of_ble_eq_true e7) (forceL_eq e8)) (wanted_none e3 _) fun a' w' h' => ?_
 rw [putO_eq e9] at h'
 exact k _ _ h'
theorem gbx (e:(o.op,o.dst,o.guard,ev F x,Nat.blt d N)=(.box T x,some d,none,some v,true))(hv:v.cells=cs.toArray)(k:∀(b:Nat) (a:Act) (w:World),St N K W a w ((d, .pointer (some ⟨b,0,none⟩))::F) (.blk b T cs::L)→wpList P ops Q rest a w):∀a w,St N K W a w F L→wpList P ops Q (o::rest) a w:=by
 simp only [Prod.mk.injEq] at e
 intro a w h
 exact wl_ex (x_box h e.1 e.2.2.2.1 hv e.2.1 e.2.2.2.2) (wanted_none e.2.2.1 _) fun a w ⟨b,h⟩=>k b a w h
theorem gte {α:Type}[Enc α][Flat α]{s:Ls α}{i j:Nat}{gg:Bool}{L2:List Asn}(r:Nat)(x' :α)(hT:tyI P T=some (gg,1,by_,z))(hi:i<s.l.length)(e:(o.op,o.dst,o.guard,L[r]?,ev F x,ev F y,Enc.sz α,Nat.blt j sz,putO L r (.own E ⟨s.v,s.l.set i x'⟩))=(.store T x y,none,none,some (.own E s),some (.pointer (some (padr s.v sz i j))),some v,sz,true,some L2))(h1:v.oneCell' =true)
  (k:∀a w,St N K W a w F L2→wpList P ops Q rest a w) (hx:∀q,q<sz→Enc.cell x' q=if q=j then v else Enc.cell (nth s.l i) q:=by intro q hq;rcases q with _|_|_|_|q<;>first|rfl|omega):∀a w,St N K W a w F L→wpList P ops Q (o::rest) a w:=by
 simp only [Prod.mk.injEq] at e
 obtain ⟨e1,e2,e3,e4,e5,e6,e7,e8,e9⟩:=e
 intro a w h
 refine wl_ex (x_ste h hT e1 e2 e5 e7 e4 hi (by simpa [Nat.blt_eq] using e8) e6 (cells_oneL h1) h1 hx (fun w h=>Flat.inner _ _) (fun b hb=>(Flat.on _ _ hb).elim)) (wanted_none e3 _) fun a' w' h' => ?_
 rw [putO_eq e9] at h'
 exact k _ _ h'
theorem gtr {α β:Type}[Enc α][Flat α][Enc β]{s:Ls α}{u:Ls β}{i j:Nat}{gg:Bool}{L2:List Asn}(r:Nat)(x' :α)(hT:tyI P T=some (gg,1,by_,z))(hi:i<s.l.length)(hat:∀w,Sh K W w L→u.At w)(e:(o.op,o.dst,o.guard,L[r]?,ev F x,ev F y,Enc.sz α,Nat.blt j sz,putO L r (.own E ⟨s.v,s.l.set i x'⟩))=(.store T x y,none,none,some (.own E s),some (.pointer (some (padr s.v sz i j))),some u.v,sz,true,some L2))
  (k:∀a w,St N K W a w F L2→wpList P ops Q rest a w) (hx:∀q,q<sz→Enc.cell x' q=if q=j then u.v else Enc.cell (nth s.l i) q:=by intro q hq;rcases q with _|_|_|_|q<;>first|rfl|omega):∀a w,St N K W a w F L→wpList P ops Q (o::rest) a w:=fun a w h=>gte r x' hT hi e (hat w h.sh).one k hx a w h
theorem xCl {f:Nat}{fo:Operand}{xs:List Operand}{tys:Array TypeId}{us vs ws:List Value}{R:Value→World→Prop}(h:St N K W a w F L)(hb:bodyI P f=true)(e:(o.op,o.dst,Nat.blt d N,ev F fo,evs F xs)=(.call ⟨.value fo,xs.toArray,tys⟩,some d,true,some (.func (.func f) us.toArray ws.toArray),some vs))(hc:Rets P f (us++vs++ws) w R):Ex P o a w (fun a' w' =>∃v,R v w' ∧Fr N a' ((d,v)::F)):=by
 simp only [Prod.mk.injEq] at e
 exact x_call h hb e.1 e.2.2.2.1 e.2.2.2.2 e.2.1 e.2.2.1 hc
theorem gP (hx:∀a w,St N K W a w F L→Ex P o a w (fun a' w' =>∃u,(u=v∧Sh0 w w' [])∧Fr N a' ((d,u)::F)))(hg:o.guard=none)(k:∀a w,St N K W a w ((d,v)::F) L→wpList P ops Q rest a w):∀a w,St N K W a w F L→wpList P ops Q (o::rest) a w:=
 fun _ w h=>wl_ex (hx _ w h) (wanted_none hg _) fun a w' ⟨u,⟨hu,hs⟩,hf⟩=>by subst hu;exact k a w' ⟨hf,h.sh.call0 hs⟩
def splO :List Asn→Nat→Option (List Asn×List Asn)
 |l,0=>some ([],l)
 | [],_+1=>none
 |A::r,n+1=>match splO r n with
  |some (p,q)=>some (A::p,q)
  |none=>none
theorem splO_eq :∀ {L:List Asn} {n:Nat} {Lp Lr:List Asn},splO L n=some (Lp,Lr)→L=Lp++Lr
 |l,0,_,_,h=>by unfold splO at h;cases h;rfl
 | [],_+1,_,_,h=>by cases h
 |A::r,n+1,_,_,h=>by
  unfold splO at h
  split at h
  ·next p q hp=>cases h;rw [splO_eq hp];rfl
  ·cases h
def appO :List Asn→List Asn→Option (List Asn)
 | [],M=>some M
 |A::r,M=>match appO r M with
  |some l=>some (A::l)
  |none=>none
theorem appO_eq :∀ {L M L' :List Asn},appO L M=some L' →L++M=L'
 | [],M,_,h=>by unfold appO at h;cases h;rfl
 |A::r,M,_,h=>by
  unfold appO at h
  split at h
  ·next l hl=>cases h;rw [List.cons_append,appO_eq hl]
  ·cases h
theorem pKl {Lp Lr:List Asn}(m:Nat)(h:St N K W a w F L)(eL:splO L m=some (Lp,Lr)):Sh (fun b=>∃A∈Lp,A.fp b) w w Lp:=by
 have:=h.sh
 rw [splO_eq eL] at this
 exact this.passL
theorem gM {Rr:World→Value→World→Prop}{Lp Lr:List Asn}(m:Nat)(eL:splO L m=some (Lp,Lr))(hx:∀a w,St N K W a w F L→Ex P o a w (fun a' w' =>∃v,Rr w v w' ∧Fr N a' ((d,v)::F)))(hg:o.guard=none)
  (k:∀w v w',Rr w v w' →∃L' L2,Sh (fun b=>∃A∈Lp,A.fp b) w w' L' ∧RdIn L' Lp∧appO L' Lr=some L2∧∀a,St N K W a w' ((d,v)::F) L2→wpList P ops Q rest a w'):∀a w,St N K W a w F L→wpList P ops Q (o::rest) a w:=
 fun _ w h=>wl_ex (hx _ w h) (wanted_none hg _) fun a w' ⟨v,hr,hf⟩=>by
  obtain ⟨L',L2,hs,hi,e,k⟩:=k _ _ _ hr
  have h0:=h.sh
  rw [splO_eq eL] at h0
  have:=h0.backI hs
  rw [appO_eq e] at this
  exact k a ⟨hf,this⟩
theorem gBk {Lp Lr L' L2:List Asn}{w w' :World}{X:Act→Prop}{F:List (Nat×Value)}[hi:RdIn L' Lp](hs:Sh (fun b=>∃A∈Lp,A.fp b) w w' L')(e:appO L' Lr=some L2)(k:∀a,St N K W a w' F L2→X a):∃L' L2,Sh (fun b=>∃A∈Lp,A.fp b) w w' L' ∧RdIn L' Lp∧appO L' Lr=some L2∧∀a,St N K W a w' F L2→X a:=⟨_,_,hs,hi,e,k⟩
theorem gC {Rr:World→Value→World→Prop}(hx:∀a w,St N K W a w F L→Ex P o a w (fun a' w' =>∃v,Rr w v w' ∧Fr N a' ((d,v)::F)))(hg:o.guard=none)
  (k:∀w v w',Rr w v w' →∃L' L2,Sh0 w w' L' ∧AllNo L' ∧appO L' L=some L2∧∀a,St N K W a w' ((d,v)::F) L2→wpList P ops Q rest a w'):∀a w,St N K W a w F L→wpList P ops Q (o::rest) a w:=
 fun _ w h=>wl_ex (hx _ w h) (wanted_none hg _) fun a w' ⟨v,hr,hf⟩=>by
  obtain ⟨L',L2,hs,hi,e,k⟩:=k _ _ _ hr
  have:=h.sh.callI hs
  rw [appO_eq e] at this
  exact k a ⟨hf,this⟩
theorem gWk {L' L2 M:List Asn}{w w' :World}{X:Act→Prop}{F:List (Nat×Value)}[hi:AllNo L'](hs:Sh0 w w' L')(e:appO L' M=some L2)(k:∀a,St N K W a w' F L2→X a):∃L' L2,Sh0 w w' L' ∧AllNo L' ∧appO L' M=some L2∧∀a,St N K W a w' F L2→X a:=⟨_,_,hs,hi,e,k⟩
theorem gU {w:World}(k:∀a w,St N K W a w F L→R a w):∀a,St N K W a w F L→R a w:=fun a h=>k a w h
theorem qP {Z:Act→Prop}{f:Nat}{fo:Operand}{xs:List Operand}{tys:Array TypeId}{us vs ws:List Value}(hb:bodyI P f=true)(e:(o.op,o.guard,o.dst,Nat.blt d N,ev F fo,evs F xs)=(.call ⟨.value fo,xs.toArray,tys⟩,none,some d,true,some (.func (.func f) us.toArray ws.toArray),some vs))(hc:∀w,Sh K W w L→Rets P f (us++vs++ws) w (fun v' w' =>v' =v∧Sh0 w w' []))
  (k:∀a,Fr N a ((d,v)::F)→wpQuiet P ops (fun w=>Sh K W w L) Z rest a):∀a,Fr N a F→wpQuiet P ops (fun w=>Sh K W w L) Z (o::rest) a:=by
 simp only [Prod.mk.injEq] at e
 exact fun a h=>wq_call h hb e.1 e.2.2.2.2.1 e.2.2.2.2.2 (wanted_none e.2.1 _) e.2.2.1 e.2.2.2.1 hc k
end
theorem aO {α:Type}[Enc α]{E:TypeId}{s:Ls α}(i:Nat)(hi:L[i]? =some (.own E s)):∀w,Sh K W w L→s.At w:=fun w h=>h.own i hi
theorem aA {α:Type}[Enc α]{s:Ls α}(i:Nat)(hi:L[i]? =some (.at_ s)):∀w,Sh K W w L→s.At w:=fun w h=>h.at i hi
theorem aD {α:Type}[Enc α]{E:TypeId}{s:Ls α}(i:Nat)(hi:L[i]? =some (.deep E s)):∀w,Sh K W w L→s.At w:=fun w h=>h.deep i hi
end
def slotsOf (o:Oper):List Nat:=o.op.operands.toList.filterMap fun x=>match x with
 | .tmp t=>some t
 |_=>none
theorem slotsOf_mem {o:Oper}{t:Nat}(h:Operand.tmp t∈o.op.operands):t∈slotsOf o:=List.mem_filterMap.2 ⟨.tmp t,by simpa using h,rfl⟩
def fill (a:Act):List (Nat×Value)→Act
 | []=>a
 |(t,v)::F=>(fill a F).put (some t) v
section
variable {P:Program}{N:Nat}{K:Nat→Prop}{W w:World}{a:Act}{F F' :List (Nat×Value)}{L:List Asn}{o:Oper}{l os:List Oper}{ops:Array Oper}{Q:Exit→Act→World→Prop}
theorem fill_size :∀F:List (Nat×Value),(fill a F).tmps.size=a.tmps.size
 | []=>rfl
 |(t,v)::F=>by simp [fill,Act.put,fill_size F]
theorem fill_defers :∀F:List (Nat×Value),(fill a F).defers=a.defers
 | []=>rfl
 |(t,v)::F=>by simp [fill,Act.put,fill_defers F]
theorem fill_at :∀ {F:List (Nat×Value)},(∀x∈F,x.1<a.tmps.size)→∀t v,lk F t=some v→(fill a F).tmps[t]? =some v
 | [],_,_,_,h=>by cases h
 |(u,x)::F,hF,t,v,h=>by
  rw [lk_cons] at h
  simp only [fill,Act.put,Array.getElem?_setIfInBounds]
  by_cases e:u=t
  ·subst e
   have:=hF _ List.mem_cons_self
   simp only [if_true] at h
   cases h
   simp [fill_size,this]
  ·rw [if_neg e] at h⊢
   exact fill_at (fun x hx=>hF x (List.mem_cons_of_mem _ hx)) t v h
theorem fill_ne :∀ {F:List (Nat×Value)} {t:Nat},lk F t=none→(fill a F).tmps[t]? =a.tmps[t]?
 | [],_,_=>rfl
 |(u,x)::F,t,h=>by
  rw [lk_cons] at h
  by_cases e:u=t
  ·simp [e] at h
  ·rw [if_neg e] at h
   simp only [fill,Act.put,Array.getElem?_setIfInBounds,if_neg e]
   exact fill_ne h
theorem fill_fr (hs:a.tmps.size=N)(hd:a.defers= [])(hF:∀x∈F,x.1<N):Fr N (fill a F) F:=⟨by rw [fill_size,hs],by rw [fill_defers,hd],fill_at (by rw [hs];exact hF)⟩
theorem fill_eval (hF:∀x∈F,x.1<a.tmps.size)(h:∀t∈slotsOf o,∀v,lk F t=some v→a.tmps[t]? =some v):∀x∈o.op.operands,(fill a F).eval x=a.eval x:=by
 intro x hx
 cases x with
 |tmp t=>
  simp only [Act.eval,Array.getD_eq_getD_getElem?]
  cases hl:lk F t with
  |none=>rw [fill_ne hl]
  |some v=>rw [fill_at hF t v hl,h t (slotsOf_mem hx) v hl]
 |const c=>rfl
 |global g=>rfl
 |func f=>rfl
def noSel (o:Oper):Bool:=match o.op with
 | .select _ _=>false
 |_=>true
theorem noSel_ne (h:noSel o=true):∀cs b,o.op≠ .select cs b:=by
 intro cs b e
 simp [noSel,e] at h
structure PhF (P:Program)(N:Nat)(K:Nat→Prop)(W:World)(L:List Asn)(F:List (Nat×Value))(o:Oper)(d:Nat)(v:Value):Prop where
 dst:o.dst=some d
 lt:d<N
 at_:lk F d=some v
 run:∀(a:Act) (w:World),a.tmps.size=N→a.defers= []→(∀t∈slotsOf o,∀u,lk F t=some u→a.tmps[t]? =some u)→Sh K W w L→(execOp a.eval o).run P w= .ok (.value v) w
def ordB :List Oper→Bool
 | []=>true
 |o::r=>noSel o&&o.guard.isNone&&((o::r).all fun x=>match x.dst with
  |some d=>(slotsOf o).all fun t=> !Nat.beq d t
  |none=>true)&&(r.all fun x=>match x.dst,o.dst with
  |some d,some e=> !Nat.beq d e
  |_,_=>true)&&ordB r
theorem Runs.keep (r:Runs P ops N K W L os F [] F'):∀t,(∀o∈os,o.dst≠some t)→lk F' t=lk F t:=by
 generalize hr:([]:List Oper)=rest at r
 induction r with
 |nl=>intros;rfl
 |cn _ _ hd _ _ ih=>
  intro t ht
  rw [ih hr t fun o ho=>ht o (List.mem_cons_of_mem _ ho),lk_cons,if_neg fun e=>ht _ List.mem_cons_self (by rw [hd,e])]
 |sk _ hd _ _ ih=>
  intro t ht
  rw [ih hr t fun o ho=>ht o (List.mem_cons_of_mem _ ho),lk_cons,if_neg fun e=>ht _ List.mem_cons_self (by rw [hd,e])]
theorem Runs.fN {rest:List Oper}(r:Runs P ops N K W L os F rest F'):(∀x∈F,x.1<N)→∀x∈F',x.1<N:=by
 induction r with
 |nl=>exact id
 |cn _ _ _ hN _ ih=>exact fun h=>ih fun x hx=>(List.mem_cons.1 hx).elim (fun e=>by rw [e];simpa [Nat.blt_eq] using hN) (h x)
 |sk _ _ hN _ ih=>exact fun h=>ih fun x hx=>(List.mem_cons.1 hx).elim (fun e=>by rw [e];simpa [Nat.blt_eq] using hN) (h x)
theorem Runs.pf {a0:Act}(h0:a0.tmps.size=N)(h1:a0.defers= [])(r:Runs P ops N K W L os F [] F'):ordB os=true→(∀x∈F,x.1<N)→∀o∈os,∃d v,PhF P N K W L F' o d v:=by
 generalize hr:([]:List Oper)=rest at r
 induction r with
 |nl=>intro _ _ o ho;subst hr;cases ho
 |cn hrn hw hd hN k ih=>
  subst hr
  rename_i o l F F' d v
  intro hB hF x hx
  simp only [ordB,Bool.and_eq_true] at hB
  obtain ⟨⟨⟨⟨hs,hg⟩,hu⟩,hdd⟩,hB⟩:=hB
  have hN' :d<N:=by simpa [Nat.blt_eq] using hN
  have hF2:∀x∈(d,v)::F,x.1<N:=fun x hx=>(List.mem_cons.1 hx).elim (fun e=>by rw [e];exact hN') (hF x)
  rcases List.mem_cons.1 hx with rfl|hx
  ·have hno:∀t∈slotsOf x,∀y∈x::l,y.dst≠some t:=by
    intro t ht y hy e
    have:=List.all_eq_true.1 hu y hy
    rw [e] at this
    have:=List.all_eq_true.1 this t ht
    simp at this
   refine ⟨d,v,hd,hN', ?_,fun a w hsz hdf hsl hsh=> ?_⟩
   ·rw [k.keep d fun y hy e=> ?_,lk_cons,if_pos rfl]
    have:=List.all_eq_true.1 hdd y hy
    rw [e,hd] at this
    simp at this
   ·have hev:=fill_eval (a:=a) (F:=F) (o:=x) (by rw [hsz];exact hF) fun t ht u hu=>hsl t ht u (by
     rw [k.keep t fun y hy=>hno t ht y (List.mem_cons_of_mem _ hy),lk_cons,if_neg fun e=>hno t ht x List.mem_cons_self (by rw [hd,e])];exact hu)
    have:=hrn (fill a F) w ⟨fill_fr hsz hdf hF,hsh⟩
    rwa [execOp_congr x (noSel_ne hs) hev] at this
  ·exact ih rfl hB hF2 x hx
 |sk hw hd hN k ih=>
  intro hB hF x hx
  rename_i o l F F' d
  simp only [ordB,Bool.and_eq_true] at hB
  obtain ⟨⟨⟨⟨hs,hg⟩,hu⟩,hdd⟩,hB⟩:=hB
  have:=hw _ (fill_fr h0 h1 hF)
  rw [wanted_none (by simpa using hg)] at this
  cases this
theorem Ex.move {b:Act}{R:Act→World→Prop}(h:Ex P o b w R)(he:execOp b.eval o=execOp a.eval o):Ex P o a w (fun a' w' =>∃b',R b' w' ∧(∃v,b'.tmps=(b.put o.dst v).tmps∧a'.tmps=(a.put o.dst v).tmps)∧(b'.defers= []→a.defers= []→a'.defers= [])):=by
 intro next Q hn
 have h1:=h R (fun e _ w=>Q e a w) (fun _ _ h=>h)
 unfold Oper.wp at h1⊢
 rw [he] at h1
 generalize (execOp a.eval o).run P w=r at h1⊢
 have hdf:∀v,(a.put o.dst v).defers=a.defers:=fun v=>by cases o.dst<;>rfl
 cases r with
 |halt x w' =>cases x<;>exact h1
 |ok n w' =>
  cases n
  case value v=>exact hn _ _ ⟨_,h1,⟨v,rfl,rfl⟩,fun _ e=>by rw [hdf,e]⟩
  case skip=>exact hn _ _ ⟨_,h1,⟨undef,rfl,rfl⟩,fun _ e=>by rw [hdf,e]⟩
  case defer d=>exact hn _ _ ⟨_,h1,⟨undef,by cases o.dst<;>rfl,by cases o.dst<;>rfl⟩,fun e=>by cases ho:o.dst<;>simp [ho,Act.put] at e⟩
  case enter f args=>
   refine Calls.mono h1 fun e w'' he=> ?_
   cases e with
   |returned v=>exact hn _ _ ⟨_,he,⟨v,rfl,rfl⟩,fun _ e=>by rw [hdf,e]⟩
   |panicked c=>exact he
   |outgrown=>obtain ⟨_,w3,h3⟩:=he;exact ⟨_,w3,h3⟩
  case row r args=>exact Rows.mono h1 fun v w'' he=>hn _ _ ⟨_,he,⟨v,rfl,rfl⟩,fun _ e=>by rw [hdf,e]⟩
  all_goals exact h1
def pickO (l:List Oper):List Nat→Option (List Oper)
 | []=>some []
 |i::r=>match l[i]? with
  |some o=>match pickO l r with
   |some os=>some (o::os)
   |none=>none
  |none=>none
theorem pickO_mem :∀ {is:List Nat} {os:List Oper},pickO l is=some os→(∀o∈os,∃i∈is,l[i]? =some o)∧∀i∈is,∃o∈os,l[i]? =some o
 | [],os,h=>by cases h;exact ⟨fun o ho=>(by cases ho),fun o ho=>(by cases ho)⟩
 |i::r,os,h=>by
  unfold pickO at h
  split at h
  ·rename_i o ho
   split at h
   ·rename_i os' hos
    cases h
    obtain ⟨h1,h2⟩:=pickO_mem hos
    refine ⟨fun x hx=> ?_,fun j hj=> ?_⟩
    ·rcases List.mem_cons.1 hx with rfl|hx
     ·exact ⟨i,List.mem_cons_self,ho⟩
     ·obtain ⟨j,hj,e⟩:=h1 x hx
      exact ⟨j,List.mem_cons_of_mem _ hj,e⟩
    ·rcases List.mem_cons.1 hj with rfl|hj
     ·exact ⟨o,List.mem_cons_self,ho⟩
     ·obtain ⟨x,hx,e⟩:=h2 j hj
      exact ⟨x,List.mem_cons_of_mem _ hx,e⟩
   ·cases h
  ·cases h
def availB (l:List Oper)(ws done rem is:List Nat):Bool:=(List.range l.length).all fun i=>ws.any (Nat.beq i)||is.any (Nat.beq i)||(rem.any fun w=>ancB l i w)||done.any fun w=>ancB l w i
def operB (l:List Oper)(o:Oper):Bool:=(slotsOf o).all fun t=>(l.all fun x=>match x.dst with
  |some d=> !Nat.beq d t
  |none=>true)||o.after.any fun e=>Region.binds .any e&&match l[e.on]? with
 |some x=>(match x.dst with
  |some d=>Nat.beq d t
  |none=>false)
 |none=>false
def noneB (l:List Oper)(t:Nat):Prop:=∀o∈l,o.dst≠some t
def dstB :List Oper→Bool
 | []=>true
 |o::r=>(r.all fun x=>match x.dst,o.dst with
  |some d,some e=> !Nat.beq d e
  |_,_=>true)&&dstB r
theorem dstB_at :∀ {l:List Oper} {i j:Nat} {x y:Oper} {d:Nat},dstB l=true→l[i]? =some x→l[j]? =some y→x.dst=some d→y.dst=some d→i=j
 | [],i,_,_,_,_,_,h,_,_,_=>by simp at h
 |o::r,i,j,x,y,d,hB,hi,hj,hx,hy=>by
  simp only [dstB,Bool.and_eq_true] at hB
  match i,j with
  |0,0=>rfl
  |i+1,j+1=>
   rw [List.getElem?_cons_succ] at hi hj
   exact congrArg (· +1) (dstB_at hB.2 hi hj hx hy)
  |0,j+1=>
   simp only [List.getElem?_cons_zero,Option.some.injEq,List.getElem?_cons_succ] at hi hj
   subst hi
   have:=List.all_eq_true.1 hB.1 y (List.mem_of_getElem? hj)
   rw [hx,hy] at this
   simp at this
  |i+1,0=>
   simp only [List.getElem?_cons_zero,Option.some.injEq,List.getElem?_cons_succ] at hi hj
   subst hj
   have:=List.all_eq_true.1 hB.1 x (List.mem_of_getElem? hi)
   rw [hx,hy] at this
   simp at this
def chainB (l:List Oper):List Nat→Bool
 | []=>true
 |w::ws=>(ws.all fun x=>ancB l x w&& !Nat.beq x w)&&chainB l ws
def regB (l:List Oper)(ws:List Nat):Bool:=depsLt l 0&&dstB l&&(l.all fun o=>noSel o&&o.guard.isNone&&operB l o)&&chainB l ws
def agA (F F' :List (Nat×Value))(os:List Oper):List (Option Value):=os.map fun o=>match o.dst with
 |some d=>(match lk F d with
  |some _=>lk F' d
  |none=>none)
 |none=>none
def agB (F:List (Nat×Value))(os:List Oper):List (Option Value):=os.map fun o=>match o.dst with
 |some d=>(match lk F d with
  |some v=>some v
  |none=>none)
 |none=>none
theorem ag_at (h:agA F F' os=agB F os)(ho:o∈os){d:Nat}{v:Value}(hd:o.dst=some d)(hv:lk F d=some v):lk F' d=some v:=by
 obtain ⟨i,hi⟩:=List.getElem?_of_mem ho
 have:=congrArg (fun l=>l[i]?) h
 simp only [agA,agB,List.getElem?_map,hi,Option.map_some,hd,hv] at this
 exact Option.some.inj this
def okF (o:Oper)(F F2:List (Nat×Value)):Prop:=match o.dst with
 |some d=>∃v,F2=(d,v)::F
 |none=>F2=F
def PhH (P:Program)(l:List Oper)(N:Nat)(K:Nat→Prop)(W:World)(Q:Exit→Act→World→Prop)(ws:List Nat)(done:List Nat):List Nat→List Asn→List (Nat×Value)→Prop
 | [],L,F=>∃is os F',pickO l is=some os∧(availB l ws done [] is&&ordB os&&is.all fun i=> !ws.any (Nat.beq i))=true∧Runs P l.toArray N K W L os F [] F' ∧agA F F' os=agB F os∧∀a w,St N K W a w F' L→Q .normal a w
 |i::rem,L,F=>∃is os F' o,pickO l is=some os∧(availB l ws done (i::rem) is&&ordB os&&is.all fun i=> !ws.any (Nat.beq i))=true∧Runs P l.toArray N K W L os F [] F' ∧agA F F' os=agB F os∧l[i]? =some o∧
  ∀a w,St N K W a w F' L→Ex P o a w (fun a' w' =>∃F2 L2,St N K W a' w' F2 L2∧okF o F' F2∧PhH P l N K W Q ws (i::done) rem L2 F2)
structure PhX (P:Program)(l:List Oper)(N:Nat)(K:Nat→Prop)(W:World)(Q:Exit→Act→World→Prop)(ws done rem:List Nat)(L:List Asn)(F:List (Nat×Value)):Prop where
 fN:∀x∈F,x.1<N
 pf:∀i o,l[i]? =some o→ws.any (Nat.beq i)=false→(rem.any fun w=>ancB l i w)=false→(done.any fun w=>ancB l w i)=false→∃d v,PhF P N K W L F o d v
 fin:rem= []→∀a w,St N K W a w F L→Q .normal a w
 nxt:∀i r,rem=i::r→∃o,l[i]? =some o∧∀a w,St N K W a w F L→Ex P o a w (fun a' w' =>∃F2 L2,St N K W a' w' F2 L2∧okF o F F2∧PhH P l N K W Q ws (i::done) r L2 F2)
structure PhJ (l:List Oper)(N:Nat)(K:Nat→Prop)(W:World)(done rem:List Nat)(L:List Asn)(F:List (Nat×Value))(S:Nat→Bool)(a:Act)(w:World):Prop where
 dn:∀i∈done,S i=true
 rm:∀i∈rem,S i=false
 sz:a.tmps.size=N
 df:a.defers= []
 out:∀t v,noneB l t→lk F t=some v→a.tmps[t]? =some v
 ins:∀i o t,l[i]? =some o→o.dst=some t→S i=true→∃v,lk F t=some v∧a.tmps[t]? =some v
 sh:Sh K W w L
theorem PhH.enter {ws done rem:List Nat}{S:Nat→Bool}(hdB:dstB l=true)(h:PhH P l N K W Q ws done rem L F)(hF:∀x∈F,x.1<N)(j:PhJ l N K W done rem L F S a w):∃F',PhX P l N K W Q ws done rem L F' ∧PhJ l N K W done rem L F' S a w:=by
 have key:∀(is:List Nat) (os:List Oper) (F' :List (Nat×Value)),pickO l is=some os→(availB l ws done rem is&&ordB os&&is.all fun i=> !ws.any (Nat.beq i))=true→Runs P l.toArray N K W L os F [] F' →agA F F' os=agB F os→
   PhJ l N K W done rem L F' S a w∧∀i o,l[i]? =some o→ws.any (Nat.beq i)=false→(rem.any fun w=>ancB l i w)=false→(done.any fun w=>ancB l w i)=false→∃d v,PhF P N K W L F' o d v:=by
  intro is os F' hp hB hr ha
  simp only [Bool.and_eq_true] at hB
  obtain ⟨⟨hav,hor⟩,_⟩:=hB
  obtain ⟨hm1,hm2⟩:=pickO_mem hp
  refine ⟨⟨j.dn,j.rm,j.sz,j.df,fun t v ht hv=> ?_,fun i o t hi ho hS=> ?_,j.sh⟩,fun i o hi h1 h2 h3=> ?_⟩
  ·rw [hr.keep t fun o ho e=> ?_] at hv
   ·exact j.out t v ht hv
   ·obtain ⟨q,_,hq⟩:=hm1 o ho
    exact ht o (List.mem_of_getElem? hq) e
  ·obtain ⟨v,hv,hat⟩:=j.ins i o t hi ho hS
   refine ⟨v, ?_,hat⟩
   by_cases hos:o∈os
   ·exact ag_at ha hos ho hv
   ·rw [hr.keep t fun x hx e=> ?_]
    ·exact hv
    ·obtain ⟨q,_,hq⟩:=hm1 x hx
     have:=dstB_at hdB hi hq ho e
     subst this
     rw [hi] at hq
     cases hq
     exact hos hx
  ·have hlt:i<l.length:=(List.getElem?_eq_some_iff.1 hi).1
   have:=List.all_eq_true.1 hav i (List.mem_range.2 hlt)
   rw [h1,h2,h3,Bool.false_or,Bool.or_false,Bool.or_false] at this
   obtain ⟨z,hz,h4⟩:=List.any_eq_true.1 this
   cases Nat.eq_of_beq_eq_true h4
   obtain ⟨x,hx,hix⟩:=hm2 i hz
   rw [hi] at hix
   cases hix
   exact hr.pf j.sz j.df hor hF o hx
 cases rem with
 |nil=>
  obtain ⟨is,os,F',hp,hB,hr,ha,hQ⟩:=h
  obtain ⟨h1,h2⟩:=key is os F' hp hB hr ha
  exact ⟨F',⟨hr.fN hF,h2,fun _=>hQ,fun _ _ e=>(by cases e)⟩,h1⟩
 |cons i rem=>
  obtain ⟨is,os,F',o,hp,hB,hr,ha,ho,hx⟩:=h
  obtain ⟨h1,h2⟩:=key is os F' hp hB hr ha
  exact ⟨F',⟨hr.fN hF,h2,fun e=>(by cases e),fun _ _ e=>(by cases e;exact ⟨o,ho,hx⟩)⟩,h1⟩
theorem anc_ready {S:Nat→Bool}{i j:Nat}(hcl:ClosedB l S)(ho:l[i]? =some o)(hdep:∀e∈o.after,Region.binds .any e=true→S e.on=true)(h:ancB l i j=true):j=i∨S j=true:=by
 have hcl2:ClosedB l (upd S i):=by
  intro q oq hq hS e he hb
  by_cases e1:q=i
  ·subst e1
   rw [ho] at hq
   cases hq
   exact upd_true (hdep e he hb)
  ·rw [upd_ne (beq_no e1)] at hS
   exact upd_true (hcl q oq hq hS e he hb)
 have:=cA hcl2 i j h (upd_self S i)
 by_cases e:j=i
 ·exact .inl e
 ·rw [upd_ne (beq_no e)] at this
  exact .inr this
theorem rC {id:Nat}(ws:List Nat)(hF:(F.all fun x=>Nat.blt x.1 N)=true)(hx:PhH P l N K W Q ws [] ws L F)(hm:P.follows .mixedOrders=true:=by kernel_rfl)(hB:regB l ws=true:=by kernel_rfl):∀a w,St N K W a w F L→(Code.region id l.toArray true).wp P Q a w:=by
  intro a w h
  simp only [regB,Bool.and_eq_true] at hB
  obtain ⟨⟨⟨hdl,hdB⟩,hall⟩,hch⟩:=hB
  have hop:∀o∈l,noSel o=true∧o.guard=none∧operB l o=true:=by
    intro o ho
    have:=List.all_eq_true.1 hall o ho
    simp only [Bool.and_eq_true,Option.isNone_iff_eq_none] at this
    exact ⟨this.1.1,this.1.2,this.2⟩
  have hFN:∀x∈F,x.1<N:=fun x hx=>by simpa [Nat.blt_eq] using List.all_eq_true.1 hF x hx
  have hsl:∀ {done rem:List Nat} {L:List Asn} {F:List (Nat×Value)} {S:Nat→Bool} {a:Act} {w:World} {o:Oper},PhJ l N K W done rem L F S a w→o∈l→(∀e∈o.after,Region.binds .any e=true→S e.on=true)→∀t∈slotsOf o,∀v,lk F t=some v→a.tmps[t]? =some v:=by
    intro done rem L F S a w o j ho hdep t ht v hv
    have:=List.all_eq_true.1 (hop o ho).2.2 t ht
    rw [Bool.or_eq_true] at this
    rcases this with h1|h1
    · refine j.out t v (fun x hx e=> ?_) hv
      have:=List.all_eq_true.1 h1 x hx
      rw [e] at this
      simp at this
    · obtain ⟨k,hk,h2⟩:=Array.any_eq_true.1 h1
      simp only [Bool.and_eq_true] at h2
      obtain ⟨hb,h2⟩:=h2
      split at h2
      · rename_i x hx
        split at h2
        · rename_i d hd
          rw [Nat.eq_of_beq_eq_true h2] at hd
          obtain ⟨u,hu,hat⟩:=j.ins _ x t hx hd (hdep _ (Array.getElem_mem hk) hb)
          rw [hv] at hu
          cases hu
          exact hat
        · cases h2
      · cases h2
  refine x_any (fun S a w=>∃done rem L F,(∀i∈ws,i∈done∨i∈rem)∧(∀i,i∈done∨i∈rem→i∈ws)∧chainB l rem=true∧PhX P l N K W Q ws done rem L F∧PhJ l N K W done rem L F S a w) hm hdl ?_ ?_ ?_
  · obtain ⟨F',h1,h2⟩:=hx.enter (S:=fun _=>false) (a:=a) (w:=w.drew) hdB hFN ⟨fun i hi=>(by cases hi),fun _ _=>rfl,h.fr.size,h.fr.defers,fun t v _ hv=>h.fr.at_ t v hv,fun _ _ _ _ _ hS=>(by cases hS),h.sh.drew⟩
    exact ⟨[],ws,L,F',fun i hi=> .inr hi,fun i hi=>hi.elim (fun h=>by cases h) (fun h=>h),hch,h1,h2⟩
  · rintro S i o ho hSi hcl hdep a w ⟨done,rem,L,F,hw1,hw2,hchr,px,j⟩
    have hol:=List.mem_of_getElem? ho
    obtain ⟨hns,hg,_⟩:=hop o hol
    have hslo:=hsl j hol hdep
    by_cases hir:i∈rem
    ·
      cases rem with
      |nil=>cases hir
      |cons i0 r=>
        simp only [chainB,Bool.and_eq_true] at hchr
        have hi0:i=i0:=by
          rcases List.mem_cons.1 hir with e|hr
          · exact e
          · exfalso
            have:=List.all_eq_true.1 hchr.1 i hr
            simp only [Bool.and_eq_true,Bool.not_eq_true'] at this
            rcases anc_ready hcl ho hdep this.1 with e|e
            · rw [e] at this;simp at this
            · rw [j.rm i0 List.mem_cons_self] at e;cases e
        subst hi0
        obtain ⟨o',ho',hx⟩:=px.nxt i r rfl
        rw [ho] at ho'
        cases ho'
        have hF2:∀x∈F,x.1<a.tmps.size:=by rw [j.sz];exact px.fN
        have hev:=fill_eval (o:=o) hF2 hslo
        have hEx:=(hx (fill a F) w ⟨fill_fr j.sz j.df px.fN,j.sh⟩).move (execOp_congr o (noSel_ne hns) hev)
        unfold StepOK
        rw [if_pos (wanted_none hg _)]
        refine hEx _ _ fun a' w' ⟨b',⟨F2,L2,hst,hok,hph⟩,⟨v,hb,ha⟩,hdf⟩=> ?_
        have hsz' :a'.tmps.size=N:=by rw [ha];cases o.dst<;>simp [Act.put,j.sz]
        have hF2N:∀x∈F2,x.1<N:=by
          unfold okF at hok
          split at hok
          · rename_i d hd
            obtain ⟨v2,rfl⟩:=hok
            intro x hx
            rcases List.mem_cons.1 hx with rfl|hx
            · have h1:=hst.fr.at_ d v2 (by rw [lk_cons,if_pos rfl])
              obtain ⟨h2,_⟩:=Array.getElem?_eq_some_iff.1 h1
              rw [hst.fr.size] at h2
              exact h2
            · exact px.fN x hx
          · rw [hok];exact px.fN
        have hoth:∀t,o.dst≠some t→lk F2 t=lk F t∧a'.tmps[t]? =a.tmps[t]? :=by
          intro t ht
          refine ⟨?_, ?_⟩
          · unfold okF at hok
            split at hok
            · rename_i d hd
              obtain ⟨v2,rfl⟩:=hok
              rw [lk_cons,if_neg fun e=>ht (by rw [hd,e])]
            · rw [hok]
          · rw [ha]
            cases hd:o.dst with
            |none=>rfl
            |some d=>
              simp only [Act.put,Array.getElem?_setIfInBounds]
              rw [if_neg fun e=>ht (by rw [hd,e])]
        have hJ:PhJ l N K W (i::done) r L2 F2 (upd S i) a' w' :=by
          refine ⟨fun q hq=> ?_,fun q hq=> ?_,hsz',hdf hst.fr.defers j.df,fun t u ht hu=> ?_,fun q x t hq hxd hS=> ?_,hst.sh⟩
          · rcases List.mem_cons.1 hq with rfl|hq
            · exact upd_self _ _
            · exact upd_true (j.dn q hq)
          · have h1:=List.all_eq_true.1 hchr.1 q hq
            simp only [Bool.and_eq_true,Bool.not_eq_true'] at h1
            rw [upd_ne h1.2]
            exact j.rm q (List.mem_cons_of_mem _ hq)
          · obtain ⟨h1,h2⟩:=hoth t (ht o hol)
            rw [h2]
            rw [h1] at hu
            exact j.out t u ht hu
          · by_cases e:q=i
            · subst e
              rw [ho] at hq
              cases hq
              unfold okF at hok
              rw [hxd] at hok
              obtain ⟨v2,rfl⟩:=hok
              have h1:=hst.fr.at_ t v2 (by rw [lk_cons,if_pos rfl])
              refine ⟨v2,by rw [lk_cons,if_pos rfl], ?_⟩
              have hlt:t<N:=hF2N _ List.mem_cons_self
              rw [hb,hxd] at h1
              rw [ha,hxd]
              simp only [Act.put,Array.getElem?_setIfInBounds,if_true,fill_size,j.sz,hlt] at h1⊢
              exact h1
            · rw [upd_ne (beq_no e)] at hS
              have hne:o.dst≠some t:=fun h2=>e (dstB_at hdB hq ho hxd h2)
              obtain ⟨h1,h2⟩:=hoth t hne
              rw [h1,h2]
              exact j.ins q x t hq hxd hS
        obtain ⟨F3,h1,h2⟩:=hph.enter hdB hF2N hJ
        refine ⟨i::done,r,L2,F3,fun q hq=> ?_,fun q hq=> ?_,hchr.2,h1,h2⟩
        · rcases hw1 q hq with h3|h3
          · exact .inl (List.mem_cons_of_mem _ h3)
          · rcases List.mem_cons.1 h3 with rfl|h3
            · exact .inl List.mem_cons_self
            · exact .inr h3
        · rcases hq with hq|hq
          · rcases List.mem_cons.1 hq with rfl|hq
            · exact hw2 _ (.inr List.mem_cons_self)
            · exact hw2 _ (.inl hq)
          · exact hw2 _ (.inr (List.mem_cons_of_mem _ hq))
    ·
      have hiw:ws.any (Nat.beq i)=false:=by
        cases hb:ws.any (Nat.beq i) with
        |false=>rfl
        |true=>
          obtain ⟨z,hz,h3⟩:=List.any_eq_true.1 hb
          cases Nat.eq_of_beq_eq_true h3
          rcases hw1 i hz with h4|h4
          · rw [j.dn i h4] at hSi;cases hSi
          · exact absurd h4 hir
      have h2:(rem.any fun w=>ancB l i w)=false:=by
        cases hb:rem.any fun w=>ancB l i w with
        |false=>rfl
        |true=>
          obtain ⟨z,hz,h3⟩:=List.any_eq_true.1 hb
          rcases anc_ready hcl ho hdep h3 with e|e
          · rw [e] at hz;exact absurd hz hir
          · rw [j.rm z hz] at e;cases e
      have h3:(done.any fun w=>ancB l w i)=false:=by
        cases hb:done.any fun w=>ancB l w i with
        |false=>rfl
        |true=>
          obtain ⟨z,hz,h3⟩:=List.any_eq_true.1 hb
          rw [cA hcl z i h3 (j.dn z hz)] at hSi
          cases hSi
      obtain ⟨d,v,pf⟩:=px.pf i o ho hiw h2 h3
      unfold StepOK
      rw [if_pos (wanted_none hg _)]
      unfold Oper.wp
      rw [pf.run a w j.sz j.df hslo j.sh]
      show∃done rem L F,_
      refine ⟨done,rem,L,F,hw1,hw2,hchr,px,fun q hq=>upd_true (j.dn q hq),fun q hq=> ?_, ?_, ?_,fun t u ht hu=> ?_,fun q x t hq hxd hS=> ?_,j.sh⟩
      · rw [upd_ne (beq_no fun e=>hir (by rw [←e];exact hq))]
        exact j.rm q hq
      · rw [pf.dst];simp [Act.put,j.sz]
      · rw [pf.dst];exact j.df
      · have hne:d≠t:=fun e=>ht o hol (by rw [pf.dst,e])
        rw [pf.dst]
        simp only [Act.put,Array.getElem?_setIfInBounds,if_neg hne]
        exact j.out t u ht hu
      · by_cases e:q=i
        · subst e
          rw [ho] at hq
          cases hq
          rw [pf.dst] at hxd
          cases hxd
          refine ⟨v,pf.at_, ?_⟩
          rw [pf.dst]
          simp [Act.put,Array.getElem?_setIfInBounds,j.sz,pf.lt]
        · rw [upd_ne (beq_no e)] at hS
          obtain ⟨u,hu,hat⟩:=j.ins q x t hq hxd hS
          refine ⟨u,hu, ?_⟩
          have hne:d≠t:=fun e2=>e (dstB_at hdB hq ho hxd (by rw [pf.dst,e2]))
          rw [pf.dst]
          simp only [Act.put,Array.getElem?_setIfInBounds,if_neg hne]
          exact hat
  · rintro S hall a w ⟨done,rem,L,F,hw1,hw2,hchr,px,j⟩
    have hrem:rem= []:=by
      cases rem with
      |nil=>rfl
      |cons i r=>
        obtain ⟨o,ho,_⟩:=px.nxt i r rfl
        have:=hall i (List.getElem?_eq_some_iff.1 ho).1
        rw [j.rm i List.mem_cons_self] at this
        cases this
    refine px.fin hrem a w ⟨⟨j.sz,j.df,fun t v hv=> ?_⟩,j.sh⟩
    by_cases hn:noneB l t
    · exact j.out t v hn hv
    · have:∃o,o∈l∧o.dst=some t:=by
        apply Classical.byContradiction
        intro h1
        exact hn fun o ho e=>h1 ⟨o,ho,e⟩
      obtain ⟨o,ho,hd⟩:=this
      obtain ⟨i,hi⟩:=List.getElem?_of_mem ho
      obtain ⟨u,hu,hat⟩:=j.ins i o t hi hd (hall i (List.getElem?_eq_some_iff.1 hi).1)
      rw [hv] at hu
      cases hu
      exact hat
section
variable {ws done rem is:List Nat}{i d:Nat}{v:Value}{F2:List (Nat×Value)}{L2:List Asn}{Φ:List Asn→List (Nat×Value)→Prop}
theorem pE (is:List Nat)(e:pickO l is=some os)(r:Runs P l.toArray N K W L os F [] F')(ha:agA F F' os=agB F os)(k:∀a w,St N K W a w F' L→Q .normal a w)(hB:(availB l ws done [] is&&ordB os&&is.all fun i=> !ws.any (Nat.beq i))=true:=by kernel_rfl):PhH P l N K W Q ws done [] L F:=⟨is,os,F',e,hB,r,ha,k⟩
theorem pR (is:List Nat)(e:(pickO l is,l[i]?)=(some os,some o))(r:Runs P l.toArray N K W L os F [] F')(ha:agA F F' os=agB F os)
  (k:∀a w,St N K W a w F' L→Ex P o a w (fun a' w' =>∃F2 L2,St N K W a' w' F2 L2∧okF o F' F2∧PhH P l N K W Q ws (i::done) rem L2 F2)) (hB:(availB l ws done (i::rem) is&&ordB os&&is.all fun i=> !ws.any (Nat.beq i))=true:=by kernel_rfl):PhH P l N K W Q ws done (i::rem) L F:=by
 simp only [Prod.mk.injEq] at e
 exact ⟨is,os,F',o,e.1,hB,r,ha,e.2,k⟩
theorem okF_some (hd:o.dst=some d):okF o F ((d,v)::F):=by unfold okF;rw [hd];exact ⟨v,rfl⟩
theorem pS (hx:∀a w,St N K W a w F L→Ex P o a w (fun a' w' =>St N K W a' w' F L2))(hd:o.dst=none)(k:Φ L2 F):∀a w,St N K W a w F L→Ex P o a w (fun a' w' =>∃F2 L2,St N K W a' w' F2 L2∧okF o F F2∧Φ L2 F2):=
 fun a w h=>(hx a w h).mono fun a' w' h' =>⟨F,L2,h',by unfold okF;rw [hd],k⟩
theorem pX {α:Type}{v:α→Value}{L2:α→List Asn}(hx:∀a w,St N K W a w F L→Ex P o a w (fun a' w' =>∃b:α,St N K W a' w' ((d,v b)::F) (L2 b)))(hd:o.dst=some d)(k:∀b,Φ (L2 b) ((d,v b)::F)):∀a w,St N K W a w F L→Ex P o a w (fun a' w' =>∃F2 L2,St N K W a' w' F2 L2∧okF o F F2∧Φ L2 F2):=
 fun a w h=>(hx a w h).mono fun a' w' ⟨b,h'⟩=>⟨_,L2 b,h',okF_some hd,k b⟩
theorem pC {Rr:World→Value→World→Prop}(hx:∀a w,St N K W a w F L→Ex P o a w (fun a' w' =>∃v,Rr w v w' ∧Fr N a' ((d,v)::F)))(hd:o.dst=some d)
  (k:∀w v w',Rr w v w' →∃L' L2,Sh0 w w' L' ∧AllNo L' ∧appO L' L=some L2∧Φ L2 ((d,v)::F)):∀a w,St N K W a w F L→Ex P o a w (fun a' w' =>∃F2 L2,St N K W a' w' F2 L2∧okF o F F2∧Φ L2 F2):=
 fun a w h=>(hx a w h).mono fun a' w' ⟨v,hr,hf⟩=>by
  obtain ⟨L',L2,hs,hi,e,k⟩:=k _ _ _ hr
  have:=h.sh.callI hs
  rw [appO_eq e] at this
  exact ⟨_,L2,⟨hf,this⟩,okF_some hd,k⟩
theorem pWk {L' L2 M:List Asn}{w w' :World}{X:List Asn→Prop}[hi:AllNo L'](hs:Sh0 w w' L')(e:appO L' M=some L2)(k:X L2):∃L' L2,Sh0 w w' L' ∧AllNo L' ∧appO L' M=some L2∧X L2:=⟨_,_,hs,hi,e,k⟩
end
end
theorem ti_3 :tyI Tryz.prog 3=some (false,1,8, [.int .i64 0]):=by kernel_rfl
theorem ti_4 :tyI Tryz.prog 4=some (false,1,1, [.bool false]):=by kernel_rfl
theorem ti_5 :tyI Tryz.prog 5=some (false,1,1, [.int .u8 0]):=by kernel_rfl
theorem ti_22 :tyI Tryz.prog 22=some (false,1,24, [.slice none 0 0]):=by kernel_rfl
theorem sl_22 :slI Tryz.prog 22=some 33:=by kernel_rfl
theorem ti_23 :tyI Tryz.prog 23=some (false,1,24, [.slice none 0 0]):=by kernel_rfl
theorem sl_23 :slI Tryz.prog 23=some 3:=by kernel_rfl
theorem ti_25 :tyI Tryz.prog 25=some (true,4,64, [.slice none 0 0, .slice none 0 0, .int .i64 0, .int .i64 0]):=by kernel_rfl
theorem fl_25_0 :flI Tryz.prog 25 0=some 0:=by kernel_rfl
theorem fl_25_1 :flI Tryz.prog 25 1=some 1:=by kernel_rfl
theorem fl_25_2 :flI Tryz.prog 25 2=some 2:=by kernel_rfl
theorem fl_25_3 :flI Tryz.prog 25 3=some 3:=by kernel_rfl
theorem ti_26 :tyI Tryz.prog 26=some (false,1,8, [.int .i64 0]):=by kernel_rfl
theorem ti_28 :tyI Tryz.prog 28=some (true,3,24, [.int .i64 0, .int .i64 0, .int .i64 0]):=by kernel_rfl
theorem fl_28_0 :flI Tryz.prog 28 0=some 0:=by kernel_rfl
theorem ti_32 :tyI Tryz.prog 32=some (true,4,32, [.int .i64 0, .int .i64 0, .int .i64 0, .int .i64 0]):=by kernel_rfl
theorem fl_32_0 :flI Tryz.prog 32 0=some 0:=by kernel_rfl
theorem fl_32_1 :flI Tryz.prog 32 1=some 1:=by kernel_rfl
theorem fl_32_2 :flI Tryz.prog 32 2=some 2:=by kernel_rfl
theorem fl_32_3 :flI Tryz.prog 32 3=some 3:=by kernel_rfl
theorem ti_33 :tyI Tryz.prog 33=some (false,1,24, [.slice none 0 0]):=by kernel_rfl
theorem sl_33 :slI Tryz.prog 33=some 32:=by kernel_rfl
theorem ti_35 :tyI Tryz.prog 35=some (false,1,24, [.slice none 0 0]):=by kernel_rfl
theorem sl_35 :slI Tryz.prog 35=some 39:=by kernel_rfl
theorem ti_39 :tyI Tryz.prog 39=some (true,3,56, [.int .i64 0, .slice none 0 0, .slice none 0 0]):=by kernel_rfl
theorem fl_39_0 :flI Tryz.prog 39 0=some 0:=by kernel_rfl
theorem fl_39_1 :flI Tryz.prog 39 1=some 1:=by kernel_rfl
theorem fl_39_2 :flI Tryz.prog 39 2=some 2:=by kernel_rfl
theorem sl_41 :slI Tryz.prog 41=some 58:=by kernel_rfl
theorem ti_49 :tyI Tryz.prog 49=some (false,1,24, [.slice none 0 0]):=by kernel_rfl
theorem sl_49 :slI Tryz.prog 49=some 103:=by kernel_rfl
theorem ti_50 :tyI Tryz.prog 50=some (false,1,24, [.slice none 0 0]):=by kernel_rfl
theorem sl_50 :slI Tryz.prog 50=some 23:=by kernel_rfl
theorem fl_52_0 :flI Tryz.prog 52 0=some 0:=by kernel_rfl
theorem fl_52_1 :flI Tryz.prog 52 1=some 1:=by kernel_rfl
theorem fl_52_2 :flI Tryz.prog 52 2=some 2:=by kernel_rfl
theorem fl_52_3 :flI Tryz.prog 52 3=some 3:=by kernel_rfl
theorem fl_52_4 :flI Tryz.prog 52 4=some 4:=by kernel_rfl
theorem fl_52_5 :flI Tryz.prog 52 5=some 5:=by kernel_rfl
theorem ti_58 :tyI Tryz.prog 58=some (true,5,40, [.int .i64 0, .int .i64 0, .int .i64 0, .int .i64 0, .int .i64 0]):=by kernel_rfl
theorem fl_58_0 :flI Tryz.prog 58 0=some 0:=by kernel_rfl
theorem fl_58_1 :flI Tryz.prog 58 1=some 1:=by kernel_rfl
theorem fl_58_2 :flI Tryz.prog 58 2=some 2:=by kernel_rfl
theorem fl_58_3 :flI Tryz.prog 58 3=some 3:=by kernel_rfl
theorem fl_58_4 :flI Tryz.prog 58 4=some 4:=by kernel_rfl
theorem ti_82 :tyI Tryz.prog 82=some (false,1,8, [.map none]):=by kernel_rfl
theorem ti_85 :tyI Tryz.prog 85=some (false,1,8, [.pointer none]):=by kernel_rfl
theorem ti_103 :tyI Tryz.prog 103=some (false,1,8, [.pointer none]):=by kernel_rfl
theorem ti_109 :tyI Tryz.prog 109=some (false,1,24, [.slice none 0 0]):=by kernel_rfl
theorem sl_109 :slI Tryz.prog 109=some 119:=by kernel_rfl
theorem fl_111_0 :flI Tryz.prog 111 0=some 0:=by kernel_rfl
theorem fl_111_1 :flI Tryz.prog 111 1=some 4:=by kernel_rfl
theorem fl_111_2 :flI Tryz.prog 111 2=some 5:=by kernel_rfl
theorem fl_111_3 :flI Tryz.prog 111 3=some 6:=by kernel_rfl
theorem fl_111_4 :flI Tryz.prog 111 4=some 7:=by kernel_rfl
theorem fl_111_5 :flI Tryz.prog 111 5=some 8:=by kernel_rfl
theorem fl_111_6 :flI Tryz.prog 111 6=some 9:=by kernel_rfl
theorem ti_117 :tyI Tryz.prog 117=some (false,1,24, [.slice none 0 0]):=by kernel_rfl
theorem sl_117 :slI Tryz.prog 117=some 167:=by kernel_rfl
theorem ti_119 :tyI Tryz.prog 119=some (true,3,56, [.int .i64 0, .slice none 0 0, .slice none 0 0]):=by kernel_rfl
theorem fl_119_0 :flI Tryz.prog 119 0=some 0:=by kernel_rfl
theorem fl_119_1 :flI Tryz.prog 119 1=some 1:=by kernel_rfl
theorem fl_119_2 :flI Tryz.prog 119 2=some 2:=by kernel_rfl
theorem ti_148 :tyI Tryz.prog 148=some (false,1,8, [.pointer none]):=by kernel_rfl
theorem ti_151 :tyI Tryz.prog 151=some (false,1,24, [.slice none 0 0]):=by kernel_rfl
theorem sl_151 :slI Tryz.prog 151=some 85:=by kernel_rfl
theorem ti_153 :tyI Tryz.prog 153=some (true,2,48, [.slice none 0 0, .slice none 0 0]):=by kernel_rfl
theorem fl_153_0 :flI Tryz.prog 153 0=some 0:=by kernel_rfl
theorem fl_153_1 :flI Tryz.prog 153 1=some 1:=by kernel_rfl
theorem ti_167 :tyI Tryz.prog 167=some (true,3,24, [.bool false, .int .i64 0, .int .i64 0]):=by kernel_rfl
theorem fl_167_0 :flI Tryz.prog 167 0=some 0:=by kernel_rfl
theorem fl_167_1 :flI Tryz.prog 167 1=some 1:=by kernel_rfl
theorem fl_167_2 :flI Tryz.prog 167 2=some 2:=by kernel_rfl
theorem ti_171 :tyI Tryz.prog 171=some (false,1,24, [.slice none 0 0]):=by kernel_rfl
theorem sl_171 :slI Tryz.prog 171=some 189:=by kernel_rfl
theorem ti_173 :tyI Tryz.prog 173=some (true,5,80, [.nilIface, .pointer none, .slice none 0 0, .slice none 0 0, .bool false]):=by kernel_rfl
theorem fl_173_0 :flI Tryz.prog 173 0=some 0:=by kernel_rfl
theorem fl_173_1 :flI Tryz.prog 173 1=some 1:=by kernel_rfl
theorem fl_173_2 :flI Tryz.prog 173 2=some 2:=by kernel_rfl
theorem fl_173_3 :flI Tryz.prog 173 3=some 3:=by kernel_rfl
theorem fl_173_4 :flI Tryz.prog 173 4=some 4:=by kernel_rfl
theorem sl_175 :slI Tryz.prog 175=some 179:=by kernel_rfl
theorem ti_179 :tyI Tryz.prog 179=some (true,2,16, [.int .i64 0, .int .i64 0]):=by kernel_rfl
theorem fl_179_0 :flI Tryz.prog 179 0=some 0:=by kernel_rfl
theorem fl_179_1 :flI Tryz.prog 179 1=some 1:=by kernel_rfl
theorem fl_182_0 :flI Tryz.prog 182 0=some 0:=by kernel_rfl
theorem fl_182_1 :flI Tryz.prog 182 1=some 1:=by kernel_rfl
theorem ti_189 :tyI Tryz.prog 189=some (true,2,32, [.int .i64 0, .slice none 0 0]):=by kernel_rfl
theorem fl_189_0 :flI Tryz.prog 189 0=some 0:=by kernel_rfl
theorem fl_189_1 :flI Tryz.prog 189 1=some 1:=by kernel_rfl
theorem ti_204 :tyI Tryz.prog 204=some (false,1,24, [.slice none 0 0]):=by kernel_rfl
theorem sl_204 :slI Tryz.prog 204=some 5:=by kernel_rfl
theorem ti_247 :tyI Tryz.prog 247=some (true,65,65, [.int .u8 0, .int .u8 0, .int .u8 0, .int .u8 0, .int .u8 0, .int .u8 0, .int .u8 0, .int .u8 0, .int .u8 0, .int .u8 0, .int .u8 0, .int .u8 0, .int .u8 0, .int .u8 0, .int .u8 0, .int .u8 0, .int .u8 0, .int .u8 0, .int .u8 0, .int .u8 0, .int .u8 0, .int .u8 0, .int .u8 0, .int .u8 0, .int .u8 0, .int .u8 0, .int .u8 0, .int .u8 0, .int .u8 0, .int .u8 0, .int .u8 0, .int .u8 0, .int .u8 0, .int .u8 0, .int .u8 0, .int .u8 0, .int .u8 0, .int .u8 0, .int .u8 0, .int .u8 0, .int .u8 0, .int .u8 0, .int .u8 0, .int .u8 0, .int .u8 0, .int .u8 0, .int .u8 0, .int .u8 0, .int .u8 0, .int .u8 0, .int .u8 0, .int .u8 0, .int .u8 0, .int .u8 0, .int .u8 0, .int .u8 0, .int .u8 0, .int .u8 0, .int .u8 0, .int .u8 0, .int .u8 0, .int .u8 0, .int .u8 0, .int .u8 0, .int .u8 0]):=by kernel_rfl
theorem bd_20 :bodyI Tryz.prog 20=true:=by kernel_rfl
theorem bd_23 :bodyI Tryz.prog 23=true:=by kernel_rfl
theorem bd_25 :bodyI Tryz.prog 25=true:=by kernel_rfl
theorem bd_26 :bodyI Tryz.prog 26=true:=by kernel_rfl
theorem bd_27 :bodyI Tryz.prog 27=true:=by kernel_rfl
theorem bd_30 :bodyI Tryz.prog 30=true:=by kernel_rfl
theorem bd_31 :bodyI Tryz.prog 31=true:=by kernel_rfl
theorem bd_43 :bodyI Tryz.prog 43=true:=by kernel_rfl
theorem bd_44 :bodyI Tryz.prog 44=true:=by kernel_rfl
theorem bd_49 :bodyI Tryz.prog 49=true:=by kernel_rfl
theorem bd_50 :bodyI Tryz.prog 50=true:=by kernel_rfl
theorem bd_51 :bodyI Tryz.prog 51=true:=by kernel_rfl
theorem bd_52 :bodyI Tryz.prog 52=true:=by kernel_rfl
theorem bd_54 :bodyI Tryz.prog 54=true:=by kernel_rfl
theorem bd_55 :bodyI Tryz.prog 55=true:=by kernel_rfl
theorem bd_61 :bodyI Tryz.prog 61=true:=by kernel_rfl
theorem bd_67 :bodyI Tryz.prog 67=true:=by kernel_rfl
theorem bd_68 :bodyI Tryz.prog 68=true:=by kernel_rfl
theorem bd_69 :bodyI Tryz.prog 69=true:=by kernel_rfl
theorem bd_70 :bodyI Tryz.prog 70=true:=by kernel_rfl
theorem bd_71 :bodyI Tryz.prog 71=true:=by kernel_rfl
theorem bd_72 :bodyI Tryz.prog 72=true:=by kernel_rfl
theorem bd_73 :bodyI Tryz.prog 73=true:=by kernel_rfl
theorem bd_74 :bodyI Tryz.prog 74=true:=by kernel_rfl
theorem bd_75 :bodyI Tryz.prog 75=true:=by kernel_rfl
theorem bd_76 :bodyI Tryz.prog 76=true:=by kernel_rfl
theorem bd_81 :bodyI Tryz.prog 81=true:=by kernel_rfl
theorem bd_91 :bodyI Tryz.prog 91=true:=by kernel_rfl
theorem bd_92 :bodyI Tryz.prog 92=true:=by kernel_rfl
theorem bd_95 :bodyI Tryz.prog 95=true:=by kernel_rfl
theorem bd_98 :bodyI Tryz.prog 98=true:=by kernel_rfl
theorem bd_100 :bodyI Tryz.prog 100=true:=by kernel_rfl
theorem bd_101 :bodyI Tryz.prog 101=true:=by kernel_rfl
theorem bd_102 :bodyI Tryz.prog 102=true:=by kernel_rfl
theorem bd_103 :bodyI Tryz.prog 103=true:=by kernel_rfl
theorem bd_104 :bodyI Tryz.prog 104=true:=by kernel_rfl
theorem bd_105 :bodyI Tryz.prog 105=true:=by kernel_rfl
theorem bd_106 :bodyI Tryz.prog 106=true:=by kernel_rfl
theorem bd_107 :bodyI Tryz.prog 107=true:=by kernel_rfl
theorem bd_108 :bodyI Tryz.prog 108=true:=by kernel_rfl
theorem bd_109 :bodyI Tryz.prog 109=true:=by kernel_rfl
theorem bd_110 :bodyI Tryz.prog 110=true:=by kernel_rfl
theorem bd_111 :bodyI Tryz.prog 111=true:=by kernel_rfl
theorem bd_112 :bodyI Tryz.prog 112=true:=by kernel_rfl
theorem bd_113 :bodyI Tryz.prog 113=true:=by kernel_rfl
theorem bd_114 :bodyI Tryz.prog 114=true:=by kernel_rfl
theorem bd_115 :bodyI Tryz.prog 115=true:=by kernel_rfl
theorem bd_116 :bodyI Tryz.prog 116=true:=by kernel_rfl
theorem bd_117 :bodyI Tryz.prog 117=true:=by kernel_rfl
theorem bd_118 :bodyI Tryz.prog 118=true:=by kernel_rfl
theorem bd_120 :bodyI Tryz.prog 120=true:=by kernel_rfl
theorem bd_121 :bodyI Tryz.prog 121=true:=by kernel_rfl
theorem bd_122 :bodyI Tryz.prog 122=true:=by kernel_rfl
theorem bd_123 :bodyI Tryz.prog 123=true:=by kernel_rfl
theorem bd_124 :bodyI Tryz.prog 124=true:=by kernel_rfl
theorem bd_128 :bodyI Tryz.prog 128=true:=by kernel_rfl
theorem bd_129 :bodyI Tryz.prog 129=true:=by kernel_rfl
theorem bd_140 :bodyI Tryz.prog 140=true:=by kernel_rfl
theorem bd_141 :bodyI Tryz.prog 141=true:=by kernel_rfl
theorem bd_142 :bodyI Tryz.prog 142=true:=by kernel_rfl
theorem bd_143 :bodyI Tryz.prog 143=true:=by kernel_rfl
theorem bd_145 :bodyI Tryz.prog 145=true:=by kernel_rfl
theorem bd_146 :bodyI Tryz.prog 146=true:=by kernel_rfl
theorem bd_147 :bodyI Tryz.prog 147=true:=by kernel_rfl
theorem bd_153 :bodyI Tryz.prog 153=true:=by kernel_rfl
theorem bd_154 :bodyI Tryz.prog 154=true:=by kernel_rfl
theorem bd_163 :bodyI Tryz.prog 163=true:=by kernel_rfl
theorem bd_165 :bodyI Tryz.prog 165=true:=by kernel_rfl
theorem bd_167 :bodyI Tryz.prog 167=true:=by kernel_rfl
theorem bd_174 :bodyI Tryz.prog 174=true:=by kernel_rfl
theorem bd_178 :bodyI Tryz.prog 178=true:=by kernel_rfl
theorem bd_197 :bodyI Tryz.prog 197=true:=by kernel_rfl
theorem bd_198 :bodyI Tryz.prog 198=true:=by kernel_rfl
theorem bd_200 :bodyI Tryz.prog 200=true:=by kernel_rfl
theorem bd_201 :bodyI Tryz.prog 201=true:=by kernel_rfl
theorem bd_202 :bodyI Tryz.prog 202=true:=by kernel_rfl
theorem bd_203 :bodyI Tryz.prog 203=true:=by kernel_rfl
theorem bd_204 :bodyI Tryz.prog 204=true:=by kernel_rfl
theorem bd_205 :bodyI Tryz.prog 205=true:=by kernel_rfl
theorem bd_206 :bodyI Tryz.prog 206=true:=by kernel_rfl
theorem bd_207 :bodyI Tryz.prog 207=true:=by kernel_rfl
set_option maxRecDepth 100000
set_option maxHeartbeats 1000000
theorem take_succ_nth {α:Type}[Inhabited α](l:List α)(k:Nat)(h:k<l.length):l.take (k+1)=l.take k++ [nth l k]:=by
 rw [List.take_succ_eq_append_getElem h,nth_lt l k h]
theorem ext_nth {α:Type}[Inhabited α](l m:List α)(hl:l.length=m.length)(h:∀i,i<l.length→nth l i=nth m i):l=m:=by
 apply List.ext_getElem hl
 intro i h1 h2
 have:=h i h1
 rwa [nth_lt l i h1,nth_lt m i h2] at this
instance : DecidableEq Pg:=fun p q=>by
 rcases p with ⟨a,b,c,d⟩;rcases q with ⟨a',b',c',d'⟩
 exact decidable_of_iff (a=a' ∧b=b' ∧c=c' ∧d=d') (by simp)
section
variable {code code2:Ls (Ls Ins)}{words words2:Ls Int}{locks regs locks2 regs2:Int}
end
theorem ints_c (x y:Ls Int)(W:World)(hx:x.At W)(hy:y.At W):
    Rets Tryz.prog 74 [x.v,y.v] W (fun v w' =>v= .bool (decide (x.l=y.l))∧Sh0 W w' []):=by
 refine gen Tryz.func74 Tryz.ntmps74 (Sh0.ext2 hx hy:Sh (fun _=>False) W W [.at_ x, .at_ y]) rfl fun a10 h10=>gG h10<|sG (oM 1 rfl<|.nl)<|gK fun _ k12=>sK fun _ k13=>gNl (aA 0 rfl) fun hl14=>gNl (aA 1 rfl) fun hl15=>gRn (oM 1 rfl<|oln sl_23 (aA 0 rfl) rfl<|oM 1 rfl<|oln sl_23 (aA 1 rfl) rfl<|oneN _ _ rfl<|.nl)<|nK k13<|?_;clear h10
 refine gcd rfl (fun hb16 hp16=> ?_) fun hb16 hp16=> ?_
 ·skip
  refine sG (oM 1 rfl<|.nl)<|gR<|uT<|fun a18 w18 h18=>x_ret1 (fn:=Tryz.f74) (t:=4) rfl h18 rfl<|⟨?_,(h18.sh.sel [] rfl)⟩
  congr 1
  first|(exact (decide_eq_true (ext_nth _ _ (by omega) fun i hi=>hall i (by omega))).symm)|(refine (decide_eq_false fun e=> ?_).symm;simp_all)
 refine gS<|hK k12<|gK fun _ k19=>sG (oM 1 rfl<|.nl)<|gB<|fun a22 w22 h22=>x_loop (fun m a w=>∃(k:Nat),(k≤x.l.length)∧(∀j,j<k→nth x.l j=nth y.l j)∧St 26 (fun _=>False) W a w [(0,x.v),(1,y.v),(5, .int .i64 ((k:Nat):Int))] [.at_ x, .at_ y]∧m=x.l.length-k) ⟨_,0,(by omega),(fun j hj=>absurd hj (by omega)),h22.nf ⟨rfl,rfl,rfl,trivial⟩,rfl⟩ ?_
 clear h22
 rintro m21 a21 w21 ⟨k,hk,hall,h21,hm21⟩
 refine gG h21<|gK fun _ k23=>sG (oM 2 rfl<|oln sl_23 (aA 0 rfl) rfl<|oltN _ _ rfl<|.nl)<|?_;clear h21
 refine gcd rfl (fun hb25 hp25=> ?_) fun hb25 hp25=> ?_
 ·skip
  refine gS<|hK k23<|gK fun _ k26=>gB<|gK fun _ k27=>rQ (oM 2 rfl<|oxN sl_23 ti_3 (aA 0 rfl) _ om9 rfl<|olI ti_3 (aA 0 rfl) om9 rfl<|oM 2 rfl<|oxN sl_23 ti_3 (aA 1 rfl) _ om9 rfl<|olI ti_3 (aA 1 rfl) om9 rfl<|oneI _ _ rfl<|.nl)<|hK k27<|gcd rfl (fun hb28 hp28=> ?_) fun hb28 hp28=> ?_
  ·skip
   refine sG (oM 1 rfl<|.nl)<|gR<|uB<|uT<|uT<|uB<|uT<|fun a30 w30 h30=>x_ret1 (fn:=Tryz.f74) (t:=4) rfl h30 rfl<|⟨?_,(h30.sh.sel [] rfl)⟩
   congr 1
   first|(exact (decide_eq_true (ext_nth _ _ (by omega) fun i hi=>hall i (by omega))).symm)|(refine (decide_eq_false fun e=> ?_).symm;simp_all)
  refine gS<|hK k26<|gL<|gRn (oM 1 rfl<|oadN _ 1 om9 rfl<|oM 1 rfl<|.nl)<|nN<|fun a31 w31 h31=>x_again ⟨_, ?_,k+1, ?_, ?_,h31.nf ⟨rfl,rfl,rfl,trivial⟩,rfl⟩
  · rw [hm21];first|omega|(simp only [lens9];omega)
  · omega
  · intro j hj;rcases Nat.lt_or_ge j k with h|h;exact hall j h;obtain rfl:j=k:=(by omega);simp_all
 refine gX<|hK k19<|sG (oM 1 rfl<|.nl)<|gR<|fun a33 w33 h33=>x_ret1 (fn:=Tryz.f74) (t:=4) rfl h33 rfl<|⟨?_,(h33.sh.sel [] rfl)⟩
 congr 1
 first|(exact (decide_eq_true (ext_nth _ _ (by omega) fun i hi=>hall i (by omega))).symm)|(refine (decide_eq_false fun e=> ?_).symm;simp_all)
set_option maxHeartbeats 2000000
theorem and_t' {p:Prop}[Decidable p]{b c:Bool}(h:p)(e:b=c):b=(decide p&&c):=by rw [decide_eq_true h,e];rfl
theorem and_f' {p:Prop}[Decidable p]{c:Bool}(h:¬p):false=(decide p&&c):=by rw [decide_eq_false h];rfl
def ableT (code:Ls (Ls Ins))(thr:Ls ThL)(owner:List Int)(t:Nat):Bool:=decide ((nth thr.l t).pc<((nth code.l t).l.length:Int))&&ableL owner (nth thr.l t).wait.l.length (nextIns (nth code.l t).l (nth thr.l t).pc)
def mayT (mode:Int)(thr:Ls ThL)(t k:Nat):List Int:=((List.range k).filter (mayK mode (nth thr.l t).wait.l)).map fun k=>((8*t+k+1:Nat):Int)
def moveT (mode:Int)(code:Ls (Ls Ins))(thr:Ls ThL)(owner:List Int)(t:Nat):List Int:=(if ableT code thr owner t=true then [((8*t:Nat):Int)] else [])++mayT mode thr t (nth thr.l t).wait.l.length
theorem mayT_len (mode:Int)(thr:Ls ThL)(t k:Nat):(mayT mode thr t k).length≤k:=by
 unfold mayT
 rw [List.length_map]
 exact Nat.le_trans (List.length_filter_le _ _) (by simp)
theorem mayT_t {mode:Int}{thr:Ls ThL}{t k:Nat}(h:mayK mode (nth thr.l t).wait.l k=true):mayT mode thr t (k+1)=mayT mode thr t k++ [((8*t+k+1:Nat):Int)]:=by
 unfold mayT;rw [List.range_succ,List.filter_append,List.map_append];simp [h]
theorem mayT_f {mode:Int}{thr:Ls ThL}{t k:Nat}(h:mayK mode (nth thr.l t).wait.l k=false):mayT mode thr t (k+1)=mayT mode thr t k:=by
 unfold mayT;rw [List.range_succ,List.filter_append,List.map_append];simp [h]
def movesL (mode:Int)(code:Ls (Ls Ins))(thr:Ls ThL)(owner:List Int)(n:Nat):List Int:=(List.range n).flatMap (moveT mode code thr owner)
theorem movesL_succ (mode:Int)(code:Ls (Ls Ins))(thr:Ls ThL)(owner:List Int)(n:Nat):movesL mode code thr owner (n+1)=movesL mode code thr owner n++moveT mode code thr owner n:=by simp [movesL,List.range_succ]
def endT (code:Ls (Ls Ins))(thr:Ls ThL)(t:Nat):Bool:=decide (¬(nth thr.l t).pc<((nth code.l t).l.length:Int))&&decide ((nth thr.l t).wait.l.length=0)
def endedL (code:Ls (Ls Ins))(thr:Ls ThL):Bool:=(List.range code.l.length).all (endT code thr)
theorem endT_t {code:Ls (Ls Ins)}{thr:Ls ThL}{t:Nat}(h:¬(nth thr.l t).pc<((nth code.l t).l.length:Int))(h2:(nth thr.l t).wait.l.length=0):endT code thr t=true:=by unfold endT;rw [decide_eq_true h,decide_eq_true h2];rfl
theorem endedL_t {code:Ls (Ls Ins)}{thr:Ls ThL}(h:∀j,j<code.l.length→endT code thr j=true):endedL code thr=true:=by
 unfold endedL;rw [List.all_eq_true];intro j hj;exact h j (by simpa using hj)
theorem endedL_f {code:Ls (Ls Ins)}{thr:Ls ThL}{t:Nat}(ht:t<code.l.length)(h:(nth thr.l t).pc<((nth code.l t).l.length:Int)∨¬(nth thr.l t).wait.l.length=0):endedL code thr=false:=by
 unfold endedL;rw [List.all_eq_false]
 refine ⟨t,by simpa using ht, ?_⟩
 unfold endT
 rcases h with h|h
 ·rw [decide_eq_false (by omega)];simp
 ·rw [decide_eq_false h];simp
theorem mayK_t0 {m:Int}{l:List Wt}{k:Nat}(h:k=0):mayK m l k=true:=by unfold mayK;simp [h]
theorem mayK_f1 {m:Int}{l:List Wt}{k:Nat}(h:k≠0)(h2:m=1∨(nth l k).lock=true):mayK m l k=false:=by unfold mayK;rcases h2 with h2|h2<;>simp [h,h2]
theorem mayK_f2 {m:Int}{l:List Wt}{k:Nat}(h:k≠0)(i:Nat)(hi:i<k)(h2:(nth l i).lock=true∨(nth l i).wh=(nth l k).wh):mayK m l k=false:=by
 have e:(List.range k).all (fun i=> !((nth l i).lock||decide ((nth l i).wh=(nth l k).wh)))=false:=by
  rw [List.all_eq_false]
  exact ⟨i,by simpa using hi,by rcases h2 with h2|h2<;>simp [h2]⟩
 unfold mayK
 rw [e]
 simp [h]
theorem mayK_t {m:Int}{l:List Wt}{k:Nat}(h:m≠1)(h2:(nth l k).lock=false)(ha:∀j,j<k→(nth l j).lock=false∧(nth l j).wh≠(nth l k).wh):mayK m l k=true:=by
 have e:(List.range k).all (fun i=> !((nth l i).lock||decide ((nth l i).wh=(nth l k).wh)))=true:=by
  rw [List.all_eq_true]
  intro j hj
  obtain ⟨h3,h4⟩:=ha j (by simpa using hj)
  simp [h3,h4]
 unfold mayK
 rw [e]
 simp [h,h2]
theorem bit_c (b:Bool)(W:World):
    Rets Tryz.prog 113 [.bool b] W (fun v w' =>v= .int .i64 (bit b)∧Sh0 W w' []):=by
 refine gen Tryz.func113 Tryz.ntmps113 (Sh0.start _:Sh (fun _=>False) W W []) rfl fun a10 h10=>gG h10<|sG (oM 1 rfl<|.nl)<|gK fun _ k12=>sG (oM 1 rfl<|.nl)<|?_;clear h10
 refine gCb rfl (fun hb14=> ?_) fun hb14=> ?_
 ·skip
  refine sG (oM 1 rfl<|.nl)<|gR<|uT<|fun a16 w16 h16=>x_ret1 (fn:=Tryz.f113) (t:=2) rfl h16 rfl<|⟨?_,(h16.sh.sel [] rfl)⟩
  first|(rw [show b=true by assumption];rfl)|(rw [show b=false by assumption];rfl)
 refine gS<|hK k12<|sG (oM 1 rfl<|.nl)<|gR<|fun a18 w18 h18=>x_ret1 (fn:=Tryz.f113) (t:=2) rfl h18 rfl<|⟨?_,(h18.sh.sel [] rfl)⟩
 first|(rw [show b=true by assumption];rfl)|(rw [show b=false by assumption];rfl)
theorem may_c (g:Nat)(l:Ls Wt)(k:Nat)(cv:Value)(pw:Value)(locks:Int)(regs:Int)(mode:Int)(tv:Value)(uv:Value)(ov:Value)(pv:Value)(fell:Bool)(W:World)(hB:Blk W g 111 #[cv,pw, .int .i64 locks, .int .i64 regs, .int .i64 mode,tv,uv,ov,pv, .bool fell])(h_l:l.At W)(hk:k<l.l.length):
    Rets Tryz.prog 110 [.pointer (some ⟨g,0,none⟩),l.v, .int .i64 ((k:Nat):Int)] W (fun v w' =>v= .bool (mayK mode l.l k)∧Sh0 W w' []):=by
 refine gen Tryz.func110 Tryz.ntmps110 (Sh0.ext (by intro A hA;simp at hA;rcases hA with rfl|rfl;exact hB;exact h_l) (by intro A hA b hb;simp at hA;rcases hA with rfl|rfl<;>exact hb):Sh (fun _=>False) W W [.rblk g 111 [cv,pw, .int .i64 locks, .int .i64 regs, .int .i64 mode,tv,uv,ov,pv, .bool fell], .at_ l]) rfl fun a10 h10=>gG h10<|sG (oM 1 rfl<|.nl)<|gK fun _ k12=>sG (oM 1 rfl<|oeqN _ 0 rfl<|.nl)<|?_;clear h10
 refine gcd rfl (fun hb14 hp14=> ?_) fun hb14 hp14=> ?_
 ·skip
  refine sG (oM 1 rfl<|.nl)<|gR<|uT<|fun a16 w16 h16=>x_ret1 (fn:=Tryz.f110) (t:=6) rfl h16 rfl<|⟨?_,(h16.sh.sel [] rfl)⟩
  congr 1
  first|exact (mayK_t0 (by omega)).symm|exact (mayK_f1 (by omega) (by first|exact .inl (by omega)|exact .inr (by assumption))).symm|exact (mayK_f2 (by omega) i (by omega) (by first|exact .inl (by assumption)|exact .inr (by omega))).symm|exact (mayK_t (by omega) (by assumption) (fun j hj=>hall j (by omega))).symm
 refine gS<|hK k12<|gK fun _ k17=>sK fun _ k18=>gRn (oM 1 rfl<|onf fl_111_1 rfl<|olR 0 ti_3 rfl rfl<|oeqI _ _ rfl<|oM 1 rfl<|.nl)<|?_
 rcases dsp (mode=1) with ⟨hb19,hp19⟩|⟨hb19,hp19⟩
 ·skip
  refine gRn (oKs 5 hb19 rfl rfl<|opT hb19 rfl<|.nl)<|nK k18<|gcT rfl rfl<|sG (oM 1 rfl<|.nl)<|gR<|uT<|fun a21 w21 h21=>x_ret1 (fn:=Tryz.f110) (t:=6) rfl h21 rfl<|⟨?_,(h21.sh.sel [] rfl)⟩
  congr 1
  first|exact (mayK_t0 (by omega)).symm|exact (mayK_f1 (by omega) (by first|exact .inl (by omega)|exact .inr (by assumption))).symm|exact (mayK_f2 (by omega) i (by omega) (by first|exact .inl (by assumption)|exact .inr (by omega))).symm|exact (mayK_t (by omega) (by assumption) (fun j hj=>hall j (by omega))).symm
 refine gNl (aA 1 rfl) fun hl22=>gRn (oG hb19 (r_move rfl rfl) rfl<|oG hb19 (r_move rfl rfl) rfl<|oG hb19 (r_ixN (s:=l) (q:=k) sl_117 ti_167 rfl rfl rfl (fun w h=>(h.at 1 rfl)) (show k<l.l.length from om9)) rfl<|oG hb19 (r_fieldE (r:=0) fl_167_0 rfl rfl rfl) rfl<|oG hb19 (r_lde (s:=l) (i:=k) (v:= .bool ((nth l.l k).lock)) ti_4 rfl rfl rfl (fun w h=>(h.at 1 rfl)) (show k<l.l.length from om9) (Nat.le_of_ble_eq_true rfl) rfl) rfl<|opF hb19 rfl<|.nl)<|nK k18<|gCb rfl (fun hb23=> ?_) fun hb23=> ?_
 ·skip
  refine sG (oM 1 rfl<|.nl)<|gR<|uT<|fun a25 w25 h25=>x_ret1 (fn:=Tryz.f110) (t:=6) rfl h25 rfl<|⟨?_,(h25.sh.sel [] rfl)⟩
  congr 1
  first|exact (mayK_t0 (by omega)).symm|exact (mayK_f1 (by omega) (by first|exact .inl (by omega)|exact .inr (by assumption))).symm|exact (mayK_f2 (by omega) i (by omega) (by first|exact .inl (by assumption)|exact .inr (by omega))).symm|exact (mayK_t (by omega) (by assumption) (fun j hj=>hall j (by omega))).symm
 refine gS<|hK k17<|gK fun _ k26=>sG (oM 1 rfl<|.nl)<|gB<|fun a29 w29 h29=>x_loop (fun m a w=>∃(i:Nat),(i≤k)∧(∀j,j<i→(nth l.l j).lock=false∧(nth l.l j).wh≠(nth l.l k).wh)∧St 45 (fun _=>False) W a w [(1,l.v),(2, .int .i64 ((k:Nat):Int)),(7, .int .i64 ((i:Nat):Int))] [.rblk g 111 [cv,pw, .int .i64 locks, .int .i64 regs, .int .i64 mode,tv,uv,ov,pv, .bool fell], .at_ l]∧m=k-i) ⟨_,0,(by omega),(fun j hj=>absurd hj (by omega)),h29.nf ⟨rfl,rfl,rfl,trivial⟩,rfl⟩ ?_
 clear h29
 rintro m28 a28 w28 ⟨i,hi,hall,h28,hm28⟩
 refine gG h28<|gK fun _ k30=>sG (oM 2 rfl<|oltN _ _ rfl<|.nl)<|?_;clear h28
 refine gcd rfl (fun hb32 hp32=> ?_) fun hb32 hp32=> ?_
 ·skip
  refine gS<|hK k30<|gK fun _ k33=>gB<|gK fun _ k34=>fun a35 w35 h35=>x_quiet (by kernel_rfl) (by kernel_rfl) h35 fun _ z36=>qQ h35.fr<|qRn (oM 2 rfl<|oxN sl_117 ti_167 (aA 1 rfl) _ om9 rfl<|ofE fl_167_0 rfl<|olE (.bool ((nth l.l i).lock)) ti_4 (aA 1 rfl) om9 rfl<|oM 1 rfl<|.nl)<|?_
  rcases Bool.eq_false_or_eq_true ((nth l.l i).lock) with hb37|hb37
  ·skip
   refine qRn (oKs 11 hb37 rfl rfl<|opT hb37 rfl<|.nl)<|qN z36<|?_;clear h35
   refine hK k34<|gcT rfl rfl<|sG (oM 1 rfl<|.nl)<|gF [6] rfl<|gR<|uB<|uT<|uT<|uB<|uT<|fun a40 w40 h40=>x_ret1 (fn:=Tryz.f110) (t:=6) rfl h40 rfl<|⟨?_,(h40.sh.sel [] rfl)⟩
   congr 1
   first|exact (mayK_t0 (by omega)).symm|exact (mayK_f1 (by omega) (by first|exact .inl (by omega)|exact .inr (by assumption))).symm|exact (mayK_f2 (by omega) i (by omega) (by first|exact .inl (by assumption)|exact .inr (by omega))).symm|exact (mayK_t (by omega) (by assumption) (fun j hj=>hall j (by omega))).symm
  refine qRn (oG hb37 (r_move rfl rfl) rfl<|oG hb37 (r_move rfl rfl) rfl<|oG hb37 (r_ixN (s:=l) (q:=i) sl_117 ti_167 rfl rfl rfl (fun w h=>(h.at 1 rfl)) (show i<l.l.length from om9)) rfl<|oG hb37 (r_fieldE (r:=1) fl_167_1 rfl rfl rfl) rfl<|oG hb37 (r_lde (s:=l) (i:=i) (v:= .int .i64 ((nth l.l i).wh)) ti_3 rfl rfl rfl (fun w h=>(h.at 1 rfl)) (show i<l.l.length from om9) (Nat.le_of_ble_eq_true rfl) rfl) rfl<|oG hb37 (r_move rfl rfl) rfl<|oG hb37 (r_move rfl rfl) rfl<|oG hb37 (r_ixN (s:=l) (q:=k) sl_117 ti_167 rfl rfl rfl (fun w h=>(h.at 1 rfl)) (show k<l.l.length from om9)) rfl<|oG hb37 (r_fieldE (r:=1) fl_167_1 rfl rfl rfl) rfl<|oG hb37 (r_lde (s:=l) (i:=k) (v:= .int .i64 ((nth l.l k).wh)) ti_3 rfl rfl rfl (fun w h=>(h.at 1 rfl)) (show k<l.l.length from om9) (Nat.le_of_ble_eq_true rfl) rfl) rfl<|oG hb37 (r_eqlI (p:=(nth l.l i).wh) (q:=(nth l.l k).wh) rfl rfl rfl) rfl<|opF hb37 rfl<|.nl)<|qN z36<|?_;clear h35
  refine hK k34<|gcd rfl (fun hb52 hp52=> ?_) fun hb52 hp52=> ?_
  ·skip
   refine sG (oM 1 rfl<|.nl)<|gF [6] rfl<|gR<|uB<|uT<|uT<|uB<|uT<|fun a54 w54 h54=>x_ret1 (fn:=Tryz.f110) (t:=6) rfl h54 rfl<|⟨?_,(h54.sh.sel [] rfl)⟩
   congr 1
   first|exact (mayK_t0 (by omega)).symm|exact (mayK_f1 (by omega) (by first|exact .inl (by omega)|exact .inr (by assumption))).symm|exact (mayK_f2 (by omega) i (by omega) (by first|exact .inl (by assumption)|exact .inr (by omega))).symm|exact (mayK_t (by omega) (by assumption) (fun j hj=>hall j (by omega))).symm
  refine gS<|hK k33<|gL<|gRn (oM 1 rfl<|oadN _ 1 om9 rfl<|oM 1 rfl<|.nl)<|nN<|fun a55 w55 h55=>x_again ⟨_, ?_,i+1, ?_, ?_,h55.nf ⟨rfl,rfl,rfl,trivial⟩,rfl⟩
  · rw [hm28];first|omega|(simp only [lens9];omega)
  · omega
  · intro j hj;rcases Nat.lt_or_ge j i with h|h;(exact hall j h);obtain rfl:j=i:=(by omega);exact ⟨by assumption,by omega⟩
 refine gX<|hK k26<|sG (oM 1 rfl<|.nl)<|gR<|fun a57 w57 h57=>x_ret1 (fn:=Tryz.f110) (t:=6) rfl h57 rfl<|⟨?_,(h57.sh.sel [] rfl)⟩
 congr 1
 first|exact (mayK_t0 (by omega)).symm|exact (mayK_f1 (by omega) (by first|exact .inl (by omega)|exact .inr (by assumption))).symm|exact (mayK_f2 (by omega) i (by omega) (by first|exact .inl (by assumption)|exact .inr (by omega))).symm|exact (mayK_t (by omega) (by assumption) (fun j hj=>hall j (by omega))).symm
theorem next_c (g t:Nat)(code:Ls (Ls Ins))(thr:Ls ThV)(pw:Value)(locks:Int)(regs:Int)(mode:Int)(uv:Value)(ov:Value)(pv:Value)(fell:Bool)(W:World)(hB:Blk W g 111 #[code.v,pw, .int .i64 locks, .int .i64 regs, .int .i64 mode,thr.v,uv,ov,pv, .bool fell])(h_code:code.At W)(h_thr:thr.At W)(ht:t<code.l.length)(ht2:t<thr.l.length)(hpc:0≤(nth thr.l t).pc):
    Rets Tryz.prog 108 [.pointer (some ⟨g,0,none⟩), .int .i64 ((t:Nat):Int)] W (fun v w' =>v= .tuple #[(nextIns (nth code.l t).l (nth thr.l t).pc).val, .bool (decide ((nth thr.l t).pc<((nth code.l t).l.length:Int)))]∧Sh0 W w' []):=by
 refine gen Tryz.func108 Tryz.ntmps108 (Sh0.ext (by intro A hA;simp at hA;rcases hA with rfl|rfl|rfl;exact hB;exact h_code;exact h_thr) (by intro A hA b hb;simp at hA;rcases hA with rfl|rfl|rfl<;>exact hb):Sh (fun _=>False) W W [.rblk g 111 [code.v,pw, .int .i64 locks, .int .i64 regs, .int .i64 mode,thr.v,uv,ov,pv, .bool fell], .at_ code, .at_ thr]) rfl fun a10 h10=>gG h10<|sK fun _ k11=>gal ti_32 rfl fun b12=>gRn (oM 1 rfl<|.nl)<|nK k11<|sK fun _ k13=>gNl (aA 2 rfl) fun hl14=>gRn (oM 1 rfl<|onf fl_111_0 rfl<|ofB fl_25_0 rfl<|olR 1 ti_22 rfl rfl<|oM 1 rfl<|oxN sl_22 ti_33 (aA 2 rfl) _ om9 rfl<|olE ((nth code.l t).v) ti_33 (aA 2 rfl) om9 rfl<|oM 1 rfl<|.nl)<|nK k13<|sK fun _ k15=>gNl (aA 3 rfl) fun hl16=>gRn (oM 1 rfl<|onf fl_111_2 rfl<|olR 1 ti_109 rfl rfl<|oM 1 rfl<|oxN sl_109 ti_119 (aA 3 rfl) _ om9 rfl<|ofE fl_119_0 rfl<|olI ti_3 (aA 3 rfl) om9 rfl<|oM 1 rfl<|.nl)<|nK k15<|gK fun _ k17=>sK fun _ k18=>gNl (fun w h=>((h.at 2 rfl).nth t (show t<code.l.length from (by omega)))) fun (hl19:((nth code.l t).l).length≤140737488355328)=>gRn (oM 2 rfl<|oln (n:=((nth code.l t).l).length) sl_33 (fun w h=>((h.at 2 rfl).nth t (show t<code.l.length from (by omega)))) rfl<|ogeI _ _ rfl<|.nl)<|nK k18<|?_;clear h10
 refine gcd rfl (fun hb20 hp20=> ?_) fun hb20 hp20=> ?_
 ·skip
  refine sK fun _ k21=>gRn (oV (r_build (cs:= [.int .i64 0, .int .i64 0, .int .i64 0, .int .i64 0]) rfl rfl (by kernel_rfl)) rfl<|.nl)<|gsw 0 ti_32 rfl rfl rfl<|gRn (oM 1 rfl<|.nl)<|nK k21<|gF [4,5] rfl<|gR<|uT<|fun a23 w23 h23=>x_retct (fn:=Tryz.f108) (t:=4) (u:=5) (i:=0) ti_32 rfl h23 rfl rfl rfl rfl<|⟨?_,(h23.sh.sel [] rfl)⟩
  first|(rw [nextIns_t (by omega),decide_eq_true (by omega)];rfl)|(rw [nextIns_f (by omega),decide_eq_false (by omega)];rfl)
 refine gS<|hK k17<|gF [4,6,7] rfl<|sK fun _ k24=>gRn (oM 2 rfl<|oxI sl_33 ti_32 (fun w h=>((h.at 2 rfl).nth t (show t<code.l.length from (by omega)))) om9 rfl<|olw2 [.int .i64 ((nth ((nth code.l t).l) (((nth thr.l t).pc).toNat)).op), .int .i64 ((nth ((nth code.l t).l) (((nth thr.l t).pc).toNat)).a), .int .i64 ((nth ((nth code.l t).l) (((nth thr.l t).pc).toNat)).b), .int .i64 ((nth ((nth code.l t).l) (((nth thr.l t).pc).toNat)).c)] ti_32 (fun w h=>((h.at 2 rfl).nth t (show t<code.l.length from (by omega)))) om9 rfl<|.nl)<|gsw 0 ti_32 rfl rfl rfl<|gRn (oM 1 rfl<|.nl)<|nK k24<|gR<|fun a26 w26 h26=>x_retct (fn:=Tryz.f108) (t:=4) (u:=5) (i:=0) ti_32 rfl h26 rfl rfl rfl rfl<|⟨?_,(h26.sh.sel [] rfl)⟩
 first|(rw [nextIns_t (by omega),decide_eq_true (by omega)];rfl)|(rw [nextIns_f (by omega),decide_eq_false (by omega)];rfl)
theorem able_c (g t:Nat)(code:Ls (Ls Ins))(thr:Ls ThL)(owner:Ls Int)(pw:Value)(locks:Int)(regs:Int)(mode:Int)(uv:Value)(pv:Value)(fell:Bool)(W:World)(hB:Blk W g 111 #[code.v,pw, .int .i64 locks, .int .i64 regs, .int .i64 mode,thr.v,uv,owner.v,pv, .bool fell])(h_code:code.At W)(h_thr:thr.At W)(h_owner:owner.At W)(ht:t<code.l.length)(htl:thr.l.length=code.l.length)(hpc:∀t,t<code.l.length→0≤(nth thr.l t).pc)(hlk:∀i,i<(nth code.l t).l.length→(nth (nth code.l t).l i).op=17→0≤(nth (nth code.l t).l i).a∧(nth (nth code.l t).l i).a<owner.l.length):
    Rets Tryz.prog 109 [.pointer (some ⟨g,0,none⟩), .int .i64 ((t:Nat):Int)] W (fun v w' =>v= .bool (decide ((nth thr.l t).pc<((nth code.l t).l.length:Int))&&ableL owner.l (nth thr.l t).wait.l.length (nextIns (nth code.l t).l (nth thr.l t).pc))∧Sh0 W w' []):=by
 refine gen Tryz.func109 Tryz.ntmps109 (Sh0.ext (by intro A hA;simp at hA;rcases hA with rfl|rfl|rfl|rfl;exact hB;exact h_code;exact h_thr;exact h_owner) (by intro A hA b hb;simp at hA;rcases hA with rfl|rfl|rfl|rfl<;>exact hb):Sh (fun _=>False) W W [.rblk g 111 [code.v,pw, .int .i64 locks, .int .i64 regs, .int .i64 mode,thr.v,uv,owner.v,pv, .bool fell], .at_ code, .at_ thr, .at_ owner]) rfl fun a10 h10=>gG h10<|sG (oM 1 rfl<|.nl)<|sK fun _ k12=>gRn (oM 2 rfl<|.nl)<|fun a14 w14 h14=>wl_ex (x_call h14 bd_108 rfl rfl rfl rfl rfl (next_c g t code ⟨thr.v,thr.l.map ThL.toV⟩ _ _ _ _ _ _ _ _ _ (h14.sh.rblk 0 rfl) (h14.sh.at 1 rfl) (ThL.atV (h14.sh.at 2 rfl)) (by first|omega|(simp only [lens9];omega)) (by simp;omega) (by rw [nth_map' _ _ _ (by omega)];exact hpc t (by omega)))) (wanted_none rfl _) ?_;clear h10
 rintro a15 w15 ⟨_,⟨hv15,hs15⟩,hf15⟩
 rw [nth_map' _ _ _ (show t<thr.l.length from (by omega)),show (ThL.toV (nth thr.l t)).pc=(nth thr.l t).pc from rfl] at hv15
 subst hv15
 have h15:St 53 (fun _=>False) W a15 w15 _ _:=⟨hf15,h14.sh.call0 hs15⟩
 clear hf15 hs15
 clear h14
 refine gG h15<|gRn (oM 1 rfl<|oxt rfl<|oxt rfl<|.nl)<|gal ti_32 rfl fun b16=>gsw 0 ti_32 rfl rfl rfl<|gRn (oM 1 rfl<|.nl)<|nK k12<|gK fun _ k18=>sG (oM 1 rfl<|ont rfl<|.nl)<|?_;clear h15
 refine gCb rfl (fun hb20=> ?_) fun hb20=> ?_
 ·have hp20:¬((nth thr.l t).pc<((nth code.l t).l.length:Int)):=by simpa using hb20
  refine sG (oM 1 rfl<|.nl)<|gR<|uT<|fun a22 w22 h22=>x_ret1 (fn:=Tryz.f109) (t:=4) rfl h22 rfl<|⟨?_,(h22.sh.sel [] rfl)⟩
  congr 1
  first|exact and_f' (by omega)|(refine and_t' (by omega) ?_;unfold ableL;first|(rw [if_pos (by omega)];done)|(rw [if_neg (by omega),if_pos (by omega)];done)|(rw [if_neg (by omega),if_neg (by omega),if_pos (by omega)];first|exact and_f' (by omega)|exact and_t' (by omega) rfl)|(rw [if_neg (by omega),if_neg (by omega),if_neg (by omega)]))
 have hp20:(nth thr.l t).pc<((nth code.l t).l.length:Int):=by simpa using hb20
 refine gS<|hK k18<|?_
 have hpc0:=hpc t (by omega)
 have hnx:=nextIns_t (c:=(nth code.l t).l) (pc:=(nth thr.l t).pc) (by omega)
 have hlk2:=hlk (nth thr.l t).pc.toNat (by omega)
 rw [←hnx] at hlk2
 refine sK fun _ k23=>gNl (aA 3 rfl) fun hl24=>gNl (fun w h=>((h.at 3 rfl).inner t (show t<thr.l.length from (by omega))).2) fun (hl25:(((nth thr.l t).wait).l).length≤140737488355328)=>gRn (oM 1 rfl<|onf fl_111_2 rfl<|olR 1 ti_109 rfl rfl<|oM 1 rfl<|oxN sl_109 ti_119 (aA 3 rfl) _ om9 rfl<|ofE fl_119_2 rfl<|olE (((nth thr.l t).wait).v) ti_117 (aA 3 rfl) om9 rfl<|oln (n:=(((nth thr.l t).wait).l).length) sl_117 (fun w h=>((h.at 3 rfl).inner t (show t<thr.l.length from (by omega))).2) rfl<|oM 1 rfl<|.nl)<|nK k23<|gK fun _ k26=>sG (ofB fl_32_0 rfl<|olB 0 ti_3 rfl rfl<|.nl)<|gB<|gK fun _ k28=>sG (oeqI _ _ rfl<|oM 1 rfl<|.nl)<|gcd rfl (fun hb30 hp30=> ?_) fun hb30 hp30=> ?_
 ·skip
  refine gS<|hK k28<|gcT rfl hb30<|sG (oM 1 rfl<|oltN _ 3 rfl<|oM 1 rfl<|.nl)<|gF [4] rfl<|gR<|uB<|uT<|fun a32 w32 h32=>x_ret1 (fn:=Tryz.f109) (t:=4) rfl h32 rfl<|⟨?_,(h32.sh.sel [] rfl)⟩
  congr 1
  first|exact and_f' (by omega)|(refine and_t' (by omega) ?_;unfold ableL;first|(rw [if_pos (by omega)];done)|(rw [if_neg (by omega),if_pos (by omega)];done)|(rw [if_neg (by omega),if_neg (by omega),if_pos (by omega)];first|exact and_f' (by omega)|exact and_t' (by omega) rfl)|(rw [if_neg (by omega),if_neg (by omega),if_neg (by omega)]))
 refine sG (oeqI _ _ rfl<|oM 1 rfl<|.nl)<|gF [0,5,7,26,27] rfl<|gcd rfl (fun hb34 hp34=> ?_) fun hb34 hp34=> ?_
 ·skip
  refine gS<|hK k28<|gcT rfl hb34<|sG (oM 1 rfl<|oltN _ 3 rfl<|oM 1 rfl<|.nl)<|gR<|uB<|uT<|fun a36 w36 h36=>x_ret1 (fn:=Tryz.f109) (t:=4) rfl h36 rfl<|⟨?_,(h36.sh.sel [] rfl)⟩
  congr 1
  first|exact and_f' (by omega)|(refine and_t' (by omega) ?_;unfold ableL;first|(rw [if_pos (by omega)];done)|(rw [if_neg (by omega),if_pos (by omega)];done)|(rw [if_neg (by omega),if_neg (by omega),if_pos (by omega)];first|exact and_f' (by omega)|exact and_t' (by omega) rfl)|(rw [if_neg (by omega),if_neg (by omega),if_neg (by omega)]))
 refine gL<|gRn (oeqI _ _ rfl<|oM 1 rfl<|.nl)<|nK k28<|gcd rfl (fun hb37 hp37=> ?_) fun hb37 hp37=> ?_
 ·skip
  refine sG (oM 1 rfl<|oltN _ 3 rfl<|oM 1 rfl<|.nl)<|gR<|uB<|uT<|fun a39 w39 h39=>x_ret1 (fn:=Tryz.f109) (t:=4) rfl h39 rfl<|⟨?_,(h39.sh.sel [] rfl)⟩
  congr 1
  first|exact and_f' (by omega)|(refine and_t' (by omega) ?_;unfold ableL;first|(rw [if_pos (by omega)];done)|(rw [if_neg (by omega),if_pos (by omega)];done)|(rw [if_neg (by omega),if_neg (by omega),if_pos (by omega)];first|exact and_f' (by omega)|exact and_t' (by omega) rfl)|(rw [if_neg (by omega),if_neg (by omega),if_neg (by omega)]))
 refine gK fun _ k40=>sG (oeqI _ _ rfl<|oM 1 rfl<|.nl)<|gcd rfl (fun hb42 hp42=> ?_) fun hb42 hp42=> ?_
 ·skip
  refine gS<|hK k40<|gcT rfl hb42<|sG (oM 1 rfl<|oeqN _ 0 rfl<|oM 1 rfl<|.nl)<|gR<|uB<|uT<|fun a44 w44 h44=>x_ret1 (fn:=Tryz.f109) (t:=4) rfl h44 rfl<|⟨?_,(h44.sh.sel [] rfl)⟩
  congr 1
  first|exact and_f' (by omega)|(refine and_t' (by omega) ?_;unfold ableL;first|(rw [if_pos (by omega)];done)|(rw [if_neg (by omega),if_pos (by omega)];done)|(rw [if_neg (by omega),if_neg (by omega),if_pos (by omega)];first|exact and_f' (by omega)|exact and_t' (by omega) rfl)|(rw [if_neg (by omega),if_neg (by omega),if_neg (by omega)]))
 refine gL<|gRn (oeqI _ _ rfl<|oM 1 rfl<|.nl)<|nK k40<|gcd rfl (fun hb45 hp45=> ?_) fun hb45 hp45=> ?_
 ·skip
  refine sG (oM 1 rfl<|oeqN _ 0 rfl<|oM 1 rfl<|.nl)<|gR<|uB<|uT<|fun a47 w47 h47=>x_ret1 (fn:=Tryz.f109) (t:=4) rfl h47 rfl<|⟨?_,(h47.sh.sel [] rfl)⟩
  congr 1
  first|exact and_f' (by omega)|(refine and_t' (by omega) ?_;unfold ableL;first|(rw [if_pos (by omega)];done)|(rw [if_neg (by omega),if_pos (by omega)];done)|(rw [if_neg (by omega),if_neg (by omega),if_pos (by omega)];first|exact and_f' (by omega)|exact and_t' (by omega) rfl)|(rw [if_neg (by omega),if_neg (by omega),if_neg (by omega)]))
 refine sG (oeqI _ _ rfl<|oM 1 rfl<|.nl)<|gcd rfl (fun hb49 hp49=> ?_) fun hb49 hp49=> ?_
 ·skip
  refine gK fun _ k50=>fun a51 w51 h51=>x_quiet (by kernel_rfl) (by kernel_rfl) h51 fun _ z52=>qQ h51.fr<|qRn (oM 1 rfl<|oeqN _ 0 rfl<|oM 1 rfl<|.nl)<|?_
  rcases dsp ((((nth thr.l t).wait).l).length=0) with ⟨hb53,hp53⟩|⟨hb53,hp53⟩
  ·skip
   refine qRn (oG hb53 (r_move rfl rfl) rfl<|oG hb53 (r_nil rfl rfl) rfl<|oG hb53 (r_fieldB (r:=7) fl_111_4 rfl rfl rfl) rfl<|oG hb53 (r_ldbR ti_23 rfl rfl (fun w h=>h.rblk 1 rfl) rfl) rfl<|oG hb53 (r_fieldB (r:=1) fl_32_1 rfl rfl rfl) rfl<|oG hb53 (r_ldb (i:=0) ti_3 rfl rfl rfl rfl) rfl<|.nl)<|?_
   have hl61:owner.l.length≤140737488355328:=(h51.sh.at 4 rfl).len
   refine qRn (oG hb53 (r_ixI (s:=owner) (q:=(nextIns (nth code.l t).l (nth thr.l t).pc).a) sl_23 ti_3 rfl rfl rfl (fun w h=>(h.at 4 rfl)) (show 0≤(nextIns (nth code.l t).l (nth thr.l t).pc).a∧(nextIns (nth code.l t).l (nth thr.l t).pc).a<owner.l.length from om9)) rfl<|oG hb53 (r_lde (s:=owner) (i:=((nextIns (nth code.l t).l (nth thr.l t).pc).a).toNat) (v:= .int .i64 (nth owner.l (((nextIns (nth code.l t).l (nth thr.l t).pc).a).toNat))) ti_3 rfl rfl rfl (fun w h=>(h.at 4 rfl)) (show ((nextIns (nth code.l t).l (nth thr.l t).pc).a).toNat<owner.l.length from om9) (Nat.le_of_ble_eq_true rfl) rfl) rfl<|oG hb53 (r_eqlI (p:=nth owner.l (((nextIns (nth code.l t).l (nth thr.l t).pc).a).toNat)) (q:=(-1)) rfl rfl rfl) rfl<|opT hb53 rfl<|oM 1 rfl<|.nl)<|qN z52<|?_;clear h51
   refine hK k50<|gF [4] rfl<|gR<|uB<|uT<|fun a64 w64 h64=>x_ret1 (fn:=Tryz.f109) (t:=4) rfl h64 rfl<|⟨?_,(h64.sh.sel [] rfl)⟩
   congr 1
   first|exact and_f' (by omega)|(refine and_t' (by omega) ?_;unfold ableL;first|(rw [if_pos (by omega)];done)|(rw [if_neg (by omega),if_pos (by omega)];done)|(rw [if_neg (by omega),if_neg (by omega),if_pos (by omega)];first|exact and_f' (by omega)|exact and_t' (by omega) rfl)|(rw [if_neg (by omega),if_neg (by omega),if_neg (by omega)]))
  refine qRn (oKs 9 hb53 rfl rfl<|opF hb53 rfl<|oM 1 rfl<|.nl)<|qN z52<|?_;clear h51
  refine hK k50<|gF [4] rfl<|gR<|uB<|uT<|fun a66 w66 h66=>x_ret1 (fn:=Tryz.f109) (t:=4) rfl h66 rfl<|⟨?_,(h66.sh.sel [] rfl)⟩
  congr 1
  first|exact and_f' (by omega)|(refine and_t' (by omega) ?_;unfold ableL;first|(rw [if_pos (by omega)];done)|(rw [if_neg (by omega),if_pos (by omega)];done)|(rw [if_neg (by omega),if_neg (by omega),if_pos (by omega)];first|exact and_f' (by omega)|exact and_t' (by omega) rfl)|(rw [if_neg (by omega),if_neg (by omega),if_neg (by omega)]))
 refine gS<|hK k26<|sG (oM 1 rfl<|.nl)<|gR<|fun a68 w68 h68=>x_ret1 (fn:=Tryz.f109) (t:=4) rfl h68 rfl<|⟨?_,(h68.sh.sel [] rfl)⟩
 congr 1
 first|exact and_f' (by omega)|(refine and_t' (by omega) ?_;unfold ableL;first|(rw [if_pos (by omega)];done)|(rw [if_neg (by omega),if_pos (by omega)];done)|(rw [if_neg (by omega),if_neg (by omega),if_pos (by omega)];first|exact and_f' (by omega)|exact and_t' (by omega) rfl)|(rw [if_neg (by omega),if_neg (by omega),if_neg (by omega)]))
theorem moves_c (g:Nat)(code:Ls (Ls Ins))(thr:Ls ThL)(owner:Ls Int)(pw:Value)(locks:Int)(regs:Int)(mode:Int)(uv:Value)(pv:Value)(fell:Bool)(W:World)(hB:Blk W g 111 #[code.v,pw, .int .i64 locks, .int .i64 regs, .int .i64 mode,thr.v,uv,owner.v,pv, .bool fell])(h_code:code.At W)(h_thr:thr.At W)(h_owner:owner.At W)(hcl:code.l.length≤4)(htl:thr.l.length=code.l.length)(hpc:∀t,t<code.l.length→0≤(nth thr.l t).pc)(hlk:∀t,t<code.l.length→∀i,i<(nth code.l t).l.length→(nth (nth code.l t).l i).op=17→0≤(nth (nth code.l t).l i).a∧(nth (nth code.l t).l i).a<owner.l.length)(hw:∀t,t<code.l.length→(nth thr.l t).wait.l.length≤3):
    Rets Tryz.prog 70 [.pointer (some ⟨g,0,none⟩)] W (fun v w' =>∃s:Ls Int,v=s.v∧s.l=movesL mode code thr owner.l code.l.length∧Sh0 W w' [.own 3 s]):=by
 refine gen Tryz.func70 Tryz.ntmps70 (Sh0.ext (by intro A hA;simp at hA;rcases hA with rfl|rfl|rfl|rfl;exact hB;exact h_code;exact h_thr;exact h_owner) (by intro A hA b hb;simp at hA;rcases hA with rfl|rfl|rfl|rfl<;>exact hb):Sh (fun _=>False) W W [.rblk g 111 [code.v,pw, .int .i64 locks, .int .i64 regs, .int .i64 mode,thr.v,uv,owner.v,pv, .bool fell], .at_ code, .at_ thr, .at_ owner]) rfl fun a10 h10=>gG h10<|sG (oM 1 rfl<|.nl)<|sG (oM 1 rfl<|.nl)<|gK fun _ k13=>sG (oM 1 rfl<|.nl)<|gB<|fun a17 w17 h17=> ?_;clear h10
 have h16:=h17.nil (α:=Int) 3
 clear h17
 refine x_loop (fun m a w=>∃(t:Nat) (ml:List Int) (vm:Value),(t≤thr.l.length)∧(ml=movesL mode code thr owner.l t)∧(ml.length≤4*t)∧St 60 (fun _=>False) W a w [(0, .pointer (some ⟨g,0,none⟩)),(3,vm),(4, .int .i64 ((t:Nat):Int))] [.rblk g 111 [code.v,pw, .int .i64 locks, .int .i64 regs, .int .i64 mode,thr.v,uv,owner.v,pv, .bool fell], .at_ code, .at_ thr, .at_ owner, .own 3 (⟨vm,ml⟩:Ls Int)]∧m=thr.l.length-t) ⟨_,0, [],(.slice none 0 0),(by omega),(rfl),(by simp),h16.nrm ⟨rfl,rfl,rfl,trivial⟩ [1,2,3,4,0] rfl,rfl⟩ ?_
 clear h16
 rintro m15 a15 w15 ⟨t,ml,vm,ht,hml,hmn,h15,hm15⟩
 refine gG h15<|gK fun _ k18=>sK fun _ k19=>gNl (aA 2 rfl) fun hl20=>gRn (oM 2 rfl<|onf fl_111_2 rfl<|olR 0 ti_109 rfl rfl<|oln sl_109 (aA 2 rfl) rfl<|oltN _ _ rfl<|.nl)<|nK k19<|?_;clear h15
 refine gcd rfl (fun hb21 hp21=> ?_) fun hb21 hp21=> ?_
 ·skip
  refine gS<|hK k18<|gK fun _ k22=>gB<|sK fun _ k23=>gRn (oM 2 rfl<|.nl)<|gC (fun _ _ h_=>xCl h_ bd_109 rfl (able_c g t code thr owner _ _ _ _ _ _ _ _ (h_.sh.rblk 0 rfl) (h_.sh.at 1 rfl) (h_.sh.at 2 rfl) (h_.sh.at 3 rfl) (by omega) htl hpc (hlk t (by omega)))) rfl<|?_
  rintro _ _ w24 ⟨rfl,hs24⟩
  refine gWk hs24 rfl<|gU<|gRn (oM 1 rfl<|.nl)<|nK k23<|gK fun _ k25=>sG (oM 1 rfl<|.nl)<|?_;clear hs24
  refine gCb rfl (fun hb27=> ?_) fun hb27=> ?_
  ·skip
   refine gL<|gRn (oM 2 rfl<|omlN 8 _ om9 rfl<|.nl)<|gE1 (fun _ _ h_=>x_lit (n:=1) (cs:= [.int .i64 ((8*t:Nat):Int)]) ([((8*t:Nat):Int)]:List Int) h_ sl_23 ti_3 rfl rfl rfl (by decide) rfl (by kernel_rfl) rfl (fun q hq w h=>Flat.inner _ _) (fun q hq b hb=>(Flat.on _ _ hb).elim) rfl rfl) rfl fun v28=>gE1 (fun _ _ h_=>x_app (r:=5) (rm:=0) (s:=(⟨vm,ml⟩:Ls Int)) (m:=(⟨v28, [((8*t:Nat):Int)]⟩:Ls Int)) h_ sl_23 ti_3 rfl rfl rfl rfl rfl rfl rfl (fun w h=>(h.own 0 rfl)) (fun b hb=>own_on (h_.sh.ok _ (List.mem_of_getElem? (i:=0) rfl)) hb) (fun q hq b hb=>⟨q,hq,hb⟩) rfl rfl rfl inferInstance (show (ml.length+([((8*t:Nat):Int)]).length)*8≤140737488355328∧ml.length+([((8*t:Nat):Int)]).length≤140737488355328 from om9) rfl rfl) rfl fun v29=>gRn (oM 1 rfl<|.nl)<|nK k25<|sG (oM 1 rfl<|.nl)<|gB<|?_
   have hwt:=hw t (by omega)
   intro a32 w32 h32
   refine x_loop (fun m a w=>∃(k:Nat) (ml2:List Int) (vm2:Value),(k≤(nth thr.l t).wait.l.length)∧(ml2=ml++((if ableT code thr owner.l t=true then [((8*t:Nat):Int)] else [])++mayT mode thr t k))∧(ml2.length≤4*t+1+k)∧St 60 (fun _=>False) W a w [(0, .pointer (some ⟨g,0,none⟩)),(3,vm2),(4, .int .i64 ((t:Nat):Int)),(6, .int .i64 ((k:Nat):Int))] [.own 3 (⟨v28, [((8*t:Nat):Int)]⟩:Ls Int), .rblk g 111 [code.v,pw, .int .i64 locks, .int .i64 regs, .int .i64 mode,thr.v,uv,owner.v,pv, .bool fell], .at_ code, .at_ thr, .at_ owner, .own 3 (⟨vm2,ml2⟩:Ls Int)]∧m=(nth thr.l t).wait.l.length-k) ⟨_,0,ml++([((8*t:Nat):Int)]),v29,(by omega),(by first|(rw [if_pos (by assumption)];simp [mayT])|(rw [if_neg (by rw [show ableT code thr owner.l t=false by assumption];decide)];simp [mayT])),(by simp;omega),h32.nf ⟨rfl,rfl,rfl,rfl,trivial⟩,rfl⟩ ?_
   clear h32
   rintro m31 a31 w31 ⟨k,ml2,vm2,hk,hml2,hmn2,h31,hm31⟩
   refine gG h31<|gK fun _ k33=>sK fun _ k34=>gNl (fun w h=>((h.at 3 rfl).inner t (show t<thr.l.length from (by omega))).2) fun (hl35:(((nth thr.l t).wait).l).length≤140737488355328)=>gRn (oM 2 rfl<|onf fl_111_2 rfl<|olR 1 ti_109 rfl rfl<|oM 1 rfl<|oxN sl_109 ti_119 (aA 3 rfl) _ om9 rfl<|ofE fl_119_2 rfl<|olE (((nth thr.l t).wait).v) ti_117 (aA 3 rfl) om9 rfl<|oln (n:=(((nth thr.l t).wait).l).length) sl_117 (fun w h=>((h.at 3 rfl).inner t (show t<thr.l.length from (by omega))).2) rfl<|oltN _ _ rfl<|.nl)<|nK k34<|?_;clear h31
   refine gcd rfl (fun hb36 hp36=> ?_) fun hb36 hp36=> ?_
   ·skip
    refine gS<|hK k33<|gK fun _ k37=>gB<|sK fun _ k38=>gRn (oM 2 rfl<|onf fl_111_2 rfl<|olR 1 ti_109 rfl rfl<|oM 1 rfl<|oxN sl_109 ti_119 (aA 3 rfl) _ om9 rfl<|ofE fl_119_2 rfl<|olE (((nth thr.l t).wait).v) ti_117 (aA 3 rfl) om9 rfl<|oM 1 rfl<|.nl)<|gC (fun _ _ h_=>xCl h_ bd_110 rfl (may_c g ((nth thr.l t).wait) k _ _ _ _ _ _ _ _ _ _ _ (h_.sh.rblk 1 rfl) ((h_.sh.at 3 rfl).inner t (show t<thr.l.length from (by omega))).2 (by omega))) rfl<|?_
    rintro _ _ w39 ⟨rfl,hs39⟩
    refine gWk hs39 rfl<|gU<|gRn (oM 1 rfl<|.nl)<|nK k38<|sG (oM 1 rfl<|.nl)<|gF [0,3,4,6,50] rfl<|?_;clear hs39
    refine gCb rfl (fun hb41=> ?_) fun hb41=> ?_
    ·skip
     refine gL<|gRn (oM 2 rfl<|omlN 8 _ om9 rfl<|oM 1 rfl<|oadN _ _ om9 rfl<|oadN _ 1 om9 rfl<|.nl)<|gE1 (fun _ _ h_=>x_lit (n:=1) (cs:= [.int .i64 ((((8*t)+k)+1:Nat):Int)]) ([((((8*t)+k)+1:Nat):Int)]:List Int) h_ sl_23 ti_3 rfl rfl rfl (by decide) rfl (by kernel_rfl) rfl (fun q hq w h=>Flat.inner _ _) (fun q hq b hb=>(Flat.on _ _ hb).elim) rfl rfl) rfl fun v42=>gE1 (fun _ _ h_=>x_app (r:=6) (rm:=0) (s:=(⟨vm2,ml2⟩:Ls Int)) (m:=(⟨v42, [((((8*t)+k)+1:Nat):Int)]⟩:Ls Int)) h_ sl_23 ti_3 rfl rfl rfl rfl rfl rfl rfl (fun w h=>(h.own 0 rfl)) (fun b hb=>own_on (h_.sh.ok _ (List.mem_of_getElem? (i:=0) rfl)) hb) (fun q hq b hb=>⟨q,hq,hb⟩) rfl rfl rfl inferInstance (show (ml2.length+([((((8*t)+k)+1:Nat):Int)]).length)*8≤140737488355328∧ml2.length+([((((8*t)+k)+1:Nat):Int)]).length≤140737488355328 from om9) rfl rfl) rfl fun v43=>gRn (oM 1 rfl<|.nl)<|nK k37<|gL<|gRn (oM 1 rfl<|oadN _ 1 om9 rfl<|oM 1 rfl<|.nl)<|nN<|fun a44 w44 h44=>x_again ⟨_, ?_,k+1,ml2++([((((8*t)+k)+1:Nat):Int)]),v43, ?_, ?_, ?_,h44.nrm ⟨rfl,rfl,rfl,rfl,trivial⟩ [1,2,3,4,5,6] rfl,rfl⟩
     · rw [hm31];first|omega|(simp only [lens9];omega)
     · omega
     · first|(rw [mayT_t (by assumption),hml2];simp only [List.append_assoc])|(rw [mayT_f (by assumption),hml2])
     · first|omega|(simp;omega)
    refine gS<|hK k37<|gL<|gRn (oM 1 rfl<|oadN _ 1 om9 rfl<|oM 1 rfl<|.nl)<|nN<|fun a45 w45 h45=>x_again ⟨_, ?_,k+1,ml2,vm2, ?_, ?_, ?_,h45.nf ⟨rfl,rfl,rfl,rfl,trivial⟩,rfl⟩
    · rw [hm31];first|omega|(simp only [lens9];omega)
    · omega
    · first|(rw [mayT_t (by assumption),hml2];simp only [List.append_assoc])|(rw [mayT_f (by assumption),hml2])
    · first|omega|(simp;omega)
   refine gX<|hK k22<|gL<|gRn (oM 1 rfl<|oadN _ 1 om9 rfl<|oM 1 rfl<|.nl)<|nN<|fun a46 w46 h46=>x_again ⟨_, ?_,t+1,ml2,vm2, ?_, ?_, ?_,h46.nrm ⟨rfl,rfl,rfl,trivial⟩ [1,2,3,4,5] rfl,rfl⟩
   · rw [hm15];first|omega|(simp only [lens9];omega)
   · omega
   · rw [movesL_succ,←hml,hml2,moveT,show k=(nth thr.l t).wait.l.length by omega]
   · omega
  refine gS<|hK k25<|sG (oM 1 rfl<|.nl)<|gB<|?_
  have hwt:=hw t (by omega)
  intro a49 w49 h49
  refine x_loop (fun m a w=>∃(k:Nat) (ml2:List Int) (vm2:Value),(k≤(nth thr.l t).wait.l.length)∧(ml2=ml++((if ableT code thr owner.l t=true then [((8*t:Nat):Int)] else [])++mayT mode thr t k))∧(ml2.length≤4*t+1+k)∧St 60 (fun _=>False) W a w [(0, .pointer (some ⟨g,0,none⟩)),(3,vm2),(4, .int .i64 ((t:Nat):Int)),(6, .int .i64 ((k:Nat):Int))] [.rblk g 111 [code.v,pw, .int .i64 locks, .int .i64 regs, .int .i64 mode,thr.v,uv,owner.v,pv, .bool fell], .at_ code, .at_ thr, .at_ owner, .own 3 (⟨vm2,ml2⟩:Ls Int)]∧m=(nth thr.l t).wait.l.length-k) ⟨_,0,ml,vm,(by omega),(by first|(rw [if_pos (by assumption)];simp [mayT])|(rw [if_neg (by rw [show ableT code thr owner.l t=false by assumption];decide)];simp [mayT])),(by simp;omega),h49.nf ⟨rfl,rfl,rfl,rfl,trivial⟩,rfl⟩ ?_
  clear h49
  rintro m48 a48 w48 ⟨k,ml2,vm2,hk,hml2,hmn2,h48,hm48⟩
  refine gG h48<|gK fun _ k50=>sK fun _ k51=>gNl (fun w h=>((h.at 2 rfl).inner t (show t<thr.l.length from (by omega))).2) fun (hl52:(((nth thr.l t).wait).l).length≤140737488355328)=>gRn (oM 2 rfl<|onf fl_111_2 rfl<|olR 0 ti_109 rfl rfl<|oM 1 rfl<|oxN sl_109 ti_119 (aA 2 rfl) _ om9 rfl<|ofE fl_119_2 rfl<|olE (((nth thr.l t).wait).v) ti_117 (aA 2 rfl) om9 rfl<|oln (n:=(((nth thr.l t).wait).l).length) sl_117 (fun w h=>((h.at 2 rfl).inner t (show t<thr.l.length from (by omega))).2) rfl<|oltN _ _ rfl<|.nl)<|nK k51<|?_;clear h48
  refine gcd rfl (fun hb53 hp53=> ?_) fun hb53 hp53=> ?_
  ·skip
   refine gS<|hK k50<|gK fun _ k54=>gB<|sK fun _ k55=>gRn (oM 2 rfl<|onf fl_111_2 rfl<|olR 0 ti_109 rfl rfl<|oM 1 rfl<|oxN sl_109 ti_119 (aA 2 rfl) _ om9 rfl<|ofE fl_119_2 rfl<|olE (((nth thr.l t).wait).v) ti_117 (aA 2 rfl) om9 rfl<|oM 1 rfl<|.nl)<|gC (fun _ _ h_=>xCl h_ bd_110 rfl (may_c g ((nth thr.l t).wait) k _ _ _ _ _ _ _ _ _ _ _ (h_.sh.rblk 0 rfl) ((h_.sh.at 2 rfl).inner t (show t<thr.l.length from (by omega))).2 (by omega))) rfl<|?_
   rintro _ _ w56 ⟨rfl,hs56⟩
   refine gWk hs56 rfl<|gU<|gRn (oM 1 rfl<|.nl)<|nK k55<|sG (oM 1 rfl<|.nl)<|gF [0,3,4,6,50] rfl<|?_;clear hs56
   refine gCb rfl (fun hb58=> ?_) fun hb58=> ?_
   ·skip
    refine gL<|gRn (oM 2 rfl<|omlN 8 _ om9 rfl<|oM 1 rfl<|oadN _ _ om9 rfl<|oadN _ 1 om9 rfl<|.nl)<|gE1 (fun _ _ h_=>x_lit (n:=1) (cs:= [.int .i64 ((((8*t)+k)+1:Nat):Int)]) ([((((8*t)+k)+1:Nat):Int)]:List Int) h_ sl_23 ti_3 rfl rfl rfl (by decide) rfl (by kernel_rfl) rfl (fun q hq w h=>Flat.inner _ _) (fun q hq b hb=>(Flat.on _ _ hb).elim) rfl rfl) rfl fun v59=>gE1 (fun _ _ h_=>x_app (r:=5) (rm:=0) (s:=(⟨vm2,ml2⟩:Ls Int)) (m:=(⟨v59, [((((8*t)+k)+1:Nat):Int)]⟩:Ls Int)) h_ sl_23 ti_3 rfl rfl rfl rfl rfl rfl rfl (fun w h=>(h.own 0 rfl)) (fun b hb=>own_on (h_.sh.ok _ (List.mem_of_getElem? (i:=0) rfl)) hb) (fun q hq b hb=>⟨q,hq,hb⟩) rfl rfl rfl inferInstance (show (ml2.length+([((((8*t)+k)+1:Nat):Int)]).length)*8≤140737488355328∧ml2.length+([((((8*t)+k)+1:Nat):Int)]).length≤140737488355328 from om9) rfl rfl) rfl fun v60=>gRn (oM 1 rfl<|.nl)<|nK k54<|gL<|gRn (oM 1 rfl<|oadN _ 1 om9 rfl<|oM 1 rfl<|.nl)<|nN<|fun a61 w61 h61=>x_again ⟨_, ?_,k+1,ml2++([((((8*t)+k)+1:Nat):Int)]),v60, ?_, ?_, ?_,h61.nrm ⟨rfl,rfl,rfl,rfl,trivial⟩ [1,2,3,4,5] rfl,rfl⟩
    · rw [hm48];first|omega|(simp only [lens9];omega)
    · omega
    · first|(rw [mayT_t (by assumption),hml2];simp only [List.append_assoc])|(rw [mayT_f (by assumption),hml2])
    · first|omega|(simp;omega)
   refine gS<|hK k54<|gL<|gRn (oM 1 rfl<|oadN _ 1 om9 rfl<|oM 1 rfl<|.nl)<|nN<|fun a62 w62 h62=>x_again ⟨_, ?_,k+1,ml2,vm2, ?_, ?_, ?_,h62.nf ⟨rfl,rfl,rfl,rfl,trivial⟩,rfl⟩
   · rw [hm48];first|omega|(simp only [lens9];omega)
   · omega
   · first|(rw [mayT_t (by assumption),hml2];simp only [List.append_assoc])|(rw [mayT_f (by assumption),hml2])
   · first|omega|(simp;omega)
  refine gX<|hK k22<|gL<|gRn (oM 1 rfl<|oadN _ 1 om9 rfl<|oM 1 rfl<|.nl)<|nN<|fun a63 w63 h63=>x_again ⟨_, ?_,t+1,ml2,vm2, ?_, ?_, ?_,h63.nf ⟨rfl,rfl,rfl,trivial⟩,rfl⟩
  · rw [hm15];first|omega|(simp only [lens9];omega)
  · omega
  · rw [movesL_succ,←hml,hml2,moveT,show k=(nth thr.l t).wait.l.length by omega]
  · omega
 refine gX<|hK k13<|sG (oM 2 rfl<|.nl)<|gR<|fun a65 w65 h65=>x_ret1 (fn:=Tryz.f70) (t:=2) rfl h65 rfl<|⟨⟨vm,ml⟩,rfl, ?_,(h65.sh.sel [4] rfl)⟩
 rw [←show t=code.l.length by omega];exact hml
theorem ended_c (g:Nat)(code:Ls (Ls Ins))(thr:Ls ThL)(pw:Value)(locks:Int)(regs:Int)(mode:Int)(uv:Value)(ov:Value)(pv:Value)(fell:Bool)(W:World)(hB:Blk W g 111 #[code.v,pw, .int .i64 locks, .int .i64 regs, .int .i64 mode,thr.v,uv,ov,pv, .bool fell])(h_code:code.At W)(h_thr:thr.At W)(hcl:code.l.length≤4)(htl:thr.l.length=code.l.length)(hpc:∀t,t<code.l.length→0≤(nth thr.l t).pc):
    Rets Tryz.prog 69 [.pointer (some ⟨g,0,none⟩)] W (fun v w' =>v= .bool (endedL code thr)∧Sh0 W w' []):=by
 refine gen Tryz.func69 Tryz.ntmps69 (Sh0.ext (by intro A hA;simp at hA;rcases hA with rfl|rfl|rfl;exact hB;exact h_code;exact h_thr) (by intro A hA b hb;simp at hA;rcases hA with rfl|rfl|rfl<;>exact hb):Sh (fun _=>False) W W [.rblk g 111 [code.v,pw, .int .i64 locks, .int .i64 regs, .int .i64 mode,thr.v,uv,ov,pv, .bool fell], .at_ code, .at_ thr]) rfl fun a10 h10=>gG h10<|sG (oM 1 rfl<|.nl)<|gK fun _ k12=>sG (oM 1 rfl<|.nl)<|gB<|fun a15 w15 h15=>x_loop (fun m a w=>∃(t:Nat),(t≤thr.l.length)∧(∀j,j<t→endT code thr j=true)∧St 34 (fun _=>False) W a w [(0, .pointer (some ⟨g,0,none⟩)),(3, .int .i64 ((t:Nat):Int))] [.rblk g 111 [code.v,pw, .int .i64 locks, .int .i64 regs, .int .i64 mode,thr.v,uv,ov,pv, .bool fell], .at_ code, .at_ thr]∧m=thr.l.length-t) ⟨_,0,(by omega),(fun j hj=>absurd hj (by omega)),h15.nf ⟨rfl,rfl,trivial⟩,rfl⟩ ?_;clear h10
 clear h15
 rintro m14 a14 w14 ⟨t,ht,hall,h14,hm14⟩
 refine gG h14<|gK fun _ k16=>sK fun _ k17=>gNl (aA 2 rfl) fun hl18=>gRn (oM 2 rfl<|onf fl_111_2 rfl<|olR 0 ti_109 rfl rfl<|oln sl_109 (aA 2 rfl) rfl<|oltN _ _ rfl<|.nl)<|nK k17<|?_;clear h14
 refine gcd rfl (fun hb19 hp19=> ?_) fun hb19 hp19=> ?_
 ·skip
  refine gS<|hK k16<|gK fun _ k20=>gB<|sK fun _ k21=>gRn (oM 2 rfl<|.nl)<|fun a23 w23 h23=>wl_ex (x_call h23 bd_108 rfl rfl rfl rfl rfl (next_c g t code ⟨thr.v,thr.l.map ThL.toV⟩ _ _ _ _ _ _ _ _ _ (h23.sh.rblk 0 rfl) (h23.sh.at 1 rfl) (ThL.atV (h23.sh.at 2 rfl)) (by first|omega|(simp only [lens9];omega)) (by simp;omega) (by rw [nth_map' _ _ _ (by omega)];exact hpc t (by omega)))) (wanted_none rfl _) ?_
  rintro a24 w24 ⟨_,⟨hv24,hs24⟩,hf24⟩
  rw [nth_map' _ _ _ (show t<thr.l.length from (by omega)),show (ThL.toV (nth thr.l t)).pc=(nth thr.l t).pc from rfl] at hv24
  subst hv24
  have h24:St 34 (fun _=>False) W a24 w24 _ _:=⟨hf24,h23.sh.call0 hs24⟩
  clear hf24 hs24
  clear h23
  refine gG h24<|gRn (oM 1 rfl<|oxt rfl<|oxt rfl<|.nl)<|gal ti_32 rfl fun b25=>gsw 0 ti_32 rfl rfl rfl<|gRn (oM 1 rfl<|.nl)<|nK k21<|sK fun _ k27=>gRn (oM 2 rfl<|.nl)<|?_;clear h24
  rcases dsp ((nth thr.l t).pc<((nth code.l t).l.length:Int)) with ⟨hb28,hp28⟩|⟨hb28,hp28⟩
  ·skip
   refine gRn (oKs 10 hb28 rfl rfl<|opT hb28 rfl<|.nl)<|nK k27<|gF [0,3,33] rfl<|gcT rfl rfl<|sG (oM 1 rfl<|.nl)<|gR<|uB<|uT<|uT<|uB<|uT<|fun a30 w30 h30=>x_ret1 (fn:=Tryz.f69) (t:=2) rfl h30 rfl<|⟨?_,(h30.sh.sel [] rfl)⟩
   congr 1
   first|exact (endedL_t (fun j hj=>hall j (by omega))).symm|exact (endedL_f (t:=t) (by omega) (by omega)).symm
  refine gNl (fun w h=>((h.at 3 rfl).inner t (show t<thr.l.length from (by omega))).2) fun (hl31:(((nth thr.l t).wait).l).length≤140737488355328)=>gRn (oG hb28 (r_move rfl rfl) rfl<|oG hb28 (r_nil rfl rfl) rfl<|oG hb28 (r_fieldB (r:=5) fl_111_2 rfl rfl rfl) rfl<|oG hb28 (r_ldbR ti_109 rfl rfl (fun w h=>h.rblk 1 rfl) rfl) rfl<|oG hb28 (r_move rfl rfl) rfl<|oG hb28 (r_ixN (s:=thr) (q:=t) sl_109 ti_119 rfl rfl rfl (fun w h=>(h.at 3 rfl)) (show t<thr.l.length from om9)) rfl<|oG hb28 (r_fieldE (r:=2) fl_119_2 rfl rfl rfl) rfl<|oG hb28 (r_lde (s:=thr) (i:=t) (v:=((nth thr.l t).wait).v) ti_117 rfl rfl rfl (fun w h=>(h.at 3 rfl)) (show t<thr.l.length from om9) (Nat.le_of_ble_eq_true rfl) rfl) rfl<|oG hb28 (r_len (s:=(nth thr.l t).wait) (n:=(((nth thr.l t).wait).l).length) sl_117 rfl rfl (fun w h=>((h.at 3 rfl).inner t (show t<thr.l.length from om9)).2) rfl) rfl<|oG hb28 (r_gtrN (p:=(((nth thr.l t).wait).l).length) (q:=0) rfl rfl rfl) rfl<|opF hb28 rfl<|.nl)<|nK k27<|gF [0,3,33] rfl<|gcd rfl (fun hb32 hp32=> ?_) fun hb32 hp32=> ?_
  ·skip
   refine sG (oM 1 rfl<|.nl)<|gR<|uB<|uT<|uT<|uB<|uT<|fun a34 w34 h34=>x_ret1 (fn:=Tryz.f69) (t:=2) rfl h34 rfl<|⟨?_,(h34.sh.sel [] rfl)⟩
   congr 1
   first|exact (endedL_t (fun j hj=>hall j (by omega))).symm|exact (endedL_f (t:=t) (by omega) (by omega)).symm
  refine gS<|hK k20<|gL<|gRn (oM 1 rfl<|oadN _ 1 om9 rfl<|oM 1 rfl<|.nl)<|nN<|fun a35 w35 h35=>x_again ⟨_, ?_,t+1, ?_, ?_,h35.nrm ⟨rfl,rfl,trivial⟩ [1,2,3] rfl,rfl⟩
  · rw [hm14];first|omega|(simp only [lens9];omega)
  · omega
  · intro j hj;rcases Nat.lt_or_ge j t with h|h;(exact hall j h);obtain rfl:j=t:=(by omega);exact endT_t (by omega) (by omega)
 refine gX<|hK k12<|sG (oM 1 rfl<|.nl)<|gR<|fun a37 w37 h37=>x_ret1 (fn:=Tryz.f69) (t:=2) rfl h37 rfl<|⟨?_,(h37.sh.sel [] rfl)⟩
 congr 1
 first|exact (endedL_t (fun j hj=>hall j (by omega))).symm|exact (endedL_f (t:=t) (by omega) (by omega)).symm
theorem findsL_some {l:List Wt}{words:List Int}{w:Int}{i:Nat}(hi:i<l.length)(h1:(nth l i).lock=false)(h2:(nth l i).wh=w)(ha:∀j,i<j→j<l.length→¬((nth l j).lock=false∧(nth l j).wh=w)):findsL l words w=(nth l i).what:=by
 have e:l.reverse.find? (fun x=> !x.lock&&decide (x.wh=w))=some (nth l i):=by
  have hs:l=l.take i++nth l i::l.drop (i+1):=by
   have:=List.take_append_drop i l
   rw [List.drop_eq_getElem_cons hi] at this
   rw [show nth l i=l[i] from by simp [nth,hi]]
   exact this.symm
  rw [hs,List.reverse_append,List.reverse_cons,List.find?_append,List.find?_append]
  have hn:(l.drop (i+1)).reverse.find? (fun x=> !x.lock&&decide (x.wh=w))=none:=by
   rw [List.find?_eq_none]
   intro x hx
   rw [List.mem_reverse] at hx
   obtain ⟨k,hk,rfl⟩:=List.mem_iff_getElem.1 hx
   have hk2:i+1+k<l.length:=by simpa [Nat.lt_sub_iff_add_lt,Nat.add_comm] using hk
   have:=ha (i+1+k) (by omega) hk2
   rw [show nth l (i+1+k)=(l.drop (i+1))[k] from by simp [nth,hk2]] at this
   intro hc
   simp only [Bool.and_eq_true,Bool.not_eq_true',decide_eq_true_eq] at hc
   exact this hc
  rw [←hs,hn]
  simp [h1,h2]
 unfold findsL
 rw [e]
theorem findsL_none {l:List Wt}{words:List Int}{w:Int}(ha:∀j,j<l.length→¬((nth l j).lock=false∧(nth l j).wh=w)):findsL l words w=nth words w.toNat:=by
 have e:l.reverse.find? (fun x=> !x.lock&&decide (x.wh=w))=none:=by
  rw [List.find?_eq_none]
  intro x hx
  rw [List.mem_reverse] at hx
  obtain ⟨k,hk,rfl⟩:=List.mem_iff_getElem.1 hx
  have:=ha k hk
  rw [show nth l k=l[k] from by simp [nth,hk]] at this
  intro hc
  simp only [Bool.and_eq_true,Bool.not_eq_true',decide_eq_true_eq] at hc
  exact this hc
 unfold findsL
 rw [e]
theorem finds_c (g t:Nat)(word:Int)(thr:Ls ThV)(words:Ls Int)(wait:Ls Wt)(cv pw:Value)(locks regs mode:Int)(ov pv:Value)(fell:Bool)(W:World)(hB:Blk W g 111 #[cv,pw, .int .i64 locks, .int .i64 regs, .int .i64 mode,thr.v,words.v,ov,pv, .bool fell])(h_thr:thr.At W)(h_words:words.At W)(h_wait:wait.At W)(ht:t<thr.l.length)(hwv:(nth thr.l t).wv=wait.v)(hwo:0≤word∧word<words.l.length):
    Rets Tryz.prog 114 [.pointer (some ⟨g,0,none⟩), .int .i64 ((t:Nat):Int), .int .i64 word] W (fun v w' =>v= .int .i64 (findsL wait.l words.l word)∧Sh0 W w' []):=by
 refine gen Tryz.func114 Tryz.ntmps114 (Sh0.ext (by intro A hA;simp at hA;rcases hA with rfl|rfl|rfl|rfl;exact hB;exact h_thr;exact h_words;exact h_wait) (by intro A hA b hb;simp at hA;rcases hA with rfl|rfl|rfl|rfl<;>exact hb):Sh (fun _=>False) W W [.rblk g 111 [cv,pw, .int .i64 locks, .int .i64 regs, .int .i64 mode,thr.v,words.v,ov,pv, .bool fell], .at_ thr, .at_ words, .at_ wait]) rfl fun a10 h10=>gG h10<|sG (oM 1 rfl<|.nl)<|sK fun _ k12=>gNl (aA 1 rfl) fun hl13=>gRn (oM 1 rfl<|onf fl_111_2 rfl<|olR 0 ti_109 rfl rfl<|oM 1 rfl<|oxN sl_109 ti_119 (aA 1 rfl) _ om9 rfl<|ofE fl_119_2 rfl<|oV (Rn.same (r_lde (s:=thr) (i:=t) (v:=((nth thr.l t).wv)) ti_117 rfl rfl rfl (fun w h=>(h.at 1 rfl)) (show t<thr.l.length from om9) (Nat.le_of_ble_eq_true rfl) rfl) hwv) rfl<|oM 1 rfl<|.nl)<|nK k12<|gK fun _ k14=>sK fun _ k15=>gNl (aA 3 rfl) fun hl16=>gRn (oM 1 rfl<|oln sl_117 (aA 3 rfl) rfl<|osbI _ _ om9 rfl<|oM 1 rfl<|.nl)<|nK k15<|gB<|fun a18 w18 h18=>x_loop (fun m a w=>∃(i:Int),(-1≤i∧i<wait.l.length)∧(∀j:Nat,i<j→j<wait.l.length→¬((nth wait.l j).lock=false∧(nth wait.l j).wh=word))∧St 51 (fun _=>False) W a w [(0, .pointer (some ⟨g,0,none⟩)),(2, .int .i64 word),(7,wait.v),(8, .int .i64 i)] [.rblk g 111 [cv,pw, .int .i64 locks, .int .i64 regs, .int .i64 mode,thr.v,words.v,ov,pv, .bool fell], .at_ thr, .at_ words, .at_ wait]∧m=(i+1).toNat) ⟨_,((wait.l.length:Nat):Int)-1,(by omega),(fun j hj hj2=>absurd hj (by omega)),h18.nf ⟨rfl,rfl,rfl,rfl,trivial⟩,rfl⟩ ?_;clear h10
 clear h18
 rintro m17 a17 w17 ⟨i,hi,hall,h17,hm17⟩
 refine gG h17<|gK fun _ k19=>sG (oM 1 rfl<|ogeI _ _ rfl<|.nl)<|?_;clear h17
 refine gcd rfl (fun hb21 hp21=> ?_) fun hb21 hp21=> ?_
 ·skip
  refine gS<|hK k19<|gK fun _ k22=>gB<|sK fun _ k23=>gRn (oM 2 rfl<|oxI sl_117 ti_167 (aA 3 rfl) om9 rfl<|ofE fl_167_0 rfl<|olE (.bool ((nth wait.l i.toNat).lock)) ti_4 (aA 3 rfl) om9 rfl<|ont rfl<|oM 1 rfl<|.nl)<|?_
  rcases Bool.eq_false_or_eq_true (!((nth wait.l i.toNat).lock)) with hb24|hb24
  ·have hn24:(nth wait.l i.toNat).lock=false:=(Bool.not_eq_true' _).mp hb24
   refine gRn (oG hb24 (r_move rfl rfl) rfl<|oG hb24 (r_move rfl rfl) rfl<|oG hb24 (r_ixI (s:=wait) (q:=i) sl_117 ti_167 rfl rfl rfl (fun w h=>(h.at 3 rfl)) (show 0≤i∧i<wait.l.length from om9)) rfl<|oG hb24 (r_fieldE (r:=1) fl_167_1 rfl rfl rfl) rfl<|oG hb24 (r_lde (s:=wait) (i:=i.toNat) (v:= .int .i64 ((nth wait.l i.toNat).wh)) ti_3 rfl rfl rfl (fun w h=>(h.at 3 rfl)) (show i.toNat<wait.l.length from om9) (Nat.le_of_ble_eq_true rfl) rfl) rfl<|oG hb24 (r_move rfl rfl) rfl<|oG hb24 (r_eqlI (p:=(nth wait.l i.toNat).wh) (q:=word) rfl rfl rfl) rfl<|opT hb24 rfl<|.nl)<|nK k23<|gcd rfl (fun hb25 hp25=> ?_) fun hb25 hp25=> ?_
   ·skip
    refine sG (oM 2 rfl<|oxI sl_117 ti_167 (aA 3 rfl) om9 rfl<|ofE fl_167_2 rfl<|olI ti_3 (aA 3 rfl) om9 rfl<|oM 1 rfl<|.nl)<|gF [6] rfl<|gR<|uB<|uT<|uT<|uB<|uT<|fun a27 w27 h27=>x_ret1 (fn:=Tryz.f114) (t:=6) rfl h27 rfl<|⟨?_,(h27.sh.sel [] rfl)⟩
    congr 1
    first|exact (findsL_some (i:=i.toNat) (by omega) (by assumption) (by omega) (fun j hj hj2=>hall j (by omega) hj2)).symm|exact (findsL_none (fun j hj=>hall j (by omega) hj)).symm
   refine gS<|hK k22<|gL<|gRn (oM 1 rfl<|osbI _ _ om9 rfl<|oM 1 rfl<|.nl)<|nN<|fun a28 w28 h28=>x_again ⟨_, ?_,i-1, ?_, ?_,h28.nf ⟨rfl,rfl,rfl,rfl,trivial⟩,rfl⟩
   · rw [hm17];first|omega|(simp only [lens9];omega)
   · omega
   · intro j hj hj2;by_cases h9:i<j;(exact hall j h9 hj2);obtain rfl:j=i.toNat:=(by omega);first|(rintro ⟨h8,_⟩;exact absurd (h8.symm.trans (show _=true by assumption)) (by decide))|(rintro ⟨_,h8⟩;omega)
  have hn24:(nth wait.l i.toNat).lock=true:=(Bool.not_eq_false' _).mp hb24
  refine gRn (oKs 7 hb24 rfl rfl<|opF hb24 rfl<|.nl)<|nK k23<|gcF rfl rfl<|gS<|hK k22<|gL<|gRn (oM 1 rfl<|osbI _ _ om9 rfl<|oM 1 rfl<|.nl)<|nN<|fun a29 w29 h29=>x_again ⟨_, ?_,i-1, ?_, ?_,h29.nf ⟨rfl,rfl,rfl,rfl,trivial⟩,rfl⟩
  · rw [hm17];first|omega|(simp only [lens9];omega)
  · omega
  · intro j hj hj2;by_cases h9:i<j;(exact hall j h9 hj2);obtain rfl:j=i.toNat:=(by omega);first|(rintro ⟨h8,_⟩;exact absurd (h8.symm.trans (show _=true by assumption)) (by decide))|(rintro ⟨_,h8⟩;omega)
 refine gX<|hK k14<|sK fun _ k30=>gNl (aA 2 rfl) fun hl31=>gRn (oM 1 rfl<|onf fl_111_3 rfl<|olR 0 ti_23 rfl rfl<|oM 1 rfl<|oxI sl_23 ti_3 (aA 2 rfl) om9 rfl<|olI ti_3 (aA 2 rfl) om9 rfl<|oM 1 rfl<|.nl)<|nK k30<|gR<|fun a32 w32 h32=>x_ret1 (fn:=Tryz.f114) (t:=6) rfl h32 rfl<|⟨?_,(h32.sh.sel [] rfl)⟩
 congr 1
 first|exact (findsL_some (i:=i.toNat) (by omega) (by assumption) (by omega) (fun j hj hj2=>hall j (by omega) hj2)).symm|exact (findsL_none (fun j hj=>hall j (by omega) hj)).symm
set_option maxHeartbeats 4000000
theorem set_same {l:List ThV}{t:Nat}{v:Value}(h:t<l.length)(e:(nth l t).wv=v):l.set t { nth l t with wv:=v } =l:=by
 subst e
 refine ext_nth _ _ (by simp) fun i hi=> ?_
 rw [nth_set]
 split
 ·rename_i hh;rw [←hh.1]
 ·rfl
theorem done_c (K:Nat→Prop)(g:Nat)(x:Wt)(words owner:Ls Int)(cv pw:Value)(locks regs mode:Int)(tv pv:Value)(fell:Bool)(W:World)(hS:Sh K W W [.blk g 111 [cv,pw, .int .i64 locks, .int .i64 regs, .int .i64 mode,tv,words.v,owner.v,pv, .bool fell], .own 3 words, .own 3 owner])(hx:if x.lock=true then 0≤x.wh∧x.wh<owner.l.length else 0≤x.wh∧x.wh<words.l.length):
    Rets Tryz.prog 112 [.pointer (some ⟨g,0,none⟩), .agg #[.bool x.lock, .int .i64 x.wh, .int .i64 x.what]] W (fun v w' =>v= .tuple #[]∧Sh K W w' [.blk g 111 [cv,pw, .int .i64 locks, .int .i64 regs, .int .i64 mode,tv,words.v,owner.v,pv, .bool fell], .own 3 (⟨words.v,if x.lock=true then words.l else words.l.set x.wh.toNat x.what⟩:Ls Int), .own 3 (⟨owner.v,if x.lock=true then owner.l.set x.wh.toNat (-1) else owner.l⟩:Ls Int)]):=by
 refine gen Tryz.func112 Tryz.ntmps112 hS rfl fun a10 h10=>gG h10<|sK fun _ k11=>gbx rfl rfl fun b12=>nK k11<|sG (ofB fl_167_0 rfl<|olB 0 ti_4 rfl rfl<|.nl)<|?_;clear h10
 refine gCb rfl (fun hb14=> ?_) fun hb14=> ?_
 ·skip
  rw [if_pos (by assumption)] at hx
  rw [if_pos (by assumption),if_pos (by assumption)]
  refine gNl (aO 3 rfl) fun hl15=>rT 7 [] (oM 1 rfl<|onfl 1 fl_111_4 ti_23 rfl rfl<|ofB fl_167_1 rfl<|olB 0 ti_3 rfl rfl<|oxI sl_23 ti_3 (aO 3 rfl) om9 rfl<|.nl)<|gte 3 ((-1):Int) ti_3 om9 rfl rfl<|nN<|fun a17 w17 h17=> ?_
  try simp only [Exit.then,Exit.inBlock,if_true]
  refine x_end0 (fn:=Tryz.f112) rfl h17 ?_
  exact ⟨rfl,(h17.sh.sel [1,2,3] rfl)⟩
 rw [if_neg (by rw [show x.lock=false by assumption];decide)] at hx
 rw [if_neg (by rw [show x.lock=false by assumption];decide),if_neg (by rw [show x.lock=false by assumption];decide)]
 refine gNl (aO 2 rfl) fun hl18=>rT 9 [] (oM 1 rfl<|onfl 1 fl_111_3 ti_23 rfl rfl<|ofB fl_167_1 rfl<|olB 0 ti_3 rfl rfl<|ofB fl_167_2 rfl<|olB 0 ti_3 rfl rfl<|oxI sl_23 ti_3 (aO 2 rfl) om9 rfl<|.nl)<|gte 2 (x.what:Int) ti_3 om9 rfl rfl<|nN<|fun a20 w20 h20=> ?_
 try simp only [Exit.then,Exit.inBlock,if_true]
 refine x_end0 (fn:=Tryz.f112) rfl h20 ?_
 exact ⟨rfl,(h20.sh.sel [1,2,3] rfl)⟩
theorem word_c (K:Nat→Prop)(g:Nat)(n:Int)(words:Ls Int)(cv pw:Value)(locks regs mode:Int)(tv ov pv:Value)(fell:Bool)(W:World)(hS:Sh K W W [.blk g 111 [cv,pw, .int .i64 locks, .int .i64 regs, .int .i64 mode,tv,words.v,ov,pv, .bool fell], .own 3 words]):
    Rets Tryz.prog 116 [.pointer (some ⟨g,0,none⟩), .int .i64 n] W (fun v w' =>v= .bool (decide (0≤n∧n<(words.l.length:Int)))∧Sh K W w' [.blk g 111 [cv,pw, .int .i64 locks, .int .i64 regs, .int .i64 mode,tv,words.v,ov,pv, .bool (fell|| !decide (0≤n∧n<(words.l.length:Int)))], .own 3 words]):=by
 refine gen Tryz.func116 Tryz.ntmps116 hS rfl fun a10 h10=>gG h10<|sG (oM 1 rfl<|.nl)<|gK fun _ k12=>sK fun _ k13=>gRn (oM 1 rfl<|oltI _ _ rfl<|oM 1 rfl<|.nl)<|?_;clear h10
 rcases dsp (n<0) with ⟨hb14,hp14⟩|⟨hb14,hp14⟩
 ·skip
  refine gRn (oKs 7 hb14 rfl rfl<|opT hb14 rfl<|.nl)<|nK k13<|gcT rfl rfl<|sK fun _ k15=>gRn (oM 1 rfl<|onf fl_111_6 rfl<|.nl)<|gst (v:= .bool true) 0 ti_4 rfl rfl rfl<|nK k15<|sG (oM 1 rfl<|.nl)<|gR<|uT<|fun a18 w18 h18=>x_ret1 (fn:=Tryz.f116) (t:=4) rfl h18 rfl ?_
  first|(have e9:decide (0≤n∧n<(words.l.length:Int))=true:=decide_eq_true (by omega))|(have e9:decide (0≤n∧n<(words.l.length:Int))=false:=decide_eq_false (by omega))
  rw [e9]
  refine ⟨rfl, ?_⟩
  first|(simp only [Bool.not_true,Bool.or_false];exact h18.sh)|(simp only [Bool.not_false,Bool.or_true];exact h18.sh)
 refine gNl (aO 1 rfl) fun hl19=>gRn (oG hb14 (r_move rfl rfl) rfl<|oG hb14 (r_move rfl rfl) rfl<|oG hb14 (r_nil rfl rfl) rfl<|oG hb14 (r_fieldB (r:=6) fl_111_3 rfl rfl rfl) rfl<|oG hb14 (r_ldb (i:=0) ti_23 rfl rfl rfl rfl) rfl<|oG hb14 (r_len (s:=words) (n:=words.l.length) sl_23 rfl rfl (fun w h=>(h.own 1 rfl)) rfl) rfl<|oG hb14 (r_geqI (p:=n) (q:=((words.l.length:Nat):Int)) rfl rfl rfl) rfl<|opF hb14 rfl<|.nl)<|nK k13<|gcd rfl (fun hb20 hp20=> ?_) fun hb20 hp20=> ?_
 ·skip
  refine sK fun _ k21=>gRn (oM 1 rfl<|onf fl_111_6 rfl<|.nl)<|gst (v:= .bool true) 0 ti_4 rfl rfl rfl<|nK k21<|sG (oM 1 rfl<|.nl)<|gR<|uT<|fun a24 w24 h24=>x_ret1 (fn:=Tryz.f116) (t:=4) rfl h24 rfl ?_
  first|(have e9:decide (0≤n∧n<(words.l.length:Int))=true:=decide_eq_true (by omega))|(have e9:decide (0≤n∧n<(words.l.length:Int))=false:=decide_eq_false (by omega))
  rw [e9]
  refine ⟨rfl, ?_⟩
  first|(simp only [Bool.not_true,Bool.or_false];exact h24.sh)|(simp only [Bool.not_false,Bool.or_true];exact h24.sh)
 refine gS<|hK k12<|sG (oM 1 rfl<|.nl)<|gR<|fun a26 w26 h26=>x_ret1 (fn:=Tryz.f116) (t:=4) rfl h26 rfl ?_
 first|(have e9:decide (0≤n∧n<(words.l.length:Int))=true:=decide_eq_true (by omega))|(have e9:decide (0≤n∧n<(words.l.length:Int))=false:=decide_eq_false (by omega))
 rw [e9]
 refine ⟨rfl, ?_⟩
 first|(simp only [Bool.not_true,Bool.or_false];exact h26.sh)|(simp only [Bool.not_false,Bool.or_true];exact h26.sh)
theorem store_c (K:Nat→Prop)(g t:Nat)(x:Wt)(thr:Ls ThV)(wait:Ls Wt)(words owner:Ls Int)(cv pw:Value)(locks regs mode:Int)(pv:Value)(fell:Bool)(W:World)(hS:Sh K W W [.blk g 111 [cv,pw, .int .i64 locks, .int .i64 regs, .int .i64 mode,thr.v,words.v,owner.v,pv, .bool fell], .own 119 thr, .own 167 wait, .own 3 words, .own 3 owner])(hx:if x.lock=true then 0≤x.wh∧x.wh<owner.l.length else 0≤x.wh∧x.wh<words.l.length)(ht:t<thr.l.length)(hwv:(nth thr.l t).wv=wait.v)(hwl:wait.l.length≤100):
    Rets Tryz.prog 115 [.pointer (some ⟨g,0,none⟩), .int .i64 ((t:Nat):Int), .agg #[.bool x.lock, .int .i64 x.wh, .int .i64 x.what]] W (fun v w' =>v= .tuple #[]∧∃(wait' :Ls Wt) (words' owner' :Ls Int),(if 0<mode then wait'.l=wait.l++ [x]∧words' =words∧owner' =owner else wait' =wait∧words' =(⟨words.v,if x.lock=true then words.l else words.l.set x.wh.toNat x.what⟩:Ls Int)∧owner' =(⟨owner.v,if x.lock=true then owner.l.set x.wh.toNat (-1) else owner.l⟩:Ls Int))∧Sh K W w' [.blk g 111 [cv,pw, .int .i64 locks, .int .i64 regs, .int .i64 mode,thr.v,words'.v,owner'.v,pv, .bool fell], .own 119 (⟨thr.v,thr.l.set t { nth thr.l t with wv:=wait'.v }⟩:Ls ThV), .own 167 wait', .own 3 words', .own 3 owner']):=by
 refine gen Tryz.func115 Tryz.ntmps115 hS rfl fun a10 h10=>gG h10<|sK fun _ k11=>gbx rfl rfl fun b12=>nK k11<|sG (oM 1 rfl<|onfl 1 fl_111_1 ti_3 rfl rfl<|ogtI _ _ rfl<|.nl)<|?_;clear h10
 refine gcd rfl (fun hb14 hp14=> ?_) fun hb14 hp14=> ?_
 ·skip
  refine gNl (aO 2 rfl) fun hl15=>rC [14,15,18] rfl<|pR [0,1,2,3,4,5,6,7,8,9,10,11,12,13] rfl (oM 1 rfl<|onfl 1 fl_111_2 ti_109 rfl rfl<|oM 2 rfl<|onfl 1 fl_111_2 ti_109 rfl rfl<|oM 1 rfl<|oxN sl_109 ti_119 (aO 2 rfl) _ om9 rfl<|ofE fl_119_2 rfl<|oV (Rn.same (r_lde (s:=thr) (i:=t) (v:=((nth thr.l t).wv)) ti_117 rfl rfl rfl (fun w h=>(h.own 2 rfl)) (show t<thr.l.length from om9) (Nat.le_of_ble_eq_true rfl) rfl) hwv) rfl<|olw 0 ti_167 rfl rfl<|.nl) rfl<|pX (fun _ _ h_=>x_lit (n:=1) (cs:= [.bool x.lock, .int .i64 x.wh, .int .i64 x.what]) ([x]:List Wt) h_ sl_117 ti_167 rfl rfl rfl (by decide) rfl (by kernel_rfl) rfl (fun q hq w h=>Flat.inner _ _) (fun q hq b hb=>(Flat.on _ _ hb).elim) rfl rfl) rfl fun v16=>pR [0,1,2,3,4,5,6,7,8,9,10,11,12] rfl (oM 1 rfl<|onfl 2 fl_111_2 ti_109 rfl rfl<|oM 2 rfl<|onfl 2 fl_111_2 ti_109 rfl rfl<|oM 1 rfl<|oxN sl_109 ti_119 (aO 3 rfl) _ om9 rfl<|ofE fl_119_2 rfl<|oV (Rn.same (r_lde (s:=thr) (i:=t) (v:=((nth thr.l t).wv)) ti_117 rfl rfl rfl (fun w h=>(h.own 3 rfl)) (show t<thr.l.length from om9) (Nat.le_of_ble_eq_true rfl) rfl) hwv) rfl<|.nl) rfl<|pX (fun _ _ h_=>x_app (r:=4) (rm:=0) (s:=wait) (m:=(⟨v16, [x]⟩:Ls Wt)) h_ sl_117 ti_167 rfl rfl rfl rfl rfl rfl rfl (fun w h=>(h.own 0 rfl)) (fun b hb=>own_on (h_.sh.ok _ (List.mem_of_getElem? (i:=0) rfl)) hb) (fun q hq b hb=>⟨q,hq,hb⟩) rfl rfl rfl inferInstance (show (wait.l.length+([x]).length)*24≤140737488355328∧wait.l.length+([x]).length≤140737488355328 from om9) rfl rfl) rfl fun v17=>pR [0,1,2,3,4,16,17] rfl (oM 1 rfl<|onfl 2 fl_111_2 ti_109 rfl rfl<|oM 1 rfl<|oxN sl_109 ti_119 (aO 3 rfl) _ om9 rfl<|ofE fl_119_2 rfl<|.nl) rfl<|pS (fun _ _ h_=>x_ste (r:=3) (i:=t) (j:=2) (x' :=({ nth thr.l t with wv:=v17 } :ThV)) h_ ti_117 rfl rfl rfl rfl rfl (show t<thr.l.length from om9) (Nat.le_of_ble_eq_true rfl) rfl (cells_oneL ((h_.sh.own 4 rfl)).one) ((h_.sh.own 4 rfl)).one (by intro q hq;rcases q with _|_|_|q<;>first|rfl|omega) (fun w h=>Flat.inner _ _) (fun b hb=>(Flat.on _ _ hb).elim)) rfl<|pE [] rfl (.nl) rfl<|fun a19 w19 h19=> ?_
  try simp only [Exit.then,Exit.inBlock,if_true]
  refine x_end0 (fn:=Tryz.f115) rfl h19<|⟨rfl,⟨v17,wait.l++([x])⟩,words,owner, ?_⟩
  first|(rw [if_pos (by omega)];exact ⟨⟨rfl,rfl,rfl⟩,(h19.sh.sel (L' := [_,_,_,_,_]) [2,3,4,5,6] rfl)⟩)|(rw [if_neg (by omega)];refine ⟨⟨rfl,rfl,rfl⟩, ?_⟩;rw [set_same (by omega) hwv];exact (h19.sh.sel (L' := [_,_,_,_,_]) [2,3,4,5,6] rfl))
 refine gL<|gRn (oM 1 rfl<|olw 0 ti_167 rfl rfl<|.nl)<|gO [1,4,5,0,2,3] rfl<|gM 3 rfl (fun _ _ h_=>xCl h_ bd_112 rfl (done_c _ _ x words owner _ _ _ _ _ _ _ _ _ (pKl 3 h_ rfl) hx)) rfl<|?_
 rintro _ _ w22 ⟨rfl,hs22⟩
 refine gBk hs22 rfl<|gU<|nN<|fun a23 w23 h23=> ?_;clear hs22
 try simp only [Exit.then,Exit.inBlock,if_true]
 refine x_end0 (fn:=Tryz.f115) rfl h23<|⟨rfl,wait,⟨words.v,if x.lock=true then words.l else words.l.set x.wh.toNat x.what⟩,⟨owner.v,if x.lock=true then owner.l.set x.wh.toNat (-1) else owner.l⟩, ?_⟩
 first|(rw [if_pos (by omega)];exact ⟨⟨rfl,rfl,rfl⟩,(h23.sh.sel (L' := [_,_,_,_,_]) [0,4,5,1,2] rfl)⟩)|(rw [if_neg (by omega)];refine ⟨⟨rfl,rfl,rfl⟩, ?_⟩;rw [set_same (by omega) hwv];exact (h23.sh.sel (L' := [_,_,_,_,_]) [0,4,5,1,2] rfl))
set_option maxHeartbeats 20000000
structure InsR (R W L:Nat)(i:Ins):Prop where
 o1:i.op=1→0≤i.a∧i.a<R
 o2:i.op=2→(0≤i.a∧i.a<R)∧0≤i.b∧i.b<R
 o3:i.op=3∨i.op=4∨i.op=5∨i.op=6∨i.op=7→(0≤i.a∧i.a<R)∧(0≤i.b∧i.b<R)∧0≤i.c∧i.c<R
 o8:i.op=8→(0≤i.a∧i.a<R)∧0≤i.b∧i.b<W
 o9:i.op=9→(0≤i.a∧i.a<W)∧0≤i.b∧i.b<R
 o10:i.op=10∨i.op=11→(0≤i.a∧i.a<R)∧0≤i.b∧i.b<R
 o13:i.op=13→(0≤i.a∧i.a<W)∧(0≤i.b∧i.b<R)∧0≤i.c∧i.c<R
 o15:i.op=15∨i.op=16→0≤i.a∧i.a<R
 o17:i.op=17∨i.op=18→0≤i.a∧i.a<L
theorem thset_pc {l tl:List ThV}{n:Nat}{p q:Int}{r v:Value}(h:n<l.length)(e:tl=l.set n ⟨p,r,v⟩):tl.set n { nth tl n with pc:=q } =l.set n ⟨q,r,v⟩:=by
 subst e
 rw [nth_set,if_pos ⟨rfl,h⟩,List.set_set]
theorem thset_wv {l tl:List ThV}{n:Nat}{p:Int}{r v v' :Value}(h:n<l.length)(e:tl=l.set n ⟨p,r,v⟩):tl.set n { nth tl n with wv:=v' } =l.set n ⟨p,r,v'⟩:=by
 subst e
 rw [nth_set,if_pos ⟨rfl,h⟩,List.set_set]
theorem thset_0 {l:List ThV}{n:Nat}{q:Int}{r v:Value}(hr:(nth l n).rv=r)(hv:(nth l n).wv=v):l.set n { nth l n with pc:=q } =l.set n ⟨q,r,v⟩:=by
 subst hr;subst hv;rfl
theorem thset_w0 {l:List ThV}{n:Nat}{r v:Value}(hr:(nth l n).rv=r):l.set n { nth l n with wv:=v } =l.set n ⟨(nth l n).pc,r,v⟩:=by
 subst hr;rfl
def DoPost (K:Nat→Prop)(W:World)(ST TH WT INT:Nat)(g n k:Nat)(mode:Int)(c:List Ins)(thr:Ls ThV)(hd:List Value)(x:TS)(code:Ls (Ls Ins))(w' :World):Prop:=
 ∃(regs' :Ls Int) (wait' :Ls Wt) (words' owner' prints' :Ls Int) (pc' :Int) (fell' :Bool),(⟨pc',regs'.l,wait'.l,words'.l,owner'.l,prints'.l,fell'⟩:TS)=doT mode n c k x∧
  Sh K W w' [.blk g ST (hd++ [thr.v,words'.v,owner'.v,prints'.v, .bool fell']), .own TH (⟨thr.v,thr.l.set n ⟨pc',regs'.v,wait'.v⟩⟩:Ls ThV), .own INT regs', .own WT wait', .own INT words', .own INT owner', .own INT prints', .at_ code]
section
variable {m:Int}{n:Nat}{i:Ins}{x:TS}
theorem execT_1 (h:i.op=1):execT m n i x=x.put i.a i.b:=by simp [execT,h]
theorem execT_2 (h:i.op=2):execT m n i x=x.put i.a (x.reg i.b):=by simp [execT,h]
theorem execT_3 (h:i.op=3):execT m n i x=x.put i.a (wrap64 (x.reg i.b+x.reg i.c)):=by simp [execT,h]
theorem execT_4 (h:i.op=4):execT m n i x=x.put i.a (wrap64 (x.reg i.b-x.reg i.c)):=by simp [execT,h]
theorem execT_5 (h:i.op=5):execT m n i x=x.put i.a (wrap64 (x.reg i.b*x.reg i.c)):=by simp [execT,h]
theorem execT_6 (h:i.op=6):execT m n i x=x.put i.a (bit (decide (x.reg i.b<x.reg i.c))):=by simp [execT,h]
theorem execT_7 (h:i.op=7):execT m n i x=x.put i.a (bit (decide (x.reg i.b=x.reg i.c))):=by simp [execT,h]
theorem execT_8 (h:i.op=8):execT m n i x=x.put i.a (x.finds i.b):=by simp [execT,h]
theorem execT_9 (h:i.op=9):execT m n i x=x.store m ⟨false,i.a,x.reg i.b⟩:=by simp [execT,h]
theorem execT_10t (h:i.op=10)(h1:0≤x.reg i.b∧x.reg i.b<(x.words.length:Int)):execT m n i x=x.put i.a (x.finds (x.reg i.b)):=by simp [execT,h,TS.isWord,h1]
theorem execT_10f (h:i.op=10)(h1:¬(0≤x.reg i.b∧x.reg i.b<(x.words.length:Int))):execT m n i x= { x with fell:=true } :=by
 have e:x.isWord (x.reg i.b)=false:=decide_eq_false h1
 simp [execT,h,e]
theorem execT_11t (h:i.op=11)(h1:0≤x.reg i.a∧x.reg i.a<(x.words.length:Int)):execT m n i x=x.store m ⟨false,x.reg i.a,x.reg i.b⟩:=by simp [execT,h,TS.isWord,h1]
theorem execT_11f (h:i.op=11)(h1:¬(0≤x.reg i.a∧x.reg i.a<(x.words.length:Int))):execT m n i x= { x with fell:=true } :=by
 have e:x.isWord (x.reg i.a)=false:=decide_eq_false h1
 simp [execT,h,e]
theorem execT_13t (h:i.op=13)(h1:nth x.words i.a.toNat=x.reg i.b):execT m n i x= { x with words:=x.words.set i.a.toNat (x.reg i.c),regs:=x.regs.set i.b.toNat 1 } :=by simp [execT,h,h1]
theorem execT_13f (h:i.op=13)(h1:¬nth x.words i.a.toNat=x.reg i.b):execT m n i x=x.put i.b 0:=by simp [execT,h,h1]
theorem execT_14 (h:i.op=14):execT m n i x= { x with pc:=i.a } :=by simp [execT,h]
theorem execT_15t (h:i.op=15)(h1:x.reg i.a=0):execT m n i x= { x with pc:=i.b } :=by simp [execT,h,h1]
theorem execT_15f (h:i.op=15)(h1:¬x.reg i.a=0):execT m n i x=x:=by simp [execT,h,h1]
theorem execT_16 (h:i.op=16):execT m n i x= { x with prints:=x.prints++ [(n:Int),x.reg i.a] } :=by simp [execT,h]
theorem execT_17 (h:i.op=17):execT m n i x= { x with owner:=x.owner.set i.a.toNat n } :=by simp [execT,h]
theorem execT_18a (h:i.op=18)(h1:nth x.owner i.a.toNat≠n):execT m n i x= { x with fell:=true } :=by simp [execT,h,h1]
theorem execT_18b (h:i.op=18)(h1:¬nth x.owner i.a.toNat≠n)(j:Nat)(hj:j<x.wait.length)(hl:(nth x.wait j).lock=true)(hw:(nth x.wait j).wh=i.a):execT m n i x= { x with fell:=true } :=by
 have e:x.holds i.a=true:=List.any_eq_true.2 ⟨_,nth_mem _ _ hj,by simp [hl,hw]⟩
 simp [execT,h,e]
theorem execT_18c (h:i.op=18)(h1:¬nth x.owner i.a.toNat≠n)(hall:∀q,q<x.wait.length→¬((nth x.wait q).lock=true∧(nth x.wait q).wh=i.a)):execT m n i x=x.store m ⟨true,i.a,0⟩:=by
 have e:x.holds i.a=false:=by
  unfold TS.holds
  rw [List.any_eq_false]
  intro y hy
  obtain ⟨k,hk,rfl⟩:=List.mem_iff_getElem.1 hy
  have:=hall k hk
  rw [show nth x.wait k=x.wait[k] from nth_lt _ _ hk] at this
  simpa using this
 have h1' :nth x.owner i.a.toNat=n:=Decidable.not_not.1 h1
 simp [execT,h,h1',e]
theorem execT_no (h:¬i.op=1∧¬i.op=2∧¬i.op=3∧¬i.op=4∧¬i.op=5∧¬i.op=6∧¬i.op=7∧¬i.op=8∧¬i.op=9∧¬i.op=10∧¬i.op=11∧¬i.op=13∧¬i.op=14∧¬i.op=15∧¬i.op=16∧¬i.op=17∧¬i.op=18):execT m n i x=x:=by
 obtain ⟨h1,h2,h3,h4,h5,h6,h7,h8,h9,h10,h11,h13,h14,h15,h16,h17,h18⟩:=h
 simp [execT,h1,h2,h3,h4,h5,h6,h7,h8,h9,h10,h11,h13,h14,h15,h16,h17,h18]
theorem store_eq {pc:Int}{regs prints:List Int}{fell:Bool}{wait wait' :Ls Wt}{words words' owner owner' :Ls Int}{y:Wt}(hst:if 0<m then wait'.l=wait.l++ [y]∧words' =words∧owner' =owner else wait' =wait∧words' =(⟨words.v,if y.lock=true then words.l else words.l.set y.wh.toNat y.what⟩:Ls Int)∧owner' =(⟨owner.v,if y.lock=true then owner.l.set y.wh.toNat (-1) else owner.l⟩:Ls Int)):
  (⟨pc,regs,wait'.l,words'.l,owner'.l,prints,fell⟩:TS)=TS.store m ⟨pc,regs,wait.l,words.l,owner.l,prints,fell⟩ y:=by
 unfold TS.store TS.done
 split at hst
 ·rename_i h
  obtain ⟨h1,rfl,rfl⟩:=hst
  rw [if_pos h,h1]
 ·rename_i h
  obtain ⟨rfl,rfl,rfl⟩:=hst
  rw [if_neg h]
theorem doT_k {c:List Ins}{k:Nat}(hk:0<k):doT m n c k x= { x.done (nth x.wait (k-1)) with wait:=x.wait.take (k-1)++x.wait.drop k } :=by
 unfold doT
 rw [if_pos hk,List.eraseIdx_eq_take_drop_succ,show k-1+1=k by omega]
theorem or_f {b:Bool}{p:Prop}[Decidable p](h:decide p=true):(b|| !decide p)=b:=by rw [h];simp
theorem or_t {b:Bool}{p:Prop}[Decidable p](h:decide p=false):(b|| !decide p)=true:=by rw [h];simp
end
theorem doT_0 {m:Int}{n:Nat}{c:List Ins}{k:Nat}{x:TS}(hk:k=0):doT m n c k x=execT m n (nextIns c x.pc) { x with pc:=x.pc+1 } :=by subst hk;rfl
theorem do_c (K:Nat→Prop)(g mv:Nat)(code:Ls (Ls Ins))(thr:Ls ThV)(regs:Ls Int)(wait:Ls Wt)(words owner prints:Ls Int)(pw:Value)(locks nregs mode:Int)(fell:Bool)(W:World)(hS:Sh K W W [.blk g 111 [code.v,pw, .int .i64 locks, .int .i64 nregs, .int .i64 mode,thr.v,words.v,owner.v,prints.v, .bool fell], .own 119 thr, .own 3 regs, .own 167 wait, .own 3 words, .own 3 owner, .own 3 prints, .at_ code])(ht:mv/8<thr.l.length)(htc:mv/8<code.l.length)(hmv:mv<1000000)(hrv:(nth thr.l (mv/8)).rv=regs.v)(hwv:(nth thr.l (mv/8)).wv=wait.v)(hpc:0≤(nth thr.l (mv/8)).pc∧(nth thr.l (mv/8)).pc<1000000)(hwl:wait.l.length≤3)(hkw:mv%8≤wait.l.length)(hpl:prints.l.length≤100000000)(hol:owner.l.length≤100)(hwt:∀j,j<wait.l.length→if (nth wait.l j).lock=true then 0≤(nth wait.l j).wh∧(nth wait.l j).wh<owner.l.length else 0≤(nth wait.l j).wh∧(nth wait.l j).wh<words.l.length)(hio:mv%8=0→InsR regs.l.length words.l.length owner.l.length (nextIns (nth code.l (mv/8)).l (nth thr.l (mv/8)).pc)):
    Rets Tryz.prog 73 [.pointer (some ⟨g,0,none⟩), .int .i64 ((mv:Nat):Int)] W (fun v w' =>v= .tuple #[]∧DoPost K W 111 119 167 3 g (mv/8) (mv%8) mode (nth code.l (mv/8)).l thr [code.v,pw, .int .i64 locks, .int .i64 nregs, .int .i64 mode] (⟨(nth thr.l (mv/8)).pc,regs.l,wait.l,words.l,owner.l,prints.l,fell⟩:TS) code w'):=by
 refine gen Tryz.func73 Tryz.ntmps73 hS rfl fun a10 h10=>gG h10<|sG (oM 1 rfl<|oquN _ 8 om9 rfl<|oM 1 rfl<|.nl)<|sK fun _ k12=>gNl (aO 1 rfl) fun hl13=>gRn (oM 1 rfl<|onfl 0 fl_111_2 ti_109 rfl rfl<|oM 1 rfl<|oxN sl_109 ti_119 (aO 1 rfl) _ om9 rfl<|oM 1 rfl<|.nl)<|nK k12<|sG (oM 1 rfl<|ormN _ 8 om9 rfl<|oM 1 rfl<|.nl)<|gK fun _ k15=>sG (oM 1 rfl<|ogtN _ 0 rfl<|.nl)<|?_;clear h10
 refine gcd rfl (fun hb17 hp17=> ?_) fun hb17 hp17=> ?_
 ·skip
  have hwk:=hwt (mv%8-1) (by omega)
  refine sK fun _ k18=>gNl (aO 3 rfl) fun hl19=>gRn (oM 2 rfl<|onl rfl<|ofE fl_119_2 rfl<|oV (Rn.same (r_lde (s:=thr) (i:=mv/8) (v:=((nth thr.l (mv/8)).wv)) ti_117 rfl rfl rfl (fun w h=>(h.own 1 rfl)) (show mv/8<thr.l.length from om9) (Nat.le_of_ble_eq_true rfl) rfl) hwv) rfl<|oM 1 rfl<|osbN _ 1 om9 rfl<|oxN sl_117 ti_167 (aO 3 rfl) _ om9 rfl<|olw2 [.bool ((nth wait.l ((mv%8)-1)).lock), .int .i64 ((nth wait.l ((mv%8)-1)).wh), .int .i64 ((nth wait.l ((mv%8)-1)).what)] ti_167 (aO 3 rfl) om9 rfl<|.nl)<|gO [0,4,5,1,2,3,6,7] rfl<|gM 3 rfl (fun _ _ h_=>xCl h_ bd_112 rfl (done_c _ _ (nth wait.l ((mv%8)-1)) words owner _ _ _ _ _ _ _ _ _ (pKl 3 h_ rfl) hwk)) rfl<|?_
  rintro _ _ w22 ⟨rfl,hs22⟩
  refine gBk hs22 rfl<|gU<|nK k18<|gF [5,6] rfl<|gK fun _ k23=>rT 14 [0] (oM 2 rfl<|onl rfl<|ofE fl_119_2 rfl<|oV (Rn.same (r_lde (s:=thr) (i:=mv/8) (v:=((nth thr.l (mv/8)).wv)) ti_117 rfl rfl rfl (fun w h=>(h.own 3 rfl)) (show mv/8<thr.l.length from om9) (Nat.le_of_ble_eq_true rfl) rfl) hwv) rfl<|oM 1 rfl<|osbN _ 1 om9 rfl<|oV (r_slH (s:=wait) (j:=(mv%8)-1) sl_117 ti_167 rfl rfl rfl (fun w h=>(h.own 5 rfl)) (show (mv%8)-1≤wait.l.length from om9) (show 0<wait.l.length from om9)) rfl<|oM 1 rfl<|onl rfl<|ofE fl_119_2 rfl<|oV (Rn.same (r_lde (s:=thr) (i:=mv/8) (v:=((nth thr.l (mv/8)).wv)) ti_117 rfl rfl rfl (fun w h=>(h.own 3 rfl)) (show mv/8<thr.l.length from om9) (Nat.le_of_ble_eq_true rfl) rfl) hwv) rfl<|oM 1 rfl<|oV (r_slL (s:=wait) (k:=mv%8) sl_117 ti_167 rfl rfl rfl (fun w h=>(h.own 5 rfl)) (show mv%8≤wait.l.length from om9)) rfl<|.nl)<|gE1 (fun _ _ h_=>x_del (r:=5) (j:=(mv%8)-1) (k:=mv%8) (s:=wait) h_ sl_117 ti_167 rfl rfl rfl rfl rfl rfl inferInstance (show (mv%8)-1≤mv%8∧mv%8≤wait.l.length∧0<wait.l.length from om9) rfl rfl) rfl fun v24=>gRn (onl rfl<|ofE fl_119_2 rfl<|.nl)<|gtr 3 ({ nth thr.l (mv/8) with wv:=v24 } :ThV) ti_117 om9 (aO 5 rfl) rfl<|nK k23<|gR<|uT<|fun a26 w26 h26=> ?_;clear hs22
  refine x_ret0 (fn:=Tryz.f73) rfl h26<|⟨rfl,⟨regs.v,regs.l⟩,⟨v24,wait.l.take ((mv%8)-1)++wait.l.drop (mv%8)⟩,⟨words.v,if (nth wait.l ((mv%8)-1)).lock=true then words.l else words.l.set (nth wait.l ((mv%8)-1)).wh.toNat (nth wait.l ((mv%8)-1)).what⟩,⟨owner.v,if (nth wait.l ((mv%8)-1)).lock=true then owner.l.set (nth wait.l ((mv%8)-1)).wh.toNat (-1) else owner.l⟩,⟨prints.v,prints.l⟩,(nth thr.l (mv/8)).pc,fell, ?_, ?_⟩
  · rw [doT_k (by omega)];rfl
  ·have hz:=(h26.sh.sel (L' := [_,_,_,_,_,_,_,_]) [0,3,4,5,1,2,6,7] rfl)
   rw [thset_w0 hrv] at hz;exact hz
 refine gS<|hK k15<|sK fun _ k27=>gRn (oM 2 rfl<|.nl)<|fun a29 w29 h29=>wl_ex (x_call h29 bd_108 rfl rfl rfl rfl rfl (next_c g (mv/8) code thr _ _ _ _ _ _ _ _ _ (h29.sh.blk 0 rfl) (h29.sh.at 7 rfl) (h29.sh.own 1 rfl) htc ht (by omega))) (wanted_none rfl _) ?_
 rintro a30 w30 ⟨_,⟨hv30,hs30⟩,hf30⟩
 obtain ⟨ins,hins⟩:∃i,i=nextIns (nth code.l (mv/8)).l (nth thr.l (mv/8)).pc:=⟨_,rfl⟩
 rw [←hins] at hv30
 subst hv30
 have hR:=hio (by omega)
 rw [←hins] at hR
 have h30:St 384 K W a30 w30 _ _:=⟨hf30,h29.sh.call0 hs30⟩
 clear hf30 hs30
 clear h29
 refine gG h30<|gRn (oM 1 rfl<|oxt rfl<|oxt rfl<|.nl)<|gal ti_32 rfl fun b31=>gsw 0 ti_32 rfl rfl rfl<|gRn (oM 1 rfl<|.nl)<|nK k27<|sK fun _ k33=>gRn (oM 1 rfl<|onl rfl<|ofE fl_119_0 rfl<|olI ti_3 (aO 2 rfl) om9 rfl<|oadI _ _ om9 rfl<|onl rfl<|ofE fl_119_0 rfl<|.nl)<|gte 2 ({ nth thr.l (mv/8) with pc:=((nth thr.l (mv/8)).pc)+1 } :ThV) ti_3 om9 rfl rfl<|nK k33<|gF [0,4,5,7] rfl<|?_;clear h30
 obtain ⟨tl,htl⟩:∃tl,tl=thr.l.set (mv/8) ({ nth thr.l (mv/8) with pc:=((nth thr.l (mv/8)).pc)+1 }):=⟨_,rfl⟩
 intro a35 w35 h35
 have h359:=h35.relist (i:=2) (l' :=tl) rfl htl.symm
 clear h35
 rw [thset_0 hrv hwv] at htl
 have htll:tl.length=thr.l.length:=by rw [htl,List.length_set]
 have hrv2:(nth tl (mv/8)).rv=regs.v:=by rw [htl,nth_set,if_pos ⟨rfl,ht⟩]
 have hwv2:(nth tl (mv/8)).wv=wait.v:=by rw [htl,nth_set,if_pos ⟨rfl,ht⟩]
 refine gG h359<|sG (oM 1 rfl<|onl rfl<|ofE fl_119_1 rfl<|oV (Rn.same (r_lde (s:=(⟨thr.v,tl⟩:Ls ThV)) (i:=mv/8) (v:=((nth tl (mv/8)).rv)) ti_23 rfl rfl rfl (fun w h=>(h.own 2 rfl)) (show mv/8<tl.length from om9) (Nat.le_of_ble_eq_true rfl) rfl) hrv2) rfl<|oM 1 rfl<|.nl)<|sG (ofB fl_32_0 rfl<|olB 0 ti_3 rfl rfl<|.nl)<|gB<|sG (oeqI _ _ rfl<|oM 1 rfl<|.nl)<|?_;clear h359
 refine gcd rfl (fun hb39 hp39=> ?_) fun hb39 hp39=> ?_
 ·skip
  have q9:=hR.o1 (by omega)
  refine gL<|gNl (aO 3 rfl) fun hl40=>gRn (oM 1 rfl<|ofB fl_32_1 rfl<|olB 0 ti_3 rfl rfl<|ofB fl_32_2 rfl<|olB 0 ti_3 rfl rfl<|oxI sl_23 ti_3 (aO 3 rfl) om9 rfl<|.nl)<|gte 3 (ins.b:Int) ti_3 om9 rfl rfl<|nN<|fun a42 w42 h42=> ?_
  try simp only [Exit.then,Exit.inBlock,if_true]
  refine x_end0 (fn:=Tryz.f73) rfl h42<|⟨rfl,⟨regs.v,regs.l.set ins.a.toNat ins.b⟩,⟨wait.v,wait.l⟩,⟨words.v,words.l⟩,⟨owner.v,owner.l⟩,⟨prints.v,prints.l⟩,(nth thr.l (mv/8)).pc+1,fell, ?_, ?_⟩
  · refine Eq.trans ?_ (doT_0 (by omega)).symm;show _=execT mode (mv/8) (nextIns (nth code.l (mv/8)).l (nth thr.l (mv/8)).pc) _;rw [←hins];(refine Eq.trans ?_ (execT_1 (by assumption)).symm;rfl)
  ·have hz:=(h42.sh.sel (L' := [_,_,_,_,_,_,_,_]) [1,2,3,4,5,6,7,8] rfl)
   rw [htl] at hz;exact hz
 refine sG (oeqI _ _ rfl<|oM 1 rfl<|.nl)<|gcd rfl (fun hb44 hp44=> ?_) fun hb44 hp44=> ?_
 ·skip
  have q9:=hR.o2 (by omega)
  refine gNl (aO 3 rfl) fun hl45=>rT 9 [] (oM 1 rfl<|ofB fl_32_1 rfl<|olB 0 ti_3 rfl rfl<|oM 1 rfl<|ofB fl_32_2 rfl<|olB 0 ti_3 rfl rfl<|oxI sl_23 ti_3 (aO 3 rfl) om9 rfl<|olI ti_3 (aO 3 rfl) om9 rfl<|oxI sl_23 ti_3 (aO 3 rfl) om9 rfl<|.nl)<|gte 3 (nth regs.l ins.b.toNat:Int) ti_3 om9 rfl rfl<|nN<|fun a47 w47 h47=> ?_
  try simp only [Exit.then,Exit.inBlock,if_true]
  refine x_end0 (fn:=Tryz.f73) rfl h47<|⟨rfl,⟨regs.v,regs.l.set ins.a.toNat (nth regs.l ins.b.toNat)⟩,⟨wait.v,wait.l⟩,⟨words.v,words.l⟩,⟨owner.v,owner.l⟩,⟨prints.v,prints.l⟩,(nth thr.l (mv/8)).pc+1,fell, ?_, ?_⟩
  · refine Eq.trans ?_ (doT_0 (by omega)).symm;show _=execT mode (mv/8) (nextIns (nth code.l (mv/8)).l (nth thr.l (mv/8)).pc) _;rw [←hins];(refine Eq.trans ?_ (execT_2 (by assumption)).symm;rfl)
  ·have hz:=(h47.sh.sel (L' := [_,_,_,_,_,_,_,_]) [1,2,3,4,5,6,7,8] rfl)
   rw [htl] at hz;exact hz
 refine sG (oeqI _ _ rfl<|oM 1 rfl<|.nl)<|gcd rfl (fun hb49 hp49=> ?_) fun hb49 hp49=> ?_
 ·skip
  have q9:=hR.o3 (by omega)
  refine gNl (aO 3 rfl) fun hl50=>rT 15 [] (oM 1 rfl<|ofB fl_32_1 rfl<|olB 0 ti_3 rfl rfl<|oM 1 rfl<|ofB fl_32_2 rfl<|olB 0 ti_3 rfl rfl<|oxI sl_23 ti_3 (aO 3 rfl) om9 rfl<|olI ti_3 (aO 3 rfl) om9 rfl<|oM 1 rfl<|ofB fl_32_3 rfl<|olB 0 ti_3 rfl rfl<|oxI sl_23 ti_3 (aO 3 rfl) om9 rfl<|olI ti_3 (aO 3 rfl) om9 rfl<|oV (r_addW (p:=nth regs.l ins.b.toNat) (q:=nth regs.l ins.c.toNat) rfl rfl rfl) rfl<|oxI sl_23 ti_3 (aO 3 rfl) om9 rfl<|.nl)<|gte 3 (wrap64 ((nth regs.l ins.b.toNat)+(nth regs.l ins.c.toNat)):Int) ti_3 om9 rfl rfl<|nN<|fun a52 w52 h52=> ?_
  try simp only [Exit.then,Exit.inBlock,if_true]
  refine x_end0 (fn:=Tryz.f73) rfl h52<|⟨rfl,⟨regs.v,regs.l.set ins.a.toNat (wrap64 ((nth regs.l ins.b.toNat)+(nth regs.l ins.c.toNat)))⟩,⟨wait.v,wait.l⟩,⟨words.v,words.l⟩,⟨owner.v,owner.l⟩,⟨prints.v,prints.l⟩,(nth thr.l (mv/8)).pc+1,fell, ?_, ?_⟩
  · refine Eq.trans ?_ (doT_0 (by omega)).symm;show _=execT mode (mv/8) (nextIns (nth code.l (mv/8)).l (nth thr.l (mv/8)).pc) _;rw [←hins];(refine Eq.trans ?_ (execT_3 (by assumption)).symm;rfl)
  ·have hz:=(h52.sh.sel (L' := [_,_,_,_,_,_,_,_]) [1,2,3,4,5,6,7,8] rfl)
   rw [htl] at hz;exact hz
 refine sG (oeqI _ _ rfl<|oM 1 rfl<|.nl)<|gcd rfl (fun hb54 hp54=> ?_) fun hb54 hp54=> ?_
 ·skip
  have q9:=hR.o3 (by omega)
  refine gNl (aO 3 rfl) fun hl55=>rT 15 [] (oM 1 rfl<|ofB fl_32_1 rfl<|olB 0 ti_3 rfl rfl<|oM 1 rfl<|ofB fl_32_2 rfl<|olB 0 ti_3 rfl rfl<|oxI sl_23 ti_3 (aO 3 rfl) om9 rfl<|olI ti_3 (aO 3 rfl) om9 rfl<|oM 1 rfl<|ofB fl_32_3 rfl<|olB 0 ti_3 rfl rfl<|oxI sl_23 ti_3 (aO 3 rfl) om9 rfl<|olI ti_3 (aO 3 rfl) om9 rfl<|oV (r_subW (p:=nth regs.l ins.b.toNat) (q:=nth regs.l ins.c.toNat) rfl rfl rfl) rfl<|oxI sl_23 ti_3 (aO 3 rfl) om9 rfl<|.nl)<|gte 3 (wrap64 ((nth regs.l ins.b.toNat)-(nth regs.l ins.c.toNat)):Int) ti_3 om9 rfl rfl<|nN<|fun a57 w57 h57=> ?_
  try simp only [Exit.then,Exit.inBlock,if_true]
  refine x_end0 (fn:=Tryz.f73) rfl h57<|⟨rfl,⟨regs.v,regs.l.set ins.a.toNat (wrap64 ((nth regs.l ins.b.toNat)-(nth regs.l ins.c.toNat)))⟩,⟨wait.v,wait.l⟩,⟨words.v,words.l⟩,⟨owner.v,owner.l⟩,⟨prints.v,prints.l⟩,(nth thr.l (mv/8)).pc+1,fell, ?_, ?_⟩
  · refine Eq.trans ?_ (doT_0 (by omega)).symm;show _=execT mode (mv/8) (nextIns (nth code.l (mv/8)).l (nth thr.l (mv/8)).pc) _;rw [←hins];(refine Eq.trans ?_ (execT_4 (by assumption)).symm;rfl)
  ·have hz:=(h57.sh.sel (L' := [_,_,_,_,_,_,_,_]) [1,2,3,4,5,6,7,8] rfl)
   rw [htl] at hz;exact hz
 refine sG (oeqI _ _ rfl<|oM 1 rfl<|.nl)<|gcd rfl (fun hb59 hp59=> ?_) fun hb59 hp59=> ?_
 ·skip
  have q9:=hR.o3 (by omega)
  refine gNl (aO 3 rfl) fun hl60=>rT 15 [] (oM 1 rfl<|ofB fl_32_1 rfl<|olB 0 ti_3 rfl rfl<|oM 1 rfl<|ofB fl_32_2 rfl<|olB 0 ti_3 rfl rfl<|oxI sl_23 ti_3 (aO 3 rfl) om9 rfl<|olI ti_3 (aO 3 rfl) om9 rfl<|oM 1 rfl<|ofB fl_32_3 rfl<|olB 0 ti_3 rfl rfl<|oxI sl_23 ti_3 (aO 3 rfl) om9 rfl<|olI ti_3 (aO 3 rfl) om9 rfl<|oV (r_mulW (p:=nth regs.l ins.b.toNat) (q:=nth regs.l ins.c.toNat) rfl rfl rfl) rfl<|oxI sl_23 ti_3 (aO 3 rfl) om9 rfl<|.nl)<|gte 3 (wrap64 ((nth regs.l ins.b.toNat)*(nth regs.l ins.c.toNat)):Int) ti_3 om9 rfl rfl<|nN<|fun a62 w62 h62=> ?_
  try simp only [Exit.then,Exit.inBlock,if_true]
  refine x_end0 (fn:=Tryz.f73) rfl h62<|⟨rfl,⟨regs.v,regs.l.set ins.a.toNat (wrap64 ((nth regs.l ins.b.toNat)*(nth regs.l ins.c.toNat)))⟩,⟨wait.v,wait.l⟩,⟨words.v,words.l⟩,⟨owner.v,owner.l⟩,⟨prints.v,prints.l⟩,(nth thr.l (mv/8)).pc+1,fell, ?_, ?_⟩
  · refine Eq.trans ?_ (doT_0 (by omega)).symm;show _=execT mode (mv/8) (nextIns (nth code.l (mv/8)).l (nth thr.l (mv/8)).pc) _;rw [←hins];(refine Eq.trans ?_ (execT_5 (by assumption)).symm;rfl)
  ·have hz:=(h62.sh.sel (L' := [_,_,_,_,_,_,_,_]) [1,2,3,4,5,6,7,8] rfl)
   rw [htl] at hz;exact hz
 refine sG (oeqI _ _ rfl<|oM 1 rfl<|.nl)<|gcd rfl (fun hb64 hp64=> ?_) fun hb64 hp64=> ?_
 ·skip
  have q9:=hR.o3 (by omega)
  intro a66 w66 h66
  refine x_tail 16 [] (by kernel_rfl) (by kernel_rfl) h66 fun _ z67=>qQ h66.fr<|qRn (oM 1 rfl<|ofB fl_32_1 rfl<|olB 0 ti_3 rfl rfl<|oM 1 rfl<|ofB fl_32_2 rfl<|olB 0 ti_3 rfl rfl<|.nl)<|?_
  have hl68:regs.l.length≤140737488355328:=(h66.sh.own 3 rfl).len
  refine qRn (oxI sl_23 ti_3 (aO 3 rfl) om9 rfl<|olI ti_3 (aO 3 rfl) om9 rfl<|oM 1 rfl<|ofB fl_32_3 rfl<|olB 0 ti_3 rfl rfl<|oxI sl_23 ti_3 (aO 3 rfl) om9 rfl<|olI ti_3 (aO 3 rfl) om9 rfl<|oltI _ _ rfl<|.nl)<|qP bd_113 rfl (fun w h=>(bit_c (decide (nth regs.l ins.b.toNat<nth regs.l ins.c.toNat)) _))<|qRn (oxI sl_23 ti_3 (aO 3 rfl) om9 rfl<|.nl)<|qN z67<|gte 3 (bit (decide (nth regs.l ins.b.toNat<nth regs.l ins.c.toNat)):Int) ti_3 om9 rfl rfl<|nN<|fun a70 w70 h70=> ?_;clear h66
  try simp only [Exit.then,Exit.inBlock,if_true]
  refine x_end0 (fn:=Tryz.f73) rfl h70<|⟨rfl,⟨regs.v,regs.l.set ins.a.toNat (bit (decide (nth regs.l ins.b.toNat<nth regs.l ins.c.toNat)))⟩,⟨wait.v,wait.l⟩,⟨words.v,words.l⟩,⟨owner.v,owner.l⟩,⟨prints.v,prints.l⟩,(nth thr.l (mv/8)).pc+1,fell, ?_, ?_⟩
  · refine Eq.trans ?_ (doT_0 (by omega)).symm;show _=execT mode (mv/8) (nextIns (nth code.l (mv/8)).l (nth thr.l (mv/8)).pc) _;rw [←hins];(refine Eq.trans ?_ (execT_6 (by assumption)).symm;rfl)
  ·have hz:=(h70.sh.sel (L' := [_,_,_,_,_,_,_,_]) [1,2,3,4,5,6,7,8] rfl)
   rw [htl] at hz;exact hz
 refine sG (oeqI _ _ rfl<|oM 1 rfl<|.nl)<|gcd rfl (fun hb72 hp72=> ?_) fun hb72 hp72=> ?_
 ·skip
  have q9:=hR.o3 (by omega)
  intro a74 w74 h74
  refine x_tail 16 [] (by kernel_rfl) (by kernel_rfl) h74 fun _ z75=>qQ h74.fr<|qRn (oM 1 rfl<|ofB fl_32_1 rfl<|olB 0 ti_3 rfl rfl<|oM 1 rfl<|ofB fl_32_2 rfl<|olB 0 ti_3 rfl rfl<|.nl)<|?_
  have hl76:regs.l.length≤140737488355328:=(h74.sh.own 3 rfl).len
  refine qRn (oxI sl_23 ti_3 (aO 3 rfl) om9 rfl<|olI ti_3 (aO 3 rfl) om9 rfl<|oM 1 rfl<|ofB fl_32_3 rfl<|olB 0 ti_3 rfl rfl<|oxI sl_23 ti_3 (aO 3 rfl) om9 rfl<|olI ti_3 (aO 3 rfl) om9 rfl<|oeqI _ _ rfl<|.nl)<|qP bd_113 rfl (fun w h=>(bit_c (decide (nth regs.l ins.b.toNat=nth regs.l ins.c.toNat)) _))<|qRn (oxI sl_23 ti_3 (aO 3 rfl) om9 rfl<|.nl)<|qN z75<|gte 3 (bit (decide (nth regs.l ins.b.toNat=nth regs.l ins.c.toNat)):Int) ti_3 om9 rfl rfl<|nN<|fun a78 w78 h78=> ?_;clear h74
  try simp only [Exit.then,Exit.inBlock,if_true]
  refine x_end0 (fn:=Tryz.f73) rfl h78<|⟨rfl,⟨regs.v,regs.l.set ins.a.toNat (bit (decide (nth regs.l ins.b.toNat=nth regs.l ins.c.toNat)))⟩,⟨wait.v,wait.l⟩,⟨words.v,words.l⟩,⟨owner.v,owner.l⟩,⟨prints.v,prints.l⟩,(nth thr.l (mv/8)).pc+1,fell, ?_, ?_⟩
  · refine Eq.trans ?_ (doT_0 (by omega)).symm;show _=execT mode (mv/8) (nextIns (nth code.l (mv/8)).l (nth thr.l (mv/8)).pc) _;rw [←hins];(refine Eq.trans ?_ (execT_7 (by assumption)).symm;rfl)
  ·have hz:=(h78.sh.sel (L' := [_,_,_,_,_,_,_,_]) [1,2,3,4,5,6,7,8] rfl)
   rw [htl] at hz;exact hz
 refine sG (oeqI _ _ rfl<|oM 1 rfl<|.nl)<|gcd rfl (fun hb80 hp80=> ?_) fun hb80 hp80=> ?_
 ·skip
  have q9:=hR.o8 (by omega)
  intro a81 w81 h81
  refine x_tail 9 [] (by kernel_rfl) (by kernel_rfl) h81 fun _ z82=>qQ h81.fr<|qRn (oM 1 rfl<|ofB fl_32_1 rfl<|olB 0 ti_3 rfl rfl<|oM 2 rfl<|ofB fl_32_2 rfl<|olB 0 ti_3 rfl rfl<|.nl)<|qP bd_114 rfl (fun w h=>(finds_c g (mv/8) ins.b (⟨thr.v,tl⟩:Ls ThV) words wait _ _ _ _ _ _ _ _ _ (h.blk 1 rfl) (h.own 2 rfl) (h.own 5 rfl) (h.own 4 rfl) (show mv/8<tl.length by omega) hwv2 (by omega)))<|?_
  have hl83:regs.l.length≤140737488355328:=(h81.sh.own 3 rfl).len
  refine qRn (oxI sl_23 ti_3 (aO 3 rfl) om9 rfl<|.nl)<|qN z82<|gte 3 (findsL wait.l words.l ins.b:Int) ti_3 om9 rfl rfl<|nN<|fun a85 w85 h85=> ?_;clear h81
  try simp only [Exit.then,Exit.inBlock,if_true]
  refine x_end0 (fn:=Tryz.f73) rfl h85<|⟨rfl,⟨regs.v,regs.l.set ins.a.toNat (findsL wait.l words.l ins.b)⟩,⟨wait.v,wait.l⟩,⟨words.v,words.l⟩,⟨owner.v,owner.l⟩,⟨prints.v,prints.l⟩,(nth thr.l (mv/8)).pc+1,fell, ?_, ?_⟩
  · refine Eq.trans ?_ (doT_0 (by omega)).symm;show _=execT mode (mv/8) (nextIns (nth code.l (mv/8)).l (nth thr.l (mv/8)).pc) _;rw [←hins];(refine Eq.trans ?_ (execT_8 (by assumption)).symm;rfl)
  ·have hz:=(h85.sh.sel (L' := [_,_,_,_,_,_,_,_]) [1,2,3,4,5,6,7,8] rfl)
   rw [htl] at hz;exact hz
 refine sG (oeqI _ _ rfl<|oM 1 rfl<|.nl)<|gcd rfl (fun hb87 hp87=> ?_) fun hb87 hp87=> ?_
 ·skip
  have q9:=hR.o9 (by omega)
  refine gNl (aO 3 rfl) fun hl88=>rT 10 [] (oM 2 rfl<|ofB fl_32_1 rfl<|olB 0 ti_3 rfl rfl<|oM 1 rfl<|ofB fl_32_2 rfl<|olB 0 ti_3 rfl rfl<|oxI sl_23 ti_3 (aO 3 rfl) om9 rfl<|olI ti_3 (aO 3 rfl) om9 rfl<|oV (r_build (cs:= [.bool false, .int .i64 ins.a, .int .i64 (nth regs.l ins.b.toNat)]) rfl rfl (by kernel_rfl)) rfl<|.nl)<|gO [1,2,4,5,6,0,3,7,8] rfl<|gM 5 rfl (fun _ _ h_=>xCl h_ bd_115 rfl (store_c _ _ (mv/8) (⟨false,ins.a,nth regs.l ins.b.toNat⟩:Wt) (⟨thr.v,tl⟩:Ls ThV) wait words owner _ _ _ _ _ _ _ _ (pKl 5 h_ rfl) (by first|(simp only [if_true];omega)|(simp only [Bool.false_eq_true,if_false];omega)) (show mv/8<tl.length by omega) hwv2 (by omega))) rfl<|?_
  rintro _ _ w91 ⟨rfl,wait91,words91,owner91,hst,hs91⟩
  refine gBk hs91 rfl<|gU<|nN<|fun a92 w92 h92=> ?_;clear hs91
  try simp only [Exit.then,Exit.inBlock,if_true]
  refine x_end0 (fn:=Tryz.f73) rfl h92<|⟨rfl,⟨regs.v,regs.l⟩,⟨wait91.v,wait91.l⟩,⟨words91.v,words91.l⟩,⟨owner91.v,owner91.l⟩,⟨prints.v,prints.l⟩,(nth thr.l (mv/8)).pc+1,fell, ?_, ?_⟩
  · refine Eq.trans ?_ (doT_0 (by omega)).symm;show _=execT mode (mv/8) (nextIns (nth code.l (mv/8)).l (nth thr.l (mv/8)).pc) _;rw [←hins];exact Eq.trans (store_eq hst) (execT_9 (by assumption)).symm
  ·have hz:=(h92.sh.sel (L' := [_,_,_,_,_,_,_,_]) [0,1,6,2,3,4,7,8] rfl)
   rw [thset_wv ht htl] at hz;exact hz
 refine sG (oeqI _ _ rfl<|oM 1 rfl<|.nl)<|gF [0,4,5,7,9,70,201] rfl<|gcd rfl (fun hb94 hp94=> ?_) fun hb94 hp94=> ?_
 ·skip
  have q9:=hR.o10 (by omega)
  refine sK fun _ k95=>gNl (aO 3 rfl) fun hl96=>gRn (oM 2 rfl<|ofB fl_32_2 rfl<|olB 0 ti_3 rfl rfl<|oxI sl_23 ti_3 (aO 3 rfl) om9 rfl<|olI ti_3 (aO 3 rfl) om9 rfl<|.nl)<|gO [1,5,0,2,3,4,6,7,8] rfl<|gM 2 rfl (fun _ _ h_=>xCl h_ bd_116 rfl (word_c _ _ (nth regs.l ins.b.toNat) _ _ _ _ _ _ _ _ _ _ _ (pKl 2 h_ rfl))) rfl<|?_
  rintro _ _ w99 ⟨rfl,hs99⟩
  refine gBk hs99 rfl<|gU<|gRn (oM 1 rfl<|.nl)<|nK k95<|sG (oM 1 rfl<|.nl)<|?_;clear hs99
  refine gcd rfl (fun hb101 hp101=> ?_) fun hb101 hp101=> ?_
  ·skip
   intro a102 w102 h102
   refine x_tail 12 [] (by kernel_rfl) (by kernel_rfl) h102 fun _ z103=>qQ h102.fr<|qRn (oM 1 rfl<|ofB fl_32_1 rfl<|olB 2 ti_3 rfl rfl<|oM 3 rfl<|ofB fl_32_2 rfl<|olB 2 ti_3 rfl rfl<|oxI sl_23 ti_3 (aO 4 rfl) om9 rfl<|olI ti_3 (aO 4 rfl) om9 rfl<|.nl)<|qP bd_114 rfl (fun w h=>(finds_c g (mv/8) (nth regs.l ins.b.toNat) (⟨thr.v,tl⟩:Ls ThV) words wait _ _ _ _ _ _ _ _ _ (h.blk 0 rfl) (h.own 3 rfl) (h.own 1 rfl) (h.own 5 rfl) (show mv/8<tl.length by omega) hwv2 (by omega)))<|qRn (oxI sl_23 ti_3 (aO 4 rfl) om9 rfl<|.nl)<|qN z103<|gte 4 (findsL wait.l words.l (nth regs.l ins.b.toNat):Int) ti_3 om9 rfl rfl<|nN<|fun a105 w105 h105=> ?_;clear h102
   try simp only [Exit.then,Exit.inBlock,if_true]
   refine x_end0 (fn:=Tryz.f73) rfl h105 ?_
   have hf9:(fell|| !decide (0≤nth regs.l ins.b.toNat∧nth regs.l ins.b.toNat<(words.l.length:Int)))=fell:=or_f hb101
   refine ⟨rfl,⟨regs.v,regs.l.set ins.a.toNat (findsL wait.l words.l (nth regs.l ins.b.toNat))⟩,⟨wait.v,wait.l⟩,⟨words.v,words.l⟩,⟨owner.v,owner.l⟩,⟨prints.v,prints.l⟩,(nth thr.l (mv/8)).pc+1,fell, ?_, ?_⟩
   · refine Eq.trans ?_ (doT_0 (by omega)).symm;show _=execT mode (mv/8) (nextIns (nth code.l (mv/8)).l (nth thr.l (mv/8)).pc) _;rw [←hins];first|(refine Eq.trans ?_ (execT_10t (by assumption) (by assumption)).symm;rfl)|(refine Eq.trans ?_ (execT_10f (by assumption) (by assumption)).symm;rfl)
   ·have hz:=(h105.sh.sel (L' := [_,_,_,_,_,_,_,_]) [0,3,4,5,1,6,7,8] rfl)
    rw [hf9,htl] at hz;exact hz
  refine gS<|fun a106 w106 h106=> ?_
  try simp only [Exit.then,Exit.inBlock,if_true]
  refine x_end0 (fn:=Tryz.f73) rfl h106 ?_
  have hf9:(fell|| !decide (0≤nth regs.l ins.b.toNat∧nth regs.l ins.b.toNat<(words.l.length:Int)))=true:=or_t hb101
  refine ⟨rfl,⟨regs.v,regs.l⟩,⟨wait.v,wait.l⟩,⟨words.v,words.l⟩,⟨owner.v,owner.l⟩,⟨prints.v,prints.l⟩,(nth thr.l (mv/8)).pc+1,true, ?_, ?_⟩
  · refine Eq.trans ?_ (doT_0 (by omega)).symm;show _=execT mode (mv/8) (nextIns (nth code.l (mv/8)).l (nth thr.l (mv/8)).pc) _;rw [←hins];first|(refine Eq.trans ?_ (execT_10t (by assumption) (by assumption)).symm;rfl)|(refine Eq.trans ?_ (execT_10f (by assumption) (by assumption)).symm;rfl)
  ·have hz:=(h106.sh.sel (L' := [_,_,_,_,_,_,_,_]) [0,3,4,5,1,6,7,8] rfl)
   rw [hf9,htl] at hz;exact hz
 refine sG (oeqI _ _ rfl<|oM 1 rfl<|.nl)<|gcd rfl (fun hb108 hp108=> ?_) fun hb108 hp108=> ?_
 ·skip
  have q9:=hR.o10 (by omega)
  refine sK fun _ k109=>gNl (aO 3 rfl) fun hl110=>gRn (oM 2 rfl<|ofB fl_32_1 rfl<|olB 0 ti_3 rfl rfl<|oxI sl_23 ti_3 (aO 3 rfl) om9 rfl<|olI ti_3 (aO 3 rfl) om9 rfl<|.nl)<|gO [1,5,0,2,3,4,6,7,8] rfl<|gM 2 rfl (fun _ _ h_=>xCl h_ bd_116 rfl (word_c _ _ (nth regs.l ins.a.toNat) _ _ _ _ _ _ _ _ _ _ _ (pKl 2 h_ rfl))) rfl<|?_
  rintro _ _ w113 ⟨rfl,hs113⟩
  refine gBk hs113 rfl<|gU<|gRn (oM 1 rfl<|.nl)<|nK k109<|sG (oM 1 rfl<|.nl)<|?_;clear hs113
  refine gcd rfl (fun hb115 hp115=> ?_) fun hb115 hp115=> ?_
  ·skip
   refine rT 13 [] (oM 3 rfl<|ofB fl_32_1 rfl<|olB 2 ti_3 rfl rfl<|oxI sl_23 ti_3 (aO 4 rfl) om9 rfl<|olI ti_3 (aO 4 rfl) om9 rfl<|oM 1 rfl<|ofB fl_32_2 rfl<|olB 2 ti_3 rfl rfl<|oxI sl_23 ti_3 (aO 4 rfl) om9 rfl<|olI ti_3 (aO 4 rfl) om9 rfl<|oV (r_build (cs:= [.bool false, .int .i64 (nth regs.l ins.a.toNat), .int .i64 (nth regs.l ins.b.toNat)]) rfl rfl (by kernel_rfl)) rfl<|.nl)<|gO [0,3,5,1,6,2,4,7,8] rfl<|gM 5 rfl (fun _ _ h_=>xCl h_ bd_115 rfl (store_c _ _ (mv/8) (⟨false,nth regs.l ins.a.toNat,nth regs.l ins.b.toNat⟩:Wt) (⟨thr.v,tl⟩:Ls ThV) wait words owner _ _ _ _ _ _ _ _ (pKl 5 h_ rfl) (by first|(simp only [if_true];omega)|(simp only [Bool.false_eq_true,if_false];omega)) (show mv/8<tl.length by omega) hwv2 (by omega))) rfl<|?_
   rintro _ _ w118 ⟨rfl,wait118,words118,owner118,hst,hs118⟩
   refine gBk hs118 rfl<|gU<|nN<|fun a119 w119 h119=> ?_;clear hs118
   try simp only [Exit.then,Exit.inBlock,if_true]
   refine x_end0 (fn:=Tryz.f73) rfl h119 ?_
   have hf9:(fell|| !decide (0≤nth regs.l ins.a.toNat∧nth regs.l ins.a.toNat<(words.l.length:Int)))=fell:=or_f hb115
   refine ⟨rfl,⟨regs.v,regs.l⟩,⟨wait118.v,wait118.l⟩,⟨words118.v,words118.l⟩,⟨owner118.v,owner118.l⟩,⟨prints.v,prints.l⟩,(nth thr.l (mv/8)).pc+1,fell, ?_, ?_⟩
   · refine Eq.trans ?_ (doT_0 (by omega)).symm;show _=execT mode (mv/8) (nextIns (nth code.l (mv/8)).l (nth thr.l (mv/8)).pc) _;rw [←hins];first|exact Eq.trans (store_eq hst) (execT_11t (by assumption) (by assumption)).symm|(refine Eq.trans ?_ (execT_11f (by assumption) (by assumption)).symm;rfl)
   ·have hz:=(h119.sh.sel (L' := [_,_,_,_,_,_,_,_]) [0,1,6,2,3,4,7,8] rfl)
    rw [hf9,thset_wv ht htl] at hz;exact hz
  refine gS<|fun a120 w120 h120=> ?_
  try simp only [Exit.then,Exit.inBlock,if_true]
  refine x_end0 (fn:=Tryz.f73) rfl h120 ?_
  have hf9:(fell|| !decide (0≤nth regs.l ins.a.toNat∧nth regs.l ins.a.toNat<(words.l.length:Int)))=true:=or_t hb115
  refine ⟨rfl,⟨regs.v,regs.l⟩,⟨wait.v,wait.l⟩,⟨words.v,words.l⟩,⟨owner.v,owner.l⟩,⟨prints.v,prints.l⟩,(nth thr.l (mv/8)).pc+1,true, ?_, ?_⟩
  · refine Eq.trans ?_ (doT_0 (by omega)).symm;show _=execT mode (mv/8) (nextIns (nth code.l (mv/8)).l (nth thr.l (mv/8)).pc) _;rw [←hins];first|exact Eq.trans (store_eq hst) (execT_11t (by assumption) (by assumption)).symm|(refine Eq.trans ?_ (execT_11f (by assumption) (by assumption)).symm;rfl)
  ·have hz:=(h120.sh.sel (L' := [_,_,_,_,_,_,_,_]) [0,3,4,5,1,6,7,8] rfl)
   rw [hf9,htl] at hz;exact hz
 refine sG (oeqI _ _ rfl<|oM 1 rfl<|.nl)<|gcd rfl (fun hb122 hp122=> ?_) fun hb122 hp122=> ?_
 ·skip
  have q9:=hR.o13 (by omega)
  refine gK fun _ k123=>gNl (aO 5 rfl) fun hl124=>gNl (aO 3 rfl) fun hl125=>rQ (oM 1 rfl<|onfl 1 fl_111_3 ti_23 rfl rfl<|ofB fl_32_1 rfl<|olB 0 ti_3 rfl rfl<|oxI sl_23 ti_3 (aO 5 rfl) om9 rfl<|olI ti_3 (aO 5 rfl) om9 rfl<|oM 1 rfl<|ofB fl_32_2 rfl<|olB 0 ti_3 rfl rfl<|oxI sl_23 ti_3 (aO 3 rfl) om9 rfl<|olI ti_3 (aO 3 rfl) om9 rfl<|oeqI _ _ rfl<|.nl)<|hK k123<|gcd rfl (fun hb126 hp126=> ?_) fun hb126 hp126=> ?_
  ·skip
   have q9:=hR.o13 (by omega)
   refine gK fun _ k127=>rT 12 [] (oM 1 rfl<|onfl 1 fl_111_3 ti_23 rfl rfl<|ofB fl_32_1 rfl<|olB 0 ti_3 rfl rfl<|oM 1 rfl<|ofB fl_32_3 rfl<|olB 0 ti_3 rfl rfl<|oxI sl_23 ti_3 (aO 3 rfl) om9 rfl<|olI ti_3 (aO 3 rfl) om9 rfl<|oxI sl_23 ti_3 (aO 5 rfl) om9 rfl<|.nl)<|gte 5 (nth regs.l ins.c.toNat:Int) ti_3 om9 rfl rfl<|nK k127<|gF [7,9] rfl<|gL<|gRn (oM 1 rfl<|ofB fl_32_2 rfl<|olB 0 ti_3 rfl rfl<|oxI sl_23 ti_3 (aO 3 rfl) om9 rfl<|.nl)<|gte 3 (1:Int) ti_3 om9 rfl rfl<|nN<|fun a130 w130 h130=> ?_
   try simp only [Exit.then,Exit.inBlock,if_true]
   refine x_end0 (fn:=Tryz.f73) rfl h130<|⟨rfl,⟨regs.v,regs.l.set ins.b.toNat 1⟩,⟨wait.v,wait.l⟩,⟨words.v,words.l.set ins.a.toNat (nth regs.l ins.c.toNat)⟩,⟨owner.v,owner.l⟩,⟨prints.v,prints.l⟩,(nth thr.l (mv/8)).pc+1,fell, ?_, ?_⟩
   · refine Eq.trans ?_ (doT_0 (by omega)).symm;show _=execT mode (mv/8) (nextIns (nth code.l (mv/8)).l (nth thr.l (mv/8)).pc) _;rw [←hins];first|(refine Eq.trans ?_ (execT_13t (by assumption) (by assumption)).symm;rfl)|(refine Eq.trans ?_ (execT_13f (by assumption) (by assumption)).symm;rfl)
   ·have hz:=(h130.sh.sel (L' := [_,_,_,_,_,_,_,_]) [1,2,3,4,5,6,7,8] rfl)
    rw [htl] at hz;exact hz
  refine gL<|gRn (oM 1 rfl<|ofB fl_32_2 rfl<|olB 0 ti_3 rfl rfl<|oxI sl_23 ti_3 (aO 3 rfl) om9 rfl<|.nl)<|gte 3 (0:Int) ti_3 om9 rfl rfl<|nN<|fun a132 w132 h132=> ?_
  try simp only [Exit.then,Exit.inBlock,if_true]
  refine x_end0 (fn:=Tryz.f73) rfl h132<|⟨rfl,⟨regs.v,regs.l.set ins.b.toNat 0⟩,⟨wait.v,wait.l⟩,⟨words.v,words.l⟩,⟨owner.v,owner.l⟩,⟨prints.v,prints.l⟩,(nth thr.l (mv/8)).pc+1,fell, ?_, ?_⟩
  · refine Eq.trans ?_ (doT_0 (by omega)).symm;show _=execT mode (mv/8) (nextIns (nth code.l (mv/8)).l (nth thr.l (mv/8)).pc) _;rw [←hins];first|(refine Eq.trans ?_ (execT_13t (by assumption) (by assumption)).symm;rfl)|(refine Eq.trans ?_ (execT_13f (by assumption) (by assumption)).symm;rfl)
  ·have hz:=(h132.sh.sel (L' := [_,_,_,_,_,_,_,_]) [1,2,3,4,5,6,7,8] rfl)
   rw [htl] at hz;exact hz
 refine sG (oeqI _ _ rfl<|oM 1 rfl<|.nl)<|gcd rfl (fun hb134 hp134=> ?_) fun hb134 hp134=> ?_
 ·skip
  refine gL<|gRn (oM 1 rfl<|ofB fl_32_1 rfl<|olB 0 ti_3 rfl rfl<|onl rfl<|ofE fl_119_0 rfl<|.nl)<|gte 2 ({ nth tl (mv/8) with pc:=ins.a } :ThV) ti_3 om9 rfl rfl<|nN<|fun a136 w136 h136=> ?_
  try simp only [Exit.then,Exit.inBlock,if_true]
  refine x_end0 (fn:=Tryz.f73) rfl h136<|⟨rfl,⟨regs.v,regs.l⟩,⟨wait.v,wait.l⟩,⟨words.v,words.l⟩,⟨owner.v,owner.l⟩,⟨prints.v,prints.l⟩,ins.a,fell, ?_, ?_⟩
  · refine Eq.trans ?_ (doT_0 (by omega)).symm;show _=execT mode (mv/8) (nextIns (nth code.l (mv/8)).l (nth thr.l (mv/8)).pc) _;rw [←hins];(refine Eq.trans ?_ (execT_14 (by assumption)).symm;rfl)
  ·have hz:=(h136.sh.sel (L' := [_,_,_,_,_,_,_,_]) [1,2,3,4,5,6,7,8] rfl)
   rw [thset_pc ht htl] at hz;exact hz
 refine sG (oeqI _ _ rfl<|oM 1 rfl<|.nl)<|gcd rfl (fun hb138 hp138=> ?_) fun hb138 hp138=> ?_
 ·skip
  have q9:=hR.o15 (by omega)
  refine sK fun _ k139=>gNl (aO 3 rfl) fun hl140=>gRn (oM 1 rfl<|ofB fl_32_1 rfl<|olB 0 ti_3 rfl rfl<|oxI sl_23 ti_3 (aO 3 rfl) om9 rfl<|olI ti_3 (aO 3 rfl) om9 rfl<|oeqI _ _ rfl<|.nl)<|nK k139<|gcd rfl (fun hb141 hp141=> ?_) fun hb141 hp141=> ?_
  ·skip
   refine gL<|gRn (oM 1 rfl<|ofB fl_32_2 rfl<|olB 0 ti_3 rfl rfl<|onl rfl<|ofE fl_119_0 rfl<|.nl)<|gte 2 ({ nth tl (mv/8) with pc:=ins.b } :ThV) ti_3 om9 rfl rfl<|nN<|fun a143 w143 h143=> ?_
   try simp only [Exit.then,Exit.inBlock,if_true]
   refine x_end0 (fn:=Tryz.f73) rfl h143<|⟨rfl,⟨regs.v,regs.l⟩,⟨wait.v,wait.l⟩,⟨words.v,words.l⟩,⟨owner.v,owner.l⟩,⟨prints.v,prints.l⟩,ins.b,fell, ?_, ?_⟩
   · refine Eq.trans ?_ (doT_0 (by omega)).symm;show _=execT mode (mv/8) (nextIns (nth code.l (mv/8)).l (nth thr.l (mv/8)).pc) _;rw [←hins];first|(refine Eq.trans ?_ (execT_15t (by assumption) (by assumption)).symm;rfl)|(refine Eq.trans ?_ (execT_15f (by assumption) (by assumption)).symm;rfl)
   ·have hz:=(h143.sh.sel (L' := [_,_,_,_,_,_,_,_]) [1,2,3,4,5,6,7,8] rfl)
    rw [thset_pc ht htl] at hz;exact hz
  refine gS<|fun a144 w144 h144=> ?_
  try simp only [Exit.then,Exit.inBlock,if_true]
  refine x_end0 (fn:=Tryz.f73) rfl h144<|⟨rfl,⟨regs.v,regs.l⟩,⟨wait.v,wait.l⟩,⟨words.v,words.l⟩,⟨owner.v,owner.l⟩,⟨prints.v,prints.l⟩,(nth thr.l (mv/8)).pc+1,fell, ?_, ?_⟩
  · refine Eq.trans ?_ (doT_0 (by omega)).symm;show _=execT mode (mv/8) (nextIns (nth code.l (mv/8)).l (nth thr.l (mv/8)).pc) _;rw [←hins];first|(refine Eq.trans ?_ (execT_15t (by assumption) (by assumption)).symm;rfl)|(refine Eq.trans ?_ (execT_15f (by assumption) (by assumption)).symm;rfl)
  ·have hz:=(h144.sh.sel (L' := [_,_,_,_,_,_,_,_]) [1,2,3,4,5,6,7,8] rfl)
   rw [htl] at hz;exact hz
 refine sG (oeqI _ _ rfl<|oM 1 rfl<|.nl)<|gcd rfl (fun hb146 hp146=> ?_) fun hb146 hp146=> ?_
 ·skip
  have q9:=hR.o15 (by omega)
  refine gNl (aO 3 rfl) fun hl147=>rC [11,12,15] rfl<|pR [0,1,2,3,4,5,6,7,8,9,10] rfl (oM 2 rfl<|onfl 1 fl_111_5 ti_23 rfl rfl<|oM 2 rfl<|ofB fl_32_1 rfl<|olB 0 ti_3 rfl rfl<|oxI sl_23 ti_3 (aO 3 rfl) om9 rfl<|olI ti_3 (aO 3 rfl) om9 rfl<|.nl) rfl<|pX (fun _ _ h_=>x_lit (n:=2) (cs:= [.int .i64 ((mv/8:Nat):Int), .int .i64 (nth regs.l ins.a.toNat)]) ([((mv/8:Nat):Int),nth regs.l ins.a.toNat]:List Int) h_ sl_23 ti_3 rfl rfl rfl (by decide) rfl (by kernel_rfl) rfl (fun q hq w h=>Flat.inner _ _) (fun q hq b hb=>(Flat.on _ _ hb).elim) rfl rfl) rfl fun v148=>pR [0,1,2,3,4] rfl (oM 2 rfl<|onfl 2 fl_111_5 ti_23 rfl rfl<|.nl) rfl<|pX (fun _ _ h_=>x_app (r:=8) (rm:=0) (s:=prints) (m:=(⟨v148, [((mv/8:Nat):Int),nth regs.l ins.a.toNat]⟩:Ls Int)) h_ sl_23 ti_3 rfl rfl rfl rfl rfl rfl rfl (fun w h=>(h.own 0 rfl)) (fun b hb=>own_on (h_.sh.ok _ (List.mem_of_getElem? (i:=0) rfl)) hb) (fun q hq b hb=>⟨q,hq,hb⟩) rfl rfl rfl inferInstance (show (prints.l.length+([((mv/8:Nat):Int),nth regs.l ins.a.toNat]).length)*8≤140737488355328∧prints.l.length+([((mv/8:Nat):Int),nth regs.l ins.a.toNat]).length≤140737488355328 from om9) rfl rfl) rfl fun v149=>pR [0,13,14] rfl (oM 1 rfl<|onf fl_111_5 rfl<|.nl) rfl<|pS (fun _ _ h_=>x_stb (i:=2) (vs:= [v149]) (cs' := [code.v,pw, .int .i64 locks, .int .i64 nregs, .int .i64 mode,thr.v,words.v,owner.v,v149, .bool fell]) h_ ti_23 rfl rfl rfl rfl rfl (cells_oneL ((h_.sh.own 8 rfl)).one) rfl (allOne_cons ((h_.sh.own 8 rfl)).one allOne_nil) (Nat.le_of_ble_eq_true rfl) rfl) rfl<|pE [] rfl (.nl) rfl<|fun a151 w151 h151=> ?_
  try simp only [Exit.then,Exit.inBlock,if_true]
  refine x_end0 (fn:=Tryz.f73) rfl h151<|⟨rfl,⟨regs.v,regs.l⟩,⟨wait.v,wait.l⟩,⟨words.v,words.l⟩,⟨owner.v,owner.l⟩,⟨v149,prints.l++([((mv/8:Nat):Int),nth regs.l ins.a.toNat])⟩,(nth thr.l (mv/8)).pc+1,fell, ?_, ?_⟩
  · refine Eq.trans ?_ (doT_0 (by omega)).symm;show _=execT mode (mv/8) (nextIns (nth code.l (mv/8)).l (nth thr.l (mv/8)).pc) _;rw [←hins];(refine Eq.trans ?_ (execT_16 (by assumption)).symm;rfl)
  ·have hz:=(h151.sh.sel (L' := [_,_,_,_,_,_,_,_]) [2,3,4,5,6,7,8,9] rfl)
   rw [htl] at hz;exact hz
 refine sG (oeqI _ _ rfl<|oM 1 rfl<|.nl)<|gcd rfl (fun hb153 hp153=> ?_) fun hb153 hp153=> ?_
 ·skip
  have q9:=hR.o17 (by omega)
  refine gNl (aO 6 rfl) fun hl154=>rT 8 [] (oM 1 rfl<|onfl 1 fl_111_4 ti_23 rfl rfl<|ofB fl_32_1 rfl<|olB 0 ti_3 rfl rfl<|oM 1 rfl<|oxI sl_23 ti_3 (aO 6 rfl) om9 rfl<|.nl)<|gte 6 (((mv/8:Nat):Int):Int) ti_3 om9 rfl rfl<|nN<|fun a156 w156 h156=> ?_
  try simp only [Exit.then,Exit.inBlock,if_true]
  refine x_end0 (fn:=Tryz.f73) rfl h156<|⟨rfl,⟨regs.v,regs.l⟩,⟨wait.v,wait.l⟩,⟨words.v,words.l⟩,⟨owner.v,owner.l.set ins.a.toNat ((mv/8:Nat):Int)⟩,⟨prints.v,prints.l⟩,(nth thr.l (mv/8)).pc+1,fell, ?_, ?_⟩
  · refine Eq.trans ?_ (doT_0 (by omega)).symm;show _=execT mode (mv/8) (nextIns (nth code.l (mv/8)).l (nth thr.l (mv/8)).pc) _;rw [←hins];(refine Eq.trans ?_ (execT_17 (by assumption)).symm;rfl)
  ·have hz:=(h156.sh.sel (L' := [_,_,_,_,_,_,_,_]) [1,2,3,4,5,6,7,8] rfl)
   rw [htl] at hz;exact hz
 refine sG (oeqI _ _ rfl<|oM 1 rfl<|.nl)<|gcd rfl (fun hb158 hp158=> ?_) fun hb158 hp158=> ?_
 ·skip
  have q9:=hR.o17 (by omega)
  refine gK fun _ k159=>gK fun _ k160=>gNl (aO 6 rfl) fun hl161=>rQ (oM 1 rfl<|onfl 1 fl_111_4 ti_23 rfl rfl<|ofB fl_32_1 rfl<|olB 0 ti_3 rfl rfl<|oxI sl_23 ti_3 (aO 6 rfl) om9 rfl<|olI ti_3 (aO 6 rfl) om9 rfl<|oM 1 rfl<|oneI _ _ rfl<|.nl)<|hK k160<|gF [0,4,5,7,341] rfl<|gcd rfl (fun hb162 hp162=> ?_) fun hb162 hp162=> ?_
  ·skip
   have q9:=hR.o17 (by omega)
   refine sK fun _ k163=>gRn (oM 1 rfl<|onf fl_111_6 rfl<|.nl)<|gst (v:= .bool true) 1 ti_4 rfl rfl rfl<|nK k163<|gR<|uT<|uB<|fun a165 w165 h165=>x_ret0 (fn:=Tryz.f73) rfl h165<|⟨rfl,⟨regs.v,regs.l⟩,⟨wait.v,wait.l⟩,⟨words.v,words.l⟩,⟨owner.v,owner.l⟩,⟨prints.v,prints.l⟩,(nth thr.l (mv/8)).pc+1,true, ?_, ?_⟩
   · refine Eq.trans ?_ (doT_0 (by omega)).symm;show _=execT mode (mv/8) (nextIns (nth code.l (mv/8)).l (nth thr.l (mv/8)).pc) _;rw [←hins];first|(refine Eq.trans ?_ (execT_18a (by assumption) (by assumption)).symm;rfl)|exact Eq.trans (store_eq hst) (execT_18c (by assumption) (by assumption) (fun q (hq:q<wait.l.length)=>hall q (by omega))).symm|(refine Eq.trans ?_ (execT_18b (by assumption) (by assumption) j (by assumption) (by assumption) (by assumption)).symm;rfl)
   ·have hz:=(h165.sh.sel (L' := [_,_,_,_,_,_,_,_]) [1,2,3,4,5,6,7,8] rfl)
    rw [htl] at hz;exact hz
  refine gS<|hK k159<|gK fun _ k166=>sG (oM 1 rfl<|.nl)<|gB<|fun a169 w169 h169=>x_loop (fun m a w=>∃(j:Nat),(j≤wait.l.length)∧(∀q,q<j→¬((nth wait.l q).lock=true∧(nth wait.l q).wh=ins.a))∧St 384 K W a w [(0, .pointer (some ⟨g,0,none⟩)),(4, .int .i64 ((mv/8:Nat):Int)),(5, .pointer (some (padr thr.v 3 (mv/8) 0))),(7, .pointer (some ⟨b31,0,none⟩)),(12, .int .i64 ((j:Nat):Int))] [.blk b31 32 [.int .i64 ins.op, .int .i64 ins.a, .int .i64 ins.b, .int .i64 ins.c], .blk g 111 [code.v,pw, .int .i64 locks, .int .i64 nregs, .int .i64 mode,thr.v,words.v,owner.v,prints.v, .bool fell], .own 119 (⟨thr.v,tl⟩:Ls ThV), .own 3 regs, .own 167 wait, .own 3 words, .own 3 owner, .own 3 prints, .at_ code]∧m=wait.l.length-j) ⟨_,0,(by omega),(fun q hq=>absurd hq (by omega)),h169.nf ⟨rfl,rfl,rfl,rfl,rfl,trivial⟩,rfl⟩ ?_
  clear h169
  rintro m168 a168 w168 ⟨j,hj,hall,h168,hm168⟩
  refine gG h168<|gK fun _ k170=>sK fun _ k171=>gNl (aO 4 rfl) fun hl172=>gRn (oM 2 rfl<|onl rfl<|ofE fl_119_2 rfl<|oV (Rn.same (r_lde (s:=(⟨thr.v,tl⟩:Ls ThV)) (i:=mv/8) (v:=((nth tl (mv/8)).wv)) ti_117 rfl rfl rfl (fun w h=>(h.own 2 rfl)) (show mv/8<tl.length from om9) (Nat.le_of_ble_eq_true rfl) rfl) hwv2) rfl<|oln sl_117 (aO 4 rfl) rfl<|oltN _ _ rfl<|.nl)<|nK k171<|?_;clear h168
  refine gcd rfl (fun hb173 hp173=> ?_) fun hb173 hp173=> ?_
  ·skip
   refine gS<|hK k170<|gK fun _ k174=>gB<|gK fun _ k175=>fun a176 w176 h176=>x_quiet (by kernel_rfl) (by kernel_rfl) h176 fun _ z177=>qQ h176.fr<|qRn (oM 1 rfl<|onl rfl<|ofE fl_119_2 rfl<|oV (Rn.same (r_lde (s:=(⟨thr.v,tl⟩:Ls ThV)) (i:=mv/8) (v:=((nth tl (mv/8)).wv)) ti_117 rfl rfl rfl (fun w h=>(h.own 2 rfl)) (show mv/8<tl.length from om9) (Nat.le_of_ble_eq_true rfl) rfl) hwv2) rfl<|oM 1 rfl<|oxN sl_117 ti_167 (aO 4 rfl) _ om9 rfl<|ofE fl_167_0 rfl<|olE (.bool ((nth wait.l j).lock)) ti_4 (aO 4 rfl) om9 rfl<|oM 1 rfl<|.nl)<|?_
   rcases Bool.eq_false_or_eq_true ((nth wait.l j).lock) with hb178|hb178
   ·skip
    refine qRn (oG hb178 (r_move rfl rfl) rfl<|oG hb178 (r_nil rfl rfl) rfl<|oG hb178 (r_fieldE (r:=2) fl_119_2 rfl rfl rfl) rfl<|oG hb178 (Rn.same (r_lde (s:=(⟨thr.v,tl⟩:Ls ThV)) (i:=mv/8) (v:=((nth tl (mv/8)).wv)) ti_117 rfl rfl rfl (fun w h=>(h.own 2 rfl)) (show mv/8<tl.length from om9) (Nat.le_of_ble_eq_true rfl) rfl) hwv2) rfl<|oG hb178 (r_move rfl rfl) rfl<|oG hb178 (r_ixN (s:=wait) (q:=j) sl_117 ti_167 rfl rfl rfl (fun w h=>(h.own 4 rfl)) (show j<wait.l.length from om9)) rfl<|oG hb178 (r_fieldE (r:=1) fl_167_1 rfl rfl rfl) rfl<|oG hb178 (r_lde (s:=wait) (i:=j) (v:= .int .i64 ((nth wait.l j).wh)) ti_3 rfl rfl rfl (fun w h=>(h.own 4 rfl)) (show j<wait.l.length from om9) (Nat.le_of_ble_eq_true rfl) rfl) rfl<|oG hb178 (r_fieldB (r:=1) fl_32_1 rfl rfl rfl) rfl<|oG hb178 (r_ldb (i:=0) ti_3 rfl rfl rfl rfl) rfl<|oG hb178 (r_eqlI (p:=(nth wait.l j).wh) (q:=ins.a) rfl rfl rfl) rfl<|opT hb178 rfl<|.nl)<|qN z177<|?_;clear h176
    refine hK k175<|gF [0,4,5,7,12,374] rfl<|gcd rfl (fun hb190 hp190=> ?_) fun hb190 hp190=> ?_
    ·skip
     refine sK fun _ k191=>gRn (oM 1 rfl<|onf fl_111_6 rfl<|.nl)<|gst (v:= .bool true) 1 ti_4 rfl rfl rfl<|nK k191<|gR<|uB<|uT<|uT<|uB<|uT<|uB<|fun a193 w193 h193=>x_ret0 (fn:=Tryz.f73) rfl h193<|⟨rfl,⟨regs.v,regs.l⟩,⟨wait.v,wait.l⟩,⟨words.v,words.l⟩,⟨owner.v,owner.l⟩,⟨prints.v,prints.l⟩,(nth thr.l (mv/8)).pc+1,true, ?_, ?_⟩
     · refine Eq.trans ?_ (doT_0 (by omega)).symm;show _=execT mode (mv/8) (nextIns (nth code.l (mv/8)).l (nth thr.l (mv/8)).pc) _;rw [←hins];first|(refine Eq.trans ?_ (execT_18a (by assumption) (by assumption)).symm;rfl)|exact Eq.trans (store_eq hst) (execT_18c (by assumption) (by assumption) (fun q (hq:q<wait.l.length)=>hall q (by omega))).symm|(refine Eq.trans ?_ (execT_18b (by assumption) (by assumption) j (by assumption) (by assumption) (by assumption)).symm;rfl)
     ·have hz:=(h193.sh.sel (L' := [_,_,_,_,_,_,_,_]) [1,2,3,4,5,6,7,8] rfl)
      rw [htl] at hz;exact hz
    refine gS<|hK k174<|gL<|gRn (oM 1 rfl<|oadN _ 1 om9 rfl<|oM 1 rfl<|.nl)<|nN<|fun a194 w194 h194=>x_again ⟨_, ?_,j+1, ?_, ?_,h194.nf ⟨rfl,rfl,rfl,rfl,rfl,trivial⟩,rfl⟩
    · rw [hm168];first|omega|(simp only [lens9];omega)
    · omega
    · intro q hq;rcases Nat.lt_or_ge q j with h9|h9;(exact hall q h9);obtain rfl:q=j:=(by omega);first|(rintro ⟨h8,_⟩;exact absurd (h8.symm.trans (show _=false by assumption)) (by decide))|(rintro ⟨_,h8⟩;omega)
   refine qRn (oKs 11 hb178 rfl rfl<|opF hb178 rfl<|.nl)<|qN z177<|?_;clear h176
   refine hK k175<|gF [0,4,5,7,12,374] rfl<|gcF rfl rfl<|gS<|hK k174<|gL<|gRn (oM 1 rfl<|oadN _ 1 om9 rfl<|oM 1 rfl<|.nl)<|nN<|fun a196 w196 h196=>x_again ⟨_, ?_,j+1, ?_, ?_,h196.nf ⟨rfl,rfl,rfl,rfl,rfl,trivial⟩,rfl⟩
   · rw [hm168];first|omega|(simp only [lens9];omega)
   · omega
   · intro q hq;rcases Nat.lt_or_ge q j with h9|h9;(exact hall q h9);obtain rfl:q=j:=(by omega);first|(rintro ⟨h8,_⟩;exact absurd (h8.symm.trans (show _=false by assumption)) (by decide))|(rintro ⟨_,h8⟩;omega)
  refine gX<|hK k166<|gL<|gRn (oM 2 rfl<|ofB fl_32_1 rfl<|olB 0 ti_3 rfl rfl<|oV (r_build (cs:= [.bool true, .int .i64 ins.a, .int .i64 0]) rfl rfl (by kernel_rfl)) rfl<|.nl)<|gO [1,2,4,5,6,0,3,7,8] rfl<|gM 5 rfl (fun _ _ h_=>xCl h_ bd_115 rfl (store_c _ _ (mv/8) (⟨true,ins.a,0⟩:Wt) (⟨thr.v,tl⟩:Ls ThV) wait words owner _ _ _ _ _ _ _ _ (pKl 5 h_ rfl) (by first|(simp only [if_true];omega)|(simp only [Bool.false_eq_true,if_false];omega)) (show mv/8<tl.length by omega) hwv2 (by omega))) rfl<|?_
  rintro _ _ w199 ⟨rfl,wait199,words199,owner199,hst,hs199⟩
  refine gBk hs199 rfl<|gU<|nN<|fun a200 w200 h200=> ?_;clear hs199
  try simp only [Exit.then,Exit.inBlock,if_true]
  refine x_end0 (fn:=Tryz.f73) rfl h200<|⟨rfl,⟨regs.v,regs.l⟩,⟨wait199.v,wait199.l⟩,⟨words199.v,words199.l⟩,⟨owner199.v,owner199.l⟩,⟨prints.v,prints.l⟩,(nth thr.l (mv/8)).pc+1,fell, ?_, ?_⟩
  · refine Eq.trans ?_ (doT_0 (by omega)).symm;show _=execT mode (mv/8) (nextIns (nth code.l (mv/8)).l (nth thr.l (mv/8)).pc) _;rw [←hins];first|(refine Eq.trans ?_ (execT_18a (by assumption) (by assumption)).symm;rfl)|exact Eq.trans (store_eq hst) (execT_18c (by assumption) (by assumption) (fun q (hq:q<wait.l.length)=>hall q (by omega))).symm|(refine Eq.trans ?_ (execT_18b (by assumption) (by assumption) j (by assumption) (by assumption) (by assumption)).symm;rfl)
  ·have hz:=(h200.sh.sel (L' := [_,_,_,_,_,_,_,_]) [0,1,6,2,3,4,7,8] rfl)
   rw [thset_wv ht htl] at hz;exact hz
 refine gS<|fun a201 w201 h201=> ?_
 try simp only [Exit.then,Exit.inBlock,if_true]
 refine x_end0 (fn:=Tryz.f73) rfl h201<|⟨rfl,⟨regs.v,regs.l⟩,⟨wait.v,wait.l⟩,⟨words.v,words.l⟩,⟨owner.v,owner.l⟩,⟨prints.v,prints.l⟩,(nth thr.l (mv/8)).pc+1,fell, ?_, ?_⟩
 · refine Eq.trans ?_ (doT_0 (by omega)).symm;show _=execT mode (mv/8) (nextIns (nth code.l (mv/8)).l (nth thr.l (mv/8)).pc) _;rw [←hins];(refine Eq.trans ?_ (execT_no (by omega)).symm;rfl)
 ·have hz:=(h201.sh.sel (L' := [_,_,_,_,_,_,_,_]) [1,2,3,4,5,6,7,8] rfl)
  rw [htl] at hz;exact hz
def wtN (x:Wt):List Int:= [if x.lock=true then 1 else 0,x.wh,x.what]
theorem wtN_t {x:Wt}(h:x.lock=true):wtN x= [1,x.wh,x.what]:=by simp [wtN,h]
theorem wtN_f {x:Wt}(h:x.lock=false):wtN x= [0,x.wh,x.what]:=by simp [wtN,h]
def thN (x:Th):List Int:= [x.pc,(x.wait.length:Int)]++x.regs++x.wait.flatMap wtN
def numbersL (ths:List Th)(words owner prints:List Int):List Int:=ths.flatMap thN++words++owner++prints
theorem flatMap_succ {α β:Type}[Inhabited α](f:α→List β)(l:List α)(i:Nat)(h:i<l.length):(l.take (i+1)).flatMap f=(l.take i).flatMap f++f (nth l i):=by
 rw [take_succ_nth _ _ h];simp
theorem numbers_c (g:Nat)(thr:Ls ThL)(words owner prints:Ls Int)(cv pw:Value)(locks nregs mode:Int)(fell:Bool)(W:World)(hB:Blk W g 111 #[cv,pw, .int .i64 locks, .int .i64 nregs, .int .i64 mode,thr.v,words.v,owner.v,prints.v, .bool fell])(h_thr:thr.At W)(h_words:words.At W)(h_owner:owner.At W)(h_prints:prints.At W)(hcl:thr.l.length≤4)(hrg:∀i,i<thr.l.length→(nth thr.l i).regs.l.length≤100000)(hwl:∀i,i<thr.l.length→(nth thr.l i).wait.l.length≤3)(hwn:words.l.length≤100000∧owner.l.length≤100000∧prints.l.length≤100000000):
    Rets Tryz.prog 106 [.pointer (some ⟨g,0,none⟩)] W (fun v w' =>∃s:Ls Int,v=s.v∧s.l=numbersL (thr.l.map ThL.th) words.l owner.l prints.l∧Sh0 W w' [.own 3 s]):=by
 refine gen Tryz.func106 Tryz.ntmps106 (Sh0.ext (by intro A hA;simp at hA;rcases hA with rfl|rfl|rfl|rfl|rfl;exact hB;exact h_thr;exact h_words;exact h_owner;exact h_prints) (by intro A hA b hb;simp at hA;rcases hA with rfl|rfl|rfl|rfl|rfl<;>exact hb):Sh (fun _=>False) W W [.rblk g 111 [cv,pw, .int .i64 locks, .int .i64 nregs, .int .i64 mode,thr.v,words.v,owner.v,prints.v, .bool fell], .at_ thr, .at_ words, .at_ owner, .at_ prints]) rfl fun a10 h10=>gG h10<|sG (oM 1 rfl<|.nl)<|sG (oM 1 rfl<|.nl)<|gK fun _ k13=>sG (oM 1 rfl<|.nl)<|gB<|fun a17 w17 h17=> ?_;clear h10
 have h16:=h17.nil (α:=Int) 3
 clear h17
 refine x_loop (fun m a w=>∃(i:Nat) (ml:List Int) (vm:Value),(i≤thr.l.length)∧(ml=((thr.l.take i).map ThL.th).flatMap thN)∧(ml.length≤200000*i)∧St 83 (fun _=>False) W a w [(0, .pointer (some ⟨g,0,none⟩)),(3,vm),(4, .int .i64 ((i:Nat):Int))] [.rblk g 111 [cv,pw, .int .i64 locks, .int .i64 nregs, .int .i64 mode,thr.v,words.v,owner.v,prints.v, .bool fell], .at_ thr, .at_ words, .at_ owner, .at_ prints, .own 3 (⟨vm,ml⟩:Ls Int)]∧m=thr.l.length-i) ⟨_,0, [],(.slice none 0 0),(by omega),(by simp),(by simp),h16.nrm ⟨rfl,rfl,rfl,trivial⟩ [1,2,3,4,5,0] rfl,rfl⟩ ?_
 clear h16
 rintro m15 a15 w15 ⟨i,ml,vm,hi,hml,hmn,h15,hm15⟩
 refine gG h15<|gK fun _ k18=>sK fun _ k19=>gNl (aA 1 rfl) fun hl20=>gRn (oM 2 rfl<|onf fl_111_2 rfl<|olR 0 ti_109 rfl rfl<|oln sl_109 (aA 1 rfl) rfl<|oltN _ _ rfl<|.nl)<|nK k19<|?_;clear h15
 refine gcd rfl (fun hb21 hp21=> ?_) fun hb21 hp21=> ?_
 ·skip
  refine gS<|hK k18<|?_
  have hrgi:=hrg i (by omega)
  have hwli:=hwl i (by omega)
  refine gK fun _ k22=>gB<|sK fun _ k23=>gRn (oM 1 rfl<|onf fl_111_2 rfl<|olR 0 ti_109 rfl rfl<|oM 1 rfl<|oxN sl_109 ti_119 (aA 1 rfl) _ om9 rfl<|olw2 [.int .i64 ((nth thr.l i).pc),((nth thr.l i).regs).v,((nth thr.l i).wait).v] ti_119 (aA 1 rfl) om9 rfl<|.nl)<|gal ti_119 rfl fun b24=>gE (fun _ _ h_=>x_stb (i:=0) (vs:= [.int .i64 ((nth thr.l i).pc),((nth thr.l i).regs).v,((nth thr.l i).wait).v]) (cs' := [.int .i64 ((nth thr.l i).pc),((nth thr.l i).regs).v,((nth thr.l i).wait).v]) h_ ti_119 rfl rfl rfl rfl rfl rfl rfl (allOne_cons rfl (allOne_cons (((h_.sh.at 2 rfl).inner i (show i<thr.l.length from om9)).1).one (allOne_cons (((h_.sh.at 2 rfl).inner i (show i<thr.l.length from om9)).2).one allOne_nil))) (Nat.le_of_ble_eq_true rfl) rfl) rfl<|nK k23<|sK fun _ k26=>gNl (fun w h=>((h.at 2 rfl).inner i (show i<thr.l.length from (by omega))).2) fun (hl27:(((nth thr.l i).wait).l).length≤140737488355328)=>gRn (oM 1 rfl<|ofB fl_119_0 rfl<|olB 0 ti_3 rfl rfl<|ofB fl_119_2 rfl<|olB 0 ti_117 rfl rfl<|oln (n:=(((nth thr.l i).wait).l).length) sl_117 (fun w h=>((h.at 2 rfl).inner i (show i<thr.l.length from (by omega))).2) rfl<|.nl)<|gE1 (fun _ _ h_=>x_lit (n:=2) (cs:= [.int .i64 ((nth thr.l i).pc), .int .i64 (((((nth thr.l i).wait).l).length:Nat):Int)]) ([(nth thr.l i).pc,(((((nth thr.l i).wait).l).length:Nat):Int)]:List Int) h_ sl_23 ti_3 rfl rfl rfl (by decide) rfl (by kernel_rfl) rfl (fun q hq w h=>Flat.inner _ _) (fun q hq b hb=>(Flat.on _ _ hb).elim) rfl rfl) rfl fun v28=>gE1 (fun _ _ h_=>x_app (r:=7) (rm:=0) (s:=(⟨vm,ml⟩:Ls Int)) (m:=(⟨v28, [(nth thr.l i).pc,(((((nth thr.l i).wait).l).length:Nat):Int)]⟩:Ls Int)) h_ sl_23 ti_3 rfl rfl rfl rfl rfl rfl rfl (fun w h=>(h.own 0 rfl)) (fun b hb=>own_on (h_.sh.ok _ (List.mem_of_getElem? (i:=0) rfl)) hb) (fun q hq b hb=>⟨q,hq,hb⟩) rfl rfl rfl inferInstance (show (ml.length+([(nth thr.l i).pc,(((((nth thr.l i).wait).l).length:Nat):Int)]).length)*8≤140737488355328∧ml.length+([(nth thr.l i).pc,(((((nth thr.l i).wait).l).length:Nat):Int)]).length≤140737488355328 from om9) rfl rfl) rfl fun v29=>gRn (oM 1 rfl<|.nl)<|nK k26<|sK fun _ k30=>gRn (oM 1 rfl<|ofB fl_119_1 rfl<|olB 1 ti_23 rfl rfl<|.nl)<|gE1 (fun _ _ h_=>x_app (r:=7) (rm:=3) (s:=(⟨v29,ml++([(nth thr.l i).pc,(((((nth thr.l i).wait).l).length:Nat):Int)])⟩:Ls Int)) (m:=(nth thr.l i).regs) h_ sl_23 ti_3 rfl rfl rfl rfl rfl rfl rfl (fun w h=>((h.at 3 rfl).inner i (show i<thr.l.length from om9)).1) (fun b hb=> .inr (.inr ⟨i,(show i<thr.l.length from om9), .inl hb⟩)) (fun q hq b hb=>(Flat.on _ _ hb).elim) rfl rfl rfl inferInstance (show ((ml++([(nth thr.l i).pc,(((((nth thr.l i).wait).l).length:Nat):Int)])).length+(((nth thr.l i).regs).l).length)*8≤140737488355328∧(ml++([(nth thr.l i).pc,(((((nth thr.l i).wait).l).length:Nat):Int)])).length+(((nth thr.l i).regs).l).length≤140737488355328 from om9) rfl rfl) rfl fun v31=>gRn (oM 1 rfl<|.nl)<|nK k30<|gF [0,3,4,5] rfl<|sG (oM 1 rfl<|.nl)<|gB<|fun a34 w34 h34=>x_loop (fun m a w=>∃(k:Nat) (ml2:List Int) (vm2:Value),(k≤(nth thr.l i).wait.l.length)∧(ml2=ml++([(nth thr.l i).pc,((nth thr.l i).wait.l.length:Int)]++(nth thr.l i).regs.l++((nth thr.l i).wait.l.take k).flatMap wtN))∧(ml2.length≤ml.length+2+(nth thr.l i).regs.l.length+3*k)∧St 83 (fun _=>False) W a w [(0, .pointer (some ⟨g,0,none⟩)),(3,vm2),(4, .int .i64 ((i:Nat):Int)),(5, .pointer (some ⟨b24,0,none⟩)),(6, .int .i64 ((k:Nat):Int))] [.own 3 (⟨v28, [(nth thr.l i).pc,(((((nth thr.l i).wait).l).length:Nat):Int)]⟩:Ls Int), .blk b24 119 [.int .i64 ((nth thr.l i).pc),((nth thr.l i).regs).v,((nth thr.l i).wait).v], .rblk g 111 [cv,pw, .int .i64 locks, .int .i64 nregs, .int .i64 mode,thr.v,words.v,owner.v,prints.v, .bool fell], .at_ thr, .at_ words, .at_ owner, .at_ prints, .own 3 (⟨vm2,ml2⟩:Ls Int)]∧m=(nth thr.l i).wait.l.length-k) ⟨_,0,(ml++([(nth thr.l i).pc,(((((nth thr.l i).wait).l).length:Nat):Int)]))++(((nth thr.l i).regs).l),v31,(by omega),(by simp),(by simp;omega),h34.nf ⟨rfl,rfl,rfl,rfl,rfl,trivial⟩,rfl⟩ ?_
  clear h34
  rintro m33 a33 w33 ⟨k,ml2,vm2,hk,hml2,hmn2,h33,hm33⟩
  refine gG h33<|gK fun _ k35=>sG (oM 1 rfl<|ofB fl_119_2 rfl<|olB 1 ti_117 rfl rfl<|oln (n:=(((nth thr.l i).wait).l).length) sl_117 (fun w h=>((h.at 3 rfl).inner i (show i<thr.l.length from (by omega))).2) rfl<|oltN _ _ rfl<|.nl)<|?_;clear h33
  refine gcd rfl (fun hb37 hp37=> ?_) fun hb37 hp37=> ?_
  ·skip
   refine gS<|hK k35<|gK fun _ k38=>gB<|sG (oM 1 rfl<|.nl)<|gK fun _ k40=>sG (ofB fl_119_2 rfl<|olB 1 ti_117 rfl rfl<|oM 1 rfl<|oxN sl_117 ti_167 (fun w h=>((h.at 3 rfl).inner i (show i<thr.l.length from (by omega))).2) _ om9 rfl<|ofE fl_167_0 rfl<|olE (.bool ((nth (((nth thr.l i).wait).l) k).lock)) ti_4 (fun w h=>((h.at 3 rfl).inner i (show i<thr.l.length from (by omega))).2) om9 rfl<|.nl)<|gCb rfl (fun hb42=> ?_) fun hb42=> ?_
   ·skip
    refine gL<|gRn (oM 1 rfl<|.nl)<|nK k40<|rT 14 [0] (oM 2 rfl<|ofB fl_119_2 rfl<|olB 1 ti_117 rfl rfl<|oM 1 rfl<|oxN sl_117 ti_167 (fun w h=>((h.at 3 rfl).inner i (show i<thr.l.length from (by omega))).2) _ om9 rfl<|ofE fl_167_1 rfl<|olE (.int .i64 ((nth (((nth thr.l i).wait).l) k).wh)) ti_3 (fun w h=>((h.at 3 rfl).inner i (show i<thr.l.length from (by omega))).2) om9 rfl<|ofB fl_119_2 rfl<|olB 1 ti_117 rfl rfl<|oM 1 rfl<|oxN sl_117 ti_167 (fun w h=>((h.at 3 rfl).inner i (show i<thr.l.length from (by omega))).2) _ om9 rfl<|ofE fl_167_2 rfl<|olE (.int .i64 ((nth (((nth thr.l i).wait).l) k).what)) ti_3 (fun w h=>((h.at 3 rfl).inner i (show i<thr.l.length from (by omega))).2) om9 rfl<|.nl)<|gE1 (fun _ _ h_=>x_lit (n:=3) (cs:= [.int .i64 1, .int .i64 ((nth (((nth thr.l i).wait).l) k).wh), .int .i64 ((nth (((nth thr.l i).wait).l) k).what)]) ([1,(nth (((nth thr.l i).wait).l) k).wh,(nth (((nth thr.l i).wait).l) k).what]:List Int) h_ sl_23 ti_3 rfl rfl rfl (by decide) rfl (by kernel_rfl) rfl (fun q hq w h=>Flat.inner _ _) (fun q hq b hb=>(Flat.on _ _ hb).elim) rfl rfl) rfl fun v43=>gE1 (fun _ _ h_=>x_app (r:=8) (rm:=0) (s:=(⟨vm2,ml2⟩:Ls Int)) (m:=(⟨v43, [1,(nth (((nth thr.l i).wait).l) k).wh,(nth (((nth thr.l i).wait).l) k).what]⟩:Ls Int)) h_ sl_23 ti_3 rfl rfl rfl rfl rfl rfl rfl (fun w h=>(h.own 0 rfl)) (fun b hb=>own_on (h_.sh.ok _ (List.mem_of_getElem? (i:=0) rfl)) hb) (fun q hq b hb=>⟨q,hq,hb⟩) rfl rfl rfl inferInstance (show (ml2.length+([1,(nth (((nth thr.l i).wait).l) k).wh,(nth (((nth thr.l i).wait).l) k).what]).length)*8≤140737488355328∧ml2.length+([1,(nth (((nth thr.l i).wait).l) k).wh,(nth (((nth thr.l i).wait).l) k).what]).length≤140737488355328 from om9) rfl rfl) rfl fun v44=>gRn (oM 1 rfl<|.nl)<|nK k38<|gF [0,3,4,5,6] rfl<|gL<|gRn (oM 1 rfl<|oadN _ 1 om9 rfl<|oM 1 rfl<|.nl)<|nN<|fun a45 w45 h45=>x_again ⟨_, ?_,k+1,ml2++([1,(nth (((nth thr.l i).wait).l) k).wh,(nth (((nth thr.l i).wait).l) k).what]),v44, ?_, ?_, ?_,h45.nrm ⟨rfl,rfl,rfl,rfl,rfl,trivial⟩ [1,2,3,4,5,6,7,8] rfl,rfl⟩
    · rw [hm33];first|omega|(simp only [lens9];omega)
    · omega
    · first|(rw [flatMap_succ _ _ _ (by omega),hml2,wtN_t (by assumption)];simp only [List.append_assoc];done)|(rw [flatMap_succ _ _ _ (by omega),hml2,wtN_f (by assumption)];simp only [List.append_assoc];done)
    · simp;omega
   refine gS<|hK k40<|rT 14 [0] (oM 2 rfl<|ofB fl_119_2 rfl<|olB 1 ti_117 rfl rfl<|oM 1 rfl<|oxN sl_117 ti_167 (fun w h=>((h.at 3 rfl).inner i (show i<thr.l.length from (by omega))).2) _ om9 rfl<|ofE fl_167_1 rfl<|olE (.int .i64 ((nth (((nth thr.l i).wait).l) k).wh)) ti_3 (fun w h=>((h.at 3 rfl).inner i (show i<thr.l.length from (by omega))).2) om9 rfl<|ofB fl_119_2 rfl<|olB 1 ti_117 rfl rfl<|oM 1 rfl<|oxN sl_117 ti_167 (fun w h=>((h.at 3 rfl).inner i (show i<thr.l.length from (by omega))).2) _ om9 rfl<|ofE fl_167_2 rfl<|olE (.int .i64 ((nth (((nth thr.l i).wait).l) k).what)) ti_3 (fun w h=>((h.at 3 rfl).inner i (show i<thr.l.length from (by omega))).2) om9 rfl<|.nl)<|gE1 (fun _ _ h_=>x_lit (n:=3) (cs:= [.int .i64 0, .int .i64 ((nth (((nth thr.l i).wait).l) k).wh), .int .i64 ((nth (((nth thr.l i).wait).l) k).what)]) ([0,(nth (((nth thr.l i).wait).l) k).wh,(nth (((nth thr.l i).wait).l) k).what]:List Int) h_ sl_23 ti_3 rfl rfl rfl (by decide) rfl (by kernel_rfl) rfl (fun q hq w h=>Flat.inner _ _) (fun q hq b hb=>(Flat.on _ _ hb).elim) rfl rfl) rfl fun v46=>gE1 (fun _ _ h_=>x_app (r:=8) (rm:=0) (s:=(⟨vm2,ml2⟩:Ls Int)) (m:=(⟨v46, [0,(nth (((nth thr.l i).wait).l) k).wh,(nth (((nth thr.l i).wait).l) k).what]⟩:Ls Int)) h_ sl_23 ti_3 rfl rfl rfl rfl rfl rfl rfl (fun w h=>(h.own 0 rfl)) (fun b hb=>own_on (h_.sh.ok _ (List.mem_of_getElem? (i:=0) rfl)) hb) (fun q hq b hb=>⟨q,hq,hb⟩) rfl rfl rfl inferInstance (show (ml2.length+([0,(nth (((nth thr.l i).wait).l) k).wh,(nth (((nth thr.l i).wait).l) k).what]).length)*8≤140737488355328∧ml2.length+([0,(nth (((nth thr.l i).wait).l) k).wh,(nth (((nth thr.l i).wait).l) k).what]).length≤140737488355328 from om9) rfl rfl) rfl fun v47=>gRn (oM 1 rfl<|.nl)<|nK k38<|gF [0,3,4,5,6] rfl<|gL<|gRn (oM 1 rfl<|oadN _ 1 om9 rfl<|oM 1 rfl<|.nl)<|nN<|fun a48 w48 h48=>x_again ⟨_, ?_,k+1,ml2++([0,(nth (((nth thr.l i).wait).l) k).wh,(nth (((nth thr.l i).wait).l) k).what]),v47, ?_, ?_, ?_,h48.nrm ⟨rfl,rfl,rfl,rfl,rfl,trivial⟩ [1,2,3,4,5,6,7,8] rfl,rfl⟩
   · rw [hm33];first|omega|(simp only [lens9];omega)
   · omega
   · first|(rw [flatMap_succ _ _ _ (by omega),hml2,wtN_t (by assumption)];simp only [List.append_assoc];done)|(rw [flatMap_succ _ _ _ (by omega),hml2,wtN_f (by assumption)];simp only [List.append_assoc];done)
   · simp;omega
  refine gX<|hK k22<|gL<|gRn (oM 1 rfl<|oadN _ 1 om9 rfl<|oM 1 rfl<|.nl)<|nN<|fun a49 w49 h49=>x_again ⟨_, ?_,i+1,ml2,vm2, ?_, ?_, ?_,h49.nrm ⟨rfl,rfl,rfl,trivial⟩ [2,3,4,5,6,7] rfl,rfl⟩
  · rw [hm15];first|omega|(simp only [lens9];omega)
  · omega
  · rw [take_succ_nth _ _ (by omega),List.map_append,List.flatMap_append,←hml,hml2,show k=(nth thr.l i).wait.l.length by omega];simp [thN,ThL.th,List.take_of_length_le]
  · have:=hrg i (by omega);have:=hwl i (by omega);omega
 refine gX<|hK k13<|sK fun _ k50=>gRn (oM 2 rfl<|onf fl_111_3 rfl<|olR 0 ti_23 rfl rfl<|.nl)<|gE1 (fun _ _ h_=>x_app (r:=5) (rm:=2) (s:=(⟨vm,ml⟩:Ls Int)) (m:=words) h_ sl_23 ti_3 rfl rfl rfl rfl rfl rfl rfl (fun w h=>(h.at 2 rfl)) (fun b hb=> .inr hb) (fun q hq b hb=> .inr ⟨q,hq,hb⟩) rfl rfl rfl inferInstance (show (ml.length+words.l.length)*8≤140737488355328∧ml.length+words.l.length≤140737488355328 from om9) rfl rfl) rfl fun v51=>gRn (oM 1 rfl<|.nl)<|nK k50<|sK fun _ k52=>gRn (oM 2 rfl<|onf fl_111_4 rfl<|olR 0 ti_23 rfl rfl<|.nl)<|gE1 (fun _ _ h_=>x_app (r:=5) (rm:=3) (s:=(⟨v51,ml++words.l⟩:Ls Int)) (m:=owner) h_ sl_23 ti_3 rfl rfl rfl rfl rfl rfl rfl (fun w h=>(h.at 3 rfl)) (fun b hb=> .inr hb) (fun q hq b hb=> .inr ⟨q,hq,hb⟩) rfl rfl rfl inferInstance (show ((ml++words.l).length+owner.l.length)*8≤140737488355328∧(ml++words.l).length+owner.l.length≤140737488355328 from om9) rfl rfl) rfl fun v53=>gRn (oM 1 rfl<|.nl)<|nK k52<|sK fun _ k54=>gRn (oM 2 rfl<|onf fl_111_5 rfl<|olR 0 ti_23 rfl rfl<|.nl)<|gE1 (fun _ _ h_=>x_app (r:=5) (rm:=4) (s:=(⟨v53,(ml++words.l)++owner.l⟩:Ls Int)) (m:=prints) h_ sl_23 ti_3 rfl rfl rfl rfl rfl rfl rfl (fun w h=>(h.at 4 rfl)) (fun b hb=> .inr hb) (fun q hq b hb=> .inr ⟨q,hq,hb⟩) rfl rfl rfl inferInstance (show (((ml++words.l)++owner.l).length+prints.l.length)*8≤140737488355328∧((ml++words.l)++owner.l).length+prints.l.length≤140737488355328 from om9) rfl rfl) rfl fun v55=>gRn (oM 1 rfl<|.nl)<|nK k54<|gF [2] rfl<|gR<|fun a56 w56 h56=>x_ret1 (fn:=Tryz.f106) (t:=2) rfl h56 rfl<|⟨⟨v55,((ml++words.l)++owner.l)++prints.l⟩,rfl, ?_,(h56.sh.sel [5] rfl)⟩
 show _++_++_++_=_;rw [hml,show i=thr.l.length by omega,List.take_length];rfl
theorem copy_c (g:Nat)(thr:Ls ThL)(words owner prints:Ls Int)(cv pw:Value)(locks nregs mode:Int)(fell:Bool)(W:World)(hB:Blk W g 111 #[cv,pw, .int .i64 locks, .int .i64 nregs, .int .i64 mode,thr.v,words.v,owner.v,prints.v, .bool fell])(h_thr:thr.At W)(h_words:words.At W)(h_owner:owner.At W)(h_prints:prints.At W)(hcl:thr.l.length≤4)(hrg:∀i,i<thr.l.length→(nth thr.l i).regs.l.length≤100000)(hwl:∀i,i<thr.l.length→(nth thr.l i).wait.l.length≤3)(hwn:words.l.length≤100000∧owner.l.length≤100000∧prints.l.length≤100000000):
    Rets Tryz.prog 72 [.pointer (some ⟨g,0,none⟩)] W (fun v w' =>∃(g2:Nat) (rows:List ThL) (vt:Value) (words' owner' prints' :Ls Int),v= .pointer (some ⟨g2,0,none⟩)∧rows.map ThL.th=thr.l.map ThL.th∧words'.l=words.l∧owner'.l=owner.l∧prints'.l=prints.l∧Sh0 W w' [.blk g2 111 [cv,pw, .int .i64 locks, .int .i64 nregs, .int .i64 mode,vt,words'.v,owner'.v,prints'.v, .bool fell], .own 119 (⟨vt,rows.map ThL.toV⟩:Ls ThV), .big (rowsA 3 167 rows), .own 3 words', .own 3 owner', .own 3 prints']):=by
 refine gen Tryz.func72 Tryz.ntmps72 (Sh0.ext (by intro A hA;simp at hA;rcases hA with rfl|rfl|rfl|rfl|rfl;exact hB;exact h_thr;exact h_words;exact h_owner;exact h_prints) (by intro A hA b hb;simp at hA;rcases hA with rfl|rfl|rfl|rfl|rfl<;>exact hb):Sh (fun _=>False) W W [.rblk g 111 [cv,pw, .int .i64 locks, .int .i64 nregs, .int .i64 mode,thr.v,words.v,owner.v,prints.v, .bool fell], .at_ thr, .at_ words, .at_ owner, .at_ prints]) rfl fun a10 h10=>gG h10<|sG (oM 1 rfl<|.nl)<|gK fun _ k12=>rT 13 [] (oM 1 rfl<|onf fl_111_0 rfl<|oV (r_ldbwR (vs:= [cv,pw, .int .i64 locks, .int .i64 nregs]) ti_25 rfl rfl (fun w h=>h.rblk 0 rfl) rfl rfl) rfl<|oM 1 rfl<|onf fl_111_1 rfl<|olR 0 ti_3 rfl rfl<|oM 1 rfl<|onf fl_111_6 rfl<|olR 0 ti_4 rfl rfl<|oV (r_build (cs:= [cv,pw, .int .i64 locks, .int .i64 nregs, .int .i64 mode,(.slice none 0 0),(.slice none 0 0),(.slice none 0 0),(.slice none 0 0), .bool fell]) rfl rfl (by kernel_rfl)) rfl<|.nl)<|gbx rfl rfl fun b13=>gRn (oM 1 rfl<|.nl)<|nK k12<|sK fun _ k14=>gRn (oM 1 rfl<|.nl)<|gE1 (fun _ _ h_=>x_lit0 (α:=Int) h_ sl_23 ti_3 rfl rfl rfl) rfl fun v15=>gRn (oM 1 rfl<|onf fl_111_3 rfl<|olR 2 ti_23 rfl rfl<|.nl)<|gE1 (fun _ _ h_=>x_app (r:=0) (rm:=4) (s:=(⟨v15, []⟩:Ls Int)) (m:=words) h_ sl_23 ti_3 rfl rfl rfl rfl rfl rfl rfl (fun w h=>(h.at 4 rfl)) (fun b hb=> .inr hb) (fun q hq b hb=> .inr ⟨q,hq,hb⟩) rfl rfl rfl inferInstance (show (([]).length+words.l.length)*8≤140737488355328∧([]).length+words.l.length≤140737488355328 from om9) rfl rfl) rfl fun v16=>gRn (onf fl_111_3 rfl<|.nl)<|gsr 1 ti_23 rfl (aO 0 rfl) rfl<|nK k14<|gF [0,3] rfl<|sK fun _ k18=>gRn (oM 1 rfl<|.nl)<|gE1 (fun _ _ h_=>x_lit0 (α:=Int) h_ sl_23 ti_3 rfl rfl rfl) rfl fun v19=>gRn (oM 1 rfl<|onf fl_111_4 rfl<|olR 3 ti_23 rfl rfl<|.nl)<|gE1 (fun _ _ h_=>x_app (r:=0) (rm:=6) (s:=(⟨v19, []⟩:Ls Int)) (m:=owner) h_ sl_23 ti_3 rfl rfl rfl rfl rfl rfl rfl (fun w h=>(h.at 6 rfl)) (fun b hb=> .inr hb) (fun q hq b hb=> .inr ⟨q,hq,hb⟩) rfl rfl rfl inferInstance (show (([]).length+owner.l.length)*8≤140737488355328∧([]).length+owner.l.length≤140737488355328 from om9) rfl rfl) rfl fun v20=>gRn (onf fl_111_4 rfl<|.nl)<|gsr 2 ti_23 rfl (aO 0 rfl) rfl<|nK k18<|sK fun _ k22=>gRn (oM 1 rfl<|.nl)<|gE1 (fun _ _ h_=>x_lit0 (α:=Int) h_ sl_23 ti_3 rfl rfl rfl) rfl fun v23=>gRn (oM 1 rfl<|onf fl_111_5 rfl<|olR 4 ti_23 rfl rfl<|.nl)<|gE1 (fun _ _ h_=>x_app (r:=0) (rm:=8) (s:=(⟨v23, []⟩:Ls Int)) (m:=prints) h_ sl_23 ti_3 rfl rfl rfl rfl rfl rfl rfl (fun w h=>(h.at 8 rfl)) (fun b hb=> .inr hb) (fun q hq b hb=> .inr ⟨q,hq,hb⟩) rfl rfl rfl inferInstance (show (([]).length+prints.l.length)*8≤140737488355328∧([]).length+prints.l.length≤140737488355328 from om9) rfl rfl) rfl fun v24=>gRn (onf fl_111_5 rfl<|.nl)<|gsr 3 ti_23 rfl (aO 0 rfl) rfl<|nK k22<|gK fun _ k26=>sG (oM 1 rfl<|.nl)<|gB<|fun a30 w30 h30=> ?_;clear h10
 have h29:=h30.nil (α:=ThV) 119
 clear h30
 have h31:=h29.big0 3 167
 clear h29
 refine x_loop (fun m a w=>∃(i:Nat) (rows:List ThL) (vt:Value),(i≤thr.l.length)∧(rows.length=i)∧(rows.map ThL.th=(thr.l.take i).map ThL.th)∧St 98 (fun _=>False) W a w [(0, .pointer (some ⟨g,0,none⟩)),(3, .pointer (some ⟨b13,0,none⟩)),(4, .int .i64 ((i:Nat):Int))] [.own 3 (⟨v24,prints.l⟩:Ls Int), .own 3 (⟨v20,owner.l⟩:Ls Int), .own 3 (⟨v16,words.l⟩:Ls Int), .blk b13 111 [cv,pw, .int .i64 locks, .int .i64 nregs, .int .i64 mode,vt,v16,v20,v24, .bool fell], .rblk g 111 [cv,pw, .int .i64 locks, .int .i64 nregs, .int .i64 mode,thr.v,words.v,owner.v,prints.v, .bool fell], .at_ thr, .at_ words, .at_ owner, .at_ prints, .own 119 (⟨vt,rows.map ThL.toV⟩:Ls ThV), .big (rowsA 3 167 rows)]∧m=thr.l.length-i) ⟨_,0, [],_,(by omega),(rfl),(by simp),h31.nrm ⟨rfl,rfl,rfl,trivial⟩ [2,3,4,5,6,7,8,9,10,1,0] rfl,rfl⟩ ?_
 clear h31
 rintro m28 a28 w28 ⟨i,rows,vt,hi,hrl,hrw,h28,hm28⟩
 refine gG h28<|gK fun _ k32=>sK fun _ k33=>gNl (aA 5 rfl) fun hl34=>gRn (oM 2 rfl<|onf fl_111_2 rfl<|olR 4 ti_109 rfl rfl<|oln sl_109 (aA 5 rfl) rfl<|oltN _ _ rfl<|.nl)<|nK k33<|?_;clear h28
 refine gcd rfl (fun hb35 hp35=> ?_) fun hb35 hp35=> ?_
 ·skip
  refine gS<|hK k32<|?_
  have hrgi:=hrg i (by omega)
  have hwli:=hwl i (by omega)
  refine gK fun _ k36=>gB<|sK fun _ k37=>gRn (oM 1 rfl<|onf fl_111_2 rfl<|olR 4 ti_109 rfl rfl<|oM 1 rfl<|oxN sl_109 ti_119 (aA 5 rfl) _ om9 rfl<|ofE fl_119_0 rfl<|olI ti_3 (aA 5 rfl) om9 rfl<|oV (r_build (cs:= [.int .i64 ((nth thr.l i).pc),(.slice none 0 0),(.slice none 0 0)]) rfl rfl (by kernel_rfl)) rfl<|.nl)<|gal ti_119 rfl fun b38=>gsw 0 ti_119 rfl rfl rfl<|nK k37<|sK fun _ k40=>gE1 (fun _ _ h_=>x_lit0 (α:=Int) h_ sl_23 ti_3 rfl rfl rfl) rfl fun v41=>gRn (oM 1 rfl<|onf fl_111_2 rfl<|olR 6 ti_109 rfl rfl<|oM 1 rfl<|oxN sl_109 ti_119 (aA 7 rfl) _ om9 rfl<|ofE fl_119_1 rfl<|olE (((nth thr.l i).regs).v) ti_23 (aA 7 rfl) om9 rfl<|.nl)<|gE1 (fun _ _ h_=>x_app (r:=0) (rm:=7) (s:=(⟨v41, []⟩:Ls Int)) (m:=(nth thr.l i).regs) h_ sl_23 ti_3 rfl rfl rfl rfl rfl rfl rfl (fun w h=>((h.at 7 rfl).inner i (show i<thr.l.length from om9)).1) (fun b hb=> .inr (.inr ⟨i,(show i<thr.l.length from om9), .inl hb⟩)) (fun q hq b hb=>(Flat.on _ _ hb).elim) rfl rfl rfl inferInstance (show (([]).length+(((nth thr.l i).regs).l).length)*8≤140737488355328∧([]).length+(((nth thr.l i).regs).l).length≤140737488355328 from om9) rfl rfl) rfl fun v42=>gRn (ofB fl_119_1 rfl<|.nl)<|gsr 1 ti_23 rfl (aO 0 rfl) rfl<|nK k40<|gF [0,3,4,5] rfl<|sK fun _ k44=>gE1 (fun _ _ h_=>x_lit0 (α:=Wt) h_ sl_117 ti_167 rfl rfl rfl) rfl fun v45=>gRn (oM 1 rfl<|onf fl_111_2 rfl<|olR 7 ti_109 rfl rfl<|oM 1 rfl<|oxN sl_109 ti_119 (aA 8 rfl) _ om9 rfl<|ofE fl_119_2 rfl<|olE (((nth thr.l i).wait).v) ti_117 (aA 8 rfl) om9 rfl<|.nl)<|gE1 (fun _ _ h_=>x_app (r:=0) (rm:=8) (s:=(⟨v45, []⟩:Ls Wt)) (m:=(nth thr.l i).wait) h_ sl_117 ti_167 rfl rfl rfl rfl rfl rfl rfl (fun w h=>((h.at 8 rfl).inner i (show i<thr.l.length from om9)).2) (fun b hb=> .inr (.inr ⟨i,(show i<thr.l.length from om9), .inr hb⟩)) (fun q hq b hb=>(Flat.on _ _ hb).elim) rfl rfl rfl inferInstance (show (([]).length+(((nth thr.l i).wait).l).length)*24≤140737488355328∧([]).length+(((nth thr.l i).wait).l).length≤140737488355328 from om9) rfl rfl) rfl fun v46=>gRn (ofB fl_119_2 rfl<|.nl)<|gsr 2 ti_117 rfl (aO 0 rfl) rfl<|nK k44<|rC [6,7,10] rfl<|pR [0,1,2,3,4,5] rfl (oM 2 rfl<|onfl 6 fl_111_2 ti_109 rfl rfl<|olw 2 ti_119 rfl rfl<|.nl) rfl<|pX (fun _ _ h_=>x_lit (n:=1) (cs:= [.int .i64 ((nth thr.l i).pc),v42,v46]) ([(⟨(nth thr.l i).pc,v42,v46⟩:ThV)]:List ThV) h_ sl_109 ti_119 rfl rfl rfl (by decide) rfl (by kernel_rfl) rfl (fun q hq w h=>Flat.inner _ _) (fun q hq b hb=>(Flat.on _ _ hb).elim) rfl rfl) rfl fun v48=>pR [0,1,2,3,4] rfl (oM 2 rfl<|onfl 7 fl_111_2 ti_109 rfl rfl<|.nl) rfl<|pX (fun _ _ h_=>x_app1 (r:=13) (rm:=0) (s:=(⟨vt,rows.map ThL.toV⟩:Ls ThV)) (m:=(⟨v48, [(⟨(nth thr.l i).pc,v42,v46⟩:ThV)]⟩:Ls ThV)) h_ sl_109 ti_119 rfl rfl rfl rfl rfl rfl rfl (fun w h=>(h.own 0 rfl)) (fun b hb=>own_on (h_.sh.ok _ (List.mem_of_getElem? (i:=0) rfl)) hb) (fun q hq b hb=>⟨q,hq,hb⟩) rfl rfl rfl (fun w h q hq j hj=>by obtain rfl:q=0:=(by simpa using hq);rcases j with _|_|_|j;exact rfl;exact ((h.own 2 rfl)).one;exact ((h.own 1 rfl)).one;exact absurd hj (by show¬(j+3<3);omega)) (show ((rows.map ThL.toV).length+([(⟨(nth thr.l i).pc,v42,v46⟩:ThV)]).length)*56≤140737488355328∧(rows.map ThL.toV).length+([(⟨(nth thr.l i).pc,v42,v46⟩:ThV)]).length≤140737488355328 from om9) rfl rfl) rfl fun v49=>pR [0,8,9] rfl (oM 1 rfl<|onf fl_111_2 rfl<|.nl) rfl<|pS (fun _ _ h_=>x_stb (i:=7) (vs:= [v49]) (cs' := [cv,pw, .int .i64 locks, .int .i64 nregs, .int .i64 mode,v49,v16,v20,v24, .bool fell]) h_ ti_109 rfl rfl rfl rfl rfl (cells_oneL ((h_.sh.own 13 rfl)).one) rfl (allOne_cons ((h_.sh.own 13 rfl)).one allOne_nil) (Nat.le_of_ble_eq_true rfl) rfl) rfl<|pE [] rfl (.nl) rfl<|hK k36<|gL<|gRn (oM 1 rfl<|oadN _ 1 om9 rfl<|oM 1 rfl<|.nl)<|nN<|gO [2,1,14,0,3,4,5,6,7,8,9,10,11,12,13] rfl<|fun a53 w53 h53=> ?_
  have h52:=h53.fold (x:=(⟨(nth thr.l i).pc,(⟨v42,((nth thr.l i).regs).l⟩:Ls Int),(⟨v46,((nth thr.l i).wait).l⟩:Ls Wt)⟩:ThL))
  clear h53
  have h54:=h52.relist (i:=12) (l' :=(rows++ [(⟨(nth thr.l i).pc,(⟨v42,((nth thr.l i).regs).l⟩:Ls Int),(⟨v46,((nth thr.l i).wait).l⟩:Ls Wt)⟩:ThL)]).map ThL.toV) rfl (by simp [ThL.toV])
  clear h52
  refine x_again ⟨_, ?_,(i+1),(rows++ [(⟨(nth thr.l i).pc,(⟨v42,((nth thr.l i).regs).l⟩:Ls Int),(⟨v46,((nth thr.l i).wait).l⟩:Ls Wt)⟩:ThL)]),v49, ?_, ?_, ?_,h54.nrm ⟨rfl,rfl,rfl,trivial⟩ [3,4,5,6,7,8,9,10,11,12,0] rfl,rfl⟩
  · rw [hm28];first|omega|(simp only [lens9];omega)
  · omega
  · simp [hrl]
  · rw [List.map_append,hrw,take_succ_nth _ _ (by omega),List.map_append];rfl
 refine gX<|hK k26<|sG (oM 2 rfl<|.nl)<|gR<|fun a56 w56 h56=>x_ret1 (fn:=Tryz.f72) (t:=2) rfl h56 rfl<|⟨b13,rows,vt,⟨v16,words.l⟩,⟨v20,owner.l⟩,⟨v24,prints.l⟩,rfl, ?_,rfl,rfl,rfl,(h56.sh.sel [3,9,10,2,1,0] rfl)⟩
 rw [hrw,show i=thr.l.length by omega,List.take_length]
theorem begin_c (code:Ls (Ls Ins))(words:Ls Int)(Lk R:Nat)(mode:Int)(W:World)(hcode:code.At W)(hwords:words.At W)(hcl:code.l.length≤4)(hlk:Lk≤4)(hR:R≤200)(hwn:words.l.length≤64):
    Rets Tryz.prog 67 [.agg #[code.v,words.v, .int .i64 ((Lk:Nat):Int), .int .i64 ((R:Nat):Int)], .int .i64 mode] W (fun v w' =>∃(g2:Nat) (rows:List ThL) (vt:Value) (words' owner' prints' :Ls Int),v= .pointer (some ⟨g2,0,none⟩)∧rows.map ThL.th=List.replicate code.l.length ⟨0,List.replicate R 0, []⟩∧words'.l=words.l∧owner'.l=List.replicate Lk (-1)∧prints'.l= []∧Sh0 W w' [.blk g2 111 [code.v,words.v, .int .i64 (Lk:Int), .int .i64 (R:Int), .int .i64 mode,vt,words'.v,owner'.v,prints'.v, .bool false], .own 119 (⟨vt,rows.map ThL.toV⟩:Ls ThV), .big (rowsA 3 167 rows), .own 3 words', .own 3 owner', .own 3 prints']):=by
 refine gen Tryz.func67 Tryz.ntmps67 (Sh0.ext2 hcode hwords:Sh (fun _=>False) W W [.at_ code, .at_ words]) rfl fun a10 h10=>gG h10<|sK fun _ k11=>gbx rfl rfl fun b12=>gRn (oM 1 rfl<|.nl)<|nK k11<|sK fun _ k13=>gRn (olw 0 ti_25 rfl rfl<|oM 1 rfl<|oV (r_build (cs:= [code.v,words.v, .int .i64 ((Lk:Nat):Int), .int .i64 ((R:Nat):Int), .int .i64 mode,(.slice none 0 0),(.slice none 0 0),(.slice none 0 0),(.slice none 0 0), .bool false]) rfl rfl (by kernel_rfl)) rfl<|.nl)<|gbx rfl rfl fun b14=>gRn (oM 1 rfl<|.nl)<|nK k13<|sK fun _ k15=>gRn (oM 1 rfl<|.nl)<|gE1 (fun _ _ h_=>x_lit0 (α:=Int) h_ sl_23 ti_3 rfl rfl rfl) rfl fun v16=>gRn (ofB fl_25_1 rfl<|olB 2 ti_23 rfl rfl<|.nl)<|gE1 (fun _ _ h_=>x_app (r:=0) (rm:=4) (s:=(⟨v16, []⟩:Ls Int)) (m:=words) h_ sl_23 ti_3 rfl rfl rfl rfl rfl rfl rfl (fun w h=>(h.at 4 rfl)) (fun b hb=> .inr hb) (fun q hq b hb=> .inr ⟨q,hq,hb⟩) rfl rfl rfl inferInstance (show (([]).length+words.l.length)*8≤140737488355328∧([]).length+words.l.length≤140737488355328 from om9) rfl rfl) rfl fun v17=>gRn (onf fl_111_3 rfl<|.nl)<|gsr 1 ti_23 rfl (aO 0 rfl) rfl<|nK k15<|gK fun _ k19=>sG (oM 1 rfl<|.nl)<|gB<|fun a23 w23 h23=> ?_;clear h10
 have h22:=h23.nil (α:=Int) 3
 clear h23
 refine x_loop (fun m a w=>∃(i:Nat) (ol:List Int) (vo:Value),(i≤Lk)∧(ol=List.replicate i (-1))∧(ol.length=i)∧St 55 (fun _=>False) W a w [(2, .pointer (some ⟨b12,0,none⟩)),(5, .pointer (some ⟨b14,0,none⟩)),(6, .int .i64 ((i:Nat):Int))] [.own 3 (⟨v17,words.l⟩:Ls Int), .blk b14 111 [code.v,words.v, .int .i64 ((Lk:Nat):Int), .int .i64 ((R:Nat):Int), .int .i64 mode,(.slice none 0 0),v17,vo,(.slice none 0 0), .bool false], .blk b12 25 [code.v,words.v, .int .i64 ((Lk:Nat):Int), .int .i64 ((R:Nat):Int)], .at_ code, .at_ words, .own 3 (⟨vo,ol⟩:Ls Int)]∧m=Lk-i) ⟨_,0, [],(.slice none 0 0),(by omega),(rfl),(rfl),h22.nrm ⟨rfl,rfl,rfl,trivial⟩ [1,2,3,4,5,0] rfl,rfl⟩ ?_
 clear h22
 rintro m21 a21 w21 ⟨i,ol,vo,hi,hol,holl,h21,hm21⟩
 refine gG h21<|gK fun _ k24=>sG (oM 1 rfl<|ofB fl_25_2 rfl<|olB 2 ti_3 rfl rfl<|oltN _ _ rfl<|.nl)<|?_;clear h21
 refine gcd rfl (fun hb26 hp26=> ?_) fun hb26 hp26=> ?_
 ·skip
  refine gS<|hK k24<|gK fun _ k27=>gB<|gL<|gRn (oM 2 rfl<|onfl 1 fl_111_4 ti_23 rfl rfl<|.nl)<|gE1 (fun _ _ h_=>x_lit (n:=1) (cs:= [.int .i64 (-1)]) ([(-1)]:List Int) h_ sl_23 ti_3 rfl rfl rfl (by decide) rfl (by kernel_rfl) rfl (fun q hq w h=>Flat.inner _ _) (fun q hq b hb=>(Flat.on _ _ hb).elim) rfl rfl) rfl fun v28=>gE1 (fun _ _ h_=>x_app (r:=6) (rm:=0) (s:=(⟨vo,ol⟩:Ls Int)) (m:=(⟨v28, [(-1)]⟩:Ls Int)) h_ sl_23 ti_3 rfl rfl rfl rfl rfl rfl rfl (fun w h=>(h.own 0 rfl)) (fun b hb=>own_on (h_.sh.ok _ (List.mem_of_getElem? (i:=0) rfl)) hb) (fun q hq b hb=>⟨q,hq,hb⟩) rfl rfl rfl inferInstance (show (ol.length+([(-1)]).length)*8≤140737488355328∧ol.length+([(-1)]).length≤140737488355328 from om9) rfl rfl) rfl fun v29=>gRn (onf fl_111_4 rfl<|.nl)<|gsr 2 ti_23 rfl (aO 6 rfl) rfl<|nK k27<|gL<|gRn (oM 1 rfl<|oadN _ 1 om9 rfl<|oM 1 rfl<|.nl)<|nN<|fun a31 w31 h31=>x_again ⟨_, ?_,i+1,ol++([(-1)]),v29, ?_, ?_, ?_,h31.nrm ⟨rfl,rfl,rfl,trivial⟩ [1,2,3,4,5,6] rfl,rfl⟩
  · rw [hm21];first|omega|(simp only [lens9];omega)
  · omega
  · rw [hol,List.replicate_succ']
  · simp [holl]
 refine gX<|hK k19<|?_
 have hol2:ol=List.replicate Lk (-1):=by rw [hol,show i=Lk by omega]
 clear hol hi holl
 refine gK fun _ k32=>sG (oM 1 rfl<|.nl)<|gB<|fun a36 w36 h36=> ?_
 have h35:=h36.nil (α:=ThV) 119
 clear h36
 have h37:=h35.big0 3 167
 clear h35
 refine x_loop (fun m a w=>∃(i:Nat) (rows:List ThL) (vt:Value),(i≤code.l.length)∧(rows.length=i)∧(rows.map ThL.th=List.replicate i ⟨0,List.replicate R 0, []⟩)∧St 55 (fun _=>False) W a w [(2, .pointer (some ⟨b12,0,none⟩)),(5, .pointer (some ⟨b14,0,none⟩)),(7, .int .i64 ((i:Nat):Int))] [.own 3 (⟨v17,words.l⟩:Ls Int), .blk b14 111 [code.v,words.v, .int .i64 ((Lk:Nat):Int), .int .i64 ((R:Nat):Int), .int .i64 mode,vt,v17,vo,(.slice none 0 0), .bool false], .blk b12 25 [code.v,words.v, .int .i64 ((Lk:Nat):Int), .int .i64 ((R:Nat):Int)], .at_ code, .at_ words, .own 3 (⟨vo,ol⟩:Ls Int), .own 119 (⟨vt,rows.map ThL.toV⟩:Ls ThV), .big (rowsA 3 167 rows)]∧m=code.l.length-i) ⟨_,0, [],_,(by omega),(rfl),(rfl),h37.nrm ⟨rfl,rfl,rfl,trivial⟩ [2,3,4,5,6,7,1,0] rfl,rfl⟩ ?_
 clear h37
 rintro m34 a34 w34 ⟨i,rows,vt,hi,hrl,hrw,h34,hm34⟩
 refine gG h34<|gK fun _ k38=>sK fun _ k39=>gNl (aA 3 rfl) fun hl40=>gRn (oM 1 rfl<|ofB fl_25_0 rfl<|olB 2 ti_22 rfl rfl<|oln sl_22 (aA 3 rfl) rfl<|oltN _ _ rfl<|.nl)<|nK k39<|?_;clear h34
 refine gcd rfl (fun hb41 hp41=> ?_) fun hb41 hp41=> ?_
 ·skip
  refine gS<|hK k38<|gK fun _ k42=>gB<|rC [7,9,10,13] rfl<|pR [0,1,2,3,4,5,6] rfl (oM 2 rfl<|onfl 1 fl_111_2 ti_109 rfl rfl<|ofB fl_25_3 rfl<|olB 2 ti_3 rfl rfl<|.nl) rfl<|pX (fun _ _ h_=>x_make (n:=R) (0:Int) h_ sl_23 ti_3 rfl rfl rfl rfl rfl (show 8*R≤140737488355328∧R≤140737488355328 from om9) (fun w=>Flat.inner _ _) (fun b=>Flat.on _ _) rfl rfl) rfl fun v43=>pR [0,1,2,3,4,8] rfl (oM 2 rfl<|onfl 2 fl_111_2 ti_109 rfl rfl<|oV (r_buildS (cs:= [.int .i64 0,v43,(.slice none 0 0)]) rfl rfl (fun w h=>by obtain ⟨A44,n44,c44,(e44:v43=_)⟩:=((h.own 0 rfl)).form;rw [e44];kernel_rfl)) rfl<|.nl) rfl<|pX (fun _ _ h_=>x_lit (n:=1) (cs:= [.int .i64 0,v43,(.slice none 0 0)]) ([(⟨0,v43,(.slice none 0 0)⟩:ThV)]:List ThV) h_ sl_109 ti_119 rfl rfl rfl (by decide) rfl (by kernel_rfl) rfl (fun q hq w h=>Flat.inner _ _) (fun q hq b hb=>(Flat.on _ _ hb).elim) rfl rfl) rfl fun v45=>pR [0,1,2,3,4] rfl (oM 2 rfl<|onfl 3 fl_111_2 ti_109 rfl rfl<|.nl) rfl<|pX (fun _ _ h_=>x_app1 (r:=8) (rm:=0) (s:=(⟨vt,rows.map ThL.toV⟩:Ls ThV)) (m:=(⟨v45, [(⟨0,v43,(.slice none 0 0)⟩:ThV)]⟩:Ls ThV)) h_ sl_109 ti_119 rfl rfl rfl rfl rfl rfl rfl (fun w h=>(h.own 0 rfl)) (fun b hb=>own_on (h_.sh.ok _ (List.mem_of_getElem? (i:=0) rfl)) hb) (fun q hq b hb=>⟨q,hq,hb⟩) rfl rfl rfl (fun w h q hq j hj=>by obtain rfl:q=0:=(by simpa using hq);rcases j with _|_|_|j;exact rfl;exact ((h.own 1 rfl)).one;exact rfl;exact absurd hj (by show¬(j+3<3);omega)) (show ((rows.map ThL.toV).length+([(⟨0,v43,(.slice none 0 0)⟩:ThV)]).length)*56≤140737488355328∧(rows.map ThL.toV).length+([(⟨0,v43,(.slice none 0 0)⟩:ThV)]).length≤140737488355328 from om9) rfl rfl) rfl fun v46=>pR [0,11,12] rfl (oM 1 rfl<|onf fl_111_2 rfl<|.nl) rfl<|pS (fun _ _ h_=>x_stb (i:=3) (vs:= [v46]) (cs' := [code.v,words.v, .int .i64 ((Lk:Nat):Int), .int .i64 ((R:Nat):Int), .int .i64 mode,v46,v17,vo,(.slice none 0 0), .bool false]) h_ ti_109 rfl rfl rfl rfl rfl (cells_oneL ((h_.sh.own 8 rfl)).one) rfl (allOne_cons ((h_.sh.own 8 rfl)).one allOne_nil) (Nat.le_of_ble_eq_true rfl) rfl) rfl<|pE [] rfl (.nl) rfl<|hK k42<|gL<|gRn (oM 1 rfl<|oadN _ 1 om9 rfl<|oM 1 rfl<|.nl)<|nN<|fun a49 w49 h49=> ?_
  have h48:=h49.nil (α:=Wt) 167
  clear h49
  have h50:=h48.sel (L' := [_,_,_,_,_,_,_,_,_,_,_]) [2,0,10,1,3,4,5,6,7,8,9] rfl
  have h51:=h50.fold (x:=(⟨0,(⟨v43,List.replicate R 0⟩:Ls Int),(⟨.slice none 0 0, []⟩:Ls Wt)⟩:ThL))
  clear h50
  have h52:=h51.relist (i:=8) (l' :=(rows++ [(⟨0,(⟨v43,List.replicate R 0⟩:Ls Int),(⟨.slice none 0 0, []⟩:Ls Wt)⟩:ThL)]).map ThL.toV) rfl (by simp [ThL.toV])
  clear h51
  refine x_again ⟨_, ?_,(i+1),(rows++ [(⟨0,(⟨v43,List.replicate R 0⟩:Ls Int),(⟨.slice none 0 0, []⟩:Ls Wt)⟩:ThL)]),v46, ?_, ?_, ?_,h52.nrm ⟨rfl,rfl,rfl,trivial⟩ [2,3,4,5,6,7,8,0] rfl,rfl⟩
  · rw [hm34];first|omega|(simp only [lens9];omega)
  · omega
  · simp [hrl]
  · rw [List.map_append,hrw,List.replicate_succ'];rfl
 refine gX<|hK k32<|sG (oM 2 rfl<|.nl)<|gR<|fun a54 w54 h54=>x_ret1 (fn:=Tryz.f67) (t:=4) rfl h54 rfl ?_
 have h56:=h54.nil (α:=Int) 3
 clear h54
 refine ⟨b14,rows,vt,⟨v17,words.l⟩,⟨vo,ol⟩,⟨.slice none 0 0, []⟩,rfl, ?_,rfl,hol2,rfl,(h56.sh.sel [2,7,8,1,6,0] rfl)⟩
 rw [hrw,show i=code.l.length by omega]
def stA (g:Nat)(hd:List Value)(vt:Value)(rows:List ThL)(words owner prints:Ls Int)(fell:Bool):List Asn:=
 [.blk g 111 (hd++ [vt,words.v,owner.v,prints.v, .bool fell]), .own 119 (⟨vt,rows.map ThL.toV⟩:Ls ThV), .big (rowsA 3 167 rows), .own 3 words, .own 3 owner, .own 3 prints]
theorem do_full (K:Nat→Prop)(g mv:Nat)(code:Ls (Ls Ins))(vt:Value)(rows:List ThL)(words owner prints:Ls Int)(pw:Value)(locks nregs mode:Int)(fell:Bool)(W:World)
  (hS:Sh K W W (stA g [code.v,pw, .int .i64 locks, .int .i64 nregs, .int .i64 mode] vt rows words owner prints fell++ [.at_ code]))
  (hn:mv/8<rows.length) (htc:mv/8<code.l.length) (hmv:mv<1000000) (hpc:0≤(nth rows (mv/8)).pc∧(nth rows (mv/8)).pc<1000000) (hwl:(nth rows (mv/8)).wait.l.length≤3) (hkw:mv%8≤(nth rows (mv/8)).wait.l.length) (hpl:prints.l.length≤100000000) (hol:owner.l.length≤100)
  (hwt:∀j,j<(nth rows (mv/8)).wait.l.length→if (nth (nth rows (mv/8)).wait.l j).lock=true then 0≤(nth (nth rows (mv/8)).wait.l j).wh∧(nth (nth rows (mv/8)).wait.l j).wh<owner.l.length else 0≤(nth (nth rows (mv/8)).wait.l j).wh∧(nth (nth rows (mv/8)).wait.l j).wh<words.l.length)
  (hio:mv%8=0→InsR (nth rows (mv/8)).regs.l.length words.l.length owner.l.length (nextIns (nth code.l (mv/8)).l (nth rows (mv/8)).pc)):
  Rets Tryz.prog 73 [.pointer (some ⟨g,0,none⟩), .int .i64 ((mv:Nat):Int)] W (fun v w' =>v= .tuple #[]∧∃(rows' :List ThL) (words' owner' prints' :Ls Int) (fell' :Bool) (y:TS),
   y=doT mode (mv/8) (nth code.l (mv/8)).l (mv%8) ⟨(nth rows (mv/8)).pc,(nth rows (mv/8)).regs.l,(nth rows (mv/8)).wait.l,words.l,owner.l,prints.l,fell⟩∧rows'.map ThL.th=(rows.map ThL.th).set (mv/8) ⟨y.pc,y.regs,y.wait⟩∧words'.l=y.words∧owner'.l=y.owner∧prints'.l=y.prints∧fell' =y.fell∧
   Sh K W w' (stA g [code.v,pw, .int .i64 locks, .int .i64 nregs, .int .i64 mode] vt rows' words' owner' prints' fell' ++ [.at_ code])):=by
 have h1:=hS.perm (L' := .big (rowsA 3 167 rows):: [.blk g 111 [code.v,pw, .int .i64 locks, .int .i64 nregs, .int .i64 mode,vt,words.v,owner.v,prints.v, .bool fell], .own 119 (⟨vt,rows.map ThL.toV⟩:Ls ThV), .own 3 words, .own 3 owner, .own 3 prints, .at_ code]) ((List.Perm.swap _ _ _).cons _|>.trans (List.Perm.swap _ _ _))
 have h2:=h1.openAt _ hn
 have h3:Sh K W W ([.blk g 111 [code.v,pw, .int .i64 locks, .int .i64 nregs, .int .i64 mode,vt,words.v,owner.v,prints.v, .bool fell], .own 119 (⟨vt,rows.map ThL.toV⟩:Ls ThV), .own 3 (nth rows (mv/8)).regs, .own 167 (nth rows (mv/8)).wait, .own 3 words, .own 3 owner, .own 3 prints, .at_ code]++ [.big (rowsA 3 167 (rows.eraseIdx (mv/8)))]):=h2.sel (L' := [.blk g 111 [code.v,pw, .int .i64 locks, .int .i64 nregs, .int .i64 mode,vt,words.v,owner.v,prints.v, .bool fell], .own 119 (⟨vt,rows.map ThL.toV⟩:Ls ThV), .own 3 (nth rows (mv/8)).regs, .own 167 (nth rows (mv/8)).wait, .own 3 words, .own 3 owner, .own 3 prints, .at_ code, .big (rowsA 3 167 (rows.eraseIdx (mv/8)))]) [3,4,0,1,5,6,7,8,2] rfl
 have hnt:nth (rows.map ThL.toV) (mv/8)=(nth rows (mv/8)).toV:=nth_map' _ _ _ hn
 refine Rets.mono (do_c _ g mv code ⟨vt,rows.map ThL.toV⟩ (nth rows (mv/8)).regs (nth rows (mv/8)).wait words owner prints pw locks nregs mode fell W h3.passL (by simpa using hn) htc hmv (by rw [hnt];rfl) (by rw [hnt];rfl) (by rw [hnt];exact hpc) hwl hkw hpl hol hwt (by rw [hnt];exact hio)) ?_
 rintro v w' ⟨rfl,regs',wait',words',owner',prints',pc',fell',he,hs⟩
 have h4:=h3.backL hs (by intro A hA b hb;simp only [List.mem_cons,List.not_mem_nil,or_false] at hA;rcases hA with rfl|rfl|rfl|rfl|rfl|rfl|rfl|rfl<;>first|exact (hb:False).elim|exact Flat.noRd hb|exact .inl ⟨_,List.mem_of_getElem? (i:=7) rfl, .inr hb⟩)
 have h5:=h4.sel (L' := .own 3 regs' :: .own 167 wait' :: .big (rowsA 3 167 (rows.eraseIdx (mv/8))):: [.blk g 111 ([code.v,pw, .int .i64 locks, .int .i64 nregs, .int .i64 mode]++ [vt,words'.v,owner'.v,prints'.v, .bool fell']), .own 119 (⟨vt,(rows.map ThL.toV).set (mv/8) ⟨pc',regs'.v,wait'.v⟩⟩:Ls ThV), .own 3 words', .own 3 owner', .own 3 prints', .at_ code]) [2,3,8,0,1,4,5,6,7] rfl
 have h6:=Sh.closeAt (x:=⟨pc',regs',wait'⟩) _ hn h5
 rw [show (rows.map ThL.toV).set (mv/8) ⟨pc',regs'.v,wait'.v⟩=(rows.set (mv/8) ⟨pc',regs',wait'⟩).map ThL.toV by rw [List.map_set];rfl] at h6
 have h7:=h6.perm (L' :=stA g [code.v,pw, .int .i64 locks, .int .i64 nregs, .int .i64 mode] vt (rows.set (mv/8) ⟨pc',regs',wait'⟩) words' owner' prints' fell' ++ [.at_ code]) ((List.Perm.swap _ _ _).trans ((List.Perm.swap _ _ _).cons _))
 rw [hnt] at he
 refine ⟨rfl,rows.set (mv/8) ⟨pc',regs',wait'⟩,words',owner',prints',fell',(⟨pc',regs'.l,wait'.l,words'.l,owner'.l,prints'.l,fell'⟩:TS),he, ?_,rfl,rfl,rfl,rfl,h7⟩
 rw [List.map_set];rfl
def sumStep (h:Nat)(x:Int):Nat:=((h^^^toU x)*1099511628211%18446744073709551616)^^^(((h^^^toU x)*1099511628211%18446744073709551616)/2^29)
def sumL (l:List Int):Nat:=l.foldl sumStep (toU (l.length:Int))%4096
theorem sumL_lt (l:List Int):sumL l<4096:=Nat.mod_lt _ (by decide)
def lessB :List Int→List Int→Bool
 |a::l,b::m=>if a=b then lessB l m else decide (a<b)
 |l,m=>decide (l.length<m.length)
theorem lessB_ne :∀ {l m:List Int} (i:Nat),i<l.length→i<m.length→(∀j,j<i→nth l j=nth m j)→nth l i≠nth m i→lessB l m=decide (nth l i<nth m i)
 |a::l,b::m,0,_,_,_,h=>by
  have h' :a≠b:=h
  unfold lessB;rw [if_neg h'];rfl
 |a::l,b::m,i+1,hl,hm,hall,h=>by
  have h0:a=b:=hall 0 (by omega)
  unfold lessB;rw [if_pos h0]
  exact lessB_ne i (by simpa using hl) (by simpa using hm) (fun j hj=>hall (j+1) (by omega)) h
theorem lessB_end :∀ {l m:List Int} (i:Nat),i≤l.length→i≤m.length→(i=l.length∨i=m.length)→(∀j,j<i→nth l j=nth m j)→lessB l m=decide (l.length<m.length)
 | [],m,i,_,_,_,_=>by unfold lessB;rfl
 |a::l, [],i,_,_,_,_=>by unfold lessB;rfl
 |a::l,b::m,0,_,_,h,_=>by simp at h
 |a::l,b::m,i+1,hl,hm,he,hall=>by
  have h0:a=b:=hall 0 (by omega)
  have ih:=lessB_end (l:=l) (m:=m) i (by simpa using hl) (by simpa using hm) (by simpa using he) (fun j hj=>hall (j+1) (by omega))
  unfold lessB;rw [if_pos h0,ih];simp
def aheadB (a b:Outc):Bool:=if a.st=b.st then (if a.words=b.words then lessB a.prints b.prints else lessB a.words b.words) else decide (a.st<b.st)
theorem LsNil {α:Type}[Enc α](w:World):(⟨.slice none 0 0, []⟩:Ls α).At w:=own_at (E:=0) (World.ownsRow_nil w 0 0 _|>fun h=>⟨h,by simp,fun i hi=>absurd hi (by simp)⟩)
theorem sum_c (x:Ls Int)(W:World)(hx:x.At W):
    Rets Tryz.prog 107 [x.v] W (fun v w' =>v= .int .i64 ((sumL x.l:Nat):Int)∧Sh0 W w' []):=by
 refine gen Tryz.func107 Tryz.ntmps107 (Sh0.ext1 hx:Sh (fun _=>False) W W [.at_ x]) rfl fun a10 h10=>gG h10<|sG (oM 1 rfl<|.nl)<|sK fun _ k12=>gNl (aA 0 rfl) fun hl13=>gRn (oM 1 rfl<|oln sl_23 (aA 0 rfl) rfl<|oV (r_cvU Tryz.underlying3 Tryz.underlying202 rfl rfl) rfl<|oM 1 rfl<|.nl)<|nK k12<|gK fun _ k14=>sG (oM 1 rfl<|.nl)<|gB<|fun a17 w17 h17=>x_loop (fun m a w=>∃(i hh:Nat),(i≤x.l.length)∧(hh<18446744073709551616)∧(hh=(x.l.take i).foldl sumStep (toU (x.l.length:Int)))∧St 29 (fun _=>False) W a w [(0,x.v),(3, .int .u64 ((hh:Nat):Int)),(4, .int .i64 ((i:Nat):Int))] [.at_ x]∧m=x.l.length-i) ⟨_,0,toU ((x.l.length:Nat):Int),(by omega),(toU_lt _),(rfl),h17.nf ⟨rfl,rfl,rfl,trivial⟩,rfl⟩ ?_;clear h10
 clear h17
 rintro m16 a16 w16 ⟨i,hh,hi,hlt,hh2,h16,hm16⟩
 refine gG h16<|gK fun _ k18=>sG (oM 2 rfl<|oln sl_23 (aA 0 rfl) rfl<|oltN _ _ rfl<|.nl)<|?_;clear h16
 refine gcd rfl (fun hb20 hp20=> ?_) fun hb20 hp20=> ?_
 ·skip
  refine gS<|hK k18<|gK fun _ k21=>gB<|sG (oM 3 rfl<|oxN sl_23 ti_3 (aA 0 rfl) _ om9 rfl<|olI ti_3 (aA 0 rfl) om9 rfl<|oV (r_cvU Tryz.underlying3 Tryz.underlying202 rfl rfl) rfl<|oV (r_xorU (p:=hh) (q:=toU (nth x.l i)) rfl rfl rfl ⟨(by first|assumption|exact toU_lt _|omega),(by first|assumption|exact toU_lt _|omega)⟩) rfl<|oV (r_mulU (p:=hh^^^(toU (nth x.l i))) (q:=1099511628211) rfl rfl rfl) rfl<|oM 1 rfl<|.nl)<|gL<|gRn (oM 2 rfl<|oV (r_shrU (p:=(hh^^^(toU (nth x.l i)))*1099511628211%18446744073709551616) (k:=29) rfl rfl rfl (by decide)) rfl<|oV (r_xorU (p:=(hh^^^(toU (nth x.l i)))*1099511628211%18446744073709551616) (q:=((hh^^^(toU (nth x.l i)))*1099511628211%18446744073709551616)/2^29) rfl rfl rfl ⟨(by first|assumption|exact toU_lt _|omega),(by first|assumption|exact toU_lt _|omega)⟩) rfl<|oM 1 rfl<|.nl)<|nK k21<|gL<|gRn (oM 1 rfl<|oadN _ 1 om9 rfl<|oM 1 rfl<|.nl)<|nN<|fun a23 w23 h23=>x_again ⟨_, ?_,i+1,((hh^^^(toU (nth x.l i)))*1099511628211%18446744073709551616)^^^(((hh^^^(toU (nth x.l i)))*1099511628211%18446744073709551616)/2^29), ?_, ?_, ?_,h23.nf ⟨rfl,rfl,rfl,trivial⟩,rfl⟩
  · rw [hm16];first|omega|(simp only [lens9];omega)
  · omega
  · exact xor_lt64 (by omega) (by omega)
  · rw [take_succ_nth _ _ (by omega),List.foldl_append,←hh2,List.foldl_cons,List.foldl_nil,sumStep]
 refine gX<|hK k14<|sG (oM 1 rfl<|oV (r_remU (p:=hh) (q:=4096) rfl rfl rfl (by decide)) rfl<|oV (r_cvI Tryz.underlying202 Tryz.underlying3 rfl rfl (show hh%4096<9223372036854775808 from om9)) rfl<|oM 1 rfl<|.nl)<|gR<|fun a25 w25 h25=>x_ret1 (fn:=Tryz.f107) (t:=2) rfl h25 rfl<|⟨?_,(h25.sh.sel [] rfl)⟩
 rw [show hh%4096=sumL x.l by rw [sumL,hh2,show i=x.l.length by omega,List.take_length]]
theorem less_c (x y:Ls Int)(W:World)(hx:x.At W)(hy:y.At W):
    Rets Tryz.prog 118 [x.v,y.v] W (fun v w' =>v= .bool (lessB x.l y.l)∧Sh0 W w' []):=by
 refine gen Tryz.func118 Tryz.ntmps118 (Sh0.ext2 hx hy:Sh (fun _=>False) W W [.at_ x, .at_ y]) rfl fun a10 h10=>gG h10<|sG (oM 1 rfl<|.nl)<|gK fun _ k12=>sG (oM 1 rfl<|.nl)<|gB<|fun a15 w15 h15=>x_loop (fun m a w=>∃(i:Nat),(i≤x.l.length∧i≤y.l.length)∧(∀j,j<i→nth x.l j=nth y.l j)∧St 41 (fun _=>False) W a w [(0,x.v),(1,y.v),(5, .int .i64 ((i:Nat):Int))] [.at_ x, .at_ y]∧m=x.l.length-i) ⟨_,0,(by omega),(fun j hj=>absurd hj (by omega)),h15.nf ⟨rfl,rfl,rfl,trivial⟩,rfl⟩ ?_;clear h10
 clear h15
 rintro m14 a14 w14 ⟨i,hi,hall,h14,hm14⟩
 refine gG h14<|gK fun _ k16=>sK fun _ k17=>gNl (aA 0 rfl) fun hl18=>gRn (oM 2 rfl<|oln sl_23 (aA 0 rfl) rfl<|oltN _ _ rfl<|oM 1 rfl<|.nl)<|?_;clear h14
 rcases dsp (i<x.l.length) with ⟨hb19,hp19⟩|⟨hb19,hp19⟩
 ·skip
  refine gNl (aA 1 rfl) fun hl20=>gRn (oG hb19 (r_move rfl rfl) rfl<|oG hb19 (r_move rfl rfl) rfl<|oG hb19 (r_len (s:=y) (n:=y.l.length) sl_23 rfl rfl (fun w h=>(h.at 1 rfl)) rfl) rfl<|oG hb19 (r_lssN (p:=i) (q:=y.l.length) rfl rfl rfl) rfl<|opT hb19 rfl<|.nl)<|nK k17<|gcd rfl (fun hb21 hp21=> ?_) fun hb21 hp21=> ?_
  ·skip
   refine gS<|hK k16<|gK fun _ k22=>gB<|gK fun _ k23=>rQ (oM 2 rfl<|oxN sl_23 ti_3 (aA 0 rfl) _ om9 rfl<|olI ti_3 (aA 0 rfl) om9 rfl<|oM 2 rfl<|oxN sl_23 ti_3 (aA 1 rfl) _ om9 rfl<|olI ti_3 (aA 1 rfl) om9 rfl<|oneI _ _ rfl<|.nl)<|hK k23<|gcd rfl (fun hb24 hp24=> ?_) fun hb24 hp24=> ?_
   ·skip
    refine gK fun _ k25=>rQ (oM 2 rfl<|oxN sl_23 ti_3 (aA 0 rfl) _ om9 rfl<|olI ti_3 (aA 0 rfl) om9 rfl<|oM 2 rfl<|oxN sl_23 ti_3 (aA 1 rfl) _ om9 rfl<|olI ti_3 (aA 1 rfl) om9 rfl<|oltI _ _ rfl<|oM 1 rfl<|.nl)<|hK k25<|gF [4] rfl<|gR<|uB<|uT<|uT<|uB<|uT<|fun a26 w26 h26=>x_ret1 (fn:=Tryz.f118) (t:=4) rfl h26 rfl<|⟨?_,(h26.sh.sel [] rfl)⟩
    congr 1
    first|exact (lessB_ne i (by omega) (by omega) (fun j hj=>hall j hj) (by omega)).symm|exact (lessB_end i (by omega) (by omega) (by omega) (fun j hj=>hall j hj)).symm
   refine gS<|hK k22<|gL<|gRn (oM 1 rfl<|oadN _ 1 om9 rfl<|oM 1 rfl<|.nl)<|nN<|fun a27 w27 h27=>x_again ⟨_, ?_,i+1, ?_, ?_,h27.nf ⟨rfl,rfl,rfl,trivial⟩,rfl⟩
   · rw [hm14];first|omega|(simp only [lens9];omega)
   · omega
   · intro j hj;rcases Nat.lt_or_ge j i with h|h;exact hall j h;obtain rfl:j=i:=(by omega);omega
  refine gX<|hK k12<|sG (oM 1 rfl<|oln sl_23 (aA 0 rfl) rfl<|oM 1 rfl<|oln sl_23 (aA 1 rfl) rfl<|oltN _ _ rfl<|oM 1 rfl<|.nl)<|gR<|fun a29 w29 h29=>x_ret1 (fn:=Tryz.f118) (t:=4) rfl h29 rfl<|⟨?_,(h29.sh.sel [] rfl)⟩
  congr 1
  first|exact (lessB_ne i (by omega) (by omega) (fun j hj=>hall j hj) (by omega)).symm|exact (lessB_end i (by omega) (by omega) (by omega) (fun j hj=>hall j hj)).symm
 refine gRn (oKs 4 hb19 rfl rfl<|opF hb19 rfl<|.nl)<|nK k17<|gcF rfl rfl<|gX<|hK k12<|sK fun _ k30=>gNl (aA 1 rfl) fun hl31=>gRn (oM 1 rfl<|oln sl_23 (aA 0 rfl) rfl<|oM 1 rfl<|oln sl_23 (aA 1 rfl) rfl<|oltN _ _ rfl<|oM 1 rfl<|.nl)<|nK k30<|gR<|fun a32 w32 h32=>x_ret1 (fn:=Tryz.f118) (t:=4) rfl h32 rfl<|⟨?_,(h32.sh.sel [] rfl)⟩
 congr 1
 first|exact (lessB_ne i (by omega) (by omega) (fun j hj=>hall j hj) (by omega)).symm|exact (lessB_end i (by omega) (by omega) (by omega) (fun j hj=>hall j hj)).symm
theorem ahead_c (x y:OutL)(W:World)(hxw:x.words.At W)(hxp:x.prints.At W)(hyw:y.words.At W)(hyp:y.prints.At W):
    Rets Tryz.prog 111 [.agg #[.int .i64 x.st,x.words.v,x.prints.v], .agg #[.int .i64 y.st,y.words.v,y.prints.v]] W (fun v w' =>v= .bool (aheadB x.out y.out)∧Sh0 W w' []):=by
 refine gen Tryz.func111 Tryz.ntmps111 (Sh0.ext4 hxw hxp hyw hyp:Sh (fun _=>False) W W [.at_ x.words, .at_ x.prints, .at_ y.words, .at_ y.prints]) rfl fun a10 h10=>gG h10<|sK fun _ k11=>gbx rfl rfl fun b12=>gbx rfl rfl fun b13=>gRn (oM 1 rfl<|.nl)<|nK k11<|gK fun _ k14=>sG (ofB fl_39_0 rfl<|olB 1 ti_3 rfl rfl<|ofB fl_39_0 rfl<|olB 0 ti_3 rfl rfl<|oneI _ _ rfl<|.nl)<|?_;clear h10
 refine gcd rfl (fun hb16 hp16=> ?_) fun hb16 hp16=> ?_
 ·skip
  refine sG (ofB fl_39_0 rfl<|olB 1 ti_3 rfl rfl<|ofB fl_39_0 rfl<|olB 0 ti_3 rfl rfl<|oltI _ _ rfl<|oM 1 rfl<|.nl)<|gR<|uT<|fun a18 w18 h18=>x_ret1 (fn:=Tryz.f111) (t:=4) rfl h18 rfl<|⟨?_,(h18.sh.sel [] rfl)⟩
  congr 1
  unfold aheadB OutL.out
  first|(rw [if_neg (by assumption)];done)|(rw [if_pos (by omega),if_neg (by assumption)];done)|(rw [if_pos (by omega),if_pos (by assumption)];done)|(simp only [];rw [if_neg (by assumption)];done)|(simp only [];rw [if_pos (by omega),if_neg (by assumption)];done)|(simp only [];rw [if_pos (by omega),if_pos (by assumption)])
 refine gS<|hK k14<|sK fun _ k19=>gRn (ofB fl_39_1 rfl<|olB 1 ti_23 rfl rfl<|ofB fl_39_1 rfl<|olB 0 ti_23 rfl rfl<|.nl)<|gP (fun _ _ h_=>xCl h_ bd_74 rfl (ints_c x.words y.words _ (h_.sh.at 2 rfl) (h_.sh.at 4 rfl))) rfl<|gRn (oM 1 rfl<|.nl)<|nK k19<|gK fun _ k21=>sG (oM 1 rfl<|ont rfl<|.nl)<|gCb rfl (fun hb23=> ?_) fun hb23=> ?_
 ·have hp23:¬(x.words.l=y.words.l):=by simpa using hb23
  refine sK fun _ k24=>gRn (ofB fl_39_1 rfl<|olB 1 ti_23 rfl rfl<|ofB fl_39_1 rfl<|olB 0 ti_23 rfl rfl<|.nl)<|gP (fun _ _ h_=>xCl h_ bd_118 rfl (less_c x.words y.words _ (h_.sh.at 2 rfl) (h_.sh.at 4 rfl))) rfl<|gRn (oM 1 rfl<|.nl)<|nK k24<|gR<|uT<|fun a26 w26 h26=>x_ret1 (fn:=Tryz.f111) (t:=4) rfl h26 rfl<|⟨?_,(h26.sh.sel [] rfl)⟩
  congr 1
  unfold aheadB OutL.out
  first|(rw [if_neg (by assumption)];done)|(rw [if_pos (by omega),if_neg (by assumption)];done)|(rw [if_pos (by omega),if_pos (by assumption)];done)|(simp only [];rw [if_neg (by assumption)];done)|(simp only [];rw [if_pos (by omega),if_neg (by assumption)];done)|(simp only [];rw [if_pos (by omega),if_pos (by assumption)])
 have hp23:x.words.l=y.words.l:=by simpa using hb23
 refine gS<|hK k21<|sK fun _ k27=>gRn (ofB fl_39_2 rfl<|olB 1 ti_23 rfl rfl<|ofB fl_39_2 rfl<|olB 0 ti_23 rfl rfl<|.nl)<|gP (fun _ _ h_=>xCl h_ bd_118 rfl (less_c x.prints y.prints _ (h_.sh.at 3 rfl) (h_.sh.at 5 rfl))) rfl<|gRn (oM 1 rfl<|.nl)<|nK k27<|gR<|fun a29 w29 h29=>x_ret1 (fn:=Tryz.f111) (t:=4) rfl h29 rfl<|⟨?_,(h29.sh.sel [] rfl)⟩
 congr 1
 unfold aheadB OutL.out
 first|(rw [if_neg (by assumption)];done)|(rw [if_pos (by omega),if_neg (by assumption)];done)|(rw [if_pos (by omega),if_pos (by assumption)];done)|(simp only [];rw [if_neg (by assumption)];done)|(simp only [];rw [if_pos (by omega),if_neg (by assumption)];done)|(simp only [];rw [if_pos (by omega),if_pos (by assumption)])
def LastSum (ks:List (List Int))(n h:Nat)(r:Int):Prop:=(r= -1∧∀j,j<n→sumL (nth ks j)≠h)∨∃k:Nat,r=k∧k<n∧sumL (nth ks k)=h∧∀j,k<j→j<n→sumL (nth ks j)≠h
theorem LastSum.lt {ks:List (List Int)}{n h:Nat}{r:Int}(hl:LastSum ks n h r): -1≤r∧r<n:=by
 rcases hl with ⟨h,_⟩|⟨k,h,h2,_⟩<;>omega
theorem LastSum.at {ks:List (List Int)}{n h:Nat}{r:Int}(hl:LastSum ks n h r)(h0:0≤r):sumL (nth ks r.toNat)=h∧∀j,r.toNat<j→j<n→sumL (nth ks j)≠h:=by
 rcases hl with ⟨h,_⟩|⟨k,rfl,h2,h3,h4⟩
 ·omega
 ·exact ⟨by simpa using h3,fun j hj=>h4 j (by simpa using hj)⟩
theorem LastSum.none {ks:List (List Int)}{n h:Nat}{r:Int}(hl:LastSum ks n h r)(h0:¬0≤r):∀j,j<n→sumL (nth ks j)≠h:=by
 rcases hl with ⟨_,h⟩|⟨k,rfl,_⟩
 ·exact h
 ·omega
structure HeadsOK (ks:List (List Int))(heads before:List Int):Prop where
 hl:heads.length=4096
 bl:before.length=ks.length
 hd:∀h,h<4096→LastSum ks ks.length h (nth heads h)
 bf:∀i,i<ks.length→LastSum ks i (sumL (nth ks i)) (nth before i)
theorem nth_app0 {α:Type}[Inhabited α](l m:List α)(k:Nat):nth (l++m) k=if k<l.length then nth l k else nth m (k-l.length):=by
 simp only [nth,List.getD]
 by_cases h:k<l.length
 ·rw [List.getElem?_append_left h,if_pos h]
 ·rw [List.getElem?_append_right (by omega),if_neg h]
theorem LastSum.more {ks:List (List Int)}{n h:Nat}{r:Int}(x:List Int)(hl:LastSum ks n h r)(hn:n≤ks.length):LastSum (ks++ [x]) n h r:=by
 have e:∀j,j<n→nth (ks++ [x]) j=nth ks j:=fun j hj=>by rw [nth_app0,if_pos (by omega)]
 rcases hl with ⟨h1,h2⟩|⟨k,h1,h2,h3,h4⟩
 ·exact .inl ⟨h1,fun j hj=>by rw [e j hj];exact h2 j hj⟩
 ·exact .inr ⟨k,h1,h2,by rw [e k h2];exact h3,fun j hj hj2=>by rw [e j hj2];exact h4 j hj hj2⟩
theorem HeadsOK.put {ks:List (List Int)}{heads before:List Int}(h:HeadsOK ks heads before)(x:List Int):HeadsOK (ks++ [x]) (heads.set (sumL x) ((ks.length:Nat):Int)) (before++ [nth heads (sumL x)]):=by
 have hx:nth (ks++ [x]) ks.length=x:=by rw [nth_app0,if_neg (by omega)];simp [nth]
 refine ⟨by simpa using h.hl,by simp [h.bl],fun s hs=> ?_,fun i hi=> ?_⟩
 ·rw [nth_set]
  by_cases e:sumL x=s
  ·rw [if_pos ⟨e,by rw [h.hl];exact sumL_lt x⟩]
   exact .inr ⟨ks.length,rfl,by simp,by rw [hx];exact e,fun j hj hj2=>by simp at hj2;omega⟩
  ·rw [if_neg (fun hh=>e hh.1)]
   rcases h.hd s hs with ⟨h1,h2⟩|⟨k,h1,h2,h3,h4⟩
   ·refine .inl ⟨h1,fun j hj=> ?_⟩
    simp at hj
    rcases Nat.lt_or_ge j ks.length with hlt|hge
    ·rw [nth_app0,if_pos hlt];exact h2 j hlt
    ·obtain rfl:j=ks.length:=by omega
     rw [hx];exact e
   ·refine .inr ⟨k,h1,by simp;omega,by rw [nth_app0,if_pos h2];exact h3,fun j hj hj2=> ?_⟩
    simp at hj2
    rcases Nat.lt_or_ge j ks.length with hlt|hge
    ·rw [nth_app0,if_pos hlt];exact h4 j hj hlt
    ·obtain rfl:j=ks.length:=by omega
     rw [hx];exact e
 ·simp at hi
  rcases Nat.lt_or_ge i ks.length with hlt|hge
  ·rw [nth_app0 ks,if_pos hlt,nth_app0 before,if_pos (by rw [h.bl];exact hlt)]
   exact (h.bf i hlt).more x (by omega)
  ·obtain rfl:i=ks.length:=by omega
   rw [hx,nth_app0 before,if_neg (by rw [h.bl];omega),h.bl]
   have:=(h.hd (sumL x) (sumL_lt x)).more x (Nat.le_refl _)
   simpa [nth] using this
def PutRel (o:OutL)(l l' :List OutL):Prop:=((∃i,i<l.length∧aheadB o.out (nth l i).out=false∧aheadB (nth l i).out o.out=false)∧l' =l)∨
 ∃k,k≤l.length∧(∀j,j<k→aheadB o.out (nth l j).out=false∧aheadB (nth l j).out o.out=true)∧(k<l.length→aheadB o.out (nth l k).out=true)∧l' =l.take k++o::l.drop k
def PutInv (o:OutL)(l:List OutL)(i:Nat)(dn:Bool)(ol:List OutL):Prop:=(dn=false∧ol=l.take i∧∀j,j<i→aheadB o.out (nth l j).out=false∧aheadB (nth l j).out o.out=true)∨
 (dn=true∧∃k,k<i∧k<l.length∧(∀j,j<k→aheadB o.out (nth l j).out=false∧aheadB (nth l j).out o.out=true)∧aheadB o.out (nth l k).out=true∧ol=l.take k++o::(l.drop k).take (i-k))
theorem PutInv.one {o:OutL}{l ol:List OutL}{i:Nat}(h:PutInv o l i false ol)(hi:i<l.length)(h1:aheadB o.out (nth l i).out=true):PutInv o l (i+1) true ((ol++ [o])++ [nth l i]):=by
 rcases h with ⟨_,h2,h3⟩|⟨h,_⟩
 ·refine .inr ⟨rfl,i,by omega,hi,h3,h1, ?_⟩
  have e1:(l.drop i).take 1= [nth l i]:=by rw [List.drop_eq_getElem_cons hi,nth_lt l i hi];rfl
  rw [h2,show i+1-i=1 by omega,e1]
  simp
 ·cases h
theorem PutInv.two {o:OutL}{l ol:List OutL}{i:Nat}{dn:Bool}(h:PutInv o l i dn ol)(hi:i<l.length)(h1:dn=true∨(aheadB o.out (nth l i).out=false∧aheadB (nth l i).out o.out=true)):PutInv o l (i+1) dn (ol++ [nth l i]):=by
 rcases h with ⟨h,h2,h3⟩|⟨h,k,h2,h3,h4,h5,h6⟩
 ·refine .inl ⟨h,by rw [h2,take_succ_nth _ _ hi],fun j hj=> ?_⟩
  rcases Nat.lt_or_ge j i with hlt|hge
  ·exact h3 j hlt
  ·obtain rfl:j=i:=by omega
   rcases h1 with h1|h1
   ·rw [h] at h1;cases h1
   ·exact h1
 ·refine .inr ⟨h,k,by omega,h3,h4,h5, ?_⟩
  rw [h6,show i+1-k=(i-k)+1 by omega,take_succ_nth _ _ (by simp;omega)]
  have:nth (l.drop k) (i-k)=nth l i:=by simp only [nth,List.getD,List.getElem?_drop,show k+(i-k)=i by omega]
  rw [this];simp
theorem PutInv.rel {o:OutL}{l ol:List OutL}{i:Nat}(h:PutInv o l i true ol)(hi:i=l.length):PutRel o l ol:=by
 rcases h with ⟨h,_⟩|⟨_,k,h2,h3,h4,h5,h6⟩
 ·cases h
 ·exact .inr ⟨k,by omega,h4,fun _=>h5,by rw [h6,List.take_of_length_le (l:=l.drop k) (by rw [List.length_drop];omega)]⟩
theorem PutInv.rel0 {o:OutL}{l ol:List OutL}{i:Nat}(h:PutInv o l i false ol)(hi:i=l.length):PutRel o l (ol++ [o]):=by
 rcases h with ⟨_,h2,h3⟩|⟨h,_⟩
 ·subst hi
  exact .inr ⟨l.length,Nat.le_refl _,h3,fun h=>absurd h (by omega),by rw [h2];simp⟩
 ·cases h
theorem PutInv.len {o:OutL}{l ol:List OutL}{i:Nat}{dn:Bool}(h:PutInv o l i dn ol)(hi:i≤l.length):ol.length≤i+1:=by
 rcases h with ⟨_,h2,_⟩|⟨_,k,h2,h3,_,_,h6⟩
 ·rw [h2];simp;omega
 ·rw [h6];simp;omega
def KeyRel (L:List Int)(x:SD)(states states' :List SD)(keys keys' :List (Ls Int))(heads before heads' before' :List Int)(full full' :Bool):Prop:=
 ((∃j,j<keys.length∧(nth keys j).l=L)∧states' =states∧keys'.map (·.l)=keys.map (·.l)∧HeadsOK (keys'.map (·.l)) heads' before' ∧full' =full)∨
 ((∀j,j<keys.length→(nth keys j).l≠L)∧states' =states++ [x]∧keys'.map (·.l)=keys.map (·.l)++ [L]∧HeadsOK (keys'.map (·.l)) heads' before' ∧full' =(full||decide (4000<states.length+1)))
theorem put_c (K:Nat→Prop)(gs:Nat)(x:SD)(states:Ls SD)(keys:Ls (Ls Int))(heads before:Ls Int)(ev:Value)(full:Bool)(cv pw:Value)(locks nregs mode:Int)(W:World)(hS:Sh K W W [.blk gs 52 [states.v,keys.v,heads.v,before.v,ev, .bool full], .own 103 states, .deep 23 keys, .own 3 heads, .own 3 before, .rd1 x])(hok:HeadsOK (keys.l.map (·.l)) heads.l before.l)(hlen:states.l.length=keys.l.length)(hkl:keys.l.length≤5000)(hhd:x.hd= [cv,pw, .int .i64 locks, .int .i64 nregs, .int .i64 mode])(hE:x.E=111)(hcl:x.thr.l.length≤4)(hrg:∀i,i<x.thr.l.length→(nth x.thr.l i).regs.l.length≤100000)(hwl:∀i,i<x.thr.l.length→(nth x.thr.l i).wait.l.length≤3)(hwn:x.words.l.length≤100000∧x.owner.l.length≤100000∧x.prints.l.length≤100000000):
    Rets Tryz.prog 68 [.pointer (some ⟨gs,0,none⟩), .pointer (some ⟨x.g,0,none⟩)] W (fun v w' =>v= .tuple #[]∧∃(states' :Ls SD) (keys' :Ls (Ls Int)) (heads' before' :Ls Int) (full' :Bool),KeyRel (numbersL (x.thr.l.map ThL.th) x.words.l x.owner.l x.prints.l) x states.l states'.l keys.l keys'.l heads.l before.l heads'.l before'.l full full' ∧Sh K W w' [.blk gs 52 [states'.v,keys'.v,heads'.v,before'.v,ev, .bool full'], .own 103 states', .deep 23 keys', .own 3 heads', .own 3 before', .rd1 x]):=by
 have hbl:before.l.length=keys.l.length:=by simpa using hok.bl
 have hhl:heads.l.length=4096:=hok.hl
 have hslt:=fun l=>sumL_lt l
 refine gen Tryz.func68 Tryz.ntmps68 hS rfl fun a10 h10=>gG h10<|sK fun _ k11=>gRn (oM 1 rfl<|.nl)<|fun a13 w13 h13=>wl_ex (x_call h13 bd_106 rfl rfl rfl rfl rfl (numbers_c x.g x.thr x.words x.owner x.prints _ _ _ _ _ _ _ (by have h9:=(show Enc.inner x _ from (h13.sh.ok _ (List.mem_of_getElem? (i:=5) rfl))).1;rw [hE,SD.cells,hhd] at h9;exact h9) (show Enc.inner x _ from (h13.sh.ok _ (List.mem_of_getElem? (i:=5) rfl))).2.1 (show Enc.inner x _ from (h13.sh.ok _ (List.mem_of_getElem? (i:=5) rfl))).2.2.1 (show Enc.inner x _ from (h13.sh.ok _ (List.mem_of_getElem? (i:=5) rfl))).2.2.2.1 (show Enc.inner x _ from (h13.sh.ok _ (List.mem_of_getElem? (i:=5) rfl))).2.2.2.2 hcl hrg hwl hwn)) (wanted_none rfl _) ?_;clear h10
 rintro a14 w14 ⟨_,⟨s14,rfl,hml14,hs14⟩,hf14⟩
 have hml:=hml14
 have h14:St _ K W a14 w14 _ _:=⟨hf14,h13.sh.callI hs14⟩
 clear hf14 hs14
 clear h13
 refine gG h14<|gRn (oM 1 rfl<|.nl)<|nK k11<|sK fun _ k15=>gRn (oM 1 rfl<|.nl)<|gP (fun _ _ h_=>xCl h_ bd_107 rfl (sum_c s14 _ (h_.sh.own 0 rfl))) rfl<|gRn (oM 1 rfl<|.nl)<|nK k15<|?_;clear h14
 have hsl:=sumL_lt s14.l
 refine gK fun _ k17=>sK fun _ k18=>gNl (aO 4 rfl) fun hl19=>gRn (oM 1 rfl<|onfl 1 fl_52_2 ti_23 rfl rfl<|oM 1 rfl<|oxN sl_23 ti_3 (aO 4 rfl) _ om9 rfl<|olI ti_3 (aO 4 rfl) om9 rfl<|oM 1 rfl<|.nl)<|nK k18<|gB<|fun a21 w21 h21=>x_loop (fun m a w=>∃(i:Int) (mm:Nat),(LastSum (keys.l.map (·.l)) mm (sumL s14.l) i)∧(mm≤keys.l.length)∧(∀j,mm≤j→j<keys.l.length→(nth keys.l j).l≠s14.l)∧St 100 K W a w [(0, .pointer (some ⟨gs,0,none⟩)),(1, .pointer (some ⟨x.g,0,none⟩)),(4,s14.v),(5, .int .i64 ((sumL s14.l:Nat):Int)),(6, .int .i64 i)] [.own 3 s14, .blk gs 52 [states.v,keys.v,heads.v,before.v,ev, .bool full], .own 103 states, .deep 23 keys, .own 3 heads, .own 3 before, .rd1 x]∧m=(i+1).toNat) ⟨_,_,keys.l.length,(by have:=hok.hd _ (sumL_lt s14.l);simpa using this),(Nat.le_refl _),(fun j hj hj2=>absurd hj2 (by omega)),h21.nf ⟨rfl,rfl,rfl,rfl,rfl,trivial⟩,rfl⟩ ?_
 clear h21
 rintro m20 a20 w20 ⟨i,mm,hls,hm,hno,h20,hm20⟩
 have hlt:=hls.lt
 refine gG h20<|gK fun _ k22=>sG (oM 1 rfl<|ogeI _ _ rfl<|.nl)<|?_;clear h20
 refine gcd rfl (fun hb24 hp24=> ?_) fun hb24 hp24=> ?_
 ·skip
  refine gS<|hK k22<|gK fun _ k25=>gB<|sK fun _ k26=>gNl (aD 3 rfl) fun hl27=>gRn (oM 1 rfl<|onfl 1 fl_52_1 ti_50 rfl rfl<|oM 1 rfl<|oxI sl_50 ti_23 (aD 3 rfl) om9 rfl<|olE ((nth keys.l i.toNat).v) ti_23 (aD 3 rfl) om9 rfl<|oM 1 rfl<|.nl)<|gP (fun _ _ h_=>xCl h_ bd_74 rfl (ints_c (nth keys.l i.toNat) s14 _ ((h_.sh.deep 3 rfl).nth i.toNat (show i.toNat<keys.l.length from (by omega))) (h_.sh.own 0 rfl))) rfl<|gRn (oM 1 rfl<|.nl)<|nK k26<|sG (oM 1 rfl<|.nl)<|gcd rfl (fun hb30 hp30=> ?_) fun hb30 hp30=> ?_
  ·skip
   refine gR<|uB<|uT<|uT<|uB<|uT<|fun a31 w31 h31=>x_ret0 (fn:=Tryz.f68) rfl h31<|⟨rfl,states,keys,heads,before,full, ?_,(h31.sh.sel [1,2,3,4,5,6] rfl)⟩
   exact .inl ⟨⟨i.toNat,by omega,by rw [←hml];assumption⟩,rfl,rfl,hok,rfl⟩
  refine gS<|hK k25<|gL<|gNl (aO 5 rfl) fun hl32=>gRn (oM 1 rfl<|onfl 1 fl_52_3 ti_23 rfl rfl<|oM 1 rfl<|oxI sl_23 ti_3 (aO 5 rfl) om9 rfl<|olI ti_3 (aO 5 rfl) om9 rfl<|oM 1 rfl<|.nl)<|nN<|fun a33 w33 h33=>x_again ⟨_, ?_,_,i.toNat, ?_, ?_, ?_,h33.nf ⟨rfl,rfl,rfl,rfl,rfl,trivial⟩,rfl⟩
  · rw [hm20];have h9:=(hok.bf i.toNat (by simp;omega)).lt;omega
  · have h9:=hok.bf i.toNat (by simp;omega);rw [(hls.at (by omega)).1] at h9;exact h9
  · omega
  · intro j hj hj2;rcases Nat.lt_or_ge j mm with h9|h9;(rcases Nat.lt_or_ge i.toNat j with h8|h8;(intro e9;have h7:=(hls.at (by omega)).2 j h8 h9;rw [nth_map' _ _ _ hj2,e9] at h7;exact h7 rfl);(obtain rfl:j=i.toNat:=(by omega);assumption));exact hno j h9 hj2
 refine gX<|hK k17<|gK fun _ k34=>rC [12,13,16] rfl<|pR [0,1,2,3,4,5,6,7,8,9,10,11] rfl (oM 2 rfl<|onfl 1 fl_52_3 ti_23 rfl rfl<|oM 1 rfl<|onfl 1 fl_52_2 ti_23 rfl rfl<|oM 1 rfl<|oxN sl_23 ti_3 (aO 4 rfl) _ om9 rfl<|olI ti_3 (aO 4 rfl) om9 rfl<|.nl) rfl<|pX (fun _ _ h_=>x_lit (n:=1) (cs:= [.int .i64 (nth heads.l (sumL s14.l))]) ([nth heads.l (sumL s14.l)]:List Int) h_ sl_23 ti_3 rfl rfl rfl (by decide) rfl (by kernel_rfl) rfl (fun q hq w h=>Flat.inner _ _) (fun q hq b hb=>(Flat.on _ _ hb).elim) rfl rfl) rfl fun v35=>pR [0,1,2,3,4] rfl (oM 2 rfl<|onfl 2 fl_52_3 ti_23 rfl rfl<|.nl) rfl<|pX (fun _ _ h_=>x_app (r:=6) (rm:=0) (s:=before) (m:=(⟨v35, [nth heads.l (sumL s14.l)]⟩:Ls Int)) h_ sl_23 ti_3 rfl rfl rfl rfl rfl rfl rfl (fun w h=>(h.own 0 rfl)) (fun b hb=>own_on (h_.sh.ok _ (List.mem_of_getElem? (i:=0) rfl)) hb) (fun q hq b hb=>⟨q,hq,hb⟩) rfl rfl rfl inferInstance (show (before.l.length+([nth heads.l (sumL s14.l)]).length)*8≤140737488355328∧before.l.length+([nth heads.l (sumL s14.l)]).length≤140737488355328 from om9) rfl rfl) rfl fun v36=>pR [0,14,15] rfl (oM 1 rfl<|onf fl_52_3 rfl<|.nl) rfl<|pS (fun _ _ h_=>x_stb (i:=2) (vs:= [v36]) (cs' := [states.v,keys.v,heads.v,v36,ev, .bool full]) h_ ti_23 rfl rfl rfl rfl rfl (cells_oneL ((h_.sh.own 6 rfl)).one) rfl (allOne_cons ((h_.sh.own 6 rfl)).one allOne_nil) (Nat.le_of_ble_eq_true rfl) rfl) rfl<|pE [] rfl (.nl) rfl<|hK k34<|gK fun _ k38=>gNl (aO 3 rfl) fun hl39=>rT 11 [] (oM 1 rfl<|onfl 2 fl_52_2 ti_23 rfl rfl<|oM 2 rfl<|onfl 2 fl_52_0 ti_49 rfl rfl<|oln sl_49 (aO 3 rfl) rfl<|oxN sl_23 ti_3 (aO 5 rfl) _ om9 rfl<|.nl)<|gte 5 (((states.l.length:Nat):Int):Int) ti_3 om9 rfl rfl<|nK k38<|gF [0,1,4] rfl<|sK fun _ k41=>gRn (oM 2 rfl<|onfl 2 fl_52_0 ti_49 rfl rfl<|oM 1 rfl<|.nl)<|gE1 (fun _ _ h_=>x_lit (n:=1) (cs:= [.pointer (some ⟨x.g,0,none⟩)]) ([x]:List SD) h_ sl_49 ti_103 rfl rfl rfl (by decide) rfl (by kernel_rfl) rfl (fun q hq w h=>by obtain rfl:q=0:=(by simpa using hq);exact h.ok _ (List.mem_of_getElem? (i:=7) rfl)) (fun q hq b hb=>by obtain rfl:q=0:=(by simpa using hq);exact ⟨_,List.mem_of_getElem? (i:=7) rfl,hb⟩) rfl rfl) rfl fun v42=>gE1 (fun _ _ h_=>x_app (r:=4) (rm:=0) (s:=states) (m:=(⟨v42, [x]⟩:Ls SD)) h_ sl_49 ti_103 rfl rfl rfl rfl rfl rfl rfl (fun w h=>(h.own 0 rfl)) (fun b hb=>own_on (h_.sh.ok _ (List.mem_of_getElem? (i:=0) rfl)) hb) (fun q hq b hb=>⟨q,hq,hb⟩) rfl rfl rfl inferInstance (show (states.l.length+([x]).length)*8≤140737488355328∧states.l.length+([x]).length≤140737488355328 from om9) rfl rfl) rfl fun v43=>gRn (onf fl_52_0 rfl<|.nl)<|gsr 3 ti_49 rfl (aO 4 rfl) rfl<|nK k41<|sK fun _ k45=>gRn (oM 2 rfl<|onfl 3 fl_52_1 ti_50 rfl rfl<|oM 1 rfl<|.nl)<|gO [2,0,1,3,4,5,6,7,8] rfl<|gE1 (fun _ _ h_=>x_litD (E:=0) (x:=s14) h_ sl_50 ti_23 rfl rfl rfl ((h_.sh.own 0 rfl)) (fun b hb=>(own_on (h_.sh.ok _ (List.mem_of_getElem? (i:=0) rfl)) hb).elim (fun h=>h) (fun h=>Flat.noRd h)) (fun b hb=>Flat.noRd hb) rfl rfl) rfl fun v47=>gO [5,0,1,2,3,4,6,7,8] rfl<|gE1 (fun _ _ h_=>x_appD (s:=keys) (m:=(⟨v47, [s14]⟩:Ls (Ls Int))) h_ sl_50 ti_23 rfl rfl rfl rfl rfl rfl rfl inferInstance (show (keys.l.length+([s14]).length)*24≤140737488355328∧keys.l.length+([s14]).length≤140737488355328 from om9) rfl rfl) rfl fun v49=>gRn (onf fl_52_1 rfl<|.nl)<|gsr 3 ti_50 rfl (aD 0 rfl) rfl<|nK k45<|gL<|gRn (oM 2 rfl<|onfl 3 fl_52_5 ti_4 rfl rfl<|oM 1 rfl<|.nl)<|?_
 rcases Bool.eq_false_or_eq_true full with hb51|hb51
 ·skip
  refine gRn (oKs 6 hb51 rfl rfl<|opT hb51 rfl<|onf fl_52_5 rfl<|.nl)<|gst (v:= .bool true) 3 ti_4 rfl rfl rfl<|nN<|fun a53 w53 h53=> ?_
  try simp only [Exit.then,Exit.inBlock,if_true]
  refine x_end0 (fn:=Tryz.f68) rfl h53<|⟨rfl,⟨v43,states.l++([x])⟩,⟨v49,keys.l++([s14])⟩,⟨heads.v,heads.l.set (sumL s14.l) ((states.l.length:Nat):Int)⟩,⟨v36,before.l++([nth heads.l (sumL s14.l)])⟩,true, ?_,(h53.sh.sel [3,4,0,5,6,7] rfl)⟩
  refine .inr ⟨fun j hj=> ?_,rfl, ?_, ?_, ?_⟩
  · rw [←hml];rcases Nat.lt_or_ge j mm with h9|h9;(intro e9;have h8:=hls.none (by omega) j h9;rw [nth_map' _ _ _ hj,e9] at h8;exact h8 rfl);exact hno j h9 hj
  · rw [List.map_append,←hml];rfl
  · have h9:=hok.put s14.l;rw [List.length_map,←hlen] at h9;rw [List.map_append];exact h9
  · first|rfl|(rw [show full=true by assumption];rfl)|(rw [show full=false by assumption];simp)
 refine gRn (oG hb51 (r_move rfl rfl) rfl<|oG hb51 (r_nil rfl rfl) rfl<|oG hb51 (r_fieldB (r:=0) fl_52_0 rfl rfl rfl) rfl<|oG hb51 (r_ldb (i:=3) ti_49 rfl rfl rfl rfl) rfl<|oG hb51 (r_len (s:=(⟨v43,states.l++([x])⟩:Ls SD)) (n:=(states.l++([x])).length) sl_49 rfl rfl (fun w h=>(h.own 4 rfl)) rfl) rfl<|oG hb51 (r_gtrN (p:=(states.l++([x])).length) (q:=4000) rfl rfl rfl) rfl<|opF hb51 rfl<|onf fl_52_5 rfl<|.nl)<|gst 3 ti_4 rfl rfl rfl<|nN<|fun a55 w55 h55=> ?_
 try simp only [Exit.then,Exit.inBlock,if_true]
 refine x_end0 (fn:=Tryz.f68) rfl h55<|⟨rfl,⟨v43,states.l++([x])⟩,⟨v49,keys.l++([s14])⟩,⟨heads.v,heads.l.set (sumL s14.l) ((states.l.length:Nat):Int)⟩,⟨v36,before.l++([nth heads.l (sumL s14.l)])⟩,decide (4000<(states.l++([x])).length), ?_,(h55.sh.sel [3,4,0,5,6,7] rfl)⟩
 refine .inr ⟨fun j hj=> ?_,rfl, ?_, ?_, ?_⟩
 · rw [←hml];rcases Nat.lt_or_ge j mm with h9|h9;(intro e9;have h8:=hls.none (by omega) j h9;rw [nth_map' _ _ _ hj,e9] at h8;exact h8 rfl);exact hno j h9 hj
 · rw [List.map_append,←hml];rfl
 · have h9:=hok.put s14.l;rw [List.length_map,←hlen] at h9;rw [List.map_append];exact h9
 · first|rfl|(rw [show full=true by assumption];rfl)|(rw [show full=false by assumption];simp)
theorem putO_c (K:Nat→Prop)(gs:Nat)(o:OutL)(ends:Ls OutL)(sv kv hv bv:Value)(full:Bool)(W:World)(hS:Sh K W W [.blk gs 52 [sv,kv,hv,bv,ends.v, .bool full], .own 39 ends, .at_ o.words, .at_ o.prints])(hel:ends.l.length≤100000000):
    Rets Tryz.prog 71 [.pointer (some ⟨gs,0,none⟩), .agg #[.int .i64 o.st,o.words.v,o.prints.v]] W (fun v w' =>v= .tuple #[]∧∃ends' :Ls OutL,PutRel o ends.l ends'.l∧Sh K W w' [.blk gs 52 [sv,kv,hv,bv,ends'.v, .bool full], .own 39 ends', .at_ o.words, .at_ o.prints]):=by
 refine gen Tryz.func71 Tryz.ntmps71 hS rfl fun a10 h10=>gG h10<|sK fun _ k11=>gbx rfl rfl fun b12=>nK k11<|sG (oM 1 rfl<|.nl)<|sG (oM 1 rfl<|.nl)<|gK fun _ k15=>sG (oM 1 rfl<|.nl)<|gB<|fun a19 w19 h19=> ?_;clear h10
 have h18:=h19.nil (α:=OutL) 39
 clear h19
 refine x_loop (fun m a w=>∃(i:Nat) (dn:Bool) (ol:List OutL) (vo:Value),(i≤ends.l.length)∧(PutInv o ends.l i dn ol)∧St 71 K W a w [(0, .pointer (some ⟨gs,0,none⟩)),(3, .pointer (some ⟨b12,0,none⟩)),(4,vo),(5, .bool dn),(6, .int .i64 ((i:Nat):Int))] [.blk b12 39 [.int .i64 o.st,o.words.v,o.prints.v], .blk gs 52 [sv,kv,hv,bv,ends.v, .bool full], .own 39 ends, .at_ o.words, .at_ o.prints, .own 39 (⟨vo,ol⟩:Ls OutL)]∧m=ends.l.length-i) ⟨_,0,false, [],_,(by omega),(.inl ⟨rfl,rfl,fun j hj=>absurd hj (by omega)⟩),h18.nrm ⟨rfl,rfl,rfl,rfl,rfl,trivial⟩ [1,2,3,4,5,0] rfl,rfl⟩ ?_
 clear h18
 rintro m17 a17 w17 ⟨i,dn,ol,vo,hi,hinv,h17,hm17⟩
 have hol:=hinv.len (by omega)
 refine gG h17<|gK fun _ k20=>sK fun _ k21=>gNl (aO 2 rfl) fun hl22=>gRn (oM 2 rfl<|onfl 1 fl_52_4 ti_35 rfl rfl<|oln sl_35 (aO 2 rfl) rfl<|oltN _ _ rfl<|.nl)<|nK k21<|?_;clear h17
 refine gcd rfl (fun hb23 hp23=> ?_) fun hb23 hp23=> ?_
 ·skip
  refine gS<|hK k20<|gK fun _ k24=>gB<|gK fun _ k25=>fun a26 w26 h26=>x_quiet (by kernel_rfl) (by kernel_rfl) h26 fun _ z27=>qQ h26.fr<|qRn (olw 0 ti_39 rfl rfl<|oM 1 rfl<|onfl 1 fl_52_4 ti_35 rfl rfl<|oM 1 rfl<|oxN sl_35 ti_39 (aO 2 rfl) _ om9 rfl<|olw2 [.int .i64 ((nth ends.l i).st),((nth ends.l i).words).v,((nth ends.l i).prints).v] ti_39 (aO 2 rfl) om9 rfl<|.nl)<|qP bd_111 rfl (fun w h=>(ahead_c o (nth ends.l i) _ (h.at 3 rfl) (h.at 4 rfl) ((h.own 2 rfl).inner i (show i<ends.l.length from (by omega))).1 ((h.own 2 rfl).inner i (show i<ends.l.length from (by omega))).2))<|qRn (oM 1 rfl<|.nl)<|qN z27<|hK k25<|gK fun _ k28=>fun a29 w29 h29=>x_quiet (by kernel_rfl) (by kernel_rfl) h29 fun _ z30=>qQ h29.fr<|qRn (oM 1 rfl<|onfl 1 fl_52_4 ti_35 rfl rfl<|oM 1 rfl<|oxN sl_35 ti_39 (aO 2 rfl) _ om9 rfl<|olw2 [.int .i64 ((nth ends.l i).st),((nth ends.l i).words).v,((nth ends.l i).prints).v] ti_39 (aO 2 rfl) om9 rfl<|olw 0 ti_39 rfl rfl<|.nl)<|qP bd_111 rfl (fun w h=>(ahead_c (nth ends.l i) o _ ((h.own 2 rfl).inner i (show i<ends.l.length from (by omega))).1 ((h.own 2 rfl).inner i (show i<ends.l.length from (by omega))).2 (h.at 3 rfl) (h.at 4 rfl)))<|qRn (oM 1 rfl<|.nl)<|qN z30<|hK k28<|gF [0,3,4,5,6,7,8] rfl<|gK fun _ k31=>sK fun _ k32=>gRn (oM 1 rfl<|ont rfl<|oM 1 rfl<|.nl)<|?_;clear h26 h29
  rcases Bool.eq_false_or_eq_true (!(aheadB (OutL.out o) (OutL.out (nth ends.l i)))) with hb33|hb33
  ·have hn33:aheadB (OutL.out o) (OutL.out (nth ends.l i))=false:=(Bool.not_eq_true' _).mp hb33
   refine gRn (oG hb33 (r_move rfl rfl) rfl<|oG hb33 (r_not rfl rfl) rfl<|opT hb33 rfl<|.nl)<|nK k32<|gCb rfl (fun hb34=> ?_) fun hb34=> ?_
   ·have hn34:aheadB (OutL.out (nth ends.l i)) (OutL.out o)=false:=(Bool.not_eq_true' _).mp hb34
    refine gR<|uT<|uB<|uT<|uT<|uB<|uT<|fun a35 w35 h35=>x_ret0 (fn:=Tryz.f71) rfl h35<|⟨rfl,ends, ?_,(h35.sh.sel [1,2,3,4] rfl)⟩
    first|exact .inl ⟨⟨i,by omega,by assumption,by assumption⟩,rfl⟩|exact PutInv.rel (by first|exact hinv|(rw [show dn=true by assumption] at hinv;exact hinv)) (by omega)|exact PutInv.rel0 (by first|exact hinv|(rw [show dn=false by assumption] at hinv;exact hinv)) (by omega)
   have hn34:aheadB (OutL.out (nth ends.l i)) (OutL.out o)=true:=(Bool.not_eq_false' _).mp hb34
   refine gS<|hK k31<|gK fun _ k36=>sG (oM 2 rfl<|oKs 2 hn33 rfl rfl<|opF hn33 rfl<|.nl)<|gcF rfl rfl<|gS<|hK k36<|gL<|gRn (oM 2 rfl<|onfl 1 fl_52_4 ti_35 rfl rfl<|oM 1 rfl<|oxN sl_35 ti_39 (aO 2 rfl) _ om9 rfl<|olw2 [.int .i64 ((nth ends.l i).st),((nth ends.l i).words).v,((nth ends.l i).prints).v] ti_39 (aO 2 rfl) om9 rfl<|.nl)<|gE1 (fun _ _ h_=>x_lit (n:=1) (cs:= [.int .i64 ((nth ends.l i).st),((nth ends.l i).words).v,((nth ends.l i).prints).v]) ([nth ends.l i]:List OutL) h_ sl_35 ti_39 rfl rfl rfl (by decide) rfl (by kernel_rfl) rfl (fun q hq w h=>by obtain rfl:q=0:=(by simpa using hq);exact ⟨((h.own 2 rfl).inner i (show i<ends.l.length from om9)).1,((h.own 2 rfl).inner i (show i<ends.l.length from om9)).2⟩) (fun q hq b hb=>by obtain rfl:q=0:=(by simpa using hq);rcases hb with hb|hb;exact ⟨_,List.mem_of_getElem? (i:=2) rfl,i,(show i<ends.l.length from om9), .inl hb⟩;exact ⟨_,List.mem_of_getElem? (i:=2) rfl,i,(show i<ends.l.length from om9), .inr hb⟩) rfl rfl) rfl fun v38=>gE1 (fun _ _ h_=>x_app (r:=6) (rm:=0) (s:=(⟨vo,ol⟩:Ls OutL)) (m:=(⟨v38, [nth ends.l i]⟩:Ls OutL)) h_ sl_35 ti_39 rfl rfl rfl rfl rfl rfl rfl (fun w h=>(h.own 0 rfl)) (fun b hb=>own_on (h_.sh.ok _ (List.mem_of_getElem? (i:=0) rfl)) hb) (fun q hq b hb=>⟨q,hq,hb⟩) rfl rfl rfl inferInstance (show (ol.length+([nth ends.l i]).length)*56≤140737488355328∧ol.length+([nth ends.l i]).length≤140737488355328 from om9) rfl rfl) rfl fun v39=>gRn (oM 1 rfl<|.nl)<|nK k24<|gF [0,3,4,5,6] rfl<|gL<|gRn (oM 1 rfl<|oadN _ 1 om9 rfl<|oM 1 rfl<|.nl)<|nN<|fun a40 w40 h40=>x_again ⟨_, ?_,i+1,dn,ol++([nth ends.l i]),v39, ?_, ?_,h40.nrm ⟨rfl,rfl,rfl,rfl,rfl,trivial⟩ [1,2,3,4,5,6] rfl,rfl⟩
   · rw [hm17];first|omega|(simp only [lens9];omega)
   · omega
   · first|exact PutInv.one hinv (by omega) (by assumption)|exact PutInv.two hinv (by omega) (.inl (by assumption))|exact PutInv.two hinv (by omega) (.inr ⟨by assumption,by assumption⟩)|(subst_vars;first|exact PutInv.one hinv (by omega) (by assumption)|exact PutInv.two hinv (by omega) (.inl rfl)|exact PutInv.two hinv (by omega) (.inr ⟨by assumption,by assumption⟩))
  have hn33:aheadB (OutL.out o) (OutL.out (nth ends.l i))=true:=(Bool.not_eq_false' _).mp hb33
  refine gRn (oKs 2 hb33 rfl rfl<|opF hb33 rfl<|.nl)<|nK k32<|gcF rfl rfl<|gS<|hK k31<|gK fun _ k41=>sG (oM 2 rfl<|oG hn33 (r_move rfl rfl) rfl<|oG hn33 (r_not rfl rfl) rfl<|opT hn33 rfl<|.nl)<|gCb rfl (fun hb43=> ?_) fun hb43=> ?_
  ·have hn43:dn=false:=(Bool.not_eq_true' _).mp hb43
   refine sK fun _ k44=>gRn (oM 1 rfl<|olw 0 ti_39 rfl rfl<|.nl)<|gE1 (fun _ _ h_=>x_lit (n:=1) (cs:= [.int .i64 o.st,o.words.v,o.prints.v]) ([o]:List OutL) h_ sl_35 ti_39 rfl rfl rfl (by decide) rfl (by kernel_rfl) rfl (fun q hq w h=>by obtain rfl:q=0:=(by simpa using hq);exact ⟨(h.at 3 rfl),(h.at 4 rfl)⟩) (fun q hq b hb=>by obtain rfl:q=0:=(by simpa using hq);rcases hb with hb|hb;exact ⟨_,List.mem_of_getElem? (i:=3) rfl,hb⟩;exact ⟨_,List.mem_of_getElem? (i:=4) rfl,hb⟩) rfl rfl) rfl fun v45=>gE1 (fun _ _ h_=>x_app (r:=6) (rm:=0) (s:=(⟨vo,ol⟩:Ls OutL)) (m:=(⟨v45, [o]⟩:Ls OutL)) h_ sl_35 ti_39 rfl rfl rfl rfl rfl rfl rfl (fun w h=>(h.own 0 rfl)) (fun b hb=>own_on (h_.sh.ok _ (List.mem_of_getElem? (i:=0) rfl)) hb) (fun q hq b hb=>⟨q,hq,hb⟩) rfl rfl rfl inferInstance (show (ol.length+([o]).length)*56≤140737488355328∧ol.length+([o]).length≤140737488355328 from om9) rfl rfl) rfl fun v46=>gRn (oM 1 rfl<|.nl)<|nK k44<|gL<|gRn (oM 1 rfl<|.nl)<|nK k41<|gL<|gRn (oM 2 rfl<|onfl 2 fl_52_4 ti_35 rfl rfl<|oM 1 rfl<|oxN sl_35 ti_39 (aO 3 rfl) _ om9 rfl<|olw2 [.int .i64 ((nth ends.l i).st),((nth ends.l i).words).v,((nth ends.l i).prints).v] ti_39 (aO 3 rfl) om9 rfl<|.nl)<|gE1 (fun _ _ h_=>x_lit (n:=1) (cs:= [.int .i64 ((nth ends.l i).st),((nth ends.l i).words).v,((nth ends.l i).prints).v]) ([nth ends.l i]:List OutL) h_ sl_35 ti_39 rfl rfl rfl (by decide) rfl (by kernel_rfl) rfl (fun q hq w h=>by obtain rfl:q=0:=(by simpa using hq);exact ⟨((h.own 3 rfl).inner i (show i<ends.l.length from om9)).1,((h.own 3 rfl).inner i (show i<ends.l.length from om9)).2⟩) (fun q hq b hb=>by obtain rfl:q=0:=(by simpa using hq);rcases hb with hb|hb;exact ⟨_,List.mem_of_getElem? (i:=3) rfl,i,(show i<ends.l.length from om9), .inl hb⟩;exact ⟨_,List.mem_of_getElem? (i:=3) rfl,i,(show i<ends.l.length from om9), .inr hb⟩) rfl rfl) rfl fun v47=>gE1 (fun _ _ h_=>x_app (r:=7) (rm:=0) (s:=(⟨v46,ol++([o])⟩:Ls OutL)) (m:=(⟨v47, [nth ends.l i]⟩:Ls OutL)) h_ sl_35 ti_39 rfl rfl rfl rfl rfl rfl rfl (fun w h=>(h.own 0 rfl)) (fun b hb=>own_on (h_.sh.ok _ (List.mem_of_getElem? (i:=0) rfl)) hb) (fun q hq b hb=>⟨q,hq,hb⟩) rfl rfl rfl inferInstance (show ((ol++([o])).length+([nth ends.l i]).length)*56≤140737488355328∧(ol++([o])).length+([nth ends.l i]).length≤140737488355328 from om9) rfl rfl) rfl fun v48=>gRn (oM 1 rfl<|.nl)<|nK k24<|gF [0,3,4,5,6] rfl<|gL<|gRn (oM 1 rfl<|oadN _ 1 om9 rfl<|oM 1 rfl<|.nl)<|nN<|fun a49 w49 h49=>x_again ⟨_, ?_,i+1,true,(ol++([o]))++([nth ends.l i]),v48, ?_, ?_,h49.nrm ⟨rfl,rfl,rfl,rfl,rfl,trivial⟩ [2,3,4,5,6,7] rfl,rfl⟩
   · rw [hm17];first|omega|(simp only [lens9];omega)
   · omega
   · first|exact PutInv.one hinv (by omega) (by assumption)|exact PutInv.two hinv (by omega) (.inl (by assumption))|exact PutInv.two hinv (by omega) (.inr ⟨by assumption,by assumption⟩)|(subst_vars;first|exact PutInv.one hinv (by omega) (by assumption)|exact PutInv.two hinv (by omega) (.inl rfl)|exact PutInv.two hinv (by omega) (.inr ⟨by assumption,by assumption⟩))
  have hn43:dn=true:=(Bool.not_eq_false' _).mp hb43
  refine gS<|hK k41<|gL<|gRn (oM 2 rfl<|onfl 1 fl_52_4 ti_35 rfl rfl<|oM 1 rfl<|oxN sl_35 ti_39 (aO 2 rfl) _ om9 rfl<|olw2 [.int .i64 ((nth ends.l i).st),((nth ends.l i).words).v,((nth ends.l i).prints).v] ti_39 (aO 2 rfl) om9 rfl<|.nl)<|gE1 (fun _ _ h_=>x_lit (n:=1) (cs:= [.int .i64 ((nth ends.l i).st),((nth ends.l i).words).v,((nth ends.l i).prints).v]) ([nth ends.l i]:List OutL) h_ sl_35 ti_39 rfl rfl rfl (by decide) rfl (by kernel_rfl) rfl (fun q hq w h=>by obtain rfl:q=0:=(by simpa using hq);exact ⟨((h.own 2 rfl).inner i (show i<ends.l.length from om9)).1,((h.own 2 rfl).inner i (show i<ends.l.length from om9)).2⟩) (fun q hq b hb=>by obtain rfl:q=0:=(by simpa using hq);rcases hb with hb|hb;exact ⟨_,List.mem_of_getElem? (i:=2) rfl,i,(show i<ends.l.length from om9), .inl hb⟩;exact ⟨_,List.mem_of_getElem? (i:=2) rfl,i,(show i<ends.l.length from om9), .inr hb⟩) rfl rfl) rfl fun v50=>gE1 (fun _ _ h_=>x_app (r:=6) (rm:=0) (s:=(⟨vo,ol⟩:Ls OutL)) (m:=(⟨v50, [nth ends.l i]⟩:Ls OutL)) h_ sl_35 ti_39 rfl rfl rfl rfl rfl rfl rfl (fun w h=>(h.own 0 rfl)) (fun b hb=>own_on (h_.sh.ok _ (List.mem_of_getElem? (i:=0) rfl)) hb) (fun q hq b hb=>⟨q,hq,hb⟩) rfl rfl rfl inferInstance (show (ol.length+([nth ends.l i]).length)*56≤140737488355328∧ol.length+([nth ends.l i]).length≤140737488355328 from om9) rfl rfl) rfl fun v51=>gRn (oM 1 rfl<|.nl)<|nK k24<|gF [0,3,4,5,6] rfl<|gL<|gRn (oM 1 rfl<|oadN _ 1 om9 rfl<|oM 1 rfl<|.nl)<|nN<|fun a52 w52 h52=>x_again ⟨_, ?_,i+1,dn,ol++([nth ends.l i]),v51, ?_, ?_,h52.nrm ⟨rfl,rfl,rfl,rfl,rfl,trivial⟩ [1,2,3,4,5,6] rfl,rfl⟩
  · rw [hm17];first|omega|(simp only [lens9];omega)
  · omega
  · first|exact PutInv.one hinv (by omega) (by assumption)|exact PutInv.two hinv (by omega) (.inl (by assumption))|exact PutInv.two hinv (by omega) (.inr ⟨by assumption,by assumption⟩)|(subst_vars;first|exact PutInv.one hinv (by omega) (by assumption)|exact PutInv.two hinv (by omega) (.inl rfl)|exact PutInv.two hinv (by omega) (.inr ⟨by assumption,by assumption⟩))
 refine gX<|hK k15<|gK fun _ k53=>sG (oM 1 rfl<|ont rfl<|.nl)<|gCb rfl (fun hb55=> ?_) fun hb55=> ?_
 ·have hn55:dn=false:=(Bool.not_eq_true' _).mp hb55
  refine gL<|gRn (oM 1 rfl<|olw 0 ti_39 rfl rfl<|.nl)<|gE1 (fun _ _ h_=>x_lit (n:=1) (cs:= [.int .i64 o.st,o.words.v,o.prints.v]) ([o]:List OutL) h_ sl_35 ti_39 rfl rfl rfl (by decide) rfl (by kernel_rfl) rfl (fun q hq w h=>by obtain rfl:q=0:=(by simpa using hq);exact ⟨(h.at 3 rfl),(h.at 4 rfl)⟩) (fun q hq b hb=>by obtain rfl:q=0:=(by simpa using hq);rcases hb with hb|hb;exact ⟨_,List.mem_of_getElem? (i:=3) rfl,hb⟩;exact ⟨_,List.mem_of_getElem? (i:=4) rfl,hb⟩) rfl rfl) rfl fun v56=>gE1 (fun _ _ h_=>x_app (r:=6) (rm:=0) (s:=(⟨vo,ol⟩:Ls OutL)) (m:=(⟨v56, [o]⟩:Ls OutL)) h_ sl_35 ti_39 rfl rfl rfl rfl rfl rfl rfl (fun w h=>(h.own 0 rfl)) (fun b hb=>own_on (h_.sh.ok _ (List.mem_of_getElem? (i:=0) rfl)) hb) (fun q hq b hb=>⟨q,hq,hb⟩) rfl rfl rfl inferInstance (show (ol.length+([o]).length)*56≤140737488355328∧ol.length+([o]).length≤140737488355328 from om9) rfl rfl) rfl fun v57=>gRn (oM 1 rfl<|.nl)<|nK k53<|gL<|gRn (oM 2 rfl<|onf fl_52_4 rfl<|.nl)<|gsr 2 ti_35 rfl (aO 6 rfl) rfl<|nN<|fun a59 w59 h59=> ?_
  try simp only [Exit.then,Exit.inBlock,if_true]
  refine x_end0 (fn:=Tryz.f71) rfl h59<|⟨rfl,⟨v57,ol++([o])⟩, ?_,(h59.sh.sel [2,6,4,5] rfl)⟩
  first|exact .inl ⟨⟨i,by omega,by assumption,by assumption⟩,rfl⟩|exact PutInv.rel (by first|exact hinv|(rw [show dn=true by assumption] at hinv;exact hinv)) (by omega)|exact PutInv.rel0 (by first|exact hinv|(rw [show dn=false by assumption] at hinv;exact hinv)) (by omega)
 have hn55:dn=true:=(Bool.not_eq_false' _).mp hb55
 refine gS<|hK k53<|gL<|gRn (oM 2 rfl<|onf fl_52_4 rfl<|.nl)<|gsr 1 ti_35 rfl (aO 5 rfl) rfl<|nN<|fun a61 w61 h61=> ?_
 try simp only [Exit.then,Exit.inBlock,if_true]
 refine x_end0 (fn:=Tryz.f71) rfl h61<|⟨rfl,⟨vo,ol⟩, ?_,(h61.sh.sel [1,5,3,4] rfl)⟩
 first|exact .inl ⟨⟨i,by omega,by assumption,by assumption⟩,rfl⟩|exact PutInv.rel (by first|exact hinv|(rw [show dn=true by assumption] at hinv;exact hinv)) (by omega)|exact PutInv.rel0 (by first|exact hinv|(rw [show dn=false by assumption] at hinv;exact hinv)) (by omega)
end Go.Proofs.YtmjkobhkkjgplaaGreatDoor
