/- Facts on the types and functions of this program, by reckoning. -/
import Derived.Test.YtmjkobhkkjgplaaGreatDoorS8
import Derived.Test.YtmjkobhkkjgplaaGreatDoorRows
section
namespace Go.Proofs.YtmjkobhkkjgplaaGreatDoor
open Go.RowKit
set_option linter.unusedSimpArgs false
set_option linter.unusedVariables false
theorem lens9 :(∀ {α:Type} (l m:List α),(l++m).length=l.length+m.length)∧(∀ {α:Type} (a:α) (l:List α),(a::l).length=l.length+1)∧(∀ {α:Type},([]:List α).length=0)∧(∀ {α:Type} (l:List α) (i:Nat) (a:α),(l.set i a).length=l.length)∧(∀ {α:Type} (n:Nat) (a:α),(List.replicate n a).length=n)∧(∀ {α β:Type} (f:α→β) (l:List α),(l.map f).length=l.length)∧(∀n:Nat,(List.range n).length=n):=
 ⟨fun l m=>List.length_append,fun a l=>List.length_cons,List.length_nil,fun l i a=>List.length_set,fun n a=>List.length_replicate,fun f l=>List.length_map f,fun n=>List.length_range⟩
theorem om9 {p:Prop} (h:p:=by first|omega|(simp only [lens9];omega)):p:=h
inductive Runs (P:Program) (ops:Array Oper) (N:Nat) (K:Nat→Prop) (W:World) (L:List Asn):List Oper→List (Nat×Value)→List Oper→List (Nat×Value)→Prop
 |nl {l:List Oper} {F:List (Nat×Value)} :Runs P ops N K W L l F l F
 |cn {o:Oper} {l l' :List Oper} {F F' :List (Nat×Value)} {d:Nat} {v:Value} (hr:Rn P o N K W F L v) (hw:∀a,Fr N a F→Region.wanted o (yielded ops a.tmps)=true) (hd:o.dst=some d) (hN:Nat.blt d N=true) (k:Runs P ops N K W L l ((d,v)::F) l' F'):Runs P ops N K W L (o::l) F l' F'
 |sk {o:Oper} {l l' :List Oper} {F F' :List (Nat×Value)} {d:Nat} (hw:∀a,Fr N a F→Region.wanted o (yielded ops a.tmps)=false) (hd:o.dst=some d) (hN:Nat.blt d N=true) (k:Runs P ops N K W L l ((d,undef)::F) l' F'):Runs P ops N K W L (o::l) F l' F'
section
variable {P:Program} {N:Nat} {K:Nat→Prop} {W w:World} {a:Act} {F F' F2:List (Nat×Value)} {L L' :List Asn} {o:Oper} {ops:Array Oper} {l l' l2 rest:List Oper} {Q:Exit→Act→World→Prop} {c c' :Code} {R:Act→World→Prop}
theorem Runs.go (r:Runs P ops N K W L l F l' F'):∀ {a:Act},St N K W a w F L→(∀a,St N K W a w F' L→wpList P ops Q l' a w)→wpList P ops Q l a w:=by
 induction r with
 |nl=>exact fun h k=>k _ h
 |cn hr hw hd hN _ ih=>exact fun h k=>wl_val h hr (hw _ h.fr) hd hN fun a h=>ih h k
 |sk hw hd hN _ ih=>exact fun h k=>wl_skip h (hw _ h.fr) hd hN fun a h=>ih h k
theorem Runs.goQ {Z:Act→Prop} (r:Runs P ops N K W L l F l' F'):∀ {a:Act},Fr N a F→(∀a,Fr N a F' →wpQuiet P ops (fun w=>Sh K W w L) Z l' a)→wpQuiet P ops (fun w=>Sh K W w L) Z l a:=by
 induction r with
 |nl=>exact fun h k=>k _ h
 |cn hr hw hd hN _ ih=>exact fun h k=>wq_val h hr (hw _ h) hd hN fun a h=>ih h k
 |sk hw hd hN _ ih=>exact fun h k=>wq_skip h (hw _ h) hd hN fun a h=>ih h k
theorem gG (h:St N K W a w F L) (k:∀a w,St N K W a w F L→R a w):R a w:=k a w h
theorem gRn (r:Runs P ops N K W L l F l' F') (k:∀a w,St N K W a w F' L→wpList P ops Q l' a w):∀a w,St N K W a w F L→wpList P ops Q l a w:=fun _ w h=>r.go h fun a h=>k a w h
theorem sG {id:Nat} (r:Runs P l.toArray N K W L l F [] F') (k:∀a w,St N K W a w F' L→c.wp P Q a w):∀a w,St N K W a w F L→(Code.seq (.region id l.toArray false) c).wp P Q a w:=
 fun _ w h=>wp_seq_k fun _ hK=>wp_region_lit (r.go h fun a h=>wpList_nil (hK _ _ (k a w h)))
theorem sK {id:Nat} (k:∀R:Act→World→Prop,(∀a w,c.wp P Q a w→R a w)→∀a w,St N K W a w F L→wpList P l.toArray (Exit.then R Q) l a w):∀a w,St N K W a w F L→(Code.seq (.region id l.toArray false) c).wp P Q a w:=
 fun _ w h=>wp_seq_k fun R hK=>wp_region_lit (k R hK _ w h)
theorem nK {Q0:Exit→Act→World→Prop} (hk:∀a w,c.wp P Q a w→Q0 .normal a w) (k:∀a w,St N K W a w F L→c.wp P Q a w):∀a w,St N K W a w F L→wpList P ops Q0 [] a w:=fun _ w h=>wpList_nil (hk _ _ (k _ w h))
theorem hK {X:Act→World→Prop} (hk:∀a w,c.wp P Q a w→X a w) (k:∀a w,St N K W a w F L→c.wp P Q a w):∀a w,St N K W a w F L→X a w:=fun _ w h=>hk _ _ (k _ w h)
theorem gK (k:∀R:Act→World→Prop,(∀a w,c'.wp P Q a w→R a w)→∀a w,St N K W a w F L→c.wp P (Exit.then R Q) a w):∀a w,St N K W a w F L→(Code.seq c c').wp P Q a w:=
 fun _ w h=>wp_seq_k fun R hK=>k R hK _ w h
theorem gL {id:Nat} (k:∀a w,St N K W a w F L→wpList P l.toArray Q l a w):∀a w,St N K W a w F L→(Code.region id l.toArray false).wp P Q a w:=fun _ w h=>wp_region_lit (k _ w h)
theorem nN (k:∀a w,St N K W a w F L→Q .normal a w):∀a w,St N K W a w F L→wpList P ops Q [] a w:=fun _ w h=>wpList_nil (k _ w h)
theorem gCb {x:Operand} {b:Bool} (hc:ev F x=some (.bool b)) (ht:b=true→∀a w,St N K W a w F L→c.wp P Q a w) (hf:b=false→∀a w,St N K W a w F L→c'.wp P Q a w):∀a w,St N K W a w F L→(Code.cond x c c').wp P Q a w:=
 fun _ w h=>x_cond h hc (fun hb=>ht hb _ w h) (fun hb=>hf hb _ w h)
theorem gcd {x:Operand} {p:Prop} [Decidable p] (hc:ev F x=some (.bool (decide p))) (ht:decide p=true→p→∀a w,St N K W a w F L→c.wp P Q a w) (hf:decide p=false→¬p→∀a w,St N K W a w F L→c'.wp P Q a w):∀a w,St N K W a w F L→(Code.cond x c c').wp P Q a w:=
 gCb hc (fun hb=>ht hb (of_decide_eq_true hb)) fun hb=>hf hb (of_decide_eq_false hb)
theorem dsp (p:Prop) [Decidable p]:(decide p=true∧p)∨(decide p=false∧¬p):=by
 by_cases h:p
 ·exact .inl ⟨decide_eq_true h,h⟩
 ·exact .inr ⟨decide_eq_false h,h⟩
theorem gcT {x:Operand} {b:Bool} (hc:ev F x=some (.bool b)) (hb:b=true) (k:∀a w,St N K W a w F L→c.wp P Q a w):∀a w,St N K W a w F L→(Code.cond x c c').wp P Q a w:=fun _ w h=>x_condT h hc hb (k _ w h)
theorem gcF {x:Operand} {b:Bool} (hc:ev F x=some (.bool b)) (hb:b=false) (k:∀a w,St N K W a w F L→c'.wp P Q a w):∀a w,St N K W a w F L→(Code.cond x c c').wp P Q a w:=fun _ w h=>x_condF h hc hb (k _ w h)
theorem gB {id:Nat} (k:∀a w,St N K W a w F L→c.wp P (Exit.inBlock id Q) a w):∀a w,St N K W a w F L→(Code.block id c).wp P Q a w:=fun _ w h=>wp_block (k _ w h)
theorem gS (k:∀a w,St N K W a w F L→Q .normal a w):∀a w,St N K W a w F L→Code.skip.wp P Q a w:=fun _ w h=>wp_skip (k _ w h)
theorem gX {id:Nat} (k:∀a w,St N K W a w F L→Q (.exit id) a w):∀a w,St N K W a w F L→(Code.exit id).wp P Q a w:=fun _ w h=>wp_exit (k _ w h)
theorem gR (k:∀a w,St N K W a w F L→Q .ret a w):∀a w,St N K W a w F L→Code.ret.wp P Q a w:=fun _ w h=>wp_ret (k _ w h)
def argF :List Value→Option (List (Nat×Value))
 | []=>some []
 | [a]=>some [(0,a)]
 | [a,b]=>some [(0,a),(1,b)]
 | [a,b,c]=>some [(0,a),(1,b),(2,c)]
 | [a,b,c,d]=>some [(0,a),(1,b),(2,c),(3,d)]
 | [a,b,c,d,e]=>some [(0,a),(1,b),(2,c),(3,d),(4,e)]
 | [a,b,c,d,e,f]=>some [(0,a),(1,b),(2,c),(3,d),(4,e),(5,f)]
 | [a,b,c,d,e,f,g]=>some [(0,a),(1,b),(2,c),(3,d),(4,e),(5,f),(6,g)]
 | [a,b,c,d,e,f,g,h]=>some [(0,a),(1,b),(2,c),(3,d),(4,e),(5,f),(6,g),(7,h)]
 | [a,b,c,d,e,f,g,h,i]=>some [(0,a),(1,b),(2,c),(3,d),(4,e),(5,f),(6,g),(7,h),(8,i)]
 | [a,b,c,d,e,f,g,h,i,j]=>some [(0,a),(1,b),(2,c),(3,d),(4,e),(5,f),(6,g),(7,h),(8,i),(9,j)]
 |_=>none
theorem argF_eq {vs:List Value} {F:List (Nat×Value)} (h:argF vs=some F):((vs.zipIdx 0).map fun x=>(x.2,x.1))=F:=by
 unfold argF at h
 split at h<;>cases h<;>rfl
theorem gen {f:FuncId} {fn:Func} {vs:List Value} {X:Value→World→Prop} (hf:P.funcs[f]? =some fn) (hN:fn.ntmps=N) (hS:Sh K W W L) (e:(fn.body,argF vs,Nat.ble vs.length N)=(some c,some F,true)) (k:∀a,St N K W a W F L→c.wp P (bodyPost P fn fun e w' =>∃v,e= .returned v∧X v w') a W):Rets P f vs W X:=by
 simp only [Prod.mk.injEq] at e
 exact x_enter hf e.1 hN (Nat.le_of_ble_eq_true e.2.2) fun a h=>k a ⟨by rw [argF_eq e.2.1] at h;exact h,hS⟩
theorem gNl {α:Type} [Enc α] {s:Ls α} (hat:∀w,Sh K W w L→s.At w) (k:s.l.length≤140737488355328→∀a w,St N K W a w F L→R a w):∀a w,St N K W a w F L→R a w:=fun a w h=>k (hat w h.sh).len a w h
theorem gE {L2:List Asn} (hx:∀a w,St N K W a w F L→Ex P o a w (fun a' w' =>St N K W a' w' F2 L2)) (hg:o.guard=none) (k:∀a w,St N K W a w F2 L2→wpList P ops Q rest a w):∀a w,St N K W a w F L→wpList P ops Q (o::rest) a w:=
 fun _ w h=>wl_ex (hx _ w h) (wanted_none hg _) fun a w h=>k a w h
theorem gE1 {α:Sort 1} {F2:α→List (Nat×Value)} {L2:α→List Asn} (hx:∀a w,St N K W a w F L→Ex P o a w (fun a' w' =>∃b:α,St N K W a' w' (F2 b) (L2 b))) (hg:o.guard=none) (k:∀b a w,St N K W a w (F2 b) (L2 b)→wpList P ops Q rest a w):∀a w,St N K W a w F L→wpList P ops Q (o::rest) a w:=
 fun _ w h=>wl_ex (hx _ w h) (wanted_none hg _) fun a w ⟨b,h⟩=>k b a w h
def pickF (F:List (Nat×Value)):List Nat→Option (List (Nat×Value))
 | []=>some []
 |t::r=>match lk F t with
  |some v=>match pickF F r with
   |some F' =>some ((t,v)::F')
   |none=>none
  |none=>none
theorem pickF_ok :∀ {ts:List Nat} {F' :List (Nat×Value)},pickF F ts=some F' →frOK F F'
 | [],F',e=>by cases e;trivial
 |t::r,F',e=>by
  unfold pickF at e
  split at e
  ·rename_i v hv
   split at e
   ·rename_i F2 hF
    cases e
    exact ⟨hv,pickF_ok hF⟩
   ·cases e
  ·cases e
theorem gF (ts:List Nat) (e:pickF F ts=some F') (k:∀a w,St N K W a w F' L→R a w):∀a w,St N K W a w F L→R a w:=fun a w h=>k a w (h.nf (pickF_ok e))
theorem gO (is:List Nat) (e2:selB L is=some L') (k:∀a w,St N K W a w F L' →R a w):∀a w,St N K W a w F L→R a w:=fun a w h=>k a w (h.sel is e2)
theorem qQ {Y:Act→Prop} (h:Fr N a F) (k:∀a,Fr N a F→Y a):Y a:=k a h
theorem qRn {Z:Act→Prop} (r:Runs P ops N K W L l F l' F') (k:∀a,Fr N a F' →wpQuiet P ops (fun w=>Sh K W w L) Z l' a):∀a,Fr N a F→wpQuiet P ops (fun w=>Sh K W w L) Z l a:=fun _ h=>r.goQ h k
theorem qN {Z:Act→Prop} (z:∀a,(∀w,Sh K W w L→R a w)→Z a) (k:∀a w,St N K W a w F L→R a w):∀a,Fr N a F→wpQuiet P ops (fun w=>Sh K W w L) Z [] a:=fun a h=>wpQuiet_nil (z a fun w hw=>k a w ⟨h,hw⟩)
theorem rQ {id:Nat} (hm:P.follows .mixedOrders=true) (hB:Region.lexB .any l.toArray=true) (r:Runs P l.toArray N K W L l F [] F') (k:∀a w,St N K W a w F' L→Q .normal a w):∀a w,St N K W a w F L→(Code.region id l.toArray true).wp P Q a w:=
 fun _ w h=>x_quiet hm hB h fun Z hZ=>r.goQ h.fr fun a hf=>wpQuiet_nil (hZ a fun w hw=>k a w ⟨hf,hw⟩)
theorem rT {id:Nat} (m:Nat) (ps:List Nat) (hm:P.follows .mixedOrders=true) (hB:tailB l m ps=true) (r:Runs P l.toArray N K W L (opsAt l.toArray ps++opsAt l.toArray (quietIs m ps)) F [] F')
  (k:∀a w,St N K W a w F' L→wpList P l.toArray (fun e a w=>match e with| .normal=>Q .normal a w|_=>False) (l.drop m) a w):∀a w,St N K W a w F L→(Code.region id l.toArray true).wp P Q a w:=
 fun _ w h=>x_tail m ps hm hB h fun Z hZ=>r.goQ h.fr fun a hf=>wpQuiet_nil (hZ a fun w hw=>k a w ⟨hf,hw⟩)
section
variable {d g k q r j n by_ sz i2:Nat} {T E e:TypeId} {x y:Operand} {v:Value} {z cs vs:List Value}
theorem wn (hg:o.guard=none):∀a,Fr N a F→Region.wanted o (yielded ops a.tmps)=true:=fun _ _=>wanted_none hg _
theorem oV (hr:Rn P o N K W F L v) (e:(o.dst,o.guard,Nat.blt d N)=(some d,none,true)) (k:Runs P ops N K W L l ((d,v)::F) l' F'):Runs P ops N K W L (o::l) F l' F' :=by
 simp only [Prod.mk.injEq] at e
 exact .cn hr (wn e.2.1) e.1 e.2.2 k
theorem oG {b want:Bool} {t:Nat} {oj:Oper} (hb:b=want) (hr:Rn P o N K W F L v) (e:(o.dst,o.guard,ops[j]?,oj.dst,lk F t,Nat.blt d N)=(some d,some (j,want),some oj,some t,some (.bool b),true)) (k:Runs P ops N K W L l ((d,v)::F) l' F'):Runs P ops N K W L (o::l) F l' F' :=by
 simp only [Prod.mk.injEq] at e
 exact .cn hr (fun a h=>wanted_yes h e.2.1 e.2.2.1 e.2.2.2.1 e.2.2.2.2.1 hb) e.1 e.2.2.2.2.2 k
def skF (N j t:Nat) (want:Bool):Nat→List Oper→List (Nat×Value)→Option (List Oper×List (Nat×Value))
 |0,l,F=>some (l,F)
 |n+1,o::l,F=>match o.guard with
  |some (j',w')=>bif Nat.beq j' j&&(w' ==want) then match o.dst with
   |some d=>bif Nat.blt d N&& !(Nat.beq d t) then skF N j t want n l ((d,undef)::F) else none
   |none=>none
   else none
  |none=>none
 |_+1, [],_=>none
theorem oKs (n:Nat) {b want:Bool} {j t:Nat} {oj:Oper} (hb:b= !want) (e:(o.guard,ops[j]?,oj.dst,lk F t)=(some (j,want),some oj,some t,some (.bool b))) (hs:skF N j t want n (o::l) F=some (l2,F2)) (k:Runs P ops N K W L l2 F2 l' F'):Runs P ops N K W L (o::l) F l' F' :=by
 simp only [Prod.mk.injEq] at e
 obtain ⟨_,e1,e2,e3⟩:=e
 generalize o::l=m at hs⊢
 induction n generalizing m F with
 |zero=>cases hs;exact k
 |succ n ih=>
  cases m with
  |nil=>cases hs
  |cons o m=>
   unfold skF at hs
   split at hs
   ·rename_i j' w' hg
    cases hc:Nat.beq j' j&&(w' ==want) with
    |false=>rw [hc] at hs;cases hs
    |true=>
     rw [hc,cond_true] at hs
     obtain ⟨h1,h2⟩:=Bool.and_eq_true_iff.1 hc
     cases Nat.eq_of_beq_eq_true h1
     obtain rfl:w' =want:=by simpa using h2
     split at hs
     ·rename_i d hd
      cases hc2:Nat.blt d N&& !(Nat.beq d t) with
      |false=>rw [hc2] at hs;cases hs
      |true=>
       rw [hc2,cond_true] at hs
       obtain ⟨h3,h4⟩:=Bool.and_eq_true_iff.1 hc2
       have h5:d≠t:=fun e=>by subst e;simp at h4
       exact .sk (fun a h=>wanted_no h hg e1 e2 e3 hb) hd h3 (ih (by rw [lk_cons,if_neg h5];exact e3) m hs)
     ·cases hs
   ·cases hs
theorem oM (n:Nat) (e:mvN N n l F=some (l2,F2)) (k:Runs P ops N K W L l2 F2 l' F'):Runs P ops N K W L l F l' F' :=by
 induction n generalizing l F with
 |zero=>cases e;exact k
 |succ n ih=>
  cases l with
  |nil=>cases e
  |cons o l=>
   unfold mvN at e
   split at e
   ·rename_i d x hg hd ho
    split at e
    ·rename_i v hv
     cases hb:Nat.blt d N with
     |false=>rw [hb] at e;cases e
     |true=>rw [hb] at e;exact .cn (r_move ho hv) (wn hg) hd hb (ih e)
    ·cases e
   ·rename_i d x hg hd ho
    split at e
    ·rename_i v hv
     cases hb:Nat.blt d N with
     |false=>rw [hb] at e;cases e
     |true=>rw [hb] at e;exact .cn (r_assign ho hv) (wn hg) hd hb (ih e)
    ·cases e
   ·cases e
theorem onl {p:Addr} (e:(o.dst,o.op,ev F x,okg o d N)=(some d, .nilCheck x,some (.pointer (some p)),true)) (k:Runs P ops N K W L l ((d, .pointer (some p))::F) l' F'):Runs P ops N K W L (o::l) F l' F' :=by
 simp only [Prod.mk.injEq,okg,Bool.and_eq_true,Option.isNone_iff_eq_none] at e
 exact .cn (r_nil e.2.1 e.2.2.1) (wn e.2.2.2.1) e.1 e.2.2.2.2 k
theorem ofB {f:Nat} (hT:flI P T f=some k) (e:(o.dst,o.op,ev F x,okg o d N)=(some d, .fieldAddr T x f,some (.pointer (some ⟨g,0,none⟩)),true)) (kk:Runs P ops N K W L l ((d, .pointer (some ⟨g,k,none⟩))::F) l' F'):Runs P ops N K W L (o::l) F l' F' :=by
 simp only [Prod.mk.injEq,okg,Bool.and_eq_true,Option.isNone_iff_eq_none] at e
 exact .cn (r_fieldB hT e.2.1 e.2.2.1 (Nat.zero_add k)) (wn e.2.2.2.1) e.1 e.2.2.2.2 kk
theorem onf {o2:Oper} {f d2:Nat} {p:Addr} {y:Operand} (hT:flI P T f=some k) (e:(o.dst,o.op,ev F x,okg o d N,o2.dst,o2.op,ev ((d, .pointer (some p))::F) y,okg o2 d2 N)=(some d, .nilCheck x,some (.pointer (some p)),true,some d2, .fieldAddr T y f,some (.pointer (some ⟨g,0,none⟩)),true))
  (kk:Runs P ops N K W L l ((d2, .pointer (some ⟨g,k,none⟩))::(d, .pointer (some p))::F) l' F'):Runs P ops N K W L (o::o2::l) F l' F' :=by
 simp only [Prod.mk.injEq] at e
 obtain ⟨e1,e2,e3,e4,e5,e6,e7,e8⟩:=e
 exact onl (by rw [e1,e2,e3,e4]) (ofB hT (by rw [e5,e6,e7,e8]) kk)
theorem olB (i:Nat) (hT:tyI P T=some (false,n,by_,z)) (hi:L[i]? =some (.blk g E cs)) (e:(o.dst,o.op,ev F x,okg o d N,cs[q]?)=(some d, .load T x,some (.pointer (some ⟨g,q,none⟩)),true,some v)) (k:Runs P ops N K W L l ((d,v)::F) l' F'):Runs P ops N K W L (o::l) F l' F' :=by
 simp only [Prod.mk.injEq,okg,Bool.and_eq_true,Option.isNone_iff_eq_none] at e
 exact .cn (r_ldb hT e.2.1 e.2.2.1 hi e.2.2.2.2) (wn e.2.2.2.1.1) e.1 e.2.2.2.1.2 k
theorem olR (i:Nat) (hT:tyI P T=some (false,n,by_,z)) (hi:L[i]? =some (.rblk g E cs)) (e:(o.dst,o.op,ev F x,okg o d N,cs[q]?)=(some d, .load T x,some (.pointer (some ⟨g,q,none⟩)),true,some v)) (k:Runs P ops N K W L l ((d,v)::F) l' F'):Runs P ops N K W L (o::l) F l' F' :=by
 simp only [Prod.mk.injEq,okg,Bool.and_eq_true,Option.isNone_iff_eq_none] at e
 exact .cn (r_ldbR hT e.2.1 e.2.2.1 (fun w h=>h.rblk i hi) e.2.2.2.2) (wn e.2.2.2.1.1) e.1 e.2.2.2.1.2 k
theorem onfl (i:Nat) {o2 o3:Oper} {f d2 d3:Nat} {T' :TypeId} {p:Addr} {y u:Operand} (hT:flI P T f=some k) (hT' :tyI P T' =some (false,n,by_,z)) (hi:L[i]? =some (.blk g E cs))
  (e:(o.dst,o.op,ev F x,okg o d N,o2.dst,o2.op,ev ((d, .pointer (some p))::F) y,okg o2 d2 N,o3.dst,o3.op,ev ((d2, .pointer (some ⟨g,k,none⟩))::(d, .pointer (some p))::F) u,okg o3 d3 N,cs[k]?)=(some d, .nilCheck x,some (.pointer (some p)),true,some d2, .fieldAddr T y f,some (.pointer (some ⟨g,0,none⟩)),true,some d3, .load T' u,some (.pointer (some ⟨g,k,none⟩)),true,some v))
  (kk:Runs P ops N K W L l ((d3,v)::(d2, .pointer (some ⟨g,k,none⟩))::(d, .pointer (some p))::F) l' F'):Runs P ops N K W L (o::o2::o3::l) F l' F' :=by
 simp only [Prod.mk.injEq] at e
 obtain ⟨e1,e2,e3,e4,e5,e6,e7,e8,e9,f1,f2,f3,f4⟩:=e
 exact onl (by rw [e1,e2,e3,e4]) (ofB hT (by rw [e5,e6,e7,e8]) (olB i hT' hi (by rw [e9,f1,f2,f3,f4]) kk))
def takeO :List Value→Nat→Nat→Option (List Value)
 |_,_,0=>some []
 | [],_,_+1=>none
 |_::r,q+1,n+1=>takeO r q (n+1)
 |v::r,0,n+1=>match takeO r 0 n with
  |some l=>some (v::l)
  |none=>none
theorem takeO_eq :∀ {cs:List Value} {q n:Nat} {vs:List Value},takeO cs q n=some vs→(cs.drop q).take n=vs∧vs.length=n
 |cs,q,0,vs,h=>by unfold takeO at h;cases h;simp
 | [],q,n+1,vs,h=>by cases q<;>cases h
 |_::r,q+1,n+1,vs,h=>by
  unfold takeO at h
  simpa using takeO_eq h
 |v::r,0,n+1,vs,h=>by
  unfold takeO at h
  split at h
  ·next l hl=>
   cases h
   obtain ⟨h1,h2⟩:=takeO_eq hl
   refine ⟨?_,by simp [h2]⟩
   rw [List.drop_zero] at h1⊢
   rw [List.take_succ_cons,h1]
  ·cases h
theorem olw (i:Nat) (hT:tyI P T=some (true,n,by_,z)) (hi:L[i]? =some (.blk g E cs)) (e:(o.dst,o.op,ev F x,okg o d N,takeO cs q n)=(some d, .load T x,some (.pointer (some ⟨g,q,none⟩)),true,some vs)) (k:Runs P ops N K W L l ((d, .agg vs.toArray)::F) l' F'):Runs P ops N K W L (o::l) F l' F' :=by
 simp only [Prod.mk.injEq,okg,Bool.and_eq_true,Option.isNone_iff_eq_none] at e
 exact .cn (r_ldbw hT e.2.1 e.2.2.1 hi (takeO_eq e.2.2.2.2).1 (takeO_eq e.2.2.2.2).2) (wn e.2.2.2.1.1) e.1 e.2.2.2.1.2 k
theorem oxt {i:Nat} {vs:Array Value} (e:(o.dst,o.op,ev F x,okg o d N,vs[i]?)=(some d, .extract x i,some (.tuple vs),true,some v)) (k:Runs P ops N K W L l ((d,v)::F) l' F'):Runs P ops N K W L (o::l) F l' F' :=by
 simp only [Prod.mk.injEq,okg,Bool.and_eq_true,Option.isNone_iff_eq_none] at e
 exact .cn (r_extract e.2.1 e.2.2.1 e.2.2.2.2) (wn e.2.2.2.1.1) e.1 e.2.2.2.1.2 k
theorem opT {b:Bool} {c x y:Operand} (hb:b=true) (e:(o.dst,o.op,ev F c,ev F x,okg o d N)=(some d, .pick c x y,some (.bool b),some v,true)) (k:Runs P ops N K W L l ((d,v)::F) l' F'):Runs P ops N K W L (o::l) F l' F' :=by
 simp only [Prod.mk.injEq,okg,Bool.and_eq_true,Option.isNone_iff_eq_none] at e
 exact .cn (r_pickT e.2.1 e.2.2.1 hb e.2.2.2.1) (wn e.2.2.2.2.1) e.1 e.2.2.2.2.2 k
theorem opF {b:Bool} {c x y:Operand} (hb:b=false) (e:(o.dst,o.op,ev F c,ev F y,okg o d N)=(some d, .pick c x y,some (.bool b),some v,true)) (k:Runs P ops N K W L l ((d,v)::F) l' F'):Runs P ops N K W L (o::l) F l' F' :=by
 simp only [Prod.mk.injEq,okg,Bool.and_eq_true,Option.isNone_iff_eq_none] at e
 exact .cn (r_pickF e.2.1 e.2.2.1 hb e.2.2.2.1) (wn e.2.2.2.2.1) e.1 e.2.2.2.2.2 k
theorem ont {b:Bool} (e:(o.dst,o.op,ev F x,okg o d N)=(some d, .unOp .not T x,some (.bool b),true)) (k:Runs P ops N K W L l ((d, .bool (!b))::F) l' F'):Runs P ops N K W L (o::l) F l' F' :=by
 simp only [Prod.mk.injEq,okg,Bool.and_eq_true,Option.isNone_iff_eq_none] at e
 exact .cn (r_not e.2.1 e.2.2.1) (wn e.2.2.2.1) e.1 e.2.2.2.2 k
section
variable {α:Type} [Enc α] {s:Ls α} {gb:Bool}
theorem oxN {kd:IntKind} (hT:slI P T=some e) (he:tyI P e=some (gb,n,by_,z)) (hat:∀w,Sh K W w L→s.At w) (q:Nat) (hb:q<s.l.length) (e' :(o.dst,o.op,ev F x,ev F y,okg o d N)=(some d, .indexAddr T x y,some s.v,some (.int kd (q:Int)),true))
  (k:Runs P ops N K W L l ((d, .pointer (some (padr s.v n q 0)))::F) l' F'):Runs P ops N K W L (o::l) F l' F' :=by
 simp only [Prod.mk.injEq,okg,Bool.and_eq_true,Option.isNone_iff_eq_none] at e'
 exact .cn (r_ixN hT he e'.2.1 e'.2.2.1 e'.2.2.2.1 hat hb) (wn e'.2.2.2.2.1) e'.1 e'.2.2.2.2.2 k
theorem oxI {kd:IntKind} {q:Int} (hT:slI P T=some e) (he:tyI P e=some (gb,n,by_,z)) (hat:∀w,Sh K W w L→s.At w) (hb:0≤q∧q<s.l.length) (e' :(o.dst,o.op,ev F x,ev F y,okg o d N)=(some d, .indexAddr T x y,some s.v,some (.int kd q),true))
  (k:Runs P ops N K W L l ((d, .pointer (some (padr s.v n q.toNat 0)))::F) l' F'):Runs P ops N K W L (o::l) F l' F' :=by
 simp only [Prod.mk.injEq,okg,Bool.and_eq_true,Option.isNone_iff_eq_none] at e'
 exact .cn (r_ixI hT he e'.2.1 e'.2.2.1 e'.2.2.2.1 hat hb) (wn e'.2.2.2.2.1) e'.1 e'.2.2.2.2.2 k
theorem ofE {f i:Nat} (hT:flI P T f=some k) (e:(o.dst,o.op,ev F x,okg o d N)=(some d, .fieldAddr T x f,some (.pointer (some (padr v sz i 0))),true)) (kk:Runs P ops N K W L l ((d, .pointer (some (padr v sz i k)))::F) l' F'):Runs P ops N K W L (o::l) F l' F' :=by
 simp only [Prod.mk.injEq,okg,Bool.and_eq_true,Option.isNone_iff_eq_none] at e
 exact .cn (r_fieldE hT e.2.1 e.2.2.1 (Nat.zero_add k)) (wn e.2.2.2.1) e.1 e.2.2.2.2 kk
theorem olE {i:Nat} (v:Value) (hT:tyI P T=some (false,n,by_,z)) (hat:∀w,Sh K W w L→s.At w) (hi:i<s.l.length) (e:(o.dst,o.op,ev F x,okg o d N,Enc.sz α,Nat.blt j sz,Enc.cell (nth s.l i) j)=(some d, .load T x,some (.pointer (some (padr s.v sz i j))),true,sz,true,v)) (k:Runs P ops N K W L l ((d,v)::F) l' F'):Runs P ops N K W L (o::l) F l' F' :=by
 simp only [Prod.mk.injEq,okg,Bool.and_eq_true,Option.isNone_iff_eq_none] at e
 exact .cn (r_lde hT e.2.1 e.2.2.1 e.2.2.2.2.1 hat hi (by simpa [Nat.blt_eq] using e.2.2.2.2.2.1) e.2.2.2.2.2.2) (wn e.2.2.2.1.1) e.1 e.2.2.2.1.2 k
theorem olI {i:Nat} {kd:IntKind} {u:Int} (hT:tyI P T=some (false,n,by_,z)) (hat:∀w,Sh K W w L→s.At w) (hi:i<s.l.length) (e:(o.dst,o.op,ev F x,okg o d N,Enc.sz α,Nat.blt j sz,Enc.cell (nth s.l i) j)=(some d, .load T x,some (.pointer (some (padr s.v sz i j))),true,sz,true, .int kd u)) (k:Runs P ops N K W L l ((d, .int kd u)::F) l' F'):Runs P ops N K W L (o::l) F l' F' :=olE (.int kd u) hT hat hi e k
theorem olw2 {i:Nat} (vs:List Value) (hT:tyI P T=some (true,n,by_,z)) (hat:∀w,Sh K W w L→s.At w) (hi:i<s.l.length) (e:(o.dst,o.op,ev F x,okg o d N,Enc.sz α,Nat.ble (j+n) sz,(List.range n).map (fun q=>Enc.cell (nth s.l i) (j+q)))=(some d, .load T x,some (.pointer (some (padr s.v sz i j))),true,sz,true,vs)) (k:Runs P ops N K W L l ((d, .agg vs.toArray)::F) l' F'):Runs P ops N K W L (o::l) F l' F' :=by
 simp only [Prod.mk.injEq,okg,Bool.and_eq_true,Option.isNone_iff_eq_none] at e
 exact .cn (r_ldew hT e.2.1 e.2.2.1 e.2.2.2.2.1 hat hi (Nat.le_of_ble_eq_true e.2.2.2.2.2.1) e.2.2.2.2.2.2) (wn e.2.2.2.1.1) e.1 e.2.2.2.1.2 k
theorem oln {n:Nat} (hT:slI P T=some e) (hat:∀w,Sh K W w L→s.At w) (e' :(o.dst,o.op,ev F x,okg o d N,s.l.length)=(some d, .call ⟨.builtin .len, #[x], #[T]⟩,some s.v,true,n)) (k:Runs P ops N K W L l ((d, .int .i64 (n:Int))::F) l' F'):Runs P ops N K W L (o::l) F l' F' :=by
 simp only [Prod.mk.injEq,okg,Bool.and_eq_true,Option.isNone_iff_eq_none] at e'
 exact .cn (r_len hT e'.2.1 e'.2.2.1 hat e'.2.2.2.2) (wn e'.2.2.2.1.1) e'.1 e'.2.2.2.1.2 k
end
section
variable {U:TypeId} {kd:IntKind}
theorem oltN (p q:Nat) (e:(o.dst,o.op,ev F x,ev F y,okg o d N)=(some d, .binOp .lss T x y U,some (.int kd (p:Int)),some (.int kd (q:Int)),true)) (k:Runs P ops N K W L l ((d, .bool (decide (p<q)))::F) l' F'):Runs P ops N K W L (o::l) F l' F' :=by
 simp only [Prod.mk.injEq,okg,Bool.and_eq_true,Option.isNone_iff_eq_none] at e
 exact .cn (r_lssN e.2.1 e.2.2.1 e.2.2.2.1) (wn e.2.2.2.2.1) e.1 e.2.2.2.2.2 k
theorem oltI (p q:Int) (e:(o.dst,o.op,ev F x,ev F y,okg o d N)=(some d, .binOp .lss T x y U,some (.int kd p),some (.int kd q),true)) (k:Runs P ops N K W L l ((d, .bool (decide (p<q)))::F) l' F'):Runs P ops N K W L (o::l) F l' F' :=by
 simp only [Prod.mk.injEq,okg,Bool.and_eq_true,Option.isNone_iff_eq_none] at e
 exact .cn (r_lssI e.2.1 e.2.2.1 e.2.2.2.1) (wn e.2.2.2.2.1) e.1 e.2.2.2.2.2 k
theorem ogtN (p q:Nat) (e:(o.dst,o.op,ev F x,ev F y,okg o d N)=(some d, .binOp .gtr T x y U,some (.int kd (p:Int)),some (.int kd (q:Int)),true)) (k:Runs P ops N K W L l ((d, .bool (decide (q<p)))::F) l' F'):Runs P ops N K W L (o::l) F l' F' :=by
 simp only [Prod.mk.injEq,okg,Bool.and_eq_true,Option.isNone_iff_eq_none] at e
 exact .cn (r_gtrN e.2.1 e.2.2.1 e.2.2.2.1) (wn e.2.2.2.2.1) e.1 e.2.2.2.2.2 k
theorem ogtI (p q:Int) (e:(o.dst,o.op,ev F x,ev F y,okg o d N)=(some d, .binOp .gtr T x y U,some (.int kd p),some (.int kd q),true)) (k:Runs P ops N K W L l ((d, .bool (decide (q<p)))::F) l' F'):Runs P ops N K W L (o::l) F l' F' :=by
 simp only [Prod.mk.injEq,okg,Bool.and_eq_true,Option.isNone_iff_eq_none] at e
 exact .cn (r_gtrI e.2.1 e.2.2.1 e.2.2.2.1) (wn e.2.2.2.2.1) e.1 e.2.2.2.2.2 k
theorem ogeN (p q:Nat) (e:(o.dst,o.op,ev F x,ev F y,okg o d N)=(some d, .binOp .geq T x y U,some (.int kd (p:Int)),some (.int kd (q:Int)),true)) (k:Runs P ops N K W L l ((d, .bool (decide (q≤p)))::F) l' F'):Runs P ops N K W L (o::l) F l' F' :=by
 simp only [Prod.mk.injEq,okg,Bool.and_eq_true,Option.isNone_iff_eq_none] at e
 exact .cn (r_geqN e.2.1 e.2.2.1 e.2.2.2.1) (wn e.2.2.2.2.1) e.1 e.2.2.2.2.2 k
theorem ogeI (p q:Int) (e:(o.dst,o.op,ev F x,ev F y,okg o d N)=(some d, .binOp .geq T x y U,some (.int kd p),some (.int kd q),true)) (k:Runs P ops N K W L l ((d, .bool (decide (q≤p)))::F) l' F'):Runs P ops N K W L (o::l) F l' F' :=by
 simp only [Prod.mk.injEq,okg,Bool.and_eq_true,Option.isNone_iff_eq_none] at e
 exact .cn (r_geqI e.2.1 e.2.2.1 e.2.2.2.1) (wn e.2.2.2.2.1) e.1 e.2.2.2.2.2 k
theorem oeqN (p q:Nat) (e:(o.dst,o.op,ev F x,ev F y,okg o d N)=(some d, .binOp .eql T x y U,some (.int kd (p:Int)),some (.int kd (q:Int)),true)) (k:Runs P ops N K W L l ((d, .bool (decide (p=q)))::F) l' F'):Runs P ops N K W L (o::l) F l' F' :=by
 simp only [Prod.mk.injEq,okg,Bool.and_eq_true,Option.isNone_iff_eq_none] at e
 exact .cn (r_eqlN e.2.1 e.2.2.1 e.2.2.2.1) (wn e.2.2.2.2.1) e.1 e.2.2.2.2.2 k
theorem oeqI (p q:Int) (e:(o.dst,o.op,ev F x,ev F y,okg o d N)=(some d, .binOp .eql T x y U,some (.int kd p),some (.int kd q),true)) (k:Runs P ops N K W L l ((d, .bool (decide (p=q)))::F) l' F'):Runs P ops N K W L (o::l) F l' F' :=by
 simp only [Prod.mk.injEq,okg,Bool.and_eq_true,Option.isNone_iff_eq_none] at e
 exact .cn (r_eqlI e.2.1 e.2.2.1 e.2.2.2.1) (wn e.2.2.2.2.1) e.1 e.2.2.2.2.2 k
theorem oneN (p q:Nat) (e:(o.dst,o.op,ev F x,ev F y,okg o d N)=(some d, .binOp .neq T x y U,some (.int kd (p:Int)),some (.int kd (q:Int)),true)) (k:Runs P ops N K W L l ((d, .bool (decide (p≠q)))::F) l' F'):Runs P ops N K W L (o::l) F l' F' :=by
 simp only [Prod.mk.injEq,okg,Bool.and_eq_true,Option.isNone_iff_eq_none] at e
 exact .cn (r_neqN e.2.1 e.2.2.1 e.2.2.2.1) (wn e.2.2.2.2.1) e.1 e.2.2.2.2.2 k
theorem oneI (p q:Int) (e:(o.dst,o.op,ev F x,ev F y,okg o d N)=(some d, .binOp .neq T x y U,some (.int kd p),some (.int kd q),true)) (k:Runs P ops N K W L l ((d, .bool (decide (p≠q)))::F) l' F'):Runs P ops N K W L (o::l) F l' F' :=by
 simp only [Prod.mk.injEq,okg,Bool.and_eq_true,Option.isNone_iff_eq_none] at e
 exact .cn (r_neqI e.2.1 e.2.2.1 e.2.2.2.1) (wn e.2.2.2.2.1) e.1 e.2.2.2.2.2 k
theorem oadN (p q:Nat) (hb:p+q<9223372036854775808) (e:(o.dst,o.op,ev F x,ev F y,okg o d N)=(some d, .binOp .add T x y U,some (.int .i64 (p:Int)),some (.int .i64 (q:Int)),true)) (k:Runs P ops N K W L l ((d, .int .i64 ((p+q:Nat):Int))::F) l' F'):Runs P ops N K W L (o::l) F l' F' :=by
 simp only [Prod.mk.injEq,okg,Bool.and_eq_true,Option.isNone_iff_eq_none] at e
 exact .cn (r_addN e.2.1 e.2.2.1 e.2.2.2.1 hb) (wn e.2.2.2.2.1) e.1 e.2.2.2.2.2 k
theorem oadI (p q:Int) (hb: -9223372036854775808≤p+q∧p+q<9223372036854775808) (e:(o.dst,o.op,ev F x,ev F y,okg o d N)=(some d, .binOp .add T x y U,some (.int .i64 p),some (.int .i64 q),true)) (k:Runs P ops N K W L l ((d, .int .i64 (p+q))::F) l' F'):Runs P ops N K W L (o::l) F l' F' :=by
 simp only [Prod.mk.injEq,okg,Bool.and_eq_true,Option.isNone_iff_eq_none] at e
 exact .cn (r_addI e.2.1 e.2.2.1 e.2.2.2.1 hb) (wn e.2.2.2.2.1) e.1 e.2.2.2.2.2 k
theorem osbN (p q:Nat) (hb:q≤p∧p<9223372036854775808) (e:(o.dst,o.op,ev F x,ev F y,okg o d N)=(some d, .binOp .sub T x y U,some (.int .i64 (p:Int)),some (.int .i64 (q:Int)),true)) (k:Runs P ops N K W L l ((d, .int .i64 ((p-q:Nat):Int))::F) l' F'):Runs P ops N K W L (o::l) F l' F' :=by
 simp only [Prod.mk.injEq,okg,Bool.and_eq_true,Option.isNone_iff_eq_none] at e
 exact .cn (r_subN e.2.1 e.2.2.1 e.2.2.2.1 hb) (wn e.2.2.2.2.1) e.1 e.2.2.2.2.2 k
theorem osbI (p q:Int) (hb: -9223372036854775808≤p-q∧p-q<9223372036854775808) (e:(o.dst,o.op,ev F x,ev F y,okg o d N)=(some d, .binOp .sub T x y U,some (.int .i64 p),some (.int .i64 q),true)) (k:Runs P ops N K W L l ((d, .int .i64 (p-q))::F) l' F'):Runs P ops N K W L (o::l) F l' F' :=by
 simp only [Prod.mk.injEq,okg,Bool.and_eq_true,Option.isNone_iff_eq_none] at e
 exact .cn (r_subI e.2.1 e.2.2.1 e.2.2.2.1 hb) (wn e.2.2.2.2.1) e.1 e.2.2.2.2.2 k
theorem omlN (p q:Nat) (hb:p*q<9223372036854775808) (e:(o.dst,o.op,ev F x,ev F y,okg o d N)=(some d, .binOp .mul T x y U,some (.int .i64 (p:Int)),some (.int .i64 (q:Int)),true)) (k:Runs P ops N K W L l ((d, .int .i64 ((p*q:Nat):Int))::F) l' F'):Runs P ops N K W L (o::l) F l' F' :=by
 simp only [Prod.mk.injEq,okg,Bool.and_eq_true,Option.isNone_iff_eq_none] at e
 exact .cn (r_mulN e.2.1 e.2.2.1 e.2.2.2.1 hb) (wn e.2.2.2.2.1) e.1 e.2.2.2.2.2 k
theorem oquN (p q:Nat) (hb:0<q∧p<9223372036854775808) (e:(o.dst,o.op,ev F x,ev F y,okg o d N)=(some d, .binOp .quo T x y U,some (.int .i64 (p:Int)),some (.int .i64 (q:Int)),true)) (k:Runs P ops N K W L l ((d, .int .i64 ((p/q:Nat):Int))::F) l' F'):Runs P ops N K W L (o::l) F l' F' :=by
 simp only [Prod.mk.injEq,okg,Bool.and_eq_true,Option.isNone_iff_eq_none] at e
 exact .cn (r_quoN e.2.1 e.2.2.1 e.2.2.2.1 hb) (wn e.2.2.2.2.1) e.1 e.2.2.2.2.2 k
theorem ormN (p q:Nat) (hb:0<q∧p<9223372036854775808) (e:(o.dst,o.op,ev F x,ev F y,okg o d N)=(some d, .binOp .rem T x y U,some (.int .i64 (p:Int)),some (.int .i64 (q:Int)),true)) (k:Runs P ops N K W L l ((d, .int .i64 ((p%q:Nat):Int))::F) l' F'):Runs P ops N K W L (o::l) F l' F' :=by
 simp only [Prod.mk.injEq,okg,Bool.and_eq_true,Option.isNone_iff_eq_none] at e
 exact .cn (r_remN e.2.1 e.2.2.1 e.2.2.2.1 hb) (wn e.2.2.2.2.1) e.1 e.2.2.2.2.2 k
end
def setO :List Value→Nat→Value→Option (List Value)
 | [],_,_=>none
 |_::r,0,v=>some (v::r)
 |u::r,q+1,v=>match setO r q v with
  |some l=>some (u::l)
  |none=>none
theorem setO_eq :∀ {cs:List Value} {q:Nat} {v:Value} {cs' :List Value},setO cs q v=some cs' →q+1≤cs.length∧splice cs q [v]=cs'
 | [],_,_,_,h=>by cases h
 |u::r,0,v,_,h=>by cases h;exact ⟨by simp,by simp [splice]⟩
 |u::r,q+1,v,cs',h=>by
  unfold setO at h
  split at h
  ·next l hl=>
   cases h
   obtain ⟨h1,h2⟩:=setO_eq hl
   refine ⟨by simpa using h1, ?_⟩
   rw [←h2]
   simp [splice,Nat.add_right_comm q 1 1]
  ·cases h
def putO :List Asn→Nat→Asn→Option (List Asn)
 | [],_,_=>none
 |_::r,0,v=>some (v::r)
 |u::r,q+1,v=>match putO r q v with
  |some l=>some (u::l)
  |none=>none
theorem putO_eq :∀ {L:List Asn} {q:Nat} {A:Asn} {L' :List Asn},putO L q A=some L' →L.set q A=L'
 | [],_,_,_,h=>by cases h
 |u::r,0,v,_,h=>by cases h;rfl
 |u::r,q+1,v,cs',h=>by
  unfold putO at h
  split at h
  ·next l hl=>cases h;rw [List.set_cons_succ,putO_eq hl]
  ·cases h
theorem gst (i:Nat) {gg:Bool} {cs' :List Value} {L2:List Asn} (hT:tyI P T=some (gg,1,by_,z)) (hi:L[i]? =some (.blk g E cs)) (e:(o.op,o.dst,o.guard,ev F x,ev F y,setO cs q v,putO L i (.blk g E cs'))=(.store T x y,none,none,some (.pointer (some ⟨g,q,none⟩)),some v,some cs',some L2)) (h1:v.oneCell' =true)
  (k:∀a w,St N K W a w F L2→wpList P ops Q rest a w):∀a w,St N K W a w F L→wpList P ops Q (o::rest) a w:=by
 simp only [Prod.mk.injEq] at e
 obtain ⟨e1,e2,e3,e4,e5,e6,e7⟩:=e
 intro a w h
 obtain ⟨h3,h4⟩:=setO_eq e6
 refine wl_ex (x_stb (vs:= [v]) h hT e1 e2 e4 e5 hi (cells_oneL h1) rfl (allOne_cons h1 allOne_nil) h3 h4) (wanted_none e3 _) fun a' w' h' => ?_
 rw [putO_eq e7] at h'
 exact k _ _ h'
theorem gal {gg:Bool} (hT:tyI P T=some (gg,n,by_,z)) (e:(o.op,o.dst,o.guard,Nat.blt d N)=(.alloc T,some d,none,true)) (k:∀(b:Nat) (a:Act) (w:World),St N K W a w ((d, .pointer (some ⟨b,0,none⟩))::F) (.blk b T z::L)→wpList P ops Q rest a w):∀a w,St N K W a w F L→wpList P ops Q (o::rest) a w:=by
 simp only [Prod.mk.injEq] at e
 intro a w h
 exact wl_ex (x_alloc h hT e.1 e.2.1 e.2.2.2) (wanted_none e.2.2.1 _) fun a w ⟨b,h⟩=>k b a w h
theorem gsr {α:Type} [Enc α] {s:Ls α} (i:Nat) {gg:Bool} {cs' :List Value} {L2:List Asn} (hT:tyI P T=some (gg,1,by_,z)) (hi:L[i]? =some (.blk g E cs)) (hat:∀w,Sh K W w L→s.At w) (e:(o.op,o.dst,o.guard,ev F x,ev F y,setO cs q s.v,putO L i (.blk g E cs'))=(.store T x y,none,none,some (.pointer (some ⟨g,q,none⟩)),some s.v,some cs',some L2))
  (k:∀a w,St N K W a w F L2→wpList P ops Q rest a w):∀a w,St N K W a w F L→wpList P ops Q (o::rest) a w:=fun a w h=>gst i hT hi e (hat w h.sh).one k a w h
def forceL :List Value→Option (List Value)
 | []=>some []
 |v::r=>match forceL r with
  |some l=>some (v::l)
  |none=>none
theorem forceL_eq :∀ {l l' :List Value},forceL l=some l' →l=l'
 | [],_,h=>by cases h;rfl
 |v::r,_,h=>by
  unfold forceL at h
  split at h
  ·next l hl=>cases h;rw [forceL_eq hl]
  ·cases h
theorem gsw (i:Nat) {gg:Bool} {cs' :List Value} {L2:List Asn} (hT:tyI P T=some (gg,n,by_,z)) (hi:L[i]? =some (.blk g E cs)) (e:(o.op,o.dst,o.guard,ev F x,ev F y,Nat.beq vs.length n,Nat.ble (q+n) cs.length,forceL (splice cs q vs),putO L i (.blk g E cs'))=(.store T x y,none,none,some (.pointer (some ⟨g,q,none⟩)),some (.agg vs.toArray),true,true,some cs',some L2)) (h1:vs.all (·.oneCell')=true)
  (k:∀a w,St N K W a w F L2→wpList P ops Q rest a w):∀a w,St N K W a w F L→wpList P ops Q (o::rest) a w:=by
 simp only [Prod.mk.injEq] at e
 obtain ⟨e1,e2,e3,e4,e5,e6,e7,e8,e9⟩:=e
 intro a w h
 refine wl_ex (x_stb (vs:=vs) h hT e1 e2 e4 e5 hi (by simp [Value.cells]) (Nat.eq_of_beq_eq_true e6) h1 (Nat.le_of_ble_eq_true e7) (forceL_eq e8)) (wanted_none e3 _) fun a' w' h' => ?_
 rw [putO_eq e9] at h'
 exact k _ _ h'
theorem gbx (e:(o.op,o.dst,o.guard,ev F x,Nat.blt d N)=(.box T x,some d,none,some v,true)) (hv:v.cells=cs.toArray) (k:∀(b:Nat) (a:Act) (w:World),St N K W a w ((d, .pointer (some ⟨b,0,none⟩))::F) (.blk b T cs::L)→wpList P ops Q rest a w):∀a w,St N K W a w F L→wpList P ops Q (o::rest) a w:=by
 simp only [Prod.mk.injEq] at e
 intro a w h
 exact wl_ex (x_box h e.1 e.2.2.2.1 hv e.2.1 e.2.2.2.2) (wanted_none e.2.2.1 _) fun a w ⟨b,h⟩=>k b a w h
theorem gte {α:Type} [Enc α] [Flat α] {s:Ls α} {i j:Nat} {gg:Bool} {L2:List Asn} (r:Nat) (x' :α) (hT:tyI P T=some (gg,1,by_,z)) (hi:i<s.l.length) (e:(o.op,o.dst,o.guard,L[r]?,ev F x,ev F y,Enc.sz α,Nat.blt j sz,putO L r (.own E ⟨s.v,s.l.set i x'⟩))=(.store T x y,none,none,some (.own E s),some (.pointer (some (padr s.v sz i j))),some v,sz,true,some L2)) (h1:v.oneCell' =true)
  (k:∀a w,St N K W a w F L2→wpList P ops Q rest a w) (hx:∀q,q<sz→Enc.cell x' q=if q=j then v else Enc.cell (nth s.l i) q:=by intro q hq;rcases q with _|_|_|_|q<;>first|rfl|omega):∀a w,St N K W a w F L→wpList P ops Q (o::rest) a w:=by
 simp only [Prod.mk.injEq] at e
 obtain ⟨e1,e2,e3,e4,e5,e6,e7,e8,e9⟩:=e
 intro a w h
 refine wl_ex (x_ste h hT e1 e2 e5 e7 e4 hi (by simpa [Nat.blt_eq] using e8) e6 (cells_oneL h1) h1 hx (fun w h=>Flat.inner _ _) (fun b hb=>(Flat.on _ _ hb).elim)) (wanted_none e3 _) fun a' w' h' => ?_
 rw [putO_eq e9] at h'
 exact k _ _ h'
theorem gtr {α β:Type} [Enc α] [Flat α] [Enc β] {s:Ls α} {u:Ls β} {i j:Nat} {gg:Bool} {L2:List Asn} (r:Nat) (x' :α) (hT:tyI P T=some (gg,1,by_,z)) (hi:i<s.l.length) (hat:∀w,Sh K W w L→u.At w) (e:(o.op,o.dst,o.guard,L[r]?,ev F x,ev F y,Enc.sz α,Nat.blt j sz,putO L r (.own E ⟨s.v,s.l.set i x'⟩))=(.store T x y,none,none,some (.own E s),some (.pointer (some (padr s.v sz i j))),some u.v,sz,true,some L2))
  (k:∀a w,St N K W a w F L2→wpList P ops Q rest a w) (hx:∀q,q<sz→Enc.cell x' q=if q=j then u.v else Enc.cell (nth s.l i) q:=by intro q hq;rcases q with _|_|_|_|q<;>first|rfl|omega):∀a w,St N K W a w F L→wpList P ops Q (o::rest) a w:=fun a w h=>gte r x' hT hi e (hat w h.sh).one k hx a w h
theorem xCl {f:Nat} {fo:Operand} {xs:List Operand} {tys:Array TypeId} {us vs ws:List Value} {R:Value→World→Prop} (h:St N K W a w F L) (hb:bodyI P f=true) (e:(o.op,o.dst,Nat.blt d N,ev F fo,evs F xs)=(.call ⟨.value fo,xs.toArray,tys⟩,some d,true,some (.func (.func f) us.toArray ws.toArray),some vs)) (hc:Rets P f (us++vs++ws) w R):Ex P o a w (fun a' w' =>∃v,R v w' ∧Fr N a' ((d,v)::F)):=by
 simp only [Prod.mk.injEq] at e
 exact x_call h hb e.1 e.2.2.2.1 e.2.2.2.2 e.2.1 e.2.2.1 hc
theorem gP (hx:∀a w,St N K W a w F L→Ex P o a w (fun a' w' =>∃u,(u=v∧Sh0 w w' [])∧Fr N a' ((d,u)::F))) (hg:o.guard=none) (k:∀a w,St N K W a w ((d,v)::F) L→wpList P ops Q rest a w):∀a w,St N K W a w F L→wpList P ops Q (o::rest) a w:=
 fun _ w h=>wl_ex (hx _ w h) (wanted_none hg _) fun a w' ⟨u,⟨hu,hs⟩,hf⟩=>by subst hu;exact k a w' ⟨hf,h.sh.call0 hs⟩
def splO :List Asn→Nat→Option (List Asn×List Asn)
 |l,0=>some ([],l)
 | [],_+1=>none
 |A::r,n+1=>match splO r n with
  |some (p,q)=>some (A::p,q)
  |none=>none
theorem splO_eq :∀ {L:List Asn} {n:Nat} {Lp Lr:List Asn},splO L n=some (Lp,Lr)→L=Lp++Lr
 |l,0,_,_,h=>by unfold splO at h;cases h;rfl
 | [],_+1,_,_,h=>by cases h
 |A::r,n+1,_,_,h=>by
  unfold splO at h
  split at h
  ·next p q hp=>cases h;rw [splO_eq hp];rfl
  ·cases h
def appO :List Asn→List Asn→Option (List Asn)
 | [],M=>some M
 |A::r,M=>match appO r M with
  |some l=>some (A::l)
  |none=>none
theorem appO_eq :∀ {L M L' :List Asn},appO L M=some L' →L++M=L'
 | [],M,_,h=>by unfold appO at h;cases h;rfl
 |A::r,M,_,h=>by
  unfold appO at h
  split at h
  ·next l hl=>cases h;rw [List.cons_append,appO_eq hl]
  ·cases h
theorem pKl {Lp Lr:List Asn} (m:Nat) (h:St N K W a w F L) (eL:splO L m=some (Lp,Lr)):Sh (fun b=>∃A∈Lp,A.fp b) w w Lp:=by
 have:=h.sh
 rw [splO_eq eL] at this
 exact this.passL
theorem gM {Rr:World→Value→World→Prop} {Lp Lr:List Asn} (m:Nat) (eL:splO L m=some (Lp,Lr)) (hx:∀a w,St N K W a w F L→Ex P o a w (fun a' w' =>∃v,Rr w v w' ∧Fr N a' ((d,v)::F))) (hg:o.guard=none)
  (k:∀w v w',Rr w v w' →∃L' L2,Sh (fun b=>∃A∈Lp,A.fp b) w w' L' ∧RdIn L' Lp∧appO L' Lr=some L2∧∀a,St N K W a w' ((d,v)::F) L2→wpList P ops Q rest a w'):∀a w,St N K W a w F L→wpList P ops Q (o::rest) a w:=
 fun _ w h=>wl_ex (hx _ w h) (wanted_none hg _) fun a w' ⟨v,hr,hf⟩=>by
  obtain ⟨L',L2,hs,hi,e,k⟩:=k _ _ _ hr
  have h0:=h.sh
  rw [splO_eq eL] at h0
  have:=h0.backI hs
  rw [appO_eq e] at this
  exact k a ⟨hf,this⟩
theorem gBk {Lp Lr L' L2:List Asn} {w w' :World} {X:Act→Prop} {F:List (Nat×Value)} [hi:RdIn L' Lp] (hs:Sh (fun b=>∃A∈Lp,A.fp b) w w' L') (e:appO L' Lr=some L2) (k:∀a,St N K W a w' F L2→X a):∃L' L2,Sh (fun b=>∃A∈Lp,A.fp b) w w' L' ∧RdIn L' Lp∧appO L' Lr=some L2∧∀a,St N K W a w' F L2→X a:=⟨_,_,hs,hi,e,k⟩
theorem gC {Rr:World→Value→World→Prop} (hx:∀a w,St N K W a w F L→Ex P o a w (fun a' w' =>∃v,Rr w v w' ∧Fr N a' ((d,v)::F))) (hg:o.guard=none)
  (k:∀w v w',Rr w v w' →∃L' L2,Sh0 w w' L' ∧AllNo L' ∧appO L' L=some L2∧∀a,St N K W a w' ((d,v)::F) L2→wpList P ops Q rest a w'):∀a w,St N K W a w F L→wpList P ops Q (o::rest) a w:=
 fun _ w h=>wl_ex (hx _ w h) (wanted_none hg _) fun a w' ⟨v,hr,hf⟩=>by
  obtain ⟨L',L2,hs,hi,e,k⟩:=k _ _ _ hr
  have:=h.sh.callI hs
  rw [appO_eq e] at this
  exact k a ⟨hf,this⟩
theorem gWk {L' L2 M:List Asn} {w w' :World} {X:Act→Prop} {F:List (Nat×Value)} [hi:AllNo L'] (hs:Sh0 w w' L') (e:appO L' M=some L2) (k:∀a,St N K W a w' F L2→X a):∃L' L2,Sh0 w w' L' ∧AllNo L' ∧appO L' M=some L2∧∀a,St N K W a w' F L2→X a:=⟨_,_,hs,hi,e,k⟩
theorem gU {w:World} (k:∀a w,St N K W a w F L→R a w):∀a,St N K W a w F L→R a w:=fun a h=>k a w h
theorem qP {Z:Act→Prop} {f:Nat} {fo:Operand} {xs:List Operand} {tys:Array TypeId} {us vs ws:List Value} (hb:bodyI P f=true) (e:(o.op,o.guard,o.dst,Nat.blt d N,ev F fo,evs F xs)=(.call ⟨.value fo,xs.toArray,tys⟩,none,some d,true,some (.func (.func f) us.toArray ws.toArray),some vs)) (hc:∀w,Sh K W w L→Rets P f (us++vs++ws) w (fun v' w' =>v' =v∧Sh0 w w' []))
  (k:∀a,Fr N a ((d,v)::F)→wpQuiet P ops (fun w=>Sh K W w L) Z rest a):∀a,Fr N a F→wpQuiet P ops (fun w=>Sh K W w L) Z (o::rest) a:=by
 simp only [Prod.mk.injEq] at e
 exact fun a h=>wq_call h hb e.1 e.2.2.2.2.1 e.2.2.2.2.2 (wanted_none e.2.1 _) e.2.2.1 e.2.2.2.1 hc k
end
theorem aO {α:Type} [Enc α] {E:TypeId} {s:Ls α} (i:Nat) (hi:L[i]? =some (.own E s)):∀w,Sh K W w L→s.At w:=fun w h=>h.own i hi
theorem aA {α:Type} [Enc α] {s:Ls α} (i:Nat) (hi:L[i]? =some (.at_ s)):∀w,Sh K W w L→s.At w:=fun w h=>h.at i hi
theorem aD {α:Type} [Enc α] {E:TypeId} {s:Ls α} (i:Nat) (hi:L[i]? =some (.deep E s)):∀w,Sh K W w L→s.At w:=fun w h=>h.deep i hi
end
end Go.Proofs.YtmjkobhkkjgplaaGreatDoor
end
section
namespace Go.Proofs.YtmjkobhkkjgplaaGreatDoor
open Go.RowKit
set_option linter.unusedSimpArgs false
set_option linter.unusedVariables false
def slotsOf (o:Oper):List Nat:=o.op.operands.toList.filterMap fun x=>match x with
 | .tmp t=>some t
 |_=>none
theorem slotsOf_mem {o:Oper} {t:Nat} (h:Operand.tmp t∈o.op.operands):t∈slotsOf o:=List.mem_filterMap.2 ⟨.tmp t,by simpa using h,rfl⟩
def fill (a:Act):List (Nat×Value)→Act
 | []=>a
 |(t,v)::F=>(fill a F).put (some t) v
section
variable {P:Program} {N:Nat} {K:Nat→Prop} {W w:World} {a:Act} {F F' :List (Nat×Value)} {L:List Asn} {o:Oper} {l os:List Oper} {ops:Array Oper} {Q:Exit→Act→World→Prop}
theorem fill_size :∀F:List (Nat×Value),(fill a F).tmps.size=a.tmps.size
 | []=>rfl
 |(t,v)::F=>by simp [fill,Act.put,fill_size F]
theorem fill_defers :∀F:List (Nat×Value),(fill a F).defers=a.defers
 | []=>rfl
 |(t,v)::F=>by simp [fill,Act.put,fill_defers F]
theorem fill_at :∀ {F:List (Nat×Value)},(∀x∈F,x.1<a.tmps.size)→∀t v,lk F t=some v→(fill a F).tmps[t]? =some v
 | [],_,_,_,h=>by cases h
 |(u,x)::F,hF,t,v,h=>by
  rw [lk_cons] at h
  simp only [fill,Act.put,Array.getElem?_setIfInBounds]
  by_cases e:u=t
  ·subst e
   have:=hF _ List.mem_cons_self
   simp only [if_true] at h
   cases h
   simp [fill_size,this]
  ·rw [if_neg e] at h⊢
   exact fill_at (fun x hx=>hF x (List.mem_cons_of_mem _ hx)) t v h
theorem fill_ne :∀ {F:List (Nat×Value)} {t:Nat},lk F t=none→(fill a F).tmps[t]? =a.tmps[t]?
 | [],_,_=>rfl
 |(u,x)::F,t,h=>by
  rw [lk_cons] at h
  by_cases e:u=t
  ·simp [e] at h
  ·rw [if_neg e] at h
   simp only [fill,Act.put,Array.getElem?_setIfInBounds,if_neg e]
   exact fill_ne h
theorem fill_fr (hs:a.tmps.size=N) (hd:a.defers= []) (hF:∀x∈F,x.1<N):Fr N (fill a F) F:=⟨by rw [fill_size,hs],by rw [fill_defers,hd],fill_at (by rw [hs];exact hF)⟩
theorem fill_eval (hF:∀x∈F,x.1<a.tmps.size) (h:∀t∈slotsOf o,∀v,lk F t=some v→a.tmps[t]? =some v):∀x∈o.op.operands,(fill a F).eval x=a.eval x:=by
 intro x hx
 cases x with
 |tmp t=>
  simp only [Act.eval,Array.getD_eq_getD_getElem?]
  cases hl:lk F t with
  |none=>rw [fill_ne hl]
  |some v=>rw [fill_at hF t v hl,h t (slotsOf_mem hx) v hl]
 |const c=>rfl
 |global g=>rfl
 |func f=>rfl
def noSel (o:Oper):Bool:=match o.op with
 | .select _ _=>false
 |_=>true
theorem noSel_ne (h:noSel o=true):∀cs b,o.op≠ .select cs b:=by
 intro cs b e
 simp [noSel,e] at h
structure PhF (P:Program) (N:Nat) (K:Nat→Prop) (W:World) (L:List Asn) (F:List (Nat×Value)) (o:Oper) (d:Nat) (v:Value):Prop where
 dst:o.dst=some d
 lt:d<N
 at_:lk F d=some v
 run:∀(a:Act) (w:World),a.tmps.size=N→a.defers= []→(∀t∈slotsOf o,∀u,lk F t=some u→a.tmps[t]? =some u)→Sh K W w L→(execOp a.eval o).run P w= .ok (.value v) w
def ordB :List Oper→Bool
 | []=>true
 |o::r=>noSel o&&o.guard.isNone&&((o::r).all fun x=>match x.dst with
  |some d=>(slotsOf o).all fun t=> !Nat.beq d t
  |none=>true)&&(r.all fun x=>match x.dst,o.dst with
  |some d,some e=> !Nat.beq d e
  |_,_=>true)&&ordB r
theorem Runs.keep (r:Runs P ops N K W L os F [] F'):∀t,(∀o∈os,o.dst≠some t)→lk F' t=lk F t:=by
 generalize hr:([]:List Oper)=rest at r
 induction r with
 |nl=>intros;rfl
 |cn _ _ hd _ _ ih=>
  intro t ht
  rw [ih hr t fun o ho=>ht o (List.mem_cons_of_mem _ ho),lk_cons,if_neg fun e=>ht _ List.mem_cons_self (by rw [hd,e])]
 |sk _ hd _ _ ih=>
  intro t ht
  rw [ih hr t fun o ho=>ht o (List.mem_cons_of_mem _ ho),lk_cons,if_neg fun e=>ht _ List.mem_cons_self (by rw [hd,e])]
theorem Runs.fN {rest:List Oper} (r:Runs P ops N K W L os F rest F'):(∀x∈F,x.1<N)→∀x∈F',x.1<N:=by
 induction r with
 |nl=>exact id
 |cn _ _ _ hN _ ih=>exact fun h=>ih fun x hx=>(List.mem_cons.1 hx).elim (fun e=>by rw [e];simpa [Nat.blt_eq] using hN) (h x)
 |sk _ _ hN _ ih=>exact fun h=>ih fun x hx=>(List.mem_cons.1 hx).elim (fun e=>by rw [e];simpa [Nat.blt_eq] using hN) (h x)
theorem Runs.pf {a0:Act} (h0:a0.tmps.size=N) (h1:a0.defers= []) (r:Runs P ops N K W L os F [] F'):ordB os=true→(∀x∈F,x.1<N)→∀o∈os,∃d v,PhF P N K W L F' o d v:=by
 generalize hr:([]:List Oper)=rest at r
 induction r with
 |nl=>intro _ _ o ho;subst hr;cases ho
 |cn hrn hw hd hN k ih=>
  subst hr
  rename_i o l F F' d v
  intro hB hF x hx
  simp only [ordB,Bool.and_eq_true] at hB
  obtain ⟨⟨⟨⟨hs,hg⟩,hu⟩,hdd⟩,hB⟩:=hB
  have hN' :d<N:=by simpa [Nat.blt_eq] using hN
  have hF2:∀x∈(d,v)::F,x.1<N:=fun x hx=>(List.mem_cons.1 hx).elim (fun e=>by rw [e];exact hN') (hF x)
  rcases List.mem_cons.1 hx with rfl|hx
  ·have hno:∀t∈slotsOf x,∀y∈x::l,y.dst≠some t:=by
    intro t ht y hy e
    have:=List.all_eq_true.1 hu y hy
    rw [e] at this
    have:=List.all_eq_true.1 this t ht
    simp at this
   refine ⟨d,v,hd,hN', ?_,fun a w hsz hdf hsl hsh=> ?_⟩
   ·rw [k.keep d fun y hy e=> ?_,lk_cons,if_pos rfl]
    have:=List.all_eq_true.1 hdd y hy
    rw [e,hd] at this
    simp at this
   ·have hev:=fill_eval (a:=a) (F:=F) (o:=x) (by rw [hsz];exact hF) fun t ht u hu=>hsl t ht u (by
     rw [k.keep t fun y hy=>hno t ht y (List.mem_cons_of_mem _ hy),lk_cons,if_neg fun e=>hno t ht x List.mem_cons_self (by rw [hd,e])];exact hu)
    have:=hrn (fill a F) w ⟨fill_fr hsz hdf hF,hsh⟩
    rwa [execOp_congr x (noSel_ne hs) hev] at this
  ·exact ih rfl hB hF2 x hx
 |sk hw hd hN k ih=>
  intro hB hF x hx
  rename_i o l F F' d
  simp only [ordB,Bool.and_eq_true] at hB
  obtain ⟨⟨⟨⟨hs,hg⟩,hu⟩,hdd⟩,hB⟩:=hB
  have:=hw _ (fill_fr h0 h1 hF)
  rw [wanted_none (by simpa using hg)] at this
  cases this
theorem Ex.move {b:Act} {R:Act→World→Prop} (h:Ex P o b w R) (he:execOp b.eval o=execOp a.eval o):Ex P o a w (fun a' w' =>∃b',R b' w' ∧(∃v,b'.tmps=(b.put o.dst v).tmps∧a'.tmps=(a.put o.dst v).tmps)∧(b'.defers= []→a.defers= []→a'.defers= [])):=by
 intro next Q hn
 have h1:=h R (fun e _ w=>Q e a w) (fun _ _ h=>h)
 unfold Oper.wp at h1⊢
 rw [he] at h1
 generalize (execOp a.eval o).run P w=r at h1⊢
 have hdf:∀v,(a.put o.dst v).defers=a.defers:=fun v=>by cases o.dst<;>rfl
 cases r with
 |halt x w' =>cases x<;>exact h1
 |ok n w' =>
  cases n
  case value v=>exact hn _ _ ⟨_,h1,⟨v,rfl,rfl⟩,fun _ e=>by rw [hdf,e]⟩
  case skip=>exact hn _ _ ⟨_,h1,⟨undef,rfl,rfl⟩,fun _ e=>by rw [hdf,e]⟩
  case defer d=>exact hn _ _ ⟨_,h1,⟨undef,by cases o.dst<;>rfl,by cases o.dst<;>rfl⟩,fun e=>by cases ho:o.dst<;>simp [ho,Act.put] at e⟩
  case enter f args=>
   refine Calls.mono h1 fun e w'' he=> ?_
   cases e with
   |returned v=>exact hn _ _ ⟨_,he,⟨v,rfl,rfl⟩,fun _ e=>by rw [hdf,e]⟩
   |panicked c=>exact he
   |outgrown=>obtain ⟨_,w3,h3⟩:=he;exact ⟨_,w3,h3⟩
  case row r args=>exact Rows.mono h1 fun v w'' he=>hn _ _ ⟨_,he,⟨v,rfl,rfl⟩,fun _ e=>by rw [hdf,e]⟩
  all_goals exact h1
def pickO (l:List Oper):List Nat→Option (List Oper)
 | []=>some []
 |i::r=>match l[i]? with
  |some o=>match pickO l r with
   |some os=>some (o::os)
   |none=>none
  |none=>none
theorem pickO_mem :∀ {is:List Nat} {os:List Oper},pickO l is=some os→(∀o∈os,∃i∈is,l[i]? =some o)∧∀i∈is,∃o∈os,l[i]? =some o
 | [],os,h=>by cases h;exact ⟨fun o ho=>(by cases ho),fun o ho=>(by cases ho)⟩
 |i::r,os,h=>by
  unfold pickO at h
  split at h
  ·rename_i o ho
   split at h
   ·rename_i os' hos
    cases h
    obtain ⟨h1,h2⟩:=pickO_mem hos
    refine ⟨fun x hx=> ?_,fun j hj=> ?_⟩
    ·rcases List.mem_cons.1 hx with rfl|hx
     ·exact ⟨i,List.mem_cons_self,ho⟩
     ·obtain ⟨j,hj,e⟩:=h1 x hx
      exact ⟨j,List.mem_cons_of_mem _ hj,e⟩
    ·rcases List.mem_cons.1 hj with rfl|hj
     ·exact ⟨o,List.mem_cons_self,ho⟩
     ·obtain ⟨x,hx,e⟩:=h2 j hj
      exact ⟨x,List.mem_cons_of_mem _ hx,e⟩
   ·cases h
  ·cases h
def availB (l:List Oper) (ws done rem is:List Nat):Bool:=(List.range l.length).all fun i=>ws.any (Nat.beq i)||is.any (Nat.beq i)||(rem.any fun w=>ancB l i w)||done.any fun w=>ancB l w i
def operB (l:List Oper) (o:Oper):Bool:=(slotsOf o).all fun t=>(l.all fun x=>match x.dst with
  |some d=> !Nat.beq d t
  |none=>true)||o.after.any fun e=>Region.binds .any e&&match l[e.on]? with
 |some x=>(match x.dst with
  |some d=>Nat.beq d t
  |none=>false)
 |none=>false
def noneB (l:List Oper) (t:Nat):Prop:=∀o∈l,o.dst≠some t
def dstB :List Oper→Bool
 | []=>true
 |o::r=>(r.all fun x=>match x.dst,o.dst with
  |some d,some e=> !Nat.beq d e
  |_,_=>true)&&dstB r
theorem dstB_at :∀ {l:List Oper} {i j:Nat} {x y:Oper} {d:Nat},dstB l=true→l[i]? =some x→l[j]? =some y→x.dst=some d→y.dst=some d→i=j
 | [],i,_,_,_,_,_,h,_,_,_=>by simp at h
 |o::r,i,j,x,y,d,hB,hi,hj,hx,hy=>by
  simp only [dstB,Bool.and_eq_true] at hB
  match i,j with
  |0,0=>rfl
  |i+1,j+1=>
   rw [List.getElem?_cons_succ] at hi hj
   exact congrArg (· +1) (dstB_at hB.2 hi hj hx hy)
  |0,j+1=>
   simp only [List.getElem?_cons_zero,Option.some.injEq,List.getElem?_cons_succ] at hi hj
   subst hi
   have:=List.all_eq_true.1 hB.1 y (List.mem_of_getElem? hj)
   rw [hx,hy] at this
   simp at this
  |i+1,0=>
   simp only [List.getElem?_cons_zero,Option.some.injEq,List.getElem?_cons_succ] at hi hj
   subst hj
   have:=List.all_eq_true.1 hB.1 x (List.mem_of_getElem? hi)
   rw [hx,hy] at this
   simp at this
def chainB (l:List Oper):List Nat→Bool
 | []=>true
 |w::ws=>(ws.all fun x=>ancB l x w&& !Nat.beq x w)&&chainB l ws
def regB (l:List Oper) (ws:List Nat):Bool:=depsLt l 0&&dstB l&&(l.all fun o=>noSel o&&o.guard.isNone&&operB l o)&&chainB l ws
def agA (F F' :List (Nat×Value)) (os:List Oper):List (Option Value):=os.map fun o=>match o.dst with
 |some d=>(match lk F d with
  |some _=>lk F' d
  |none=>none)
 |none=>none
def agB (F:List (Nat×Value)) (os:List Oper):List (Option Value):=os.map fun o=>match o.dst with
 |some d=>(match lk F d with
  |some v=>some v
  |none=>none)
 |none=>none
theorem ag_at (h:agA F F' os=agB F os) (ho:o∈os) {d:Nat} {v:Value} (hd:o.dst=some d) (hv:lk F d=some v):lk F' d=some v:=by
 obtain ⟨i,hi⟩:=List.getElem?_of_mem ho
 have:=congrArg (fun l=>l[i]?) h
 simp only [agA,agB,List.getElem?_map,hi,Option.map_some,hd,hv] at this
 exact Option.some.inj this
def okF (o:Oper) (F F2:List (Nat×Value)):Prop:=match o.dst with
 |some d=>∃v,F2=(d,v)::F
 |none=>F2=F
def PhH (P:Program) (l:List Oper) (N:Nat) (K:Nat→Prop) (W:World) (Q:Exit→Act→World→Prop) (ws:List Nat) (done:List Nat):List Nat→List Asn→List (Nat×Value)→Prop
 | [],L,F=>∃is os F',pickO l is=some os∧(availB l ws done [] is&&ordB os&&is.all fun i=> !ws.any (Nat.beq i))=true∧Runs P l.toArray N K W L os F [] F' ∧agA F F' os=agB F os∧∀a w,St N K W a w F' L→Q .normal a w
 |i::rem,L,F=>∃is os F' o,pickO l is=some os∧(availB l ws done (i::rem) is&&ordB os&&is.all fun i=> !ws.any (Nat.beq i))=true∧Runs P l.toArray N K W L os F [] F' ∧agA F F' os=agB F os∧l[i]? =some o∧
  ∀a w,St N K W a w F' L→Ex P o a w (fun a' w' =>∃F2 L2,St N K W a' w' F2 L2∧okF o F' F2∧PhH P l N K W Q ws (i::done) rem L2 F2)
structure PhX (P:Program) (l:List Oper) (N:Nat) (K:Nat→Prop) (W:World) (Q:Exit→Act→World→Prop) (ws done rem:List Nat) (L:List Asn) (F:List (Nat×Value)):Prop where
 fN:∀x∈F,x.1<N
 pf:∀i o,l[i]? =some o→ws.any (Nat.beq i)=false→(rem.any fun w=>ancB l i w)=false→(done.any fun w=>ancB l w i)=false→∃d v,PhF P N K W L F o d v
 fin:rem= []→∀a w,St N K W a w F L→Q .normal a w
 nxt:∀i r,rem=i::r→∃o,l[i]? =some o∧∀a w,St N K W a w F L→Ex P o a w (fun a' w' =>∃F2 L2,St N K W a' w' F2 L2∧okF o F F2∧PhH P l N K W Q ws (i::done) r L2 F2)
structure PhJ (l:List Oper) (N:Nat) (K:Nat→Prop) (W:World) (done rem:List Nat) (L:List Asn) (F:List (Nat×Value)) (S:Nat→Bool) (a:Act) (w:World):Prop where
 dn:∀i∈done,S i=true
 rm:∀i∈rem,S i=false
 sz:a.tmps.size=N
 df:a.defers= []
 out:∀t v,noneB l t→lk F t=some v→a.tmps[t]? =some v
 ins:∀i o t,l[i]? =some o→o.dst=some t→S i=true→∃v,lk F t=some v∧a.tmps[t]? =some v
 sh:Sh K W w L
theorem PhH.enter {ws done rem:List Nat} {S:Nat→Bool} (hdB:dstB l=true) (h:PhH P l N K W Q ws done rem L F) (hF:∀x∈F,x.1<N) (j:PhJ l N K W done rem L F S a w):∃F',PhX P l N K W Q ws done rem L F' ∧PhJ l N K W done rem L F' S a w:=by
 have key:∀(is:List Nat) (os:List Oper) (F' :List (Nat×Value)),pickO l is=some os→(availB l ws done rem is&&ordB os&&is.all fun i=> !ws.any (Nat.beq i))=true→Runs P l.toArray N K W L os F [] F' →agA F F' os=agB F os→
   PhJ l N K W done rem L F' S a w∧∀i o,l[i]? =some o→ws.any (Nat.beq i)=false→(rem.any fun w=>ancB l i w)=false→(done.any fun w=>ancB l w i)=false→∃d v,PhF P N K W L F' o d v:=by
  intro is os F' hp hB hr ha
  simp only [Bool.and_eq_true] at hB
  obtain ⟨⟨hav,hor⟩,_⟩:=hB
  obtain ⟨hm1,hm2⟩:=pickO_mem hp
  refine ⟨⟨j.dn,j.rm,j.sz,j.df,fun t v ht hv=> ?_,fun i o t hi ho hS=> ?_,j.sh⟩,fun i o hi h1 h2 h3=> ?_⟩
  ·rw [hr.keep t fun o ho e=> ?_] at hv
   ·exact j.out t v ht hv
   ·obtain ⟨q,_,hq⟩:=hm1 o ho
    exact ht o (List.mem_of_getElem? hq) e
  ·obtain ⟨v,hv,hat⟩:=j.ins i o t hi ho hS
   refine ⟨v, ?_,hat⟩
   by_cases hos:o∈os
   ·exact ag_at ha hos ho hv
   ·rw [hr.keep t fun x hx e=> ?_]
    ·exact hv
    ·obtain ⟨q,_,hq⟩:=hm1 x hx
     have:=dstB_at hdB hi hq ho e
     subst this
     rw [hi] at hq
     cases hq
     exact hos hx
  ·have hlt:i<l.length:=(List.getElem?_eq_some_iff.1 hi).1
   have:=List.all_eq_true.1 hav i (List.mem_range.2 hlt)
   rw [h1,h2,h3,Bool.false_or,Bool.or_false,Bool.or_false] at this
   obtain ⟨z,hz,h4⟩:=List.any_eq_true.1 this
   cases Nat.eq_of_beq_eq_true h4
   obtain ⟨x,hx,hix⟩:=hm2 i hz
   rw [hi] at hix
   cases hix
   exact hr.pf j.sz j.df hor hF o hx
 cases rem with
 |nil=>
  obtain ⟨is,os,F',hp,hB,hr,ha,hQ⟩:=h
  obtain ⟨h1,h2⟩:=key is os F' hp hB hr ha
  exact ⟨F',⟨hr.fN hF,h2,fun _=>hQ,fun _ _ e=>(by cases e)⟩,h1⟩
 |cons i rem=>
  obtain ⟨is,os,F',o,hp,hB,hr,ha,ho,hx⟩:=h
  obtain ⟨h1,h2⟩:=key is os F' hp hB hr ha
  exact ⟨F',⟨hr.fN hF,h2,fun e=>(by cases e),fun _ _ e=>(by cases e;exact ⟨o,ho,hx⟩)⟩,h1⟩
theorem anc_ready {S:Nat→Bool} {i j:Nat} (hcl:ClosedB l S) (ho:l[i]? =some o) (hdep:∀e∈o.after,Region.binds .any e=true→S e.on=true) (h:ancB l i j=true):j=i∨S j=true:=by
 have hcl2:ClosedB l (upd S i):=by
  intro q oq hq hS e he hb
  by_cases e1:q=i
  ·subst e1
   rw [ho] at hq
   cases hq
   exact upd_true (hdep e he hb)
  ·rw [upd_ne (beq_no e1)] at hS
   exact upd_true (hcl q oq hq hS e he hb)
 have:=cA hcl2 i j h (upd_self S i)
 by_cases e:j=i
 ·exact .inl e
 ·rw [upd_ne (beq_no e)] at this
  exact .inr this
theorem rC {id:Nat} (ws:List Nat) (hm:P.follows .mixedOrders=true) (hB:regB l ws=true) (hF:(F.all fun x=>Nat.blt x.1 N)=true) (hx:PhH P l N K W Q ws [] ws L F):∀a w,St N K W a w F L→(Code.region id l.toArray true).wp P Q a w:=by
  intro a w h
  simp only [regB,Bool.and_eq_true] at hB
  obtain ⟨⟨⟨hdl,hdB⟩,hall⟩,hch⟩:=hB
  have hop:∀o∈l,noSel o=true∧o.guard=none∧operB l o=true:=by
    intro o ho
    have:=List.all_eq_true.1 hall o ho
    simp only [Bool.and_eq_true,Option.isNone_iff_eq_none] at this
    exact ⟨this.1.1,this.1.2,this.2⟩
  have hFN:∀x∈F,x.1<N:=fun x hx=>by simpa [Nat.blt_eq] using List.all_eq_true.1 hF x hx
  have hsl:∀ {done rem:List Nat} {L:List Asn} {F:List (Nat×Value)} {S:Nat→Bool} {a:Act} {w:World} {o:Oper},PhJ l N K W done rem L F S a w→o∈l→(∀e∈o.after,Region.binds .any e=true→S e.on=true)→∀t∈slotsOf o,∀v,lk F t=some v→a.tmps[t]? =some v:=by
    intro done rem L F S a w o j ho hdep t ht v hv
    have:=List.all_eq_true.1 (hop o ho).2.2 t ht
    rw [Bool.or_eq_true] at this
    rcases this with h1|h1
    · refine j.out t v (fun x hx e=> ?_) hv
      have:=List.all_eq_true.1 h1 x hx
      rw [e] at this
      simp at this
    · obtain ⟨k,hk,h2⟩:=Array.any_eq_true.1 h1
      simp only [Bool.and_eq_true] at h2
      obtain ⟨hb,h2⟩:=h2
      split at h2
      · rename_i x hx
        split at h2
        · rename_i d hd
          rw [Nat.eq_of_beq_eq_true h2] at hd
          obtain ⟨u,hu,hat⟩:=j.ins _ x t hx hd (hdep _ (Array.getElem_mem hk) hb)
          rw [hv] at hu
          cases hu
          exact hat
        · cases h2
      · cases h2
  refine x_any (fun S a w=>∃done rem L F,(∀i∈ws,i∈done∨i∈rem)∧(∀i,i∈done∨i∈rem→i∈ws)∧chainB l rem=true∧PhX P l N K W Q ws done rem L F∧PhJ l N K W done rem L F S a w) hm hdl ?_ ?_ ?_
  · obtain ⟨F',h1,h2⟩:=hx.enter (S:=fun _=>false) (a:=a) (w:=w.drew) hdB hFN ⟨fun i hi=>(by cases hi),fun _ _=>rfl,h.fr.size,h.fr.defers,fun t v _ hv=>h.fr.at_ t v hv,fun _ _ _ _ _ hS=>(by cases hS),h.sh.drew⟩
    exact ⟨[],ws,L,F',fun i hi=> .inr hi,fun i hi=>hi.elim (fun h=>by cases h) (fun h=>h),hch,h1,h2⟩
  · rintro S i o ho hSi hcl hdep a w ⟨done,rem,L,F,hw1,hw2,hchr,px,j⟩
    have hol:=List.mem_of_getElem? ho
    obtain ⟨hns,hg,_⟩:=hop o hol
    have hslo:=hsl j hol hdep
    by_cases hir:i∈rem
    ·
      cases rem with
      |nil=>cases hir
      |cons i0 r=>
        simp only [chainB,Bool.and_eq_true] at hchr
        have hi0:i=i0:=by
          rcases List.mem_cons.1 hir with e|hr
          · exact e
          · exfalso
            have:=List.all_eq_true.1 hchr.1 i hr
            simp only [Bool.and_eq_true,Bool.not_eq_true'] at this
            rcases anc_ready hcl ho hdep this.1 with e|e
            · rw [e] at this;simp at this
            · rw [j.rm i0 List.mem_cons_self] at e;cases e
        subst hi0
        obtain ⟨o',ho',hx⟩:=px.nxt i r rfl
        rw [ho] at ho'
        cases ho'
        have hF2:∀x∈F,x.1<a.tmps.size:=by rw [j.sz];exact px.fN
        have hev:=fill_eval (o:=o) hF2 hslo
        have hEx:=(hx (fill a F) w ⟨fill_fr j.sz j.df px.fN,j.sh⟩).move (execOp_congr o (noSel_ne hns) hev)
        unfold StepOK
        rw [if_pos (wanted_none hg _)]
        refine hEx _ _ fun a' w' ⟨b',⟨F2,L2,hst,hok,hph⟩,⟨v,hb,ha⟩,hdf⟩=> ?_
        have hsz' :a'.tmps.size=N:=by rw [ha];cases o.dst<;>simp [Act.put,j.sz]
        have hF2N:∀x∈F2,x.1<N:=by
          unfold okF at hok
          split at hok
          · rename_i d hd
            obtain ⟨v2,rfl⟩:=hok
            intro x hx
            rcases List.mem_cons.1 hx with rfl|hx
            · have h1:=hst.fr.at_ d v2 (by rw [lk_cons,if_pos rfl])
              obtain ⟨h2,_⟩:=Array.getElem?_eq_some_iff.1 h1
              rw [hst.fr.size] at h2
              exact h2
            · exact px.fN x hx
          · rw [hok];exact px.fN
        have hoth:∀t,o.dst≠some t→lk F2 t=lk F t∧a'.tmps[t]? =a.tmps[t]? :=by
          intro t ht
          refine ⟨?_, ?_⟩
          · unfold okF at hok
            split at hok
            · rename_i d hd
              obtain ⟨v2,rfl⟩:=hok
              rw [lk_cons,if_neg fun e=>ht (by rw [hd,e])]
            · rw [hok]
          · rw [ha]
            cases hd:o.dst with
            |none=>rfl
            |some d=>
              simp only [Act.put,Array.getElem?_setIfInBounds]
              rw [if_neg fun e=>ht (by rw [hd,e])]
        have hJ:PhJ l N K W (i::done) r L2 F2 (upd S i) a' w' :=by
          refine ⟨fun q hq=> ?_,fun q hq=> ?_,hsz',hdf hst.fr.defers j.df,fun t u ht hu=> ?_,fun q x t hq hxd hS=> ?_,hst.sh⟩
          · rcases List.mem_cons.1 hq with rfl|hq
            · exact upd_self _ _
            · exact upd_true (j.dn q hq)
          · have h1:=List.all_eq_true.1 hchr.1 q hq
            simp only [Bool.and_eq_true,Bool.not_eq_true'] at h1
            rw [upd_ne h1.2]
            exact j.rm q (List.mem_cons_of_mem _ hq)
          · obtain ⟨h1,h2⟩:=hoth t (ht o hol)
            rw [h2]
            rw [h1] at hu
            exact j.out t u ht hu
          · by_cases e:q=i
            · subst e
              rw [ho] at hq
              cases hq
              unfold okF at hok
              rw [hxd] at hok
              obtain ⟨v2,rfl⟩:=hok
              have h1:=hst.fr.at_ t v2 (by rw [lk_cons,if_pos rfl])
              refine ⟨v2,by rw [lk_cons,if_pos rfl], ?_⟩
              have hlt:t<N:=hF2N _ List.mem_cons_self
              rw [hb,hxd] at h1
              rw [ha,hxd]
              simp only [Act.put,Array.getElem?_setIfInBounds,if_true,fill_size,j.sz,hlt] at h1⊢
              exact h1
            · rw [upd_ne (beq_no e)] at hS
              have hne:o.dst≠some t:=fun h2=>e (dstB_at hdB hq ho hxd h2)
              obtain ⟨h1,h2⟩:=hoth t hne
              rw [h1,h2]
              exact j.ins q x t hq hxd hS
        obtain ⟨F3,h1,h2⟩:=hph.enter hdB hF2N hJ
        refine ⟨i::done,r,L2,F3,fun q hq=> ?_,fun q hq=> ?_,hchr.2,h1,h2⟩
        · rcases hw1 q hq with h3|h3
          · exact .inl (List.mem_cons_of_mem _ h3)
          · rcases List.mem_cons.1 h3 with rfl|h3
            · exact .inl List.mem_cons_self
            · exact .inr h3
        · rcases hq with hq|hq
          · rcases List.mem_cons.1 hq with rfl|hq
            · exact hw2 _ (.inr List.mem_cons_self)
            · exact hw2 _ (.inl hq)
          · exact hw2 _ (.inr (List.mem_cons_of_mem _ hq))
    ·
      have hiw:ws.any (Nat.beq i)=false:=by
        cases hb:ws.any (Nat.beq i) with
        |false=>rfl
        |true=>
          obtain ⟨z,hz,h3⟩:=List.any_eq_true.1 hb
          cases Nat.eq_of_beq_eq_true h3
          rcases hw1 i hz with h4|h4
          · rw [j.dn i h4] at hSi;cases hSi
          · exact absurd h4 hir
      have h2:(rem.any fun w=>ancB l i w)=false:=by
        cases hb:rem.any fun w=>ancB l i w with
        |false=>rfl
        |true=>
          obtain ⟨z,hz,h3⟩:=List.any_eq_true.1 hb
          rcases anc_ready hcl ho hdep h3 with e|e
          · rw [e] at hz;exact absurd hz hir
          · rw [j.rm z hz] at e;cases e
      have h3:(done.any fun w=>ancB l w i)=false:=by
        cases hb:done.any fun w=>ancB l w i with
        |false=>rfl
        |true=>
          obtain ⟨z,hz,h3⟩:=List.any_eq_true.1 hb
          rw [cA hcl z i h3 (j.dn z hz)] at hSi
          cases hSi
      obtain ⟨d,v,pf⟩:=px.pf i o ho hiw h2 h3
      unfold StepOK
      rw [if_pos (wanted_none hg _)]
      unfold Oper.wp
      rw [pf.run a w j.sz j.df hslo j.sh]
      show∃done rem L F,_
      refine ⟨done,rem,L,F,hw1,hw2,hchr,px,fun q hq=>upd_true (j.dn q hq),fun q hq=> ?_, ?_, ?_,fun t u ht hu=> ?_,fun q x t hq hxd hS=> ?_,j.sh⟩
      · rw [upd_ne (beq_no fun e=>hir (by rw [←e];exact hq))]
        exact j.rm q hq
      · rw [pf.dst];simp [Act.put,j.sz]
      · rw [pf.dst];exact j.df
      · have hne:d≠t:=fun e=>ht o hol (by rw [pf.dst,e])
        rw [pf.dst]
        simp only [Act.put,Array.getElem?_setIfInBounds,if_neg hne]
        exact j.out t u ht hu
      · by_cases e:q=i
        · subst e
          rw [ho] at hq
          cases hq
          rw [pf.dst] at hxd
          cases hxd
          refine ⟨v,pf.at_, ?_⟩
          rw [pf.dst]
          simp [Act.put,Array.getElem?_setIfInBounds,j.sz,pf.lt]
        · rw [upd_ne (beq_no e)] at hS
          obtain ⟨u,hu,hat⟩:=j.ins q x t hq hxd hS
          refine ⟨u,hu, ?_⟩
          have hne:d≠t:=fun e2=>e (dstB_at hdB hq ho hxd (by rw [pf.dst,e2]))
          rw [pf.dst]
          simp only [Act.put,Array.getElem?_setIfInBounds,if_neg hne]
          exact hat
  · rintro S hall a w ⟨done,rem,L,F,hw1,hw2,hchr,px,j⟩
    have hrem:rem= []:=by
      cases rem with
      |nil=>rfl
      |cons i r=>
        obtain ⟨o,ho,_⟩:=px.nxt i r rfl
        have:=hall i (List.getElem?_eq_some_iff.1 ho).1
        rw [j.rm i List.mem_cons_self] at this
        cases this
    refine px.fin hrem a w ⟨⟨j.sz,j.df,fun t v hv=> ?_⟩,j.sh⟩
    by_cases hn:noneB l t
    · exact j.out t v hn hv
    · have:∃o,o∈l∧o.dst=some t:=by
        apply Classical.byContradiction
        intro h1
        exact hn fun o ho e=>h1 ⟨o,ho,e⟩
      obtain ⟨o,ho,hd⟩:=this
      obtain ⟨i,hi⟩:=List.getElem?_of_mem ho
      obtain ⟨u,hu,hat⟩:=j.ins i o t hi hd (hall i (List.getElem?_eq_some_iff.1 hi).1)
      rw [hv] at hu
      cases hu
      exact hat
section
variable {ws done rem is:List Nat} {i d:Nat} {v:Value} {F2:List (Nat×Value)} {L2:List Asn} {Φ:List Asn→List (Nat×Value)→Prop}
theorem pE (is:List Nat) (e:pickO l is=some os) (hB:(availB l ws done [] is&&ordB os&&is.all fun i=> !ws.any (Nat.beq i))=true) (r:Runs P l.toArray N K W L os F [] F') (ha:agA F F' os=agB F os) (k:∀a w,St N K W a w F' L→Q .normal a w):PhH P l N K W Q ws done [] L F:=⟨is,os,F',e,hB,r,ha,k⟩
theorem pR (is:List Nat) (e:(pickO l is,l[i]?)=(some os,some o)) (hB:(availB l ws done (i::rem) is&&ordB os&&is.all fun i=> !ws.any (Nat.beq i))=true) (r:Runs P l.toArray N K W L os F [] F') (ha:agA F F' os=agB F os)
  (k:∀a w,St N K W a w F' L→Ex P o a w (fun a' w' =>∃F2 L2,St N K W a' w' F2 L2∧okF o F' F2∧PhH P l N K W Q ws (i::done) rem L2 F2)):PhH P l N K W Q ws done (i::rem) L F:=by
 simp only [Prod.mk.injEq] at e
 exact ⟨is,os,F',o,e.1,hB,r,ha,e.2,k⟩
theorem okF_some (hd:o.dst=some d):okF o F ((d,v)::F):=by unfold okF;rw [hd];exact ⟨v,rfl⟩
theorem pS (hx:∀a w,St N K W a w F L→Ex P o a w (fun a' w' =>St N K W a' w' F L2)) (hd:o.dst=none) (k:Φ L2 F):∀a w,St N K W a w F L→Ex P o a w (fun a' w' =>∃F2 L2,St N K W a' w' F2 L2∧okF o F F2∧Φ L2 F2):=
 fun a w h=>(hx a w h).mono fun a' w' h' =>⟨F,L2,h',by unfold okF;rw [hd],k⟩
theorem pX {α:Type} {v:α→Value} {L2:α→List Asn} (hx:∀a w,St N K W a w F L→Ex P o a w (fun a' w' =>∃b:α,St N K W a' w' ((d,v b)::F) (L2 b))) (hd:o.dst=some d) (k:∀b,Φ (L2 b) ((d,v b)::F)):∀a w,St N K W a w F L→Ex P o a w (fun a' w' =>∃F2 L2,St N K W a' w' F2 L2∧okF o F F2∧Φ L2 F2):=
 fun a w h=>(hx a w h).mono fun a' w' ⟨b,h'⟩=>⟨_,L2 b,h',okF_some hd,k b⟩
theorem pC {Rr:World→Value→World→Prop} (hx:∀a w,St N K W a w F L→Ex P o a w (fun a' w' =>∃v,Rr w v w' ∧Fr N a' ((d,v)::F))) (hd:o.dst=some d)
  (k:∀w v w',Rr w v w' →∃L' L2,Sh0 w w' L' ∧AllNo L' ∧appO L' L=some L2∧Φ L2 ((d,v)::F)):∀a w,St N K W a w F L→Ex P o a w (fun a' w' =>∃F2 L2,St N K W a' w' F2 L2∧okF o F F2∧Φ L2 F2):=
 fun a w h=>(hx a w h).mono fun a' w' ⟨v,hr,hf⟩=>by
  obtain ⟨L',L2,hs,hi,e,k⟩:=k _ _ _ hr
  have:=h.sh.callI hs
  rw [appO_eq e] at this
  exact ⟨_,L2,⟨hf,this⟩,okF_some hd,k⟩
theorem pWk {L' L2 M:List Asn} {w w' :World} {X:List Asn→Prop} [hi:AllNo L'] (hs:Sh0 w w' L') (e:appO L' M=some L2) (k:X L2):∃L' L2,Sh0 w w' L' ∧AllNo L' ∧appO L' M=some L2∧X L2:=⟨_,_,hs,hi,e,k⟩
theorem pO (is:List Nat) (e:selB L is=some L2) (k:∀a w,St N K W a w F L2→Ex P o a w (fun a' w' =>∃F2 L2,St N K W a' w' F2 L2∧okF o F F2∧Φ L2 F2)):∀a w,St N K W a w F L→Ex P o a w (fun a' w' =>∃F2 L2,St N K W a' w' F2 L2∧okF o F F2∧Φ L2 F2):=fun a w h=>k a w (h.sel is e)
end
end
end Go.Proofs.YtmjkobhkkjgplaaGreatDoor
end
namespace Go.Proofs.YtmjkobhkkjgplaaGreatDoor
open Go.RowKit
set_option linter.unusedSimpArgs false
set_option linter.unusedVariables false
theorem ti_3 :tyI Tryz.prog 3=some (false,1,8, [.int .i64 0]):=by kernel_rfl
theorem ti_4 :tyI Tryz.prog 4=some (false,1,1, [.bool false]):=by kernel_rfl
theorem ti_5 :tyI Tryz.prog 5=some (false,1,1, [.int .u8 0]):=by kernel_rfl
theorem ti_22 :tyI Tryz.prog 22=some (false,1,24, [.slice none 0 0]):=by kernel_rfl
theorem sl_22 :slI Tryz.prog 22=some 33:=by kernel_rfl
theorem ti_23 :tyI Tryz.prog 23=some (false,1,24, [.slice none 0 0]):=by kernel_rfl
theorem sl_23 :slI Tryz.prog 23=some 3:=by kernel_rfl
theorem ti_25 :tyI Tryz.prog 25=some (true,4,64, [.slice none 0 0, .slice none 0 0, .int .i64 0, .int .i64 0]):=by kernel_rfl
theorem fl_25_0 :flI Tryz.prog 25 0=some 0:=by kernel_rfl
theorem fl_25_1 :flI Tryz.prog 25 1=some 1:=by kernel_rfl
theorem fl_25_2 :flI Tryz.prog 25 2=some 2:=by kernel_rfl
theorem fl_25_3 :flI Tryz.prog 25 3=some 3:=by kernel_rfl
theorem ti_26 :tyI Tryz.prog 26=some (false,1,8, [.int .i64 0]):=by kernel_rfl
theorem ti_28 :tyI Tryz.prog 28=some (true,3,24, [.int .i64 0, .int .i64 0, .int .i64 0]):=by kernel_rfl
theorem fl_28_0 :flI Tryz.prog 28 0=some 0:=by kernel_rfl
theorem ti_32 :tyI Tryz.prog 32=some (true,4,32, [.int .i64 0, .int .i64 0, .int .i64 0, .int .i64 0]):=by kernel_rfl
theorem fl_32_0 :flI Tryz.prog 32 0=some 0:=by kernel_rfl
theorem fl_32_1 :flI Tryz.prog 32 1=some 1:=by kernel_rfl
theorem fl_32_2 :flI Tryz.prog 32 2=some 2:=by kernel_rfl
theorem fl_32_3 :flI Tryz.prog 32 3=some 3:=by kernel_rfl
theorem ti_33 :tyI Tryz.prog 33=some (false,1,24, [.slice none 0 0]):=by kernel_rfl
theorem sl_33 :slI Tryz.prog 33=some 32:=by kernel_rfl
theorem ti_35 :tyI Tryz.prog 35=some (false,1,24, [.slice none 0 0]):=by kernel_rfl
theorem sl_35 :slI Tryz.prog 35=some 39:=by kernel_rfl
theorem ti_39 :tyI Tryz.prog 39=some (true,3,56, [.int .i64 0, .slice none 0 0, .slice none 0 0]):=by kernel_rfl
theorem fl_39_0 :flI Tryz.prog 39 0=some 0:=by kernel_rfl
theorem fl_39_1 :flI Tryz.prog 39 1=some 1:=by kernel_rfl
theorem fl_39_2 :flI Tryz.prog 39 2=some 2:=by kernel_rfl
theorem ti_49 :tyI Tryz.prog 49=some (false,1,24, [.slice none 0 0]):=by kernel_rfl
theorem sl_49 :slI Tryz.prog 49=some 103:=by kernel_rfl
theorem ti_50 :tyI Tryz.prog 50=some (false,1,24, [.slice none 0 0]):=by kernel_rfl
theorem sl_50 :slI Tryz.prog 50=some 23:=by kernel_rfl
theorem fl_52_0 :flI Tryz.prog 52 0=some 0:=by kernel_rfl
theorem fl_52_1 :flI Tryz.prog 52 1=some 1:=by kernel_rfl
theorem fl_52_2 :flI Tryz.prog 52 2=some 2:=by kernel_rfl
theorem fl_52_3 :flI Tryz.prog 52 3=some 3:=by kernel_rfl
theorem fl_52_4 :flI Tryz.prog 52 4=some 4:=by kernel_rfl
theorem fl_52_5 :flI Tryz.prog 52 5=some 5:=by kernel_rfl
theorem ti_85 :tyI Tryz.prog 85=some (false,1,8, [.pointer none]):=by kernel_rfl
theorem ti_103 :tyI Tryz.prog 103=some (false,1,8, [.pointer none]):=by kernel_rfl
theorem ti_109 :tyI Tryz.prog 109=some (false,1,24, [.slice none 0 0]):=by kernel_rfl
theorem sl_109 :slI Tryz.prog 109=some 119:=by kernel_rfl
theorem fl_111_0 :flI Tryz.prog 111 0=some 0:=by kernel_rfl
theorem fl_111_1 :flI Tryz.prog 111 1=some 4:=by kernel_rfl
theorem fl_111_2 :flI Tryz.prog 111 2=some 5:=by kernel_rfl
theorem fl_111_3 :flI Tryz.prog 111 3=some 6:=by kernel_rfl
theorem fl_111_4 :flI Tryz.prog 111 4=some 7:=by kernel_rfl
theorem fl_111_5 :flI Tryz.prog 111 5=some 8:=by kernel_rfl
theorem fl_111_6 :flI Tryz.prog 111 6=some 9:=by kernel_rfl
theorem ti_117 :tyI Tryz.prog 117=some (false,1,24, [.slice none 0 0]):=by kernel_rfl
theorem sl_117 :slI Tryz.prog 117=some 167:=by kernel_rfl
theorem ti_119 :tyI Tryz.prog 119=some (true,3,56, [.int .i64 0, .slice none 0 0, .slice none 0 0]):=by kernel_rfl
theorem fl_119_0 :flI Tryz.prog 119 0=some 0:=by kernel_rfl
theorem fl_119_1 :flI Tryz.prog 119 1=some 1:=by kernel_rfl
theorem fl_119_2 :flI Tryz.prog 119 2=some 2:=by kernel_rfl
theorem ti_123 :tyI Tryz.prog 123=some (false,1,8, [.pointer none]):=by kernel_rfl
theorem ti_125 :tyI Tryz.prog 125=some (false,1,8, [.pointer none]):=by kernel_rfl
theorem ti_148 :tyI Tryz.prog 148=some (false,1,8, [.pointer none]):=by kernel_rfl
theorem ti_151 :tyI Tryz.prog 151=some (false,1,24, [.slice none 0 0]):=by kernel_rfl
theorem sl_151 :slI Tryz.prog 151=some 85:=by kernel_rfl
theorem ti_153 :tyI Tryz.prog 153=some (true,2,48, [.slice none 0 0, .slice none 0 0]):=by kernel_rfl
theorem fl_153_0 :flI Tryz.prog 153 0=some 0:=by kernel_rfl
theorem fl_153_1 :flI Tryz.prog 153 1=some 1:=by kernel_rfl
theorem fl_159_0 :flI Tryz.prog 159 0=some 0:=by kernel_rfl
theorem ti_167 :tyI Tryz.prog 167=some (true,3,24, [.bool false, .int .i64 0, .int .i64 0]):=by kernel_rfl
theorem fl_167_0 :flI Tryz.prog 167 0=some 0:=by kernel_rfl
theorem fl_167_1 :flI Tryz.prog 167 1=some 1:=by kernel_rfl
theorem fl_167_2 :flI Tryz.prog 167 2=some 2:=by kernel_rfl
theorem ti_171 :tyI Tryz.prog 171=some (false,1,24, [.slice none 0 0]):=by kernel_rfl
theorem sl_171 :slI Tryz.prog 171=some 189:=by kernel_rfl
theorem ti_173 :tyI Tryz.prog 173=some (true,5,80, [.nilIface, .pointer none, .slice none 0 0, .slice none 0 0, .bool false]):=by kernel_rfl
theorem fl_173_0 :flI Tryz.prog 173 0=some 0:=by kernel_rfl
theorem fl_173_1 :flI Tryz.prog 173 1=some 1:=by kernel_rfl
theorem fl_173_2 :flI Tryz.prog 173 2=some 2:=by kernel_rfl
theorem fl_173_3 :flI Tryz.prog 173 3=some 3:=by kernel_rfl
theorem fl_173_4 :flI Tryz.prog 173 4=some 4:=by kernel_rfl
theorem sl_175 :slI Tryz.prog 175=some 179:=by kernel_rfl
theorem ti_179 :tyI Tryz.prog 179=some (true,2,16, [.int .i64 0, .int .i64 0]):=by kernel_rfl
theorem fl_179_0 :flI Tryz.prog 179 0=some 0:=by kernel_rfl
theorem fl_179_1 :flI Tryz.prog 179 1=some 1:=by kernel_rfl
theorem fl_182_0 :flI Tryz.prog 182 0=some 0:=by kernel_rfl
theorem fl_182_1 :flI Tryz.prog 182 1=some 1:=by kernel_rfl
theorem ti_183 :tyI Tryz.prog 183=some (false,1,24, [.slice none 0 0]):=by kernel_rfl
theorem sl_183 :slI Tryz.prog 183=some 267:=by kernel_rfl
theorem fl_185_0 :flI Tryz.prog 185 0=some 0:=by kernel_rfl
theorem fl_185_1 :flI Tryz.prog 185 1=some 1:=by kernel_rfl
theorem ti_189 :tyI Tryz.prog 189=some (true,2,32, [.int .i64 0, .slice none 0 0]):=by kernel_rfl
theorem fl_189_0 :flI Tryz.prog 189 0=some 0:=by kernel_rfl
theorem fl_189_1 :flI Tryz.prog 189 1=some 1:=by kernel_rfl
theorem ti_204 :tyI Tryz.prog 204=some (false,1,24, [.slice none 0 0]):=by kernel_rfl
theorem sl_204 :slI Tryz.prog 204=some 5:=by kernel_rfl
theorem ti_247 :tyI Tryz.prog 247=some (true,65,65, [.int .u8 0, .int .u8 0, .int .u8 0, .int .u8 0, .int .u8 0, .int .u8 0, .int .u8 0, .int .u8 0, .int .u8 0, .int .u8 0, .int .u8 0, .int .u8 0, .int .u8 0, .int .u8 0, .int .u8 0, .int .u8 0, .int .u8 0, .int .u8 0, .int .u8 0, .int .u8 0, .int .u8 0, .int .u8 0, .int .u8 0, .int .u8 0, .int .u8 0, .int .u8 0, .int .u8 0, .int .u8 0, .int .u8 0, .int .u8 0, .int .u8 0, .int .u8 0, .int .u8 0, .int .u8 0, .int .u8 0, .int .u8 0, .int .u8 0, .int .u8 0, .int .u8 0, .int .u8 0, .int .u8 0, .int .u8 0, .int .u8 0, .int .u8 0, .int .u8 0, .int .u8 0, .int .u8 0, .int .u8 0, .int .u8 0, .int .u8 0, .int .u8 0, .int .u8 0, .int .u8 0, .int .u8 0, .int .u8 0, .int .u8 0, .int .u8 0, .int .u8 0, .int .u8 0, .int .u8 0, .int .u8 0, .int .u8 0, .int .u8 0, .int .u8 0, .int .u8 0]):=by kernel_rfl
theorem ti_266 :tyI Tryz.prog 266=some (true,3,24, [.bool false, .int .i64 0, .int .i64 0]):=by kernel_rfl
theorem fl_266_0 :flI Tryz.prog 266 0=some 0:=by kernel_rfl
theorem fl_266_1 :flI Tryz.prog 266 1=some 1:=by kernel_rfl
theorem fl_266_2 :flI Tryz.prog 266 2=some 2:=by kernel_rfl
theorem ti_267 :tyI Tryz.prog 267=some (false,1,24, [.slice none 0 0]):=by kernel_rfl
theorem sl_267 :slI Tryz.prog 267=some 266:=by kernel_rfl
theorem bd_23 :bodyI Tryz.prog 23=true:=by kernel_rfl
theorem bd_24 :bodyI Tryz.prog 24=true:=by kernel_rfl
theorem bd_25 :bodyI Tryz.prog 25=true:=by kernel_rfl
theorem bd_26 :bodyI Tryz.prog 26=true:=by kernel_rfl
theorem bd_27 :bodyI Tryz.prog 27=true:=by kernel_rfl
theorem bd_28 :bodyI Tryz.prog 28=true:=by kernel_rfl
theorem bd_43 :bodyI Tryz.prog 43=true:=by kernel_rfl
theorem bd_44 :bodyI Tryz.prog 44=true:=by kernel_rfl
theorem bd_54 :bodyI Tryz.prog 54=true:=by kernel_rfl
theorem bd_55 :bodyI Tryz.prog 55=true:=by kernel_rfl
theorem bd_61 :bodyI Tryz.prog 61=true:=by kernel_rfl
theorem bd_62 :bodyI Tryz.prog 62=true:=by kernel_rfl
theorem bd_63 :bodyI Tryz.prog 63=true:=by kernel_rfl
theorem bd_67 :bodyI Tryz.prog 67=true:=by kernel_rfl
theorem bd_68 :bodyI Tryz.prog 68=true:=by kernel_rfl
theorem bd_69 :bodyI Tryz.prog 69=true:=by kernel_rfl
theorem bd_70 :bodyI Tryz.prog 70=true:=by kernel_rfl
theorem bd_71 :bodyI Tryz.prog 71=true:=by kernel_rfl
theorem bd_72 :bodyI Tryz.prog 72=true:=by kernel_rfl
theorem bd_73 :bodyI Tryz.prog 73=true:=by kernel_rfl
theorem bd_74 :bodyI Tryz.prog 74=true:=by kernel_rfl
theorem bd_81 :bodyI Tryz.prog 81=true:=by kernel_rfl
theorem bd_82 :bodyI Tryz.prog 82=true:=by kernel_rfl
theorem bd_95 :bodyI Tryz.prog 95=true:=by kernel_rfl
theorem bd_98 :bodyI Tryz.prog 98=true:=by kernel_rfl
theorem bd_100 :bodyI Tryz.prog 100=true:=by kernel_rfl
theorem bd_101 :bodyI Tryz.prog 101=true:=by kernel_rfl
theorem bd_102 :bodyI Tryz.prog 102=true:=by kernel_rfl
theorem bd_103 :bodyI Tryz.prog 103=true:=by kernel_rfl
theorem bd_104 :bodyI Tryz.prog 104=true:=by kernel_rfl
theorem bd_105 :bodyI Tryz.prog 105=true:=by kernel_rfl
theorem bd_106 :bodyI Tryz.prog 106=true:=by kernel_rfl
theorem bd_107 :bodyI Tryz.prog 107=true:=by kernel_rfl
theorem bd_108 :bodyI Tryz.prog 108=true:=by kernel_rfl
theorem bd_109 :bodyI Tryz.prog 109=true:=by kernel_rfl
theorem bd_110 :bodyI Tryz.prog 110=true:=by kernel_rfl
theorem bd_111 :bodyI Tryz.prog 111=true:=by kernel_rfl
theorem bd_112 :bodyI Tryz.prog 112=true:=by kernel_rfl
theorem bd_113 :bodyI Tryz.prog 113=true:=by kernel_rfl
theorem bd_114 :bodyI Tryz.prog 114=true:=by kernel_rfl
theorem bd_115 :bodyI Tryz.prog 115=true:=by kernel_rfl
theorem bd_116 :bodyI Tryz.prog 116=true:=by kernel_rfl
theorem bd_118 :bodyI Tryz.prog 118=true:=by kernel_rfl
theorem bd_120 :bodyI Tryz.prog 120=true:=by kernel_rfl
theorem bd_121 :bodyI Tryz.prog 121=true:=by kernel_rfl
theorem bd_122 :bodyI Tryz.prog 122=true:=by kernel_rfl
theorem bd_123 :bodyI Tryz.prog 123=true:=by kernel_rfl
theorem bd_124 :bodyI Tryz.prog 124=true:=by kernel_rfl
theorem bd_128 :bodyI Tryz.prog 128=true:=by kernel_rfl
theorem bd_129 :bodyI Tryz.prog 129=true:=by kernel_rfl
theorem bd_140 :bodyI Tryz.prog 140=true:=by kernel_rfl
theorem bd_141 :bodyI Tryz.prog 141=true:=by kernel_rfl
theorem bd_142 :bodyI Tryz.prog 142=true:=by kernel_rfl
theorem bd_143 :bodyI Tryz.prog 143=true:=by kernel_rfl
theorem bd_145 :bodyI Tryz.prog 145=true:=by kernel_rfl
theorem bd_146 :bodyI Tryz.prog 146=true:=by kernel_rfl
theorem bd_147 :bodyI Tryz.prog 147=true:=by kernel_rfl
theorem bd_153 :bodyI Tryz.prog 153=true:=by kernel_rfl
theorem bd_154 :bodyI Tryz.prog 154=true:=by kernel_rfl
theorem bd_163 :bodyI Tryz.prog 163=true:=by kernel_rfl
theorem bd_165 :bodyI Tryz.prog 165=true:=by kernel_rfl
theorem bd_167 :bodyI Tryz.prog 167=true:=by kernel_rfl
theorem bd_174 :bodyI Tryz.prog 174=true:=by kernel_rfl
theorem bd_178 :bodyI Tryz.prog 178=true:=by kernel_rfl
theorem bd_197 :bodyI Tryz.prog 197=true:=by kernel_rfl
theorem bd_200 :bodyI Tryz.prog 200=true:=by kernel_rfl
theorem bd_204 :bodyI Tryz.prog 204=true:=by kernel_rfl
theorem bd_205 :bodyI Tryz.prog 205=true:=by kernel_rfl
theorem bd_206 :bodyI Tryz.prog 206=true:=by kernel_rfl
theorem bd_209 :bodyI Tryz.prog 209=true:=by kernel_rfl
theorem bd_210 :bodyI Tryz.prog 210=true:=by kernel_rfl
theorem bd_211 :bodyI Tryz.prog 211=true:=by kernel_rfl
theorem bd_212 :bodyI Tryz.prog 212=true:=by kernel_rfl
theorem bd_213 :bodyI Tryz.prog 213=true:=by kernel_rfl
theorem bd_214 :bodyI Tryz.prog 214=true:=by kernel_rfl
theorem bd_215 :bodyI Tryz.prog 215=true:=by kernel_rfl
theorem bd_216 :bodyI Tryz.prog 216=true:=by kernel_rfl
theorem bd_217 :bodyI Tryz.prog 217=true:=by kernel_rfl
theorem bd_218 :bodyI Tryz.prog 218=true:=by kernel_rfl
theorem bd_219 :bodyI Tryz.prog 219=true:=by kernel_rfl
theorem bd_222 :bodyI Tryz.prog 222=true:=by kernel_rfl
theorem bd_223 :bodyI Tryz.prog 223=true:=by kernel_rfl
theorem bd_224 :bodyI Tryz.prog 224=true:=by kernel_rfl
end Go.Proofs.YtmjkobhkkjgplaaGreatDoor
