/- Part 2 of the texts. -/
import Derived.Test.YtmjkobhkkjgplaaGreatDoorQ1
namespace Go.Proofs.YtmjkobhkkjgplaaGreatDoor
open Go.RowKit
set_option linter.unusedSimpArgs false
set_option linter.unusedVariables false
theorem qf :(∀ {α:Type} (l m:List α),(l++m).length=l.length+m.length)/\(∀ {α:Type} (a:α) (l:List α),(a::l).length=l.length+1)/\(∀ {α:Type},([]:List α).length=0)/\(∀ {α:Type} (l:List α) (i:Nat) (a:α),(l.set i a).length=l.length)/\(∀ {α:Type} (n:Nat) (a:α),(List.replicate n a).length=n)/\(∀ {α β:Type} (f:α->β) (l:List α),(l.map f).length=l.length)/\(∀n:Nat,(List.range n).length=n):=
 ⟨λl m=>yX,λa l=>yY,xY,λl i a=>XP,λn a=>bJ,λf l=>yw f,λn=>List.length_range⟩
theorem zp {p:Prop}(h:p:=by first|omega|(simp only [qf];omega)):p:=h
inductive qc (P:Program)(ops:Array Oper)(N:Nat)(K:Nat->Prop)(W:World)(L:List zZ):List Oper->List (Nat×Value)->List Oper->List (Nat×Value)->Prop
 |nl {l:List Oper} {F:List (Nat×Value)} :qc P ops N K W L l F l F
 |cn {o:Oper} {l l' :List Oper} {F F' :List (Nat×Value)} {d:Nat} {v:Value} (hr:Rn P o N K W F L v) (hw:∀a,Fr N a F->Region.wanted o (yielded ops a.tmps)=true) (hd:o.dst=some d) (hN:Nat.blt d N=true) (k:qc P ops N K W L l ((d,v)::F) l' F'):qc P ops N K W L (o::l) F l' F'
 |sk {o:Oper} {l l' :List Oper} {F F' :List (Nat×Value)} {d:Nat} (hw:∀a,Fr N a F->Region.wanted o (yielded ops a.tmps)=false) (hd:o.dst=some d) (hN:Nat.blt d N=true) (k:qc P ops N K W L l ((d,undef)::F) l' F'):qc P ops N K W L (o::l) F l' F'
section
variable {P:Program}{N:Nat}{K:Nat->Prop}{W w:World}{a:Act}{F F' F2:List (Nat×Value)}{L L' :List zZ}{o:Oper}{ops:Array Oper}{l l' l2 rest:List Oper}{Q:Exit->Act->World->Prop}{c c' :Code}{R:Act->World->Prop}
theorem qc.go (r:qc P ops N K W L l F l' F'):∀ {a:Act},St N K W a w F L->(∀a,St N K W a w F' L->wpList P ops Q l' a w)->wpList P ops Q l a w:=by
 induction r with
 |nl=>exact λh k=>k _ h
 |cn hr hw hd hN _ ih=>exact λh k=>RE h hr (hw _ h.fr) hd hN λa h=>ih h k
 |sk hw hd hN _ ih=>exact λh k=>bQ h (hw _ h.fr) hd hN λa h=>ih h k
theorem qc.goQ {Z:Act->Prop}(r:qc P ops N K W L l F l' F'):∀ {a:Act},Fr N a F->(∀a,Fr N a F' ->wpQuiet P ops (λw=>Sh K W w L) Z l' a)->wpQuiet P ops (λw=>Sh K W w L) Z l a:=by
 induction r with
 |nl=>exact λh k=>k _ h
 |cn hr hw hd hN _ ih=>exact λh k=>mj h hr (hw _ h) hd hN λa h=>ih h k
 |sk hw hd hN _ ih=>exact λh k=>bO h (hw _ h) hd hN λa h=>ih h k
theorem gG (h:St N K W a w F L)(k:∀a w,St N K W a w F L->R a w):R a w:=k a w h
theorem zn (r:qc P ops N K W L l F l' F')(k:∀a w,St N K W a w F' L->wpList P ops Q l' a w):∀a w,St N K W a w F L->wpList P ops Q l a w:=λ_ w h=>r.go h λa h=>k a w h
theorem sG {id:Nat}(r:qc P l.toArray N K W L l F [] F')(k:∀a w,St N K W a w F' L->c.wp P Q a w):∀a w,St N K W a w F L->(Code.seq (.region id l.toArray false) c).wp P Q a w:=
 λ_ w h=>wp_seq_k λ_ hK=>wp_region_lit (r.go h λa h=>wpList_nil (hK _ _ (k a w h)))
theorem sK {id:Nat}(k:∀R:Act->World->Prop,(∀a w,c.wp P Q a w->R a w)->∀a w,St N K W a w F L->wpList P l.toArray (Exit.then R Q) l a w):∀a w,St N K W a w F L->(Code.seq (.region id l.toArray false) c).wp P Q a w:=
 λ_ w h=>wp_seq_k λR hK=>wp_region_lit (k R hK _ w h)
theorem nK {Q0:Exit->Act->World->Prop}(hk:∀a w,c.wp P Q a w->Q0 .normal a w)(k:∀a w,St N K W a w F L->c.wp P Q a w):∀a w,St N K W a w F L->wpList P ops Q0 [] a w:=λ_ w h=>wpList_nil (hk _ _ (k _ w h))
theorem hK {X:Act->World->Prop}(hk:∀a w,c.wp P Q a w->X a w)(k:∀a w,St N K W a w F L->c.wp P Q a w):∀a w,St N K W a w F L->X a w:=λ_ w h=>hk _ _ (k _ w h)
theorem gK (k:∀R:Act->World->Prop,(∀a w,c'.wp P Q a w->R a w)->∀a w,St N K W a w F L->c.wp P (Exit.then R Q) a w):∀a w,St N K W a w F L->(Code.seq c c').wp P Q a w:=
 λ_ w h=>wp_seq_k λR hK=>k R hK _ w h
theorem gL {id:Nat}(k:∀a w,St N K W a w F L->wpList P l.toArray Q l a w):∀a w,St N K W a w F L->(Code.region id l.toArray false).wp P Q a w:=λ_ w h=>wp_region_lit (k _ w h)
theorem nN (k:∀a w,St N K W a w F L->Q .normal a w):∀a w,St N K W a w F L->wpList P ops Q [] a w:=λ_ w h=>wpList_nil (k _ w h)
theorem Xl {x:Operand}{b:Bool}(hc:ev F x=some (.bool b))(ht:b=true->∀a w,St N K W a w F L->c.wp P Q a w)(hf:b=false->∀a w,St N K W a w F L->c'.wp P Q a w):∀a w,St N K W a w F L->(Code.cond x c c').wp P Q a w:=
 λ_ w h=>mi h hc (λhb=>ht hb _ w h) (λhb=>hf hb _ w h)
theorem gcd {x:Operand}{p:Prop}[Decidable p](hc:ev F x=some (.bool (decide p)))(ht:decide p=true->p->∀a w,St N K W a w F L->c.wp P Q a w)(hf:decide p=false->¬p->∀a w,St N K W a w F L->c'.wp P Q a w):∀a w,St N K W a w F L->(Code.cond x c c').wp P Q a w:=
 Xl hc (λhb=>ht hb (of_decide_eq_true hb)) λhb=>hf hb (of_decide_eq_false hb)
theorem G3 (p:Prop)[Decidable p]:(decide p=true/\p)\/(decide p=false/\¬p):=by
 by_cases h:p
 ·exact .inl ⟨decide_eq_true h,h⟩
 ·exact .inr ⟨decide_eq_false h,h⟩
theorem BJ {x:Operand}{b:Bool}(hc:ev F x=some (.bool b))(hb:b=true)(k:∀a w,St N K W a w F L->c.wp P Q a w):∀a w,St N K W a w F L->(Code.cond x c c').wp P Q a w:=λ_ w h=>M3 h hc hb (k _ w h)
theorem Q1 {x:Operand}{b:Bool}(hc:ev F x=some (.bool b))(hb:b=false)(k:∀a w,St N K W a w F L->c'.wp P Q a w):∀a w,St N K W a w F L->(Code.cond x c c').wp P Q a w:=λ_ w h=>bN h hc hb (k _ w h)
theorem gB {id:Nat}(k:∀a w,St N K W a w F L->c.wp P (Exit.inBlock id Q) a w):∀a w,St N K W a w F L->(Code.block id c).wp P Q a w:=λ_ w h=>wp_block (k _ w h)
theorem gS (k:∀a w,St N K W a w F L->Q .normal a w):∀a w,St N K W a w F L->Code.skip.wp P Q a w:=λ_ w h=>wp_skip (k _ w h)
theorem gX {id:Nat}(k:∀a w,St N K W a w F L->Q (.exit id) a w):∀a w,St N K W a w F L->(Code.exit id).wp P Q a w:=λ_ w h=>wp_exit (k _ w h)
theorem gR (k:∀a w,St N K W a w F L->Q .ret a w):∀a w,St N K W a w F L->Code.ret.wp P Q a w:=λ_ w h=>wp_ret (k _ w h)
def PH :List Value->Option (List (Nat×Value))
 | []=>some []
 | [a]=>some [(0,a)]
 | [a,b]=>some [(0,a),(1,b)]
 | [a,b,c]=>some [(0,a),(1,b),(2,c)]
 | [a,b,c,d]=>some [(0,a),(1,b),(2,c),(3,d)]
 | [a,b,c,d,e]=>some [(0,a),(1,b),(2,c),(3,d),(4,e)]
 | [a,b,c,d,e,f]=>some [(0,a),(1,b),(2,c),(3,d),(4,e),(5,f)]
 | [a,b,c,d,e,f,g]=>some [(0,a),(1,b),(2,c),(3,d),(4,e),(5,f),(6,g)]
 | [a,b,c,d,e,f,g,h]=>some [(0,a),(1,b),(2,c),(3,d),(4,e),(5,f),(6,g),(7,h)]
 | [a,b,c,d,e,f,g,h,i]=>some [(0,a),(1,b),(2,c),(3,d),(4,e),(5,f),(6,g),(7,h),(8,i)]
 | [a,b,c,d,e,f,g,h,i,j]=>some [(0,a),(1,b),(2,c),(3,d),(4,e),(5,f),(6,g),(7,h),(8,i),(9,j)]
 |_=>none
theorem te {vs:List Value}{F:List (Nat×Value)}(h:PH vs=some F):((vs.zipIdx 0).map λx=>(x.2,x.1))=F:=by
 unfold PH at h
 split at h<;>cases h<;>rfl
theorem gen {f:FuncId}{fn:Func}{vs:List Value}{X:Value->World->Prop}(hf:P.funcs[f]? =some fn)(hN:fn.ntmps=N)(hS:Sh K W W L)(e:(fn.body,PH vs,Nat.ble vs.length N)=(some c,some F,true))(k:∀a,St N K W a W F L->c.wp P (bodyPost P fn λe w' =>∃v,e= .returned v/\X v w') a W):zP P f vs W X:=by
 simp only [qO] at e
 exact pN hf e.1 hN (y5 e.2.2) λa h=>k a ⟨by rw [te e.2.1] at h;exact h,hS⟩
theorem uT {X:Act->World->Prop}(k:∀a w,St N K W a w F L->Q .ret a w):∀a w,St N K W a w F L->Exit.then X Q .ret a w:=k
theorem uB {id:Nat}(k:∀a w,St N K W a w F L->Q .ret a w):∀a w,St N K W a w F L->Exit.inBlock id Q .ret a w:=k
theorem y4 {α:Type}[zz α]{s:Ls α}(hat:∀w,Sh K W w L->s.At w)(k:s.l.length<=140737488355328->∀a w,St N K W a w F L->R a w):∀a w,St N K W a w F L->R a w:=λa w h=>k (hat w h.sh).len a w h
theorem gE {L2:List zZ}(hx:∀a w,St N K W a w F L->Ex P o a w (λa' w' =>St N K W a' w' F2 L2))(hg:o.guard=none)(k:∀a w,St N K W a w F2 L2->wpList P ops Q rest a w):∀a w,St N K W a w F L->wpList P ops Q (o::rest) a w:=
 λ_ w h=>zL (hx _ w h) (zg hg _) λa w h=>k a w h
theorem xb {α:Sort 1}{F2:α->List (Nat×Value)}{L2:α->List zZ}(hx:∀a w,St N K W a w F L->Ex P o a w (λa' w' =>∃b:α,St N K W a' w' (F2 b) (L2 b)))(hg:o.guard=none)(k:∀b a w,St N K W a w (F2 b) (L2 b)->wpList P ops Q rest a w):∀a w,St N K W a w F L->wpList P ops Q (o::rest) a w:=
 λ_ w h=>zL (hx _ w h) (zg hg _) λa w ⟨b,h⟩=>k b a w h
def fB (F:List (Nat×Value)):List Nat->Option (List (Nat×Value))
 | []=>some []
 |t::r=>match lk F t with
  |some v=>match fB F r with
   |some F' =>some ((t,v)::F')
   |none=>none
  |none=>none
theorem R4 :∀ {ts:List Nat} {F' :List (Nat×Value)},fB F ts=some F' ->u3 F F'
 | [],F',e=>by cases e;trivial
 |t::r,F',e=>by
  unfold fB at e
  split at e
  ·rename_i v hv
   split at e
   ·rename_i F2 hF
    cases e
    exact ⟨hv,R4 hF⟩
   ·cases e
  ·cases e
theorem gF (ts:List Nat)(e:fB F ts=some F')(k:∀a w,St N K W a w F' L->R a w):∀a w,St N K W a w F L->R a w:=λa w h=>k a w (h.nf (R4 e))
theorem gO (is:List Nat)(e2:fc L is=some L')(k:∀a w,St N K W a w F L' ->R a w):∀a w,St N K W a w F L->R a w:=λa w h=>k a w (h.zY is e2)
theorem qQ {Y:Act->Prop}(h:Fr N a F)(k:∀a,Fr N a F->Y a):Y a:=k a h
theorem vu {Z:Act->Prop}(r:qc P ops N K W L l F l' F')(k:∀a,Fr N a F' ->wpQuiet P ops (λw=>Sh K W w L) Z l' a):∀a,Fr N a F->wpQuiet P ops (λw=>Sh K W w L) Z l a:=λ_ h=>r.goQ h k
theorem qN {Z:Act->Prop}(z:∀a,(∀w,Sh K W w L->R a w)->Z a)(k:∀a w,St N K W a w F L->R a w):∀a,Fr N a F->wpQuiet P ops (λw=>Sh K W w L) Z [] a:=λa h=>wpQuiet_nil (z a λw hw=>k a w ⟨h,hw⟩)
theorem rQ {id:Nat}(r:qc P l.toArray N K W L l F [] F')(k:∀a w,St N K W a w F' L->Q .normal a w)(hm:P.follows .mixedOrders=true:=by kernel_rfl)(hB:Region.lexB .any l.toArray=true:=by kernel_rfl):∀a w,St N K W a w F L->(Code.region id l.toArray true).wp P Q a w:=
 λ_ w h=>wS hm hB h λZ hZ=>r.goQ h.fr λa hf=>wpQuiet_nil (hZ a λw hw=>k a w ⟨hf,hw⟩)
theorem rT {id:Nat}(m:Nat)(ps:List Nat)(r:qc P l.toArray N K W L (ZF l.toArray ps++ZF l.toArray (we m ps)) F [] F')
  (k:∀a w,St N K W a w F' L->wpList P l.toArray (λe a w=>match e with| .normal=>Q .normal a w|_=>False) (l.drop m) a w) (hm:P.follows .mixedOrders=true:=by kernel_rfl) (hB:RJ l m ps=true:=by kernel_rfl):∀a w,St N K W a w F L->(Code.region id l.toArray true).wp P Q a w:=
 λ_ w h=>ka m ps hm hB h λZ hZ=>r.goQ h.fr λa hf=>wpQuiet_nil (hZ a λw hw=>k a w ⟨hf,hw⟩)
section
variable {d g k q r j n xf sz i2:Nat}{T E e:TypeId}{x y:Operand}{v:Value}{z cs vs:List Value}
theorem wn (hg:o.guard=none):∀a,Fr N a F->Region.wanted o (yielded ops a.tmps)=true:=λ_ _=>zg hg _
theorem oV (hr:Rn P o N K W F L v)(e:(o.dst,o.guard,Nat.blt d N)=(some d,none,true))(k:qc P ops N K W L l ((d,v)::F) l' F'):qc P ops N K W L (o::l) F l' F' :=by
 simp only [qO] at e
 exact .cn hr (wn e.2.1) e.1 e.2.2 k
theorem oG {b want:Bool}{t:Nat}{oj:Oper}(hb:b=want)(hr:Rn P o N K W F L v)(e:(o.dst,o.guard,ops[j]?,oj.dst,lk F t,Nat.blt d N)=(some d,some (j,want),some oj,some t,some (.bool b),true))(k:qc P ops N K W L l ((d,v)::F) l' F'):qc P ops N K W L (o::l) F l' F' :=by
 simp only [qO] at e
 exact .cn hr (λa h=>jx h e.2.1 e.2.2.1 e.2.2.2.1 e.2.2.2.2.1 hb) e.1 e.2.2.2.2.2 k
theorem oK {b want:Bool}{t:Nat}{oj:Oper}(hb:b= !want)(e:(o.dst,o.guard,ops[j]?,oj.dst,lk F t,Nat.blt d N)=(some d,some (j,want),some oj,some t,some (.bool b),true))(k:qc P ops N K W L l ((d,undef)::F) l' F'):qc P ops N K W L (o::l) F l' F' :=by
 simp only [qO] at e
 exact .sk (λa h=>aj h e.2.1 e.2.2.1 e.2.2.2.1 e.2.2.2.2.1 hb) e.1 e.2.2.2.2.2 k
theorem NV {want:Bool}{t:Nat}{oj:Oper}(e:(o.dst,o.guard,ops[j]?,oj.dst,lk F t,Nat.blt d N)=(some d,some (j,want),some oj,some t,some undef,true))(k:qc P ops N K W L l ((d,undef)::F) l' F'):qc P ops N K W L (o::l) F l' F' :=by
 simp only [qO] at e
 exact .sk (λa h=>mo h e.2.1 e.2.2.1 e.2.2.2.1 e.2.2.2.2.1) e.1 e.2.2.2.2.2 k
def skF (N j t:Nat)(want:Bool):Nat->List Oper->List (Nat×Value)->Option (List Oper×List (Nat×Value))
 |0,l,F=>some (l,F)
 |n+1,o::l,F=>match o.guard with
  |some (j',w')=>bif Nat.beq j' j&&(w' ==want) then match o.dst with
   |some d=>bif Nat.blt d N&& !(Nat.beq d t) then skF N j t want n l ((d,undef)::F) else none
   |none=>none
   else none
  |none=>none
 |_+1,[],_=>none
theorem Zy (n:Nat){b want:Bool}{j t:Nat}{oj:Oper}(hb:b= !want)(e:(o.guard,ops[j]?,oj.dst,lk F t)=(some (j,want),some oj,some t,some (.bool b)))(hs:skF N j t want n (o::l) F=some (l2,F2))(k:qc P ops N K W L l2 F2 l' F'):qc P ops N K W L (o::l) F l' F' :=by
 simp only [qO] at e
 obtain ⟨_,e1,e2,e3⟩:=e
 generalize o::l=m at hs⊢
 induction n generalizing m F with
 |zero=>cases hs;exact k
 |succ n ih=>
  cases m with
  |nil=>cases hs
  |cons o m=>
   unfold skF at hs
   split at hs
   ·rename_i j' w' hg
    cases hc:Nat.beq j' j&&(w' ==want) with
    |false=>rw [hc] at hs;cases hs
    |true=>
     rw [hc,cond_true] at hs
     obtain ⟨h1,h2⟩:=Bool.and_eq_true_iff.1 hc
     cases XS h1
     obtain rfl:w' =want:=by simpa using h2
     split at hs
     ·rename_i d hd
      cases AG:Nat.blt d N&& !(Nat.beq d t) with
      |false=>rw [AG] at hs;cases hs
      |true=>
       rw [AG,cond_true] at hs
       obtain ⟨h3,h4⟩:=Bool.and_eq_true_iff.1 AG
       have h5:d≠t:=λe=>by subst e;simp at h4
       exact .sk (λa h=>aj h hg e1 e2 e3 hb) hd h3 (ih (by rw [vv,if_neg h5];exact e3) m hs)
     ·cases hs
   ·cases hs
theorem oM (n:Nat)(e:mvN N n l F=some (l2,F2))(k:qc P ops N K W L l2 F2 l' F'):qc P ops N K W L l F l' F' :=by
 induction n generalizing l F with
 |zero=>cases e;exact k
 |succ n ih=>
  cases l with
  |nil=>cases e
  |cons o l=>
   unfold mvN at e
   split at e
   ·rename_i d x hg hd ho
    split at e
    ·rename_i v hv
     cases hb:Nat.blt d N with
     |false=>rw [hb] at e;cases e
     |true=>rw [hb] at e;exact .cn (zG ho hv) (wn hg) hd hb (ih e)
    ·cases e
   ·rename_i d x hg hd ho
    split at e
    ·rename_i v hv
     cases hb:Nat.blt d N with
     |false=>rw [hb] at e;cases e
     |true=>rw [hb] at e;exact .cn (Zd ho hv) (wn hg) hd hb (ih e)
    ·cases e
   ·cases e
theorem cz {p:Addr}(e:(o.dst,o.op,ev F x,jG o d N)=(some d,.nilCheck x,some (.pointer (some p)),true))(k:qc P ops N K W L l ((d,.pointer (some p))::F) l' F'):qc P ops N K W L (o::l) F l' F' :=by
 simp only [qO,jG,qI,jM] at e
 exact .cn (jC e.2.1 e.2.2.1) (wn e.2.2.2.1) e.1 e.2.2.2.2 k
theorem qB {f:Nat}(hT:kX P T f=some k)(e:(o.dst,o.op,ev F x,jG o d N)=(some d,.fieldAddr T x f,some (.pointer (some ⟨g,0,none⟩)),true))(kk:qc P ops N K W L l ((d,.pointer (some ⟨g,k,none⟩))::F) l' F'):qc P ops N K W L (o::l) F l' F' :=by
 simp only [qO,jG,qI,jM] at e
 exact .cn (zT hT e.2.1 e.2.2.1 (WS k)) (wn e.2.2.2.1) e.1 e.2.2.2.2 kk
theorem jA {o2:Oper}{f d2:Nat}{p:Addr}{y:Operand}(hT:kX P T f=some k)(e:(o.dst,o.op,ev F x,jG o d N,o2.dst,o2.op,ev ((d,.pointer (some p))::F) y,jG o2 d2 N)=(some d,.nilCheck x,some (.pointer (some p)),true,some d2,.fieldAddr T y f,some (.pointer (some ⟨g,0,none⟩)),true))
  (kk:qc P ops N K W L l ((d2,.pointer (some ⟨g,k,none⟩))::(d,.pointer (some p))::F) l' F'):qc P ops N K W L (o::o2::l) F l' F' :=by
 simp only [qO] at e
 obtain ⟨e1,e2,e3,e4,e5,e6,e7,e8⟩:=e
 exact cz (by rw [e1,e2,e3,e4]) (qB hT (by rw [e5,e6,e7,e8]) kk)
theorem qw (i:Nat)(hT:je P T=some (false,n,xf,z))(hi:L[i]? =some (.zM g E cs))(e:(o.dst,o.op,ev F x,jG o d N,cs[q]?)=(some d,.load T x,some (.pointer (some ⟨g,q,none⟩)),true,some v))(k:qc P ops N K W L l ((d,v)::F) l' F'):qc P ops N K W L (o::l) F l' F' :=by
 simp only [qO,jG,qI,jM] at e
 exact .cn (xV hT e.2.1 e.2.2.1 hi e.2.2.2.2) (wn e.2.2.2.1.1) e.1 e.2.2.2.1.2 k
theorem w7 (i:Nat)(hT:je P T=some (false,n,xf,z))(hi:L[i]? =some (.zx g E cs))(e:(o.dst,o.op,ev F x,jG o d N,cs[q]?)=(some d,.load T x,some (.pointer (some ⟨g,q,none⟩)),true,some v))(k:qc P ops N K W L l ((d,v)::F) l' F'):qc P ops N K W L (o::l) F l' F' :=by
 simp only [qO,jG,qI,jM] at e
 exact .cn (kh hT e.2.1 e.2.2.1 (λw h=>h.zx i hi) e.2.2.2.2) (wn e.2.2.2.1.1) e.1 e.2.2.2.1.2 k
theorem yb (i:Nat){o2 o3:Oper}{f d2 d3:Nat}{T' :TypeId}{p:Addr}{y u:Operand}(hT:kX P T f=some k)(hT' :je P T' =some (false,n,xf,z))(hi:L[i]? =some (.zM g E cs))
  (e:(o.dst,o.op,ev F x,jG o d N,o2.dst,o2.op,ev ((d,.pointer (some p))::F) y,jG o2 d2 N,o3.dst,o3.op,ev ((d2,.pointer (some ⟨g,k,none⟩))::(d,.pointer (some p))::F) u,jG o3 d3 N,cs[k]?)=(some d,.nilCheck x,some (.pointer (some p)),true,some d2,.fieldAddr T y f,some (.pointer (some ⟨g,0,none⟩)),true,some d3,.load T' u,some (.pointer (some ⟨g,k,none⟩)),true,some v))
  (kk:qc P ops N K W L l ((d3,v)::(d2,.pointer (some ⟨g,k,none⟩))::(d,.pointer (some p))::F) l' F'):qc P ops N K W L (o::o2::o3::l) F l' F' :=by
 simp only [qO] at e
 obtain ⟨e1,e2,e3,e4,e5,e6,e7,e8,e9,f1,f2,f3,f4⟩:=e
 exact cz (by rw [e1,e2,e3,e4]) (qB hT (by rw [e5,e6,e7,e8]) (qw i hT' hi (by rw [e9,f1,f2,f3,f4]) kk))
def RI :List Value->Nat->Nat->Option (List Value)
 |_,_,0=>some []
 | [],_,_+1=>none
 |_::r,q+1,n+1=>RI r q (n+1)
 |v::r,0,n+1=>match RI r 0 n with
  |some l=>some (v::l)
  |none=>none
theorem KL :∀ {cs:List Value} {q n:Nat} {vs:List Value},RI cs q n=some vs->(cs.drop q).take n=vs/\vs.length=n
 |cs,q,0,vs,h=>by unfold RI at h;cases h;simp
 | [],q,n+1,vs,h=>by cases q<;>cases h
 |_::r,q+1,n+1,vs,h=>by
  unfold RI at h
  simpa using KL h
 |v::r,0,n+1,vs,h=>by
  unfold RI at h
  split at h
  ·next l hl=>
   cases h
   obtain ⟨h1,h2⟩:=KL hl
   refine ⟨?_,by simp [h2]⟩
   rw [List.drop_zero] at h1⊢
   rw [List.take_succ_cons,h1]
  ·cases h
theorem kt (i:Nat)(hT:je P T=some (true,n,xf,z))(hi:L[i]? =some (.zM g E cs))(e:(o.dst,o.op,ev F x,jG o d N,RI cs q n)=(some d,.load T x,some (.pointer (some ⟨g,q,none⟩)),true,some vs))(k:qc P ops N K W L l ((d,.agg vs.toArray)::F) l' F'):qc P ops N K W L (o::l) F l' F' :=by
 simp only [qO,jG,qI,jM] at e
 exact .cn (Jd hT e.2.1 e.2.2.1 hi (KL e.2.2.2.2).1 (KL e.2.2.2.2).2) (wn e.2.2.2.1.1) e.1 e.2.2.2.1.2 k
theorem kK {i:Nat}{vs:Array Value}(e:(o.dst,o.op,ev F x,jG o d N,vs[i]?)=(some d,.extract x i,some (.tuple vs),true,some v))(k:qc P ops N K W L l ((d,v)::F) l' F'):qc P ops N K W L (o::l) F l' F' :=by
 simp only [qO,jG,qI,jM] at e
 exact .cn (Xw e.2.1 e.2.2.1 e.2.2.2.2) (wn e.2.2.2.1.1) e.1 e.2.2.2.1.2 k
theorem QV {b:Bool}{c x y:Operand}(hb:b=true)(e:(o.dst,o.op,ev F c,ev F x,jG o d N)=(some d,.pick c x y,some (.bool b),some v,true))(k:qc P ops N K W L l ((d,v)::F) l' F'):qc P ops N K W L (o::l) F l' F' :=by
 simp only [qO,jG,qI,jM] at e
 exact .cn (cb e.2.1 e.2.2.1 hb e.2.2.2.1) (wn e.2.2.2.2.1) e.1 e.2.2.2.2.2 k
theorem Zx {b:Bool}{c x y:Operand}(hb:b=false)(e:(o.dst,o.op,ev F c,ev F y,jG o d N)=(some d,.pick c x y,some (.bool b),some v,true))(k:qc P ops N K W L l ((d,v)::F) l' F'):qc P ops N K W L (o::l) F l' F' :=by
 simp only [qO,jG,qI,jM] at e
 exact .cn (cc e.2.1 e.2.2.1 hb e.2.2.2.1) (wn e.2.2.2.2.1) e.1 e.2.2.2.2.2 k
theorem rM {b:Bool}(e:(o.dst,o.op,ev F x,jG o d N)=(some d,.unOp .not T x,some (.bool b),true))(k:qc P ops N K W L l ((d,.bool (!b))::F) l' F'):qc P ops N K W L (o::l) F l' F' :=by
 simp only [qO,jG,qI,jM] at e
 exact .cn (WD e.2.1 e.2.2.1) (wn e.2.2.2.1) e.1 e.2.2.2.2 k
section
variable {α:Type}[zz α]{s:Ls α}{gb:Bool}
theorem jo {kd:IntKind}(hT:QA P T=some e)(he:je P e=some (gb,n,xf,z))(hat:∀w,Sh K W w L->s.At w)(q:Nat)(hb:q<s.l.length)(e' :(o.dst,o.op,ev F x,ev F y,jG o d N)=(some d,.indexAddr T x y,some s.v,some (.int kd (q:Int)),true))
  (k:qc P ops N K W L l ((d,.pointer (some (ja s.v n q 0)))::F) l' F'):qc P ops N K W L (o::l) F l' F' :=by
 simp only [qO,jG,qI,jM] at e'
 exact .cn (gD hT he e'.2.1 e'.2.2.1 e'.2.2.2.1 hat hb) (wn e'.2.2.2.2.1) e'.1 e'.2.2.2.2.2 k
theorem vC {kd:IntKind}{q:Int}(hT:QA P T=some e)(he:je P e=some (gb,n,xf,z))(hat:∀w,Sh K W w L->s.At w)(hb:0<=q/\q<s.l.length)(e' :(o.dst,o.op,ev F x,ev F y,jG o d N)=(some d,.indexAddr T x y,some s.v,some (.int kd q),true))
  (k:qc P ops N K W L l ((d,.pointer (some (ja s.v n q.toNat 0)))::F) l' F'):qc P ops N K W L (o::l) F l' F' :=by
 simp only [qO,jG,qI,jM] at e'
 exact .cn (RU hT he e'.2.1 e'.2.2.1 e'.2.2.2.1 hat hb) (wn e'.2.2.2.2.1) e'.1 e'.2.2.2.2.2 k
theorem QB {f i:Nat}(hT:kX P T f=some k)(e:(o.dst,o.op,ev F x,jG o d N)=(some d,.fieldAddr T x f,some (.pointer (some (ja v sz i 0))),true))(kk:qc P ops N K W L l ((d,.pointer (some (ja v sz i k)))::F) l' F'):qc P ops N K W L (o::l) F l' F' :=by
 simp only [qO,jG,qI,jM] at e
 exact .cn (jT hT e.2.1 e.2.2.1 (WS k)) (wn e.2.2.2.1) e.1 e.2.2.2.2 kk
theorem Z1 {i:Nat}(v:Value)(hT:je P T=some (false,n,xf,z))(hat:∀w,Sh K W w L->s.At w)(hi:i<s.l.length)(e:(o.dst,o.op,ev F x,jG o d N,zz.sz α,Nat.blt j sz,zz.cell (nth s.l i) j)=(some d,.load T x,some (.pointer (some (ja s.v sz i j))),true,sz,true,v))(k:qc P ops N K W L l ((d,v)::F) l' F'):qc P ops N K W L (o::l) F l' F' :=by
 simp only [qO,jG,qI,jM] at e
 exact .cn (x6 hT e.2.1 e.2.2.1 e.2.2.2.2.1 hat hi (by simpa [yV] using e.2.2.2.2.2.1) e.2.2.2.2.2.2) (wn e.2.2.2.1.1) e.1 e.2.2.2.1.2 k
theorem wx {i:Nat}{kd:IntKind}{u:Int}(hT:je P T=some (false,n,xf,z))(hat:∀w,Sh K W w L->s.At w)(hi:i<s.l.length)(e:(o.dst,o.op,ev F x,jG o d N,zz.sz α,Nat.blt j sz,zz.cell (nth s.l i) j)=(some d,.load T x,some (.pointer (some (ja s.v sz i j))),true,sz,true,.int kd u))(k:qc P ops N K W L l ((d,.int kd u)::F) l' F'):qc P ops N K W L (o::l) F l' F' :=Z1 (.int kd u) hT hat hi e k
theorem Xz {i:Nat}(vs:List Value)(hT:je P T=some (true,n,xf,z))(hat:∀w,Sh K W w L->s.At w)(hi:i<s.l.length)(e:(o.dst,o.op,ev F x,jG o d N,zz.sz α,Nat.ble (j+n) sz,(List.range n).map (λq=>zz.cell (nth s.l i) (j+q)))=(some d,.load T x,some (.pointer (some (ja s.v sz i j))),true,sz,true,vs))(k:qc P ops N K W L l ((d,.agg vs.toArray)::F) l' F'):qc P ops N K W L (o::l) F l' F' :=by
 simp only [qO,jG,qI,jM] at e
 exact .cn (CN hT e.2.1 e.2.2.1 e.2.2.2.2.1 hat hi (y5 e.2.2.2.2.2.1) e.2.2.2.2.2.2) (wn e.2.2.2.1.1) e.1 e.2.2.2.1.2 k
theorem wk {n:Nat}(hT:QA P T=some e)(hat:∀w,Sh K W w L->s.At w)(e' :(o.dst,o.op,ev F x,jG o d N,s.l.length)=(some d,.call ⟨.builtin .len, #[x], #[T]⟩,some s.v,true,n))(k:qc P ops N K W L l ((d,.int .i64 (n:Int))::F) l' F'):qc P ops N K W L (o::l) F l' F' :=by
 simp only [qO,jG,qI,jM] at e'
 exact .cn (Zc hT e'.2.1 e'.2.2.1 hat e'.2.2.2.2) (wn e'.2.2.2.1.1) e'.1 e'.2.2.2.1.2 k
end
section
variable {U:TypeId}{kd:IntKind}
theorem xk (p q:Nat)(e:(o.dst,o.op,ev F x,ev F y,jG o d N)=(some d,.binOp .lss T x y U,some (.int kd (p:Int)),some (.int kd (q:Int)),true))(k:qc P ops N K W L l ((d,.bool (decide (p<q)))::F) l' F'):qc P ops N K W L (o::l) F l' F' :=by
 simp only [qO,jG,qI,jM] at e
 exact .cn (cg e.2.1 e.2.2.1 e.2.2.2.1) (wn e.2.2.2.2.1) e.1 e.2.2.2.2.2 k
theorem fG (p q:Int)(e:(o.dst,o.op,ev F x,ev F y,jG o d N)=(some d,.binOp .lss T x y U,some (.int kd p),some (.int kd q),true))(k:qc P ops N K W L l ((d,.bool (decide (p<q)))::F) l' F'):qc P ops N K W L (o::l) F l' F' :=by
 simp only [qO,jG,qI,jM] at e
 exact .cn (Jc e.2.1 e.2.2.1 e.2.2.2.1) (wn e.2.2.2.2.1) e.1 e.2.2.2.2.2 k
theorem NU (p q:Nat)(e:(o.dst,o.op,ev F x,ev F y,jG o d N)=(some d,.binOp .gtr T x y U,some (.int kd (p:Int)),some (.int kd (q:Int)),true))(k:qc P ops N K W L l ((d,.bool (decide (q<p)))::F) l' F'):qc P ops N K W L (o::l) F l' F' :=by
 simp only [qO,jG,qI,jM] at e
 exact .cn (Ub e.2.1 e.2.2.1 e.2.2.2.1) (wn e.2.2.2.2.1) e.1 e.2.2.2.2.2 k
theorem zbm (p q:Int)(e:(o.dst,o.op,ev F x,ev F y,jG o d N)=(some d,.binOp .gtr T x y U,some (.int kd p),some (.int kd q),true))(k:qc P ops N K W L l ((d,.bool (decide (q<p)))::F) l' F'):qc P ops N K W L (o::l) F l' F' :=by
 simp only [qO,jG,qI,jM] at e
 exact .cn (ch e.2.1 e.2.2.1 e.2.2.2.1) (wn e.2.2.2.2.1) e.1 e.2.2.2.2.2 k
theorem zbn (p q:Nat)(e:(o.dst,o.op,ev F x,ev F y,jG o d N)=(some d,.binOp .geq T x y U,some (.int kd (p:Int)),some (.int kd (q:Int)),true))(k:qc P ops N K W L l ((d,.bool (decide (q<=p)))::F) l' F'):qc P ops N K W L (o::l) F l' F' :=by
 simp only [qO,jG,qI,jM] at e
 exact .cn (mR e.2.1 e.2.2.1 e.2.2.2.1) (wn e.2.2.2.2.1) e.1 e.2.2.2.2.2 k
theorem nc (p q:Int)(e:(o.dst,o.op,ev F x,ev F y,jG o d N)=(some d,.binOp .geq T x y U,some (.int kd p),some (.int kd q),true))(k:qc P ops N K W L l ((d,.bool (decide (q<=p)))::F) l' F'):qc P ops N K W L (o::l) F l' F' :=by
 simp only [qO,jG,qI,jM] at e
 exact .cn (RW e.2.1 e.2.2.1 e.2.2.2.1) (wn e.2.2.2.2.1) e.1 e.2.2.2.2.2 k
theorem KX (p q:Nat)(e:(o.dst,o.op,ev F x,ev F y,jG o d N)=(some d,.binOp .eql T x y U,some (.int kd (p:Int)),some (.int kd (q:Int)),true))(k:qc P ops N K W L l ((d,.bool (decide (p=q)))::F) l' F'):qc P ops N K W L (o::l) F l' F' :=by
 simp only [qO,jG,qI,jM] at e
 exact .cn (ck e.2.1 e.2.2.1 e.2.2.2.1) (wn e.2.2.2.2.1) e.1 e.2.2.2.2.2 k
theorem yK (p q:Int)(e:(o.dst,o.op,ev F x,ev F y,jG o d N)=(some d,.binOp .eql T x y U,some (.int kd p),some (.int kd q),true))(k:qc P ops N K W L l ((d,.bool (decide (p=q)))::F) l' F'):qc P ops N K W L (o::l) F l' F' :=by
 simp only [qO,jG,qI,jM] at e
 exact .cn (kJ e.2.1 e.2.2.1 e.2.2.2.1) (wn e.2.2.2.2.1) e.1 e.2.2.2.2.2 k
theorem ue (p q:Nat)(e:(o.dst,o.op,ev F x,ev F y,jG o d N)=(some d,.binOp .neq T x y U,some (.int kd (p:Int)),some (.int kd (q:Int)),true))(k:qc P ops N K W L l ((d,.bool (decide (p≠q)))::F) l' F'):qc P ops N K W L (o::l) F l' F' :=by
 simp only [qO,jG,qI,jM] at e
 exact .cn (RT e.2.1 e.2.2.1 e.2.2.2.1) (wn e.2.2.2.2.1) e.1 e.2.2.2.2.2 k
theorem QW (p q:Int)(e:(o.dst,o.op,ev F x,ev F y,jG o d N)=(some d,.binOp .neq T x y U,some (.int kd p),some (.int kd q),true))(k:qc P ops N K W L l ((d,.bool (decide (p≠q)))::F) l' F'):qc P ops N K W L (o::l) F l' F' :=by
 simp only [qO,jG,qI,jM] at e
 exact .cn (cd e.2.1 e.2.2.1 e.2.2.2.1) (wn e.2.2.2.2.1) e.1 e.2.2.2.2.2 k
theorem yl (p q:Nat)(hb:p+q<9223372036854775808)(e:(o.dst,o.op,ev F x,ev F y,jG o d N)=(some d,.binOp .add T x y U,some (.int .i64 (p:Int)),some (.int .i64 (q:Int)),true))(k:qc P ops N K W L l ((d,.int .i64 ((p+q:Nat):Int))::F) l' F'):qc P ops N K W L (o::l) F l' F' :=by
 simp only [qO,jG,qI,jM] at e
 exact .cn (RY e.2.1 e.2.2.1 e.2.2.2.1 hb) (wn e.2.2.2.2.1) e.1 e.2.2.2.2.2 k
theorem zgv (p q:Int)(hb: -9223372036854775808<=p+q/\p+q<9223372036854775808)(e:(o.dst,o.op,ev F x,ev F y,jG o d N)=(some d,.binOp .add T x y U,some (.int .i64 p),some (.int .i64 q),true))(k:qc P ops N K W L l ((d,.int .i64 (p+q))::F) l' F'):qc P ops N K W L (o::l) F l' F' :=by
 simp only [qO,jG,qI,jM] at e
 exact .cn (cp e.2.1 e.2.2.1 e.2.2.2.1 hb) (wn e.2.2.2.2.1) e.1 e.2.2.2.2.2 k
theorem na (p q:Nat)(hb:q<=p/\p<9223372036854775808)(e:(o.dst,o.op,ev F x,ev F y,jG o d N)=(some d,.binOp .sub T x y U,some (.int .i64 (p:Int)),some (.int .i64 (q:Int)),true))(k:qc P ops N K W L l ((d,.int .i64 ((p-q:Nat):Int))::F) l' F'):qc P ops N K W L (o::l) F l' F' :=by
 simp only [qO,jG,qI,jM] at e
 exact .cn (zaZ e.2.1 e.2.2.1 e.2.2.2.1 hb) (wn e.2.2.2.2.1) e.1 e.2.2.2.2.2 k
theorem zbg (p q:Int)(hb: -9223372036854775808<=p-q/\p-q<9223372036854775808)(e:(o.dst,o.op,ev F x,ev F y,jG o d N)=(some d,.binOp .sub T x y U,some (.int .i64 p),some (.int .i64 q),true))(k:qc P ops N K W L l ((d,.int .i64 (p-q))::F) l' F'):qc P ops N K W L (o::l) F l' F' :=by
 simp only [qO,jG,qI,jM] at e
 exact .cn (CI e.2.1 e.2.2.1 e.2.2.2.1 hb) (wn e.2.2.2.2.1) e.1 e.2.2.2.2.2 k
theorem zbj (p q:Nat)(hb:p*q<9223372036854775808)(e:(o.dst,o.op,ev F x,ev F y,jG o d N)=(some d,.binOp .mul T x y U,some (.int .i64 (p:Int)),some (.int .i64 (q:Int)),true))(k:qc P ops N K W L l ((d,.int .i64 ((p*q:Nat):Int))::F) l' F'):qc P ops N K W L (o::l) F l' F' :=by
 simp only [qO,jG,qI,jM] at e
 exact .cn (za7 e.2.1 e.2.2.1 e.2.2.2.1 hb) (wn e.2.2.2.2.1) e.1 e.2.2.2.2.2 k
theorem zn9 (p q:Nat)(hb:0<q/\p<9223372036854775808)(e:(o.dst,o.op,ev F x,ev F y,jG o d N)=(some d,.binOp .quo T x y U,some (.int .i64 (p:Int)),some (.int .i64 (q:Int)),true))(k:qc P ops N K W L l ((d,.int .i64 ((p/q:Nat):Int))::F) l' F'):qc P ops N K W L (o::l) F l' F' :=by
 simp only [qO,jG,qI,jM] at e
 exact .cn (za5 e.2.1 e.2.2.1 e.2.2.2.1 hb) (wn e.2.2.2.2.1) e.1 e.2.2.2.2.2 k
theorem zn8 (p q:Nat)(hb:0<q/\p<9223372036854775808)(e:(o.dst,o.op,ev F x,ev F y,jG o d N)=(some d,.binOp .rem T x y U,some (.int .i64 (p:Int)),some (.int .i64 (q:Int)),true))(k:qc P ops N K W L l ((d,.int .i64 ((p%q:Nat):Int))::F) l' F'):qc P ops N K W L (o::l) F l' F' :=by
 simp only [qO,jG,qI,jM] at e
 exact .cn (za3 e.2.1 e.2.2.1 e.2.2.2.1 hb) (wn e.2.2.2.2.1) e.1 e.2.2.2.2.2 k
end
theorem xW {parts:List (Nat×Operand)}{pv:List (Nat×Value)}{cs:List Value}(ho:o.op= .build T parts.toArray)(hx:u5 F parts=some pv)(hb:∀w,Sh K W w L->P.built T pv=some cs.toArray):Rn P o N K W F L (.agg cs.toArray):=λa w h=>q8 ho hx (hb w h.sh) a w h
def G8 :List Value->Nat->Value->Option (List Value)
 | [],_,_=>none
 |_::r,0,v=>some (v::r)
 |u::r,q+1,v=>match G8 r q v with
  |some l=>some (u::l)
  |none=>none
theorem rf :∀ {cs:List Value} {q:Nat} {v:Value} {YR:List Value},G8 cs q v=some YR->q+1<=cs.length/\kf cs q [v]=YR
 | [],_,_,_,h=>by cases h
 |u::r,0,v,_,h=>by cases h;exact ⟨by simp,by simp [kf]⟩
 |u::r,q+1,v,YR,h=>by
  unfold G8 at h
  split at h
  ·next l hl=>
   cases h
   obtain ⟨h1,h2⟩:=rf hl
   refine ⟨by simpa using h1,?_⟩
   rw [<-h2]
   simp [kf,Nat.add_right_comm q 1 1]
  ·cases h
def fl :List zZ->Nat->zZ->Option (List zZ)
 | [],_,_=>none
 |_::r,0,v=>some (v::r)
 |u::r,q+1,v=>match fl r q v with
  |some l=>some (u::l)
  |none=>none
theorem H4 :∀ {L:List zZ} {q:Nat} {A:zZ} {L' :List zZ},fl L q A=some L' ->L.set q A=L'
 | [],_,_,_,h=>by cases h
 |u::r,0,v,_,h=>by cases h;rfl
 |u::r,q+1,v,YR,h=>by
  unfold fl at h
  split at h
  ·next l hl=>cases h;rw [List.set_cons_succ,H4 hl]
  ·cases h
theorem dX (i:Nat){gg:Bool}{YR:List Value}{L2:List zZ}(hT:je P T=some (gg,1,xf,z))(hi:L[i]? =some (.zM g E cs))(e:(o.op,o.dst,o.guard,ev F x,ev F y,G8 cs q v,fl L i (.zM g E YR))=(.store T x y,none,none,some (.pointer (some ⟨g,q,none⟩)),some v,some YR,some L2))(h1:v.oneCell' =true)
  (k:∀a w,St N K W a w F L2->wpList P ops Q rest a w):∀a w,St N K W a w F L->wpList P ops Q (o::rest) a w:=by
 simp only [qO] at e
 obtain ⟨e1,e2,e3,e4,e5,e6,e7⟩:=e
 intro a w h
 obtain ⟨h3,h4⟩:=rf e6
 refine zL (j3 (vs:= [v]) h hT e1 e2 e4 e5 hi (y7 h1) V (zr h1 qx) h3 h4) (zg e3 _) λa' w' h' =>?_
 rw [H4 e7] at h'
 exact k _ _ h'
theorem Q2 {gg:Bool}(hT:je P T=some (gg,n,xf,z))(e:(o.op,o.dst,o.guard,Nat.blt d N)=(.alloc T,some d,none,true))(k:∀(b:Nat) (a:Act) (w:World),St N K W a w ((d,.pointer (some ⟨b,0,none⟩))::F) (.zM b T z::L)->wpList P ops Q rest a w):∀a w,St N K W a w F L->wpList P ops Q (o::rest) a w:=by
 simp only [qO] at e
 intro a w h
 exact zL (pP h hT e.1 e.2.1 e.2.2.2) (zg e.2.2.1 _) λa w ⟨b,h⟩=>k b a w h
theorem dY {α:Type}[zz α]{s:Ls α}(i:Nat){gg:Bool}{YR:List Value}{L2:List zZ}(hT:je P T=some (gg,1,xf,z))(hi:L[i]? =some (.zM g E cs))(hat:∀w,Sh K W w L->s.At w)(e:(o.op,o.dst,o.guard,ev F x,ev F y,G8 cs q s.v,fl L i (.zM g E YR))=(.store T x y,none,none,some (.pointer (some ⟨g,q,none⟩)),some s.v,some YR,some L2))
 (k:∀a w,St N K W a w F L2->wpList P ops Q rest a w):∀a w,St N K W a w F L->wpList P ops Q (o::rest) a w:=λa w h=>dX i hT hi e (hat w h.sh).one k a w h
def dr :List Value->Option (List Value)
 | []=>some []
 |v::r=>match dr r with
  |some l=>some (v::l)
  |none=>none
theorem ba :∀ {l l' :List Value},dr l=some l' ->l=l'
 | [],_,h=>by cases h;rfl
 |v::r,_,h=>by
  unfold dr at h
  split at h
  ·next l hl=>cases h;rw [ba hl]
  ·cases h
theorem YK (i:Nat){gg:Bool}{YR:List Value}{L2:List zZ}(hT:je P T=some (gg,n,xf,z))(hi:L[i]? =some (.zM g E cs))(e:(o.op,o.dst,o.guard,ev F x,ev F y,Nat.beq vs.length n,Nat.ble (q+n) cs.length,dr (kf cs q vs),fl L i (.zM g E YR))=(.store T x y,none,none,some (.pointer (some ⟨g,q,none⟩)),some (.agg vs.toArray),true,true,some YR,some L2))(h1:vs.all (·.oneCell')=true)
  (k:∀a w,St N K W a w F L2->wpList P ops Q rest a w):∀a w,St N K W a w F L->wpList P ops Q (o::rest) a w:=by
 simp only [qO] at e
 obtain ⟨e1,e2,e3,e4,e5,e6,e7,e8,e9⟩:=e
 intro a w h
 refine zL (j3 (vs:=vs) h hT e1 e2 e4 e5 hi (by simp [Value.cells]) (XS e6) h1 (y5 e7) (ba e8)) (zg e3 _) λa' w' h' =>?_
 rw [H4 e9] at h'
 exact k _ _ h'
theorem XV (e:(o.op,o.dst,o.guard,ev F x,Nat.blt d N)=(.box T x,some d,none,some v,true))(hv:v.cells=cs.toArray)(k:∀(b:Nat) (a:Act) (w:World),St N K W a w ((d,.pointer (some ⟨b,0,none⟩))::F) (.zM b T cs::L)->wpList P ops Q rest a w):∀a w,St N K W a w F L->wpList P ops Q (o::rest) a w:=by
 simp only [qO] at e
 intro a w h
 exact zL (ai h e.1 e.2.2.2.1 hv e.2.1 e.2.2.2.2) (zg e.2.2.1 _) λa w ⟨b,h⟩=>k b a w h
theorem XK {α:Type}[zz α][Flat α]{s:Ls α}{i j:Nat}{gg:Bool}{L2:List zZ}(r:Nat)(x' :α)(hT:je P T=some (gg,1,xf,z))(hi:i<s.l.length)(e:(o.op,o.dst,o.guard,L[r]?,ev F x,ev F y,zz.sz α,Nat.blt j sz,fl L r (.own E ⟨s.v,s.l.set i x'⟩))=(.store T x y,none,none,some (.own E s),some (.pointer (some (ja s.v sz i j))),some v,sz,true,some L2))(h1:v.oneCell' =true)
  (k:∀a w,St N K W a w F L2->wpList P ops Q rest a w) (hx:∀q,q<sz->zz.cell x' q=if q=j then v else zz.cell (nth s.l i) q:=by intro q hq;rcases q with _|_|_|_|q<;>first|rfl|omega):∀a w,St N K W a w F L->wpList P ops Q (o::rest) a w:=by
 simp only [qO] at e
 obtain ⟨e1,e2,e3,e4,e5,e6,e7,e8,e9⟩:=e
 intro a w h
 refine zL (ei h hT e1 e2 e5 e7 e4 hi (by simpa [yV] using e8) e6 (y7 h1) h1 hx (λw h=>Flat.inner _ _) (λb hb=>(Flat.on _ _ hb).elim)) (zg e3 _) λa' w' h' =>?_
 rw [H4 e9] at h'
 exact k _ _ h'
theorem gtr {α β:Type}[zz α][Flat α][zz β]{s:Ls α}{u:Ls β}{i j:Nat}{gg:Bool}{L2:List zZ}(r:Nat)(x' :α)(hT:je P T=some (gg,1,xf,z))(hi:i<s.l.length)(hat:∀w,Sh K W w L->u.At w)(e:(o.op,o.dst,o.guard,L[r]?,ev F x,ev F y,zz.sz α,Nat.blt j sz,fl L r (.own E ⟨s.v,s.l.set i x'⟩))=(.store T x y,none,none,some (.own E s),some (.pointer (some (ja s.v sz i j))),some u.v,sz,true,some L2))
 (k:∀a w,St N K W a w F L2->wpList P ops Q rest a w) (hx:∀q,q<sz->zz.cell x' q=if q=j then u.v else zz.cell (nth s.l i) q:=by intro q hq;rcases q with _|_|_|_|q<;>first|rfl|omega):∀a w,St N K W a w F L->wpList P ops Q (o::rest) a w:=λa w h=>XK r x' hT hi e (hat w h.sh).one k hx a w h
theorem gQ {f:Nat}{fo:Operand}{xs:List Operand}{HD:Array TypeId}{us vs ws:List Value}{R:Value->World->Prop}(h:St N K W a w F L)(hb:zN P f=true)(e:(o.op,o.dst,Nat.blt d N,ev F fo,G1 F xs)=(.call ⟨.value fo,xs.toArray,HD⟩,some d,true,some (.func (.func f) us.toArray ws.toArray),some vs))(hc:zP P f (us++vs++ws) w R):Ex P o a w (λa' w' =>∃v,R v w' /\Fr N a' ((d,v)::F)):=by
 simp only [qO] at e
 exact zD h hb e.1 e.2.2.2.1 e.2.2.2.2 e.2.1 e.2.2.1 hc
theorem gP (hx:∀a w,St N K W a w F L->Ex P o a w (λa' w' =>∃u,(u=v/\qM w w' [])/\Fr N a' ((d,u)::F)))(hg:o.guard=none)(k:∀a w,St N K W a w ((d,v)::F) L->wpList P ops Q rest a w):∀a w,St N K W a w F L->wpList P ops Q (o::rest) a w:=
 λ_ w h=>zL (hx _ w h) (zg hg _) λa w' ⟨u,⟨hu,hs⟩,hf⟩=>by subst hu;exact k a w' ⟨hf,h.sh.jv hs⟩
def tK :List zZ->Nat->Option (List zZ×List zZ)
 |l,0=>some ([],l)
 | [],_+1=>none
 |A::r,n+1=>match tK r n with
  |some (p,q)=>some (A::p,q)
  |none=>none
theorem b7 :∀ {L:List zZ} {n:Nat} {Lp Lr:List zZ},tK L n=some (Lp,Lr)->L=Lp++Lr
 |l,0,_,_,h=>by unfold tK at h;cases h;rfl
 | [],_+1,_,_,h=>by cases h
 |A::r,n+1,_,_,h=>by
  unfold tK at h
  split at h
  ·next p q hp=>cases h;rw [b7 hp];rfl
  ·cases h
def UG :List zZ->List zZ->Option (List zZ)
 | [],M=>some M
 |A::r,M=>match UG r M with
  |some l=>some (A::l)
  |none=>none
theorem Ru :∀ {L M L' :List zZ},UG L M=some L' ->L++M=L'
 | [],M,_,h=>by unfold UG at h;cases h;rfl
 |A::r,M,_,h=>by
  unfold UG at h
  split at h
  ·next l hl=>cases h;rw [QQ,Ru hl]
  ·cases h
theorem mY {Lp Lr:List zZ}(m:Nat)(h:St N K W a w F L)(eL:tK L m=some (Lp,Lr)):Sh (λb=>∃A∈Lp,A.fp b) w w Lp:=by
 have:=h.sh
 rw [b7 eL] at this
 exact this.yT
theorem gM {Rr:World->Value->World->Prop}{Lp Lr:List zZ}(m:Nat)(eL:tK L m=some (Lp,Lr))(hx:∀a w,St N K W a w F L->Ex P o a w (λa' w' =>∃v,Rr w v w' /\Fr N a' ((d,v)::F)))(hg:o.guard=none)
  (k:∀w v w',Rr w v w' ->∃L' L2,Sh (λb=>∃A∈Lp,A.fp b) w w' L' /\HU L' Lp/\UG L' Lr=some L2/\∀a,St N K W a w' ((d,v)::F) L2->wpList P ops Q rest a w'):∀a w,St N K W a w F L->wpList P ops Q (o::rest) a w:=
 λ_ w h=>zL (hx _ w h) (zg hg _) λa w' ⟨v,hr,hf⟩=>by
  obtain ⟨L',L2,hs,hi,e,k⟩:=k _ _ _ hr
  have h0:=h.sh
  rw [b7 eL] at h0
  have:=h0.VF hs
  rw [Ru e] at this
  exact k a ⟨hf,this⟩
theorem oQ {Lp Lr L' L2:List zZ}{w w' :World}{X:Act->Prop}{F:List (Nat×Value)}[hi:HU L' Lp](hs:Sh (λb=>∃A∈Lp,A.fp b) w w' L')(e:UG L' Lr=some L2)(k:∀a,St N K W a w' F L2->X a):∃L' L2,Sh (λb=>∃A∈Lp,A.fp b) w w' L' /\HU L' Lp/\UG L' Lr=some L2/\∀a,St N K W a w' F L2->X a:=⟨_,_,hs,hi,e,k⟩
theorem gC {Rr:World->Value->World->Prop}(hx:∀a w,St N K W a w F L->Ex P o a w (λa' w' =>∃v,Rr w v w' /\Fr N a' ((d,v)::F)))(hg:o.guard=none)
  (k:∀w v w',Rr w v w' ->∃L' L2,qM w w' L' /\JX L' /\UG L' L=some L2/\∀a,St N K W a w' ((d,v)::F) L2->wpList P ops Q rest a w'):∀a w,St N K W a w F L->wpList P ops Q (o::rest) a w:=
 λ_ w h=>zL (hx _ w h) (zg hg _) λa w' ⟨v,hr,hf⟩=>by
  obtain ⟨L',L2,hs,hi,e,k⟩:=k _ _ _ hr
  have:=h.sh.Hj hs
  rw [Ru e] at this
  exact k a ⟨hf,this⟩
theorem dZ {L' L2 M:List zZ}{w w' :World}{X:Act->Prop}{F:List (Nat×Value)}[hi:JX L'](hs:qM w w' L')(e:UG L' M=some L2)(k:∀a,St N K W a w' F L2->X a):∃L' L2,qM w w' L' /\JX L' /\UG L' M=some L2/\∀a,St N K W a w' F L2->X a:=⟨_,_,hs,hi,e,k⟩
theorem gU {w:World}(k:∀a w,St N K W a w F L->R a w):∀a,St N K W a w F L->R a w:=λa h=>k a w h
theorem qP {Z:Act->Prop}{f:Nat}{fo:Operand}{xs:List Operand}{HD:Array TypeId}{us vs ws:List Value}(hb:zN P f=true)(e:(o.op,o.guard,o.dst,Nat.blt d N,ev F fo,G1 F xs)=(.call ⟨.value fo,xs.toArray,HD⟩,none,some d,true,some (.func (.func f) us.toArray ws.toArray),some vs))(hc:∀w,Sh K W w L->zP P f (us++vs++ws) w (λv' w' =>v' =v/\qM w w' []))
  (k:∀a,Fr N a ((d,v)::F)->wpQuiet P ops (λw=>Sh K W w L) Z rest a):∀a,Fr N a F->wpQuiet P ops (λw=>Sh K W w L) Z (o::rest) a:=by
 simp only [qO] at e
 exact λa h=>bP h hb e.1 e.2.2.2.2.1 e.2.2.2.2.2 (zg e.2.1 _) e.2.2.1 e.2.2.2.1 hc k
end
theorem aO {α:Type}[zz α]{E:TypeId}{s:Ls α}(i:Nat)(hi:L[i]? =some (.own E s)):∀w,Sh K W w L->s.At w:=λw h=>h.own i hi
theorem aA {α:Type}[zz α]{s:Ls α}(i:Nat)(hi:L[i]? =some (.at_ s)):∀w,Sh K W w L->s.At w:=λw h=>h.at i hi
theorem aD {α:Type}[zz α]{E:TypeId}{s:Ls α}(i:Nat)(hi:L[i]? =some (.deep E s)):∀w,Sh K W w L->s.At w:=λw h=>h.deep i hi
end
def slotsOf (o:Oper):List Nat:=o.op.operands.toList.filterMap λx=>match x with
 | .tmp t=>some t
 |_=>none
theorem eY {o:Oper}{t:Nat}(h:Operand.tmp t∈o.op.operands):t∈slotsOf o:=List.mem_filterMap.2 ⟨.tmp t,by simpa using h,V⟩
def fill (a:Act):List (Nat×Value)->Act
 | []=>a
 |(t,v)::F=>(fill a F).put (some t) v
section
variable {P:Program}{N:Nat}{K:Nat->Prop}{W w:World}{a:Act}{F F' :List (Nat×Value)}{L:List zZ}{o:Oper}{l os:List Oper}{ops:Array Oper}{Q:Exit->Act->World->Prop}
theorem Wc :∀F:List (Nat×Value),(fill a F).tmps.size=a.tmps.size
 | []=>rfl
 |(t,v)::F=>by simp [fill,Act.put,Wc F]
theorem Hb :∀F:List (Nat×Value),(fill a F).defers=a.defers
 | []=>rfl
 |(t,v)::F=>by simp [fill,Act.put,Hb F]
theorem dw :∀ {F:List (Nat×Value)},(∀x∈F,x.1<a.tmps.size)->∀t v,lk F t=some v->(fill a F).tmps[t]? =some v
 | [],_,_,_,h=>by cases h
 |(u,x)::F,hF,t,v,h=>by
  rw [vv] at h
  simp only [fill,Act.put,wG]
  by_cases e:u=t
  ·subst e
   have:=hF _ xx
   simp only [if_true] at h
   cases h
   simp [Wc,this]
  ·rw [if_neg e] at h⊢
   exact dw (λx hx=>hF x (xe _ hx)) t v h
theorem sS :∀ {F:List (Nat×Value)} {t:Nat},lk F t=none->(fill a F).tmps[t]? =a.tmps[t]?
 | [],_,_=>rfl
 |(u,x)::F,t,h=>by
  rw [vv] at h
  by_cases e:u=t
  ·simp [e] at h
  ·rw [if_neg e] at h
   simp only [fill,Act.put,wG,if_neg e]
   exact sS h
theorem dv (hs:a.tmps.size=N)(hd:a.defers= [])(hF:∀x∈F,x.1<N):Fr N (fill a F) F:=⟨by rw [Wc,hs],by rw [Hb,hd],dw (by rw [hs];exact hF)⟩
theorem bh (hF:∀x∈F,x.1<a.tmps.size)(h:∀t∈slotsOf o,∀v,lk F t=some v->a.tmps[t]? =some v):∀x∈o.op.operands,(fill a F).eval x=a.eval x:=by
 intro x hx
 cases x with
 |tmp t=>
  simp only [Act.eval,x7]
  cases hl:lk F t with
  |none=>rw [sS hl]
  |some v=>rw [dw hF t v hl,h t (eY hx) v hl]
 |const c=>rfl
 |global g=>rfl
 |func f=>rfl
def fO (o:Oper):Bool:=match o.op with
 | .select _ _=>false
 |_=>true
theorem fM (h:fO o=true):∀cs b,o.op≠ .select cs b:=by
 intro cs b e
 simp [fO,e] at h
structure PhF (P:Program)(N:Nat)(K:Nat->Prop)(W:World)(L:List zZ)(F:List (Nat×Value))(o:Oper)(d:Nat)(v:Value):Prop where
 dst:o.dst=some d
 lt:d<N
 at_:lk F d=some v
 run:∀(a:Act) (w:World),a.tmps.size=N->a.defers= []->(∀t∈slotsOf o,∀u,lk F t=some u->a.tmps[t]? =some u)->Sh K W w L->(execOp a.eval o).run P w= .ok (.value v) w
def cy :List Oper->Bool
 | []=>true
 |o::r=>fO o&&o.guard.isNone&&((o::r).all λx=>match x.dst with
  |some d=>(slotsOf o).all λt=> !Nat.beq d t
  |none=>true)&&(r.all λx=>match x.dst,o.dst with
  |some d,some e=> !Nat.beq d e
  |_,_=>true)&&cy r
theorem qc.yB (r:qc P ops N K W L os F [] F'):∀t,(∀o∈os,o.dst≠some t)->lk F' t=lk F t:=by
 generalize hr:([]:List Oper)=rest at r
 induction r with
 |nl=>intros;rfl
 |cn _ _ hd _ _ ih=>
  intro t ht
  rw [ih hr t λo ho=>ht o (xe _ ho),vv,if_neg λe=>ht _ xx (by rw [hd,e])]
 |sk _ hd _ _ ih=>
  intro t ht
  rw [ih hr t λo ho=>ht o (xe _ ho),vv,if_neg λe=>ht _ xx (by rw [hd,e])]
theorem qc.fN {rest:List Oper}(r:qc P ops N K W L os F rest F'):(∀x∈F,x.1<N)->∀x∈F',x.1<N:=by
 induction r with
 |nl=>exact id
 |cn _ _ _ hN _ ih=>exact λh=>ih λx hx=>(List.mem_cons.1 hx).elim (λe=>by rw [e];simpa [yV] using hN) (h x)
 |sk _ _ hN _ ih=>exact λh=>ih λx hx=>(List.mem_cons.1 hx).elim (λe=>by rw [e];simpa [yV] using hN) (h x)
theorem qc.pf {a0:Act}(h0:a0.tmps.size=N)(h1:a0.defers= [])(r:qc P ops N K W L os F [] F'):cy os=true->(∀x∈F,x.1<N)->∀o∈os,∃d v,PhF P N K W L F' o d v:=by
 generalize hr:([]:List Oper)=rest at r
 induction r with
 |nl=>intro _ _ o ho;subst hr;cases ho
 |cn hrn hw hd hN k ih=>
  subst hr
  rename_i o l F F' d v
  intro hB hF x hx
  simp only [cy,qI] at hB
  obtain ⟨⟨⟨⟨hs,hg⟩,hu⟩,hdd⟩,hB⟩:=hB
  have hN' :d<N:=by simpa [yV] using hN
  have sD:∀x∈(d,v)::F,x.1<N:=λx hx=>(List.mem_cons.1 hx).elim (λe=>by rw [e];exact hN') (hF x)
  rcases List.mem_cons.1 hx with rfl|hx
  ·have Xq:∀t∈slotsOf x,∀y∈x::l,y.dst≠some t:=by
    intro t ht y hy e
    have:=List.all_eq_true.1 hu y hy
    rw [e] at this
    have:=List.all_eq_true.1 this t ht
    simp at this
   refine ⟨d,v,hd,hN',?_,λa w x3 l7 hsl hsh=>?_⟩
   ·rw [k.yB d λy hy e=>?_,vv,if_pos V]
    have:=List.all_eq_true.1 hdd y hy
    rw [e,hd] at this
    simp at this
   ·have hev:=bh (a:=a) (F:=F) (o:=x) (by rw [x3];exact hF) λt ht u hu=>hsl t ht u (by
     rw [k.yB t λy hy=>Xq t ht y (xe _ hy),vv,if_neg λe=>Xq t ht x xx (by rw [hd,e])];exact hu)
    have:=hrn (fill a F) w ⟨dv x3 l7 hF,hsh⟩
    rwa [execOp_congr x (fM hs) hev] at this
  ·exact ih V hB sD x hx
 |sk hw hd hN k ih=>
  intro hB hF x hx
  rename_i o l F F' d
  simp only [cy,qI] at hB
  obtain ⟨⟨⟨⟨hs,hg⟩,hu⟩,hdd⟩,hB⟩:=hB
  have:=hw _ (dv h0 h1 hF)
  rw [zg (by simpa using hg)] at this
  cases this
theorem Ex.move {b:Act}{R:Act->World->Prop}(h:Ex P o b w R)(he:execOp b.eval o=execOp a.eval o):Ex P o a w (λa' w' =>∃b',R b' w' /\(∃v,b'.tmps=(b.put o.dst v).tmps/\a'.tmps=(a.put o.dst v).tmps)/\(b'.defers= []->a.defers= []->a'.defers= [])):=by
 intro next Q hn
 have h1:=h R (λe _ w=>Q e a w) (λ_ _ h=>h)
 unfold Oper.wp at h1⊢
 rw [he] at h1
 generalize (execOp a.eval o).run P w=r at h1⊢
 have l7:∀v,(a.put o.dst v).defers=a.defers:=λv=>by cases o.dst<;>rfl
 cases r with
 |halt x w' =>cases x<;>exact h1
 |ok n w' =>
  cases n
  case value v=>exact hn _ _ ⟨_,h1,⟨v,V,V⟩,λ_ e=>by rw [l7,e]⟩
  case skip=>exact hn _ _ ⟨_,h1,⟨undef,V,V⟩,λ_ e=>by rw [l7,e]⟩
  case defer d=>exact hn _ _ ⟨_,h1,⟨undef,by cases o.dst<;>rfl,by cases o.dst<;>rfl⟩,λe=>by cases ho:o.dst<;>simp [ho,Act.put] at e⟩
  case enter f args=>
   refine gJ h1 λe w'' he=>?_
   cases e with
   |returned v=>exact hn _ _ ⟨_,he,⟨v,V,V⟩,λ_ e=>by rw [l7,e]⟩
   |panicked c=>exact he
   |outgrown=>obtain ⟨_,w3,h3⟩:=he;exact ⟨_,w3,h3⟩
  case row r args=>exact Rows.mono h1 λv w'' he=>hn _ _ ⟨_,he,⟨v,V,V⟩,λ_ e=>by rw [l7,e]⟩
  all_goals exact h1
def UT (l:List Oper):List Nat->Option (List Oper)
 | []=>some []
 |i::r=>match l[i]? with
  |some o=>match UT l r with
   |some os=>some (o::os)
   |none=>none
  |none=>none
theorem aG :∀ {is:List Nat} {os:List Oper},UT l is=some os->(∀o∈os,∃i∈is,l[i]? =some o)/\∀i∈is,∃o∈os,l[i]? =some o
 | [],os,h=>by cases h;exact ⟨λo ho=>(by cases ho),λo ho=>(by cases ho)⟩
 |i::r,os,h=>by
  unfold UT at h
  split at h
  ·rename_i o ho
   split at h
   ·rename_i os' FT
    cases h
    obtain ⟨h1,h2⟩:=aG FT
    refine ⟨λx hx=>?_,λj hj=>?_⟩
    ·rcases List.mem_cons.1 hx with rfl|hx
     ·exact ⟨i,xx,ho⟩
     ·obtain ⟨j,hj,e⟩:=h1 x hx
      exact ⟨j,xe _ hj,e⟩
    ·rcases List.mem_cons.1 hj with rfl|hj
     ·exact ⟨o,xx,ho⟩
     ·obtain ⟨x,hx,e⟩:=h2 j hj
      exact ⟨x,xe _ hx,e⟩
   ·cases h
  ·cases h
def Bf (l:List Oper)(ws done rem is:List Nat):Bool:=(List.range l.length).all λi=>ws.any (Nat.beq i)||is.any (Nat.beq i)||(rem.any λw=>Kx l i w)||done.any λw=>Kx l w i
def Si (l:List Oper)(o:Oper):Bool:=(slotsOf o).all λt=>(l.all λx=>match x.dst with
  |some d=> !Nat.beq d t
  |none=>true)||o.after.any λe=>Region.binds .any e&&match l[e.on]? with
 |some x=>(match x.dst with
  |some d=>Nat.beq d t
  |none=>false)
 |none=>false
def Sj (l:List Oper)(t:Nat):Prop:=∀o∈l,o.dst≠some t
def LC :List Oper->Bool
 | []=>true
 |o::r=>(r.all λx=>match x.dst,o.dst with
  |some d,some e=> !Nat.beq d e
  |_,_=>true)&&LC r
theorem Rm :∀ {l:List Oper} {i j:Nat} {x y:Oper} {d:Nat},LC l=true->l[i]? =some x->l[j]? =some y->x.dst=some d->y.dst=some d->i=j
 | [],i,_,_,_,_,_,h,_,_,_=>by simp at h
 |o::r,i,j,x,y,d,hB,hi,hj,hx,hy=>by
  simp only [LC,qI] at hB
  match i,j with
  |0,0=>rfl
  |i+1,j+1=>
   rw [JT] at hi hj
   exact congrArg (· +1) (Rm hB.2 hi hj hx hy)
  |0,j+1=>
   simp only [bK,Qx,JT] at hi hj
   subst hi
   have:=List.all_eq_true.1 hB.1 y (zy hj)
   rw [hx,hy] at this
   simp at this
  |i+1,0=>
   simp only [bK,Qx,JT] at hi hj
   subst hj
   have:=List.all_eq_true.1 hB.1 x (zy hi)
   rw [hx,hy] at this
   simp at this
def dC (l:List Oper):List Nat->Bool
 | []=>true
 |w::ws=>(ws.all λx=>Kx l x w&& !Nat.beq x w)&&dC l ws
def zgg (l:List Oper)(ws:List Nat):Bool:=Xm l 0&&LC l&&(l.all λo=>fO o&&o.guard.isNone&&Si l o)&&dC l ws
def agA (F F' :List (Nat×Value))(os:List Oper):List (Option Value):=os.map λo=>match o.dst with
 |some d=>(match lk F d with
  |some _=>lk F' d
  |none=>none)
 |none=>none
def agB (F:List (Nat×Value))(os:List Oper):List (Option Value):=os.map λo=>match o.dst with
 |some d=>(match lk F d with
  |some v=>some v
  |none=>none)
 |none=>none
theorem zlZ (h:agA F F' os=agB F os)(ho:o∈os){d:Nat}{v:Value}(hd:o.dst=some d)(hv:lk F d=some v):lk F' d=some v:=by
 obtain ⟨i,hi⟩:=kG ho
 have:=congrArg (λl=>l[i]?) h
 simp only [agA,agB,Ht,hi,ZJ,hd,hv] at this
 exact qA this
def okF (o:Oper)(F F2:List (Nat×Value)):Prop:=match o.dst with
 |some d=>∃v,F2=(d,v)::F
 |none=>F2=F
def PhH (P:Program)(l:List Oper)(N:Nat)(K:Nat->Prop)(W:World)(Q:Exit->Act->World->Prop)(ws:List Nat)(done:List Nat):List Nat->List zZ->List (Nat×Value)->Prop
 | [],L,F=>∃is os F',UT l is=some os/\(Bf l ws done [] is&&cy os&&is.all λi=> !ws.any (Nat.beq i))=true/\qc P l.toArray N K W L os F [] F' /\agA F F' os=agB F os/\∀a w,St N K W a w F' L->Q .normal a w
 |i::rem,L,F=>∃is os F' o,UT l is=some os/\(Bf l ws done (i::rem) is&&cy os&&is.all λi=> !ws.any (Nat.beq i))=true/\qc P l.toArray N K W L os F [] F' /\agA F F' os=agB F os/\l[i]? =some o/\
  ∀a w,St N K W a w F' L->Ex P o a w (λa' w' =>∃F2 L2,St N K W a' w' F2 L2/\okF o F' F2/\PhH P l N K W Q ws (i::done) rem L2 F2)
structure PhX (P:Program)(l:List Oper)(N:Nat)(K:Nat->Prop)(W:World)(Q:Exit->Act->World->Prop)(ws done rem:List Nat)(L:List zZ)(F:List (Nat×Value)):Prop where
 fN:∀x∈F,x.1<N
 pf:∀i o,l[i]? =some o->ws.any (Nat.beq i)=false->(rem.any λw=>Kx l i w)=false->(done.any λw=>Kx l w i)=false->∃d v,PhF P N K W L F o d v
 fin:rem= []->∀a w,St N K W a w F L->Q .normal a w
 nxt:∀i r,rem=i::r->∃o,l[i]? =some o/\∀a w,St N K W a w F L->Ex P o a w (λa' w' =>∃F2 L2,St N K W a' w' F2 L2/\okF o F F2/\PhH P l N K W Q ws (i::done) r L2 F2)
structure PhJ (l:List Oper)(N:Nat)(K:Nat->Prop)(W:World)(done rem:List Nat)(L:List zZ)(F:List (Nat×Value))(S:Nat->Bool)(a:Act)(w:World):Prop where
 dn:∀i∈done,S i=true
 rm:∀i∈rem,S i=false
 sz:a.tmps.size=N
 df:a.defers= []
 out:∀t v,Sj l t->lk F t=some v->a.tmps[t]? =some v
 ins:∀i o t,l[i]? =some o->o.dst=some t->S i=true->∃v,lk F t=some v/\a.tmps[t]? =some v
 sh:Sh K W w L
theorem PhH.enter {ws done rem:List Nat}{S:Nat->Bool}(hdB:LC l=true)(h:PhH P l N K W Q ws done rem L F)(hF:∀x∈F,x.1<N)(j:PhJ l N K W done rem L F S a w):∃F',PhX P l N K W Q ws done rem L F' /\PhJ l N K W done rem L F' S a w:=by
 have key:∀(is:List Nat) (os:List Oper) (F' :List (Nat×Value)),UT l is=some os->(Bf l ws done rem is&&cy os&&is.all λi=> !ws.any (Nat.beq i))=true->qc P l.toArray N K W L os F [] F' ->agA F F' os=agB F os->
   PhJ l N K W done rem L F' S a w/\∀i o,l[i]? =some o->ws.any (Nat.beq i)=false->(rem.any λw=>Kx l i w)=false->(done.any λw=>Kx l w i)=false->∃d v,PhF P N K W L F' o d v:=by
  intro is os F' hp hB hr ha
  simp only [qI] at hB
  obtain ⟨⟨hav,hor⟩,_⟩:=hB
  obtain ⟨hm1,hm2⟩:=aG hp
  refine ⟨⟨j.dn,j.rm,j.sz,j.df,λt v ht hv=>?_,λi o t hi ho hS=>?_,j.sh⟩,λi o hi h1 h2 h3=>?_⟩
  ·rw [hr.yB t λo ho e=>?_] at hv
   ·exact j.out t v ht hv
   ·obtain ⟨q,_,hq⟩:=hm1 o ho
    exact ht o (zy hq) e
  ·obtain ⟨v,hv,hat⟩:=j.ins i o t hi ho hS
   refine ⟨v,?_,hat⟩
   by_cases FT:o∈os
   ·exact zlZ ha FT ho hv
   ·rw [hr.yB t λx hx e=>?_]
    ·exact hv
    ·obtain ⟨q,_,hq⟩:=hm1 x hx
     have:=Rm hdB hi hq ho e
     subst this
     rw [hi] at hq
     cases hq
     exact FT hx
  ·have qU:i<l.length:=(List.getElem?_eq_some_iff.1 hi).1
   have:=List.all_eq_true.1 hav i (List.mem_range.2 qU)
   rw [h1,h2,h3,Bool.false_or,Bool.or_false,Bool.or_false] at this
   obtain ⟨z,hz,h4⟩:=List.any_eq_true.1 this
   cases XS h4
   obtain ⟨x,hx,OX⟩:=hm2 i hz
   rw [hi] at OX
   cases OX
   exact hr.pf j.sz j.df hor hF o hx
 cases rem with
 |nil=>
  obtain ⟨is,os,F',hp,hB,hr,ha,hQ⟩:=h
  obtain ⟨h1,h2⟩:=key is os F' hp hB hr ha
  exact ⟨F',⟨hr.fN hF,h2,λ_=>hQ,λ_ _ e=>(by cases e)⟩,h1⟩
 |cons i rem=>
  obtain ⟨is,os,F',o,hp,hB,hr,ha,ho,hx⟩:=h
  obtain ⟨h1,h2⟩:=key is os F' hp hB hr ha
  exact ⟨F',⟨hr.fN hF,h2,λe=>(by cases e),λ_ _ e=>(by cases e;exact ⟨o,ho,hx⟩)⟩,h1⟩
theorem bC {S:Nat->Bool}{i j:Nat}(qg:jw l S)(ho:l[i]? =some o)(zX:∀e∈o.after,Region.binds .any e=true->S e.on=true)(h:Kx l i j=true):j=i\/S j=true:=by
 have IV:jw l (dO S i):=by
  intro q oq hq hS e he hb
  by_cases e1:q=i
  ·subst e1
   rw [ho] at hq
   cases hq
   exact Xs (zX e he hb)
  ·rw [Xd (Js e1)] at hS
   exact Xs (qg q oq hq hS e he hb)
 have:=cA IV i j h (qV S i)
 by_cases e:j=i
 ·exact .inl e
 ·rw [Xd (Js e)] at this
  exact .inr this
theorem rC {id:Nat}(ws:List Nat)(hF:(F.all λx=>Nat.blt x.1 N)=true)(hx:PhH P l N K W Q ws [] ws L F)(hm:P.follows .mixedOrders=true:=by kernel_rfl)(hB:zgg l ws=true:=by kernel_rfl):∀a w,St N K W a w F L->(Code.region id l.toArray true).wp P Q a w:=by
  intro a w h
  simp only [zgg,qI] at hB
  obtain ⟨⟨⟨hdl,hdB⟩,zO⟩,hch⟩:=hB
  have hop:∀o∈l,fO o=true/\o.guard=none/\Si l o=true:=by
    intro o ho
    have:=List.all_eq_true.1 zO o ho
    simp only [qI,jM] at this
    exact ⟨this.1.1,this.1.2,this.2⟩
  have hFN:∀x∈F,x.1<N:=λx hx=>by simpa [yV] using List.all_eq_true.1 hF x hx
  have hsl:∀ {done rem:List Nat} {L:List zZ} {F:List (Nat×Value)} {S:Nat->Bool} {a:Act} {w:World} {o:Oper},PhJ l N K W done rem L F S a w->o∈l->(∀e∈o.after,Region.binds .any e=true->S e.on=true)->∀t∈slotsOf o,∀v,lk F t=some v->a.tmps[t]? =some v:=by
    intro done rem L F S a w o j ho zX t ht v hv
    have:=List.all_eq_true.1 (hop o ho).2.2 t ht
    rw [UI] at this
    rcases this with h1|h1
    · refine j.out t v (λx hx e=>?_) hv
      have:=List.all_eq_true.1 h1 x hx
      rw [e] at this
      simp at this
    · obtain ⟨k,hk,h2⟩:=Array.any_eq_true.1 h1
      simp only [qI] at h2
      obtain ⟨hb,h2⟩:=h2
      split at h2
      · rename_i x hx
        split at h2
        · rename_i d hd
          rw [XS h2] at hd
          obtain ⟨u,hu,hat⟩:=j.ins _ x t hx hd (zX _ (Array.getElem_mem hk) hb)
          rw [hv] at hu
          cases hu
          exact hat
        · cases h2
      · cases h2
  refine Wz (λS a w=>∃done rem L F,(∀i∈ws,i∈done\/i∈rem)/\(∀i,i∈done\/i∈rem->i∈ws)/\dC l rem=true/\PhX P l N K W Q ws done rem L F/\PhJ l N K W done rem L F S a w) hm hdl ?_ ?_ ?_
  · obtain ⟨F',h1,h2⟩:=hx.enter (S:=λ_=>false) (a:=a) (w:=w.drew) hdB hFN ⟨λi hi=>(by cases hi),λ_ _=>rfl,h.fr.size,h.fr.defers,λt v _ hv=>h.fr.at_ t v hv,λ_ _ _ _ _ hS=>(by cases hS),h.sh.drew⟩
    exact ⟨[],ws,L,F',λi hi=> .inr hi,λi hi=>hi.elim (λh=>by cases h) (λh=>h),hch,h1,h2⟩
  · rintro S i o ho qn qg zX a w ⟨done,rem,L,F,Oq,hw2,uO,px,j⟩
    have Vr:=zy ho
    obtain ⟨F6,hg,_⟩:=hop o Vr
    have zho:=hsl j Vr zX
    by_cases hir:i∈rem
    ·
      cases rem with
      |nil=>cases hir
      |cons i0 r=>
        simp only [dC,qI] at uO
        have hi0:i=i0:=by
          rcases List.mem_cons.1 hir with e|hr
          · exact e
          · exfalso
            have:=List.all_eq_true.1 uO.1 i hr
            simp only [qI,wE] at this
            rcases bC qg ho zX this.1 with e|e
            · rw [e] at this;simp at this
            · rw [j.rm i0 xx] at e;cases e
        subst hi0
        obtain ⟨o',Dt,hx⟩:=px.nxt i r V
        rw [ho] at Dt
        cases Dt
        have sD:∀x∈F,x.1<a.tmps.size:=by rw [j.sz];exact px.fN
        have hev:=bh (o:=o) sD zho
        have hEx:=(hx (fill a F) w ⟨dv j.sz j.df px.fN,j.sh⟩).move (execOp_congr o (fM F6) hev)
        unfold Jw
        rw [if_pos (zg hg _)]
        refine hEx _ _ λa' w' ⟨b',⟨F2,L2,hst,zR,hph⟩,⟨v,hb,ha⟩,l7⟩=>?_
        have zpL:a'.tmps.size=N:=by rw [ha];cases o.dst<;>simp [Act.put,j.sz]
        have zkQ:∀x∈F2,x.1<N:=by
          unfold okF at zR
          split at zR
          · rename_i d hd
            obtain ⟨v2,rfl⟩:=zR
            intro x hx
            rcases List.mem_cons.1 hx with rfl|hx
            · have h1:=hst.fr.at_ d v2 (by rw [vv,if_pos V])
              obtain ⟨h2,_⟩:=Array.getElem?_eq_some_iff.1 h1
              rw [hst.fr.size] at h2
              exact h2
            · exact px.fN x hx
          · rw [zR];exact px.fN
        have ziq:∀t,o.dst≠some t->lk F2 t=lk F t/\a'.tmps[t]? =a.tmps[t]? :=by
          intro t ht
          refine ⟨?_,?_⟩
          · unfold okF at zR
            split at zR
            · rename_i d hd
              obtain ⟨v2,rfl⟩:=zR
              rw [vv,if_neg λe=>ht (by rw [hd,e])]
            · rw [zR]
          · rw [ha]
            cases hd:o.dst with
            |none=>rfl
            |some d=>
              simp only [Act.put,wG]
              rw [if_neg λe=>ht (by rw [hd,e])]
        have hJ:PhJ l N K W (i::done) r L2 F2 (dO S i) a' w' :=by
          refine ⟨λq hq=>?_,λq hq=>?_,zpL,l7 hst.fr.defers j.df,λt u ht hu=>?_,λq x t hq MM hS=>?_,hst.sh⟩
          · rcases List.mem_cons.1 hq with rfl|hq
            · exact qV _ _
            · exact Xs (j.dn q hq)
          · have h1:=List.all_eq_true.1 uO.1 q hq
            simp only [qI,wE] at h1
            rw [Xd h1.2]
            exact j.rm q (xe _ hq)
          · obtain ⟨h1,h2⟩:=ziq t (ht o Vr)
            rw [h2]
            rw [h1] at hu
            exact j.out t u ht hu
          · by_cases e:q=i
            · subst e
              rw [ho] at hq
              cases hq
              unfold okF at zR
              rw [MM] at zR
              obtain ⟨v2,rfl⟩:=zR
              have h1:=hst.fr.at_ t v2 (by rw [vv,if_pos V])
              refine ⟨v2,by rw [vv,if_pos V],?_⟩
              have qU:t<N:=zkQ _ xx
              rw [hb,MM] at h1
              rw [ha,MM]
              simp only [Act.put,wG,if_true,Wc,j.sz,qU] at h1⊢
              exact h1
            · rw [Xd (Js e)] at hS
              have Qo:o.dst≠some t:=λh2=>e (Rm hdB hq ho MM h2)
              obtain ⟨h1,h2⟩:=ziq t Qo
              rw [h1,h2]
              exact j.ins q x t hq MM hS
        obtain ⟨F3,h1,h2⟩:=hph.enter hdB zkQ hJ
        refine ⟨i::done,r,L2,F3,λq hq=>?_,λq hq=>?_,uO.2,h1,h2⟩
        · rcases Oq q hq with h3|h3
          · exact .inl (xe _ h3)
          · rcases List.mem_cons.1 h3 with rfl|h3
            · exact .inl xx
            · exact .inr h3
        · rcases hq with hq|hq
          · rcases List.mem_cons.1 hq with rfl|hq
            · exact hw2 _ (.inr xx)
            · exact hw2 _ (.inl hq)
          · exact hw2 _ (.inr (xe _ hq))
    ·
      have hiw:ws.any (Nat.beq i)=false:=by
        cases hb:ws.any (Nat.beq i) with
        |false=>rfl
        |true=>
          obtain ⟨z,hz,h3⟩:=List.any_eq_true.1 hb
          cases XS h3
          rcases Oq i hz with h4|h4
          · rw [j.dn i h4] at qn;cases qn
          · exact absurd h4 hir
      have h2:(rem.any λw=>Kx l i w)=false:=by
        cases hb:rem.any λw=>Kx l i w with
        |false=>rfl
        |true=>
          obtain ⟨z,hz,h3⟩:=List.any_eq_true.1 hb
          rcases bC qg ho zX h3 with e|e
          · rw [e] at hz;exact absurd hz hir
          · rw [j.rm z hz] at e;cases e
      have h3:(done.any λw=>Kx l w i)=false:=by
        cases hb:done.any λw=>Kx l w i with
        |false=>rfl
        |true=>
          obtain ⟨z,hz,h3⟩:=List.any_eq_true.1 hb
          rw [cA qg z i h3 (j.dn z hz)] at qn
          cases qn
      obtain ⟨d,v,pf⟩:=px.pf i o ho hiw h2 h3
      unfold Jw
      rw [if_pos (zg hg _)]
      unfold Oper.wp
      rw [pf.run a w j.sz j.df zho j.sh]
      show∃done rem L F,_
      refine ⟨done,rem,L,F,Oq,hw2,uO,px,λq hq=>Xs (j.dn q hq),λq hq=>?_,?_,?_,λt u ht hu=>?_,λq x t hq MM hS=>?_,j.sh⟩
      · rw [Xd (Js λe=>hir (by rw [<-e];exact hq))]
        exact j.rm q hq
      · rw [pf.dst];simp [Act.put,j.sz]
      · rw [pf.dst];exact j.df
      · have Qo:d≠t:=λe=>ht o Vr (by rw [pf.dst,e])
        rw [pf.dst]
        simp only [Act.put,wG,if_neg Qo]
        exact j.out t u ht hu
      · by_cases e:q=i
        · subst e
          rw [ho] at hq
          cases hq
          rw [pf.dst] at MM
          cases MM
          refine ⟨v,pf.at_,?_⟩
          rw [pf.dst]
          simp [Act.put,wG,j.sz,pf.lt]
        · rw [Xd (Js e)] at hS
          obtain ⟨u,hu,hat⟩:=j.ins q x t hq MM hS
          refine ⟨u,hu,?_⟩
          have Qo:d≠t:=λe2=>e (Rm hdB hq ho MM (by rw [pf.dst,e2]))
          rw [pf.dst]
          simp only [Act.put,wG,if_neg Qo]
          exact hat
  · rintro S zO a w ⟨done,rem,L,F,Oq,hw2,uO,px,j⟩
    have zpV:rem= []:=by
      cases rem with
      |nil=>rfl
      |cons i r=>
        obtain ⟨o,ho,_⟩:=px.nxt i r V
        have:=zO i (List.getElem?_eq_some_iff.1 ho).1
        rw [j.rm i xx] at this
        cases this
    refine px.fin zpV a w ⟨⟨j.sz,j.df,λt v hv=>?_⟩,j.sh⟩
    by_cases hn:Sj l t
    · exact j.out t v hn hv
    · have:∃o,o∈l/\o.dst=some t:=by
        apply Classical.byContradiction
        intro h1
        exact hn λo ho e=>h1 ⟨o,ho,e⟩
      obtain ⟨o,ho,hd⟩:=this
      obtain ⟨i,hi⟩:=kG ho
      obtain ⟨u,hu,hat⟩:=j.ins i o t hi hd (zO i (List.getElem?_eq_some_iff.1 hi).1)
      rw [hv] at hu
      cases hu
      exact hat
section
variable {ws done rem is:List Nat}{i d:Nat}{v:Value}{F2:List (Nat×Value)}{L2:List zZ}{Φ:List zZ->List (Nat×Value)->Prop}
theorem pE (is:List Nat)(e:UT l is=some os)(r:qc P l.toArray N K W L os F [] F')(ha:agA F F' os=agB F os)(k:∀a w,St N K W a w F' L->Q .normal a w)(hB:(Bf l ws done [] is&&cy os&&is.all λi=> !ws.any (Nat.beq i))=true:=by kernel_rfl):PhH P l N K W Q ws done [] L F:=⟨is,os,F',e,hB,r,ha,k⟩
theorem pR (is:List Nat)(e:(UT l is,l[i]?)=(some os,some o))(r:qc P l.toArray N K W L os F [] F')(ha:agA F F' os=agB F os)
  (k:∀a w,St N K W a w F' L->Ex P o a w (λa' w' =>∃F2 L2,St N K W a' w' F2 L2/\okF o F' F2/\PhH P l N K W Q ws (i::done) rem L2 F2)) (hB:(Bf l ws done (i::rem) is&&cy os&&is.all λi=> !ws.any (Nat.beq i))=true:=by kernel_rfl):PhH P l N K W Q ws done (i::rem) L F:=by
 simp only [qO] at e
 exact ⟨is,os,F',o,e.1,hB,r,ha,e.2,k⟩
theorem fH (hd:o.dst=some d):okF o F ((d,v)::F):=by unfold okF;rw [hd];exact ⟨v,V⟩
theorem pS (hx:∀a w,St N K W a w F L->Ex P o a w (λa' w' =>St N K W a' w' F L2))(hd:o.dst=none)(k:Φ L2 F):∀a w,St N K W a w F L->Ex P o a w (λa' w' =>∃F2 L2,St N K W a' w' F2 L2/\okF o F F2/\Φ L2 F2):=
 λa w h=>(hx a w h).mono λa' w' h' =>⟨F,L2,h',by unfold okF;rw [hd],k⟩
theorem pX {α:Type}{v:α->Value}{L2:α->List zZ}(hx:∀a w,St N K W a w F L->Ex P o a w (λa' w' =>∃b:α,St N K W a' w' ((d,v b)::F) (L2 b)))(hd:o.dst=some d)(k:∀b,Φ (L2 b) ((d,v b)::F)):∀a w,St N K W a w F L->Ex P o a w (λa' w' =>∃F2 L2,St N K W a' w' F2 L2/\okF o F F2/\Φ L2 F2):=
 λa w h=>(hx a w h).mono λa' w' ⟨b,h'⟩=>⟨_,L2 b,h',fH hd,k b⟩
theorem pC {Rr:World->Value->World->Prop}(hx:∀a w,St N K W a w F L->Ex P o a w (λa' w' =>∃v,Rr w v w' /\Fr N a' ((d,v)::F)))(hd:o.dst=some d)
  (k:∀w v w',Rr w v w' ->∃L' L2,qM w w' L' /\JX L' /\UG L' L=some L2/\Φ L2 ((d,v)::F)):∀a w,St N K W a w F L->Ex P o a w (λa' w' =>∃F2 L2,St N K W a' w' F2 L2/\okF o F F2/\Φ L2 F2):=
 λa w h=>(hx a w h).mono λa' w' ⟨v,hr,hf⟩=>by
  obtain ⟨L',L2,hs,hi,e,k⟩:=k _ _ _ hr
  have:=h.sh.Hj hs
  rw [Ru e] at this
  exact ⟨_,L2,⟨hf,this⟩,fH hd,k⟩
theorem pWk {L' L2 M:List zZ}{w w' :World}{X:List zZ->Prop}[hi:JX L'](hs:qM w w' L')(e:UG L' M=some L2)(k:X L2):∃L' L2,qM w w' L' /\JX L' /\UG L' M=some L2/\X L2:=⟨_,_,hs,hi,e,k⟩
theorem pO (is:List Nat)(e:fc L is=some L2)(k:∀a w,St N K W a w F L2->Ex P o a w (λa' w' =>∃F2 L2,St N K W a' w' F2 L2/\okF o F F2/\Φ L2 F2)):∀a w,St N K W a w F L->Ex P o a w (λa' w' =>∃F2 L2,St N K W a' w' F2 L2/\okF o F F2/\Φ L2 F2):=λa w h=>k a w (h.zY is e)
end
end
theorem zj :je Tryz.prog 3=some (false,1,8,[.int .i64 0]):=zb
theorem w5 :je Tryz.prog 4=some (false,1,1,[.bool false]):=zb
theorem HE :je Tryz.prog 5=some (false,1,1,[.int .u8 0]):=zb
theorem ZE :je Tryz.prog 22=some (false,1,24,[.slice none 0 0]):=zb
theorem vp :QA Tryz.prog 22=some 33:=zb
theorem zV :je Tryz.prog 23=some (false,1,24,[.slice none 0 0]):=zb
theorem zt :QA Tryz.prog 23=some 3:=zb
theorem qu :je Tryz.prog 25=some (true,4,64,[.slice none 0 0,.slice none 0 0,.int .i64 0,.int .i64 0]):=zb
theorem jZ :kX Tryz.prog 25 0=some 0:=zb
theorem Gz :kX Tryz.prog 25 1=some 1:=zb
theorem Wb :kX Tryz.prog 25 2=some 2:=zb
theorem du :kX Tryz.prog 25 3=some 3:=zb
theorem kD :je Tryz.prog 26=some (false,1,8,[.int .i64 0]):=zb
theorem yR :je Tryz.prog 28=some (true,3,24,[.int .i64 0,.int .i64 0,.int .i64 0]):=zb
theorem xU :kX Tryz.prog 28 0=some 0:=zb
theorem qG :je Tryz.prog 32=some (true,4,32,[.int .i64 0,.int .i64 0,.int .i64 0,.int .i64 0]):=zb
theorem xL :kX Tryz.prog 32 0=some 0:=zb
theorem qm :kX Tryz.prog 32 1=some 1:=zb
theorem qZ :kX Tryz.prog 32 2=some 2:=zb
theorem gh :kX Tryz.prog 32 3=some 3:=zb
theorem jN :je Tryz.prog 33=some (false,1,24,[.slice none 0 0]):=zb
theorem yZ :QA Tryz.prog 33=some 32:=zb
theorem ZD :je Tryz.prog 35=some (false,1,24,[.slice none 0 0]):=zb
theorem xc :QA Tryz.prog 35=some 39:=zb
theorem yD :je Tryz.prog 39=some (true,3,56,[.int .i64 0,.slice none 0 0,.slice none 0 0]):=zb
theorem Y4 :kX Tryz.prog 39 0=some 0:=zb
theorem Y3 :kX Tryz.prog 39 1=some 1:=zb
theorem Wa :kX Tryz.prog 39 2=some 2:=zb
theorem UP :QA Tryz.prog 41=some 58:=zb
theorem an :je Tryz.prog 49=some (false,1,24,[.slice none 0 0]):=zb
theorem av :QA Tryz.prog 49=some 103:=zb
theorem Cf :je Tryz.prog 50=some (false,1,24,[.slice none 0 0]):=zb
theorem Cv :QA Tryz.prog 50=some 23:=zb
theorem V9 :kX Tryz.prog 52 0=some 0:=zb
theorem dt :kX Tryz.prog 52 1=some 1:=zb
theorem Gy :kX Tryz.prog 52 2=some 2:=zb
theorem Rk :kX Tryz.prog 52 3=some 3:=zb
theorem wW :kX Tryz.prog 52 4=some 4:=zb
theorem Jl :kX Tryz.prog 52 5=some 5:=zb
theorem eN :je Tryz.prog 58=some (true,5,40,[.int .i64 0,.int .i64 0,.int .i64 0,.int .i64 0,.int .i64 0]):=zb
theorem sP :kX Tryz.prog 58 0=some 0:=zb
theorem sO :kX Tryz.prog 58 1=some 1:=zb
theorem sN :kX Tryz.prog 58 2=some 2:=zb
theorem sM :kX Tryz.prog 58 3=some 3:=zb
theorem sL :kX Tryz.prog 58 4=some 4:=zb
theorem Cu :QA Tryz.prog 66=some 121:=zb
theorem p6 :je Tryz.prog 82=some (false,1,8,[.map none]):=zb
theorem vk :je Tryz.prog 85=some (false,1,8,[.pointer none]):=zb
theorem b2 :je Tryz.prog 103=some (false,1,8,[.pointer none]):=zb
theorem xD :je Tryz.prog 109=some (false,1,24,[.slice none 0 0]):=zb
theorem jF :QA Tryz.prog 109=some 119:=zb
theorem ly :kX Tryz.prog 111 0=some 0:=zb
theorem DV :kX Tryz.prog 111 1=some 4:=zb
theorem yg :kX Tryz.prog 111 2=some 5:=zb
theorem kn :kX Tryz.prog 111 3=some 6:=zb
theorem Zs :kX Tryz.prog 111 4=some 7:=zb
theorem Zr :kX Tryz.prog 111 5=some 8:=zb
theorem XN :kX Tryz.prog 111 6=some 9:=zb
theorem jh :je Tryz.prog 117=some (false,1,24,[.slice none 0 0]):=zb
theorem xu :QA Tryz.prog 117=some 167:=zb
theorem jg :je Tryz.prog 119=some (true,3,56,[.int .i64 0,.slice none 0 0,.slice none 0 0]):=zb
theorem YD :kX Tryz.prog 119 0=some 0:=zb
theorem GC :kX Tryz.prog 119 1=some 1:=zb
theorem yF :kX Tryz.prog 119 2=some 2:=zb
theorem bZ :je Tryz.prog 121=some (false,1,24,[.slice none 0 0]):=zb
theorem b8 :QA Tryz.prog 121=some 4:=zb
theorem W4 :je Tryz.prog 123=some (false,1,8,[.pointer none]):=zb
theorem mH :je Tryz.prog 125=some (false,1,8,[.pointer none]):=zb
theorem Cg :je Tryz.prog 148=some (false,1,8,[.pointer none]):=zb
theorem mG :je Tryz.prog 151=some (false,1,24,[.slice none 0 0]):=zb
theorem QE :QA Tryz.prog 151=some 85:=zb
theorem Yj :je Tryz.prog 153=some (true,2,48,[.slice none 0 0,.slice none 0 0]):=zb
theorem DU :kX Tryz.prog 153 0=some 0:=zb
theorem GB :kX Tryz.prog 153 1=some 1:=zb
theorem DT :kX Tryz.prog 159 0=some 0:=zb
theorem jy :je Tryz.prog 167=some (true,3,24,[.bool false,.int .i64 0,.int .i64 0]):=zb
theorem XM :kX Tryz.prog 167 0=some 0:=zb
theorem Qr :kX Tryz.prog 167 1=some 1:=zb
theorem GA :kX Tryz.prog 167 2=some 2:=zb
theorem wb :je Tryz.prog 171=some (false,1,24,[.slice none 0 0]):=zb
theorem wL :QA Tryz.prog 171=some 189:=zb
theorem mF :je Tryz.prog 173=some (true,5,80,[.nilIface,.pointer none,.slice none 0 0,.slice none 0 0,.bool false]):=zb
theorem yU :kX Tryz.prog 173 0=some 0:=zb
theorem lx :kX Tryz.prog 173 1=some 1:=zb
theorem xM :kX Tryz.prog 173 2=some 2:=zb
theorem wA :kX Tryz.prog 173 3=some 3:=zb
theorem Zq :kX Tryz.prog 173 4=some 4:=zb
theorem X9 :QA Tryz.prog 175=some 179:=zb
theorem Yi :je Tryz.prog 179=some (true,2,16,[.int .i64 0,.int .i64 0]):=zb
theorem Vw :kX Tryz.prog 179 0=some 0:=zb
theorem lv :kX Tryz.prog 179 1=some 1:=zb
theorem kW :kX Tryz.prog 182 0=some 0:=zb
theorem Zp :kX Tryz.prog 182 1=some 1:=zb
theorem jf :je Tryz.prog 183=some (false,1,24,[.slice none 0 0]):=zb
theorem j7 :QA Tryz.prog 183=some 267:=zb
theorem YC :kX Tryz.prog 185 0=some 0:=zb
theorem yE :kX Tryz.prog 185 1=some 1:=zb
theorem kI :je Tryz.prog 189=some (true,2,32,[.int .i64 0,.slice none 0 0]):=zb
theorem Qq :kX Tryz.prog 189 0=some 0:=zb
theorem XL :kX Tryz.prog 189 1=some 1:=zb
theorem G5 :je Tryz.prog 204=some (false,1,24,[.slice none 0 0]):=zb
theorem W5 :QA Tryz.prog 204=some 5:=zb
theorem zaQ :je Tryz.prog 247=some (true,65,65,[.int .u8 0,.int .u8 0,.int .u8 0,.int .u8 0,.int .u8 0,.int .u8 0,.int .u8 0,.int .u8 0,.int .u8 0,.int .u8 0,.int .u8 0,.int .u8 0,.int .u8 0,.int .u8 0,.int .u8 0,.int .u8 0,.int .u8 0,.int .u8 0,.int .u8 0,.int .u8 0,.int .u8 0,.int .u8 0,.int .u8 0,.int .u8 0,.int .u8 0,.int .u8 0,.int .u8 0,.int .u8 0,.int .u8 0,.int .u8 0,.int .u8 0,.int .u8 0,.int .u8 0,.int .u8 0,.int .u8 0,.int .u8 0,.int .u8 0,.int .u8 0,.int .u8 0,.int .u8 0,.int .u8 0,.int .u8 0,.int .u8 0,.int .u8 0,.int .u8 0,.int .u8 0,.int .u8 0,.int .u8 0,.int .u8 0,.int .u8 0,.int .u8 0,.int .u8 0,.int .u8 0,.int .u8 0,.int .u8 0,.int .u8 0,.int .u8 0,.int .u8 0,.int .u8 0,.int .u8 0,.int .u8 0,.int .u8 0,.int .u8 0,.int .u8 0,.int .u8 0]):=zb
theorem xZ :je Tryz.prog 266=some (true,3,24,[.bool false,.int .i64 0,.int .i64 0]):=zb
theorem DS :kX Tryz.prog 266 0=some 0:=zb
theorem Vv :kX Tryz.prog 266 1=some 1:=zb
theorem DR :kX Tryz.prog 266 2=some 2:=zb
theorem yM :je Tryz.prog 267=some (false,1,24,[.slice none 0 0]):=zb
theorem jz :QA Tryz.prog 267=some 266:=zb
theorem bA :zN Tryz.prog 20=true:=zb
theorem tc :zN Tryz.prog 23=true:=zb
theorem WR :zN Tryz.prog 24=true:=zb
theorem L0 :zN Tryz.prog 25=true:=zb
theorem zlU :zN Tryz.prog 26=true:=zb
theorem bz :zN Tryz.prog 28=true:=zb
theorem zap :zN Tryz.prog 30=true:=zb
theorem Hm :zN Tryz.prog 36=true:=zb
theorem Hl :zN Tryz.prog 37=true:=zb
theorem LZ :zN Tryz.prog 43=true:=zb
theorem Hk :zN Tryz.prog 44=true:=zb
theorem zlT :zN Tryz.prog 49=true:=zb
theorem zlS :zN Tryz.prog 50=true:=zb
theorem zlR :zN Tryz.prog 51=true:=zb
theorem zlQ :zN Tryz.prog 52=true:=zb
theorem zao :zN Tryz.prog 54=true:=zb
theorem Bc :zN Tryz.prog 55=true:=zb
theorem zan :zN Tryz.prog 61=true:=zb
theorem zlP :zN Tryz.prog 62=true:=zb
theorem zlO :zN Tryz.prog 63=true:=zb
theorem zlN :zN Tryz.prog 67=true:=zb
theorem zam :zN Tryz.prog 68=true:=zb
theorem zlM :zN Tryz.prog 69=true:=zb
theorem zlL :zN Tryz.prog 70=true:=zb
theorem LY :zN Tryz.prog 71=true:=zb
theorem zlK :zN Tryz.prog 72=true:=zb
theorem zlJ :zN Tryz.prog 73=true:=zb
theorem tb :zN Tryz.prog 74=true:=zb
theorem zlI :zN Tryz.prog 79=true:=zb
theorem zlH :zN Tryz.prog 80=true:=zb
theorem ta :zN Tryz.prog 81=true:=zb
theorem zlG :zN Tryz.prog 82=true:=zb
theorem zal :zN Tryz.prog 91=true:=zb
theorem s9 :zN Tryz.prog 92=true:=zb
theorem zak :zN Tryz.prog 95=true:=zb
theorem zlF :zN Tryz.prog 98=true:=zb
theorem zeB :zN Tryz.prog 100=true:=zb
theorem Mo :zN Tryz.prog 101=true:=zb
theorem zeA :zN Tryz.prog 102=true:=zb
theorem zez :zN Tryz.prog 103=true:=zb
theorem zey :zN Tryz.prog 104=true:=zb
theorem Mn :zN Tryz.prog 105=true:=zb
theorem zex :zN Tryz.prog 106=true:=zb
theorem zew :zN Tryz.prog 107=true:=zb
theorem ph :zN Tryz.prog 108=true:=zb
theorem zev :zN Tryz.prog 109=true:=zb
theorem Mm :zN Tryz.prog 110=true:=zb
theorem Ml :zN Tryz.prog 111=true:=zb
theorem Mk :zN Tryz.prog 112=true:=zb
theorem Mj :zN Tryz.prog 113=true:=zb
theorem Mi :zN Tryz.prog 114=true:=zb
theorem pg :zN Tryz.prog 115=true:=zb
theorem Mh :zN Tryz.prog 116=true:=zb
theorem Mg :zN Tryz.prog 118=true:=zb
theorem Mf :zN Tryz.prog 120=true:=zb
theorem zeu :zN Tryz.prog 121=true:=zb
theorem zet :zN Tryz.prog 122=true:=zb
theorem zes :zN Tryz.prog 123=true:=zb
theorem zer :zN Tryz.prog 124=true:=zb
theorem dH :zN Tryz.prog 128=true:=zb
theorem Me :zN Tryz.prog 129=true:=zb
theorem Md :zN Tryz.prog 140=true:=zb
theorem VD :zN Tryz.prog 141=true:=zb
theorem zeq :zN Tryz.prog 142=true:=zb
theorem zep :zN Tryz.prog 143=true:=zb
theorem dG :zN Tryz.prog 145=true:=zb
theorem zeo :zN Tryz.prog 146=true:=zb
theorem zen :zN Tryz.prog 147=true:=zb
theorem zem :zN Tryz.prog 153=true:=zb
theorem zel :zN Tryz.prog 154=true:=zb
theorem Mc :zN Tryz.prog 163=true:=zb
theorem zek :zN Tryz.prog 165=true:=zb
theorem Mb :zN Tryz.prog 167=true:=zb
theorem zej :zN Tryz.prog 174=true:=zb
theorem zei :zN Tryz.prog 178=true:=zb
theorem Ma :zN Tryz.prog 197=true:=zb
theorem zeh :zN Tryz.prog 198=true:=zb
theorem L9 :zN Tryz.prog 200=true:=zb
theorem zeg :zN Tryz.prog 201=true:=zb
theorem zef :zN Tryz.prog 202=true:=zb
theorem zee :zN Tryz.prog 203=true:=zb
theorem L8 :zN Tryz.prog 204=true:=zb
theorem L7 :zN Tryz.prog 205=true:=zb
theorem L5 :zN Tryz.prog 206=true:=zb
theorem zed :zN Tryz.prog 207=true:=zb
theorem zec :zN Tryz.prog 209=true:=zb
theorem zeb :zN Tryz.prog 210=true:=zb
theorem zea :zN Tryz.prog 211=true:=zb
theorem zd9 :zN Tryz.prog 212=true:=zb
theorem zd8 :zN Tryz.prog 213=true:=zb
theorem zd7 :zN Tryz.prog 214=true:=zb
theorem zd6 :zN Tryz.prog 215=true:=zb
theorem L4 :zN Tryz.prog 216=true:=zb
theorem zd5 :zN Tryz.prog 217=true:=zb
theorem zd4 :zN Tryz.prog 218=true:=zb
theorem L3 :zN Tryz.prog 219=true:=zb
theorem zd3 :zN Tryz.prog 222=true:=zb
theorem zd2 :zN Tryz.prog 223=true:=zb
theorem zd1 :zN Tryz.prog 224=true:=zb
set_option maxRecDepth 100000
set_option maxHeartbeats 1000000
def kb (op:Int):Bool:=decide (op=9\/op=11\/op=18)
theorem CP (op:Int)(W:World):
    zP Tryz.prog 79 [.int .i64 op] W (λv w' =>v= .bool (kb op)/\qM W w' []):=by
 refine gen Tryz.func79 Tryz.ntmps79 (qM.start _:Sh (λ_=>False) W W []) V λjP z7=>gG z7<|sG (oM 1 V<|.nl)<|sK λ_ j1=>zn (oM 1 V<|yK _ _ V<|oM 1 V<|.nl)<|?_;clear z7
 rcases G3 (op=9) with ⟨YN,zcF⟩|⟨YN,zcF⟩
 ·skip
  refine zn (Zy 2 YN V V<|QV YN V<|oM 1 V<|Zy 2 V V V<|QV V V<|oM 1 V<|.nl)<|nK j1<|gR<|λee BN xd=>zu (fn:=Tryz.f79) (t:=2) V xd V<|⟨?_,(xd.sh.zY [] V)⟩
  congr 1;unfold kb;simp_all
 refine zn (oG YN (zG V V) V<|oG YN (kJ (p:=op) (q:=11) V V V) V<|Zx YN V<|oM 1 V<|.nl)<|?_
 rcases G3 (op=11) with ⟨B6,od⟩|⟨B6,od⟩
 ·skip
  refine zn (Zy 2 B6 V V<|QV B6 V<|oM 1 V<|.nl)<|nK j1<|gR<|λBK Hy w9=>zu (fn:=Tryz.f79) (t:=2) V w9 V<|⟨?_,(w9.sh.zY [] V)⟩
  congr 1;unfold kb;simp_all
 refine zn (oG B6 (zG V V) V<|oG B6 (kJ (p:=op) (q:=18) V V V) V<|Zx B6 V<|oM 1 V<|.nl)<|nK j1<|gR<|λa17 By jk=>zu (fn:=Tryz.f79) (t:=2) V jk V<|⟨?_,(jk.sh.zY [] V)⟩
 congr 1;unfold kb;simp_all
theorem zS {α:Type}[Inhabited α](l:List α)(k:Nat)(h:k<l.length):l.take (k+1)=l.take k++ [nth l k]:=by
 rw [List.take_succ_eq_append_getElem h,qq l k h]
theorem gi {α:Type}[Inhabited α](l m:List α)(hl:l.length=m.length)(h:∀i,i<l.length->nth l i=nth m i):l=m:=by
 apply List.ext_getElem hl
 intro i h1 h2
 have:=h i h1
 rwa [qq l i h1,qq m i h2] at this
def Ry (code:List Ins):Prop:=∀i,i<code.length->((nth code i).op=14->0<=(nth code i).a/\(nth code i).a<=code.length)/\((nth code i).op=15->0<=(nth code i).b/\(nth code i).b<=code.length)
def y6 (zk:List (List Ins))(i:Nat):Nat:=((zk.take i).map List.length).sum
theorem Vi (zk:List (List Ins))(i:Nat)(h:i<zk.length):y6 zk (i+1)=y6 zk i+(nth zk i).length:=by
 unfold y6
 rw [zS _ _ h]
 simp
def YE (zk:List (List Ins))(code:List Ins)(i:Nat)(x:Ins):Ins:=
 if x.op=14/\((nth code i).op=14\/(nth code i).op=15) then { x with a:=y6 zk x.a.toNat }
 else if x.op=15/\(nth code i).op=15 then { x with b:=y6 zk x.b.toNat }
 else if x.op=15/\(nth code i).op=17 then { x with b:=y6 zk i } else x
def VS (zk:List (List Ins))(code:List Ins)(i:Nat):List Ins:=(List.range i).flatMap λi=>(nth zk i).map (YE zk code i)
def CS (zk:List (List Ins))(code:List Ins):List Ins:=VS zk code code.length
theorem cq (zk:List (List Ins))(code:List Ins)(i:Nat):VS zk code (i+1)=VS zk code i++(nth zk i).map (YE zk code i):=by
 simp [VS,YG]
instance : DecidableEq Pg:=λp q=>by
 rcases p with ⟨a,b,c,d⟩;rcases q with ⟨a',b',c',d'⟩
 exact decidable_of_iff (a=a' /\b=b' /\c=c' /\d=d') (by simp)
def bM (zk:List (Ls Ins))(code:List Ins):Prop:=∀i,i<code.length->∀k,k<(nth zk i).l.length->
 ((nth (nth zk i).l k).op≠14\/((nth code i).op≠14/\(nth code i).op≠15)\/(0<=(nth (nth zk i).l k).a/\(nth (nth zk i).l k).a<=code.length))/\
 ((nth (nth zk i).l k).op≠15\/(nth code i).op≠15\/(0<=(nth (nth zk i).l k).b/\(nth (nth zk i).l k).b<=code.length))
theorem cI (x y:Ls Int)(W:World)(hx:x.At W)(hy:y.At W):
    zP Tryz.prog 74 [x.v,y.v] W (λv w' =>v= .bool (decide (x.l=y.l))/\qM W w' []):=by
 refine gen Tryz.func74 Tryz.ntmps74 (qM.Jo hx hy:Sh (λ_=>False) W W [.at_ x,.at_ y]) V λjP z7=>gG z7<|sG (oM 1 V<|.nl)<|gK λ_ j1=>sK λ_ gu=>y4 (aA 0 V) λDv=>y4 (aA 1 V) λB3=>zn (oM 1 V<|wk zt (aA 0 V) V<|oM 1 V<|wk zt (aA 1 V) V<|ue _ _ V<|.nl)<|nK gu<|?_;clear z7
 refine gcd V (λdd Ds=>?_) λdd Ds=>?_
 ·skip
  refine sG (oM 1 V<|.nl)<|gR<|uT<|λHS Hx jc=>zu (fn:=Tryz.f74) (t:=4) V jc V<|⟨?_,(jc.sh.zY [] V)⟩
  congr 1
  first|(exact (decide_eq_true (gi _ _ za λi hi=>zO i za)).symm)|(refine (decide_eq_false λe=>?_).symm;simp_all)
 refine gS<|hK j1<|gK λ_ Va=>sG (oM 1 V<|.nl)<|gB<|λa22 eI V8=>qE (λm a w=>∃(k:Nat),(k<=x.l.length)/\(∀j,j<k->nth x.l j=nth y.l j)/\St 26 (λ_=>False) W a w [(0,x.v),(1,y.v),(5,.int .i64 ((k:Nat):Int))] [.at_ x,.at_ y]/\m=x.l.length-k) ⟨_,0,za,(λj hj=>absurd hj za),V8.nf ⟨V,V,V,trivial⟩,V⟩ ?_
 clear V8
 rintro m21 a21 Au ⟨k,hk,zO,Wv,Ic⟩
 refine gG Wv<|gK λ_ V6=>sG (oM 2 V<|wk zt (aA 0 V) V<|xk _ _ V<|.nl)<|?_;clear Wv
 refine gcd V (λDI cY=>?_) λDI cY=>?_
 ·skip
  refine gS<|hK V6<|gK λ_ De=>gB<|gK λ_ Rc=>rQ (oM 2 V<|jo zt zj (aA 0 V) _ zp V<|wx zj (aA 0 V) zp V<|oM 2 V<|jo zt zj (aA 1 V) _ zp V<|wx zj (aA 1 V) zp V<|QW _ _ V<|.nl)<|hK Rc<|gcd V (λXJ FG=>?_) λXJ FG=>?_
  ·skip
   refine sG (oM 1 V<|.nl)<|gR<|uB<|uT<|uT<|uB<|uT<|λec ak Qp=>zu (fn:=Tryz.f74) (t:=4) V Qp V<|⟨?_,(Qp.sh.zY [] V)⟩
   congr 1
   first|(exact (decide_eq_true (gi _ _ za λi hi=>zO i za)).symm)|(refine (decide_eq_false λe=>?_).symm;simp_all)
  refine gS<|hK De<|gL<|zn (oM 1 V<|yl _ 1 zp V<|oM 1 V<|.nl)<|nN<|λa31 dM ZW=>zH ⟨_,?_,k+1,?_,?_,ZW.nf ⟨V,V,V,trivial⟩,V⟩
  · rw [Ic];first|omega|(simp only [qf];omega)
  · omega
  · intro j hj;rcases yq j k with h|h;exact zO j h;obtain rfl:j=k:=za;simp_all
 refine gX<|hK Va<|sG (oM 1 V<|.nl)<|gR<|λa33 M9 Vb=>zu (fn:=Tryz.f74) (t:=4) V Vb V<|⟨?_,(Vb.sh.zY [] V)⟩
 congr 1
 first|(exact (decide_eq_true (gi _ _ za λi hi=>zO i za)).symm)|(refine (decide_eq_false λe=>?_).symm;simp_all)
set_option maxHeartbeats 2000000
theorem yO {p:Prop}[Decidable p]{b c:Bool}(h:p)(e:b=c):b=(decide p&&c):=by rw [decide_eq_true h,e];rfl
theorem yP {p:Prop}[Decidable p]{c:Bool}(h:¬p):false=(decide p&&c):=by rw [decide_eq_false h];rfl
def lP (code:Ls (Ls Ins))(zl:Ls xg)(owner:List Int)(t:Nat):Bool:=decide ((nth zl.l t).pc<((nth code.l t).l.length:Int))&&q7 owner (nth zl.l t).wait.l.length (zo (nth code.l t).l (nth zl.l t).pc)
def Kd (mode:Int)(zl:Ls xg)(t k:Nat):List Int:=((List.range k).filter (w6 mode (nth zl.l t).wait.l)).map λk=>((8*t+k+1:Nat):Int)
def aN (mode:Int)(code:Ls (Ls Ins))(zl:Ls xg)(owner:List Int)(t:Nat):List Int:=(if lP code zl owner t=true then [((8*t:Nat):Int)] else [])++Kd mode zl t (nth zl.l t).wait.l.length
theorem Eu (mode:Int)(zl:Ls xg)(t k:Nat):(Kd mode zl t k).length<=k:=by
 unfold Kd
 rw [yw]
 exact vZ (bI _ _) (by simp)
theorem cE {mode:Int}{zl:Ls xg}{t k:Nat}(h:w6 mode (nth zl.l t).wait.l k=true):Kd mode zl t (k+1)=Kd mode zl t k++ [((8*t+k+1:Nat):Int)]:=by
 unfold Kd;rw [YG,bF,yi];simp [h]
theorem cF {mode:Int}{zl:Ls xg}{t k:Nat}(h:w6 mode (nth zl.l t).wait.l k=false):Kd mode zl t (k+1)=Kd mode zl t k:=by
 unfold Kd;rw [YG,bF,yi];simp [h]
def Jg (mode:Int)(code:Ls (Ls Ins))(zl:Ls xg)(owner:List Int)(n:Nat):List Int:=(List.range n).flatMap (aN mode code zl owner)
theorem Vk (mode:Int)(code:Ls (Ls Ins))(zl:Ls xg)(owner:List Int)(n:Nat):Jg mode code zl owner (n+1)=Jg mode code zl owner n++aN mode code zl owner n:=by simp [Jg,YG]
def Ab (code:Ls (Ls Ins))(zl:Ls xg)(t:Nat):Bool:=decide (¬(nth zl.l t).pc<((nth code.l t).l.length:Int))&&decide ((nth zl.l t).wait.l.length=0)
def Kr (code:Ls (Ls Ins))(zl:Ls xg):Bool:=(List.range code.l.length).all (Ab code zl)
theorem zdQ {code:Ls (Ls Ins)}{zl:Ls xg}{t:Nat}(h:¬(nth zl.l t).pc<((nth code.l t).l.length:Int))(h2:(nth zl.l t).wait.l.length=0):Ab code zl t=true:=by unfold Ab;rw [decide_eq_true h,decide_eq_true h2];rfl
theorem D0 {code:Ls (Ls Ins)}{zl:Ls xg}(h:∀j,j<code.l.length->Ab code zl j=true):Kr code zl=true:=by
 unfold Kr;rw [UK];intro j hj;exact h j (by simpa using hj)
theorem D1 {code:Ls (Ls Ins)}{zl:Ls xg}{t:Nat}(ht:t<code.l.length)(h:(nth zl.l t).pc<((nth code.l t).l.length:Int)\/¬(nth zl.l t).wait.l.length=0):Kr code zl=false:=by
 unfold Kr;rw [List.all_eq_false]
 refine ⟨t,by simpa using ht,?_⟩
 unfold Ab
 rcases h with h|h
 ·rw [decide_eq_false za];simp
 ·rw [decide_eq_false h];simp
theorem V2 {m:Int}{l:List Wt}{k:Nat}(h:k=0):w6 m l k=true:=by unfold w6;simp [h]
theorem V4 {m:Int}{l:List Wt}{k:Nat}(h:k≠0)(h2:m=1\/(nth l k).lock=true):w6 m l k=false:=by unfold w6;rcases h2 with h2|h2<;>simp [h,h2]
theorem V3 {m:Int}{l:List Wt}{k:Nat}(h:k≠0)(i:Nat)(hi:i<k)(h2:(nth l i).lock=true\/(nth l i).wh=(nth l k).wh):w6 m l k=false:=by
 have e:(List.range k).all (λi=> !((nth l i).lock||decide ((nth l i).wh=(nth l k).wh)))=false:=by
  rw [List.all_eq_false]
  exact ⟨i,by simpa using hi,by rcases h2 with h2|h2<;>simp [h2]⟩
 unfold w6
 rw [e]
 simp [h]
theorem Un {m:Int}{l:List Wt}{k:Nat}(h:m≠1)(h2:(nth l k).lock=false)(ha:∀j,j<k->(nth l j).lock=false/\(nth l j).wh≠(nth l k).wh):w6 m l k=true:=by
 have e:(List.range k).all (λi=> !((nth l i).lock||decide ((nth l i).wh=(nth l k).wh)))=true:=by
  rw [UK]
  intro j hj
  obtain ⟨h3,h4⟩:=ha j (by simpa using hj)
  simp [h3,h4]
 unfold w6
 rw [e]
 simp [h,h2]
theorem zai (b:Bool)(W:World):
    zP Tryz.prog 113 [.bool b] W (λv w' =>v= .int .i64 (bit b)/\qM W w' []):=by
 refine gen Tryz.func113 Tryz.ntmps113 (qM.start _:Sh (λ_=>False) W W []) V λjP z7=>gG z7<|sG (oM 1 V<|.nl)<|gK λ_ j1=>sG (oM 1 V<|.nl)<|?_;clear z7
 refine Xl V (λZo=>?_) λZo=>?_
 ·skip
  refine sG (oM 1 V<|.nl)<|gR<|uT<|λBK Hy w9=>zu (fn:=Tryz.f113) (t:=2) V w9 V<|⟨?_,(w9.sh.zY [] V)⟩
  first|(rw [show b=true from zc];rfl)|(rw [show b=false from zc];rfl)
 refine gS<|hK j1<|sG (oM 1 V<|.nl)<|gR<|λHS Hx jc=>zu (fn:=Tryz.f113) (t:=2) V jc V<|⟨?_,(jc.sh.zY [] V)⟩
 first|(rw [show b=true from zc];rfl)|(rw [show b=false from zc];rfl)
theorem Sr (g:Nat)(l:Ls Wt)(k:Nat)(cv:Value)(pw:Value)(zm:Int)(ze:Int)(mode:Int)(tv:Value)(uv:Value)(ov:Value)(pv:Value)(zq:Bool)(W:World)(hB:xB W g 111 #[cv,pw,.int .i64 zm,.int .i64 ze,.int .i64 mode,tv,uv,ov,pv,.bool zq])(h_l:l.At W)(hk:k<l.l.length):
    zP Tryz.prog 110 [.pointer (some ⟨g,0,none⟩),l.v,.int .i64 ((k:Nat):Int)] W (λv w' =>v= .bool (w6 mode l.l k)/\qM W w' []):=by
 refine gen Tryz.func110 Tryz.ntmps110 (qM.ext (by intro A hA;simp at hA;rcases hA with rfl|rfl;exact hB;exact h_l) (by intro A hA b hb;simp at hA;rcases hA with rfl|rfl<;>exact hb):Sh (λ_=>False) W W [.zx g 111 [cv,pw,.int .i64 zm,.int .i64 ze,.int .i64 mode,tv,uv,ov,pv,.bool zq],.at_ l]) V λjP z7=>gG z7<|sG (oM 1 V<|.nl)<|gK λ_ j1=>sG (oM 1 V<|KX _ 0 V<|.nl)<|?_;clear z7
 refine gcd V (λZo oe=>?_) λZo oe=>?_
 ·skip
  refine sG (oM 1 V<|.nl)<|gR<|uT<|λBK Hy w9=>zu (fn:=Tryz.f110) (t:=6) V w9 V<|⟨?_,(w9.sh.zY [] V)⟩
  congr 1
  first|exact (V2 za).symm|exact (V4 za (by first|exact .inl za|exact .inr zc)).symm|exact (V3 za i za (by first|exact .inl zc|exact .inr za)).symm|exact (Un za zc (λj hj=>zO j za)).symm
 refine gS<|hK j1<|gK λ_ Us=>sK λ_ JH=>zn (oM 1 V<|jA DV V<|w7 0 zj V V<|yK _ _ V<|oM 1 V<|.nl)<|?_
 rcases G3 (mode=1) with ⟨ZB,Uv⟩|⟨ZB,Uv⟩
 ·skip
  refine zn (Zy 5 ZB V V<|QV ZB V<|.nl)<|nK JH<|BJ V V<|sG (oM 1 V<|.nl)<|gR<|uT<|λa21 Au Wv=>zu (fn:=Tryz.f110) (t:=6) V Wv V<|⟨?_,(Wv.sh.zY [] V)⟩
  congr 1
  first|exact (V2 za).symm|exact (V4 za (by first|exact .inl za|exact .inr zc)).symm|exact (V3 za i za (by first|exact .inl zc|exact .inr za)).symm|exact (Un za zc (λj hj=>zO j za)).symm
 refine y4 (aA 1 V) λzji=>zn (oG ZB (zG V V) V<|oG ZB (zG V V) V<|oG ZB (gD (s:=l) (q:=k) xu jy V V V (λw h=>(h.at 1 V)) (show k<l.l.length from zp)) V<|oG ZB (jT (r:=0) XM V V V) V<|oG ZB (x6 (s:=l) (i:=k) (v:= .bool ((nth l.l k).lock)) w5 V V V (λw h=>(h.at 1 V)) (show k<l.l.length from zp) (y5 V) V) V<|Zx ZB V<|.nl)<|nK JH<|Xl V (λUy=>?_) λUy=>?_
 ·skip
  refine sG (oM 1 V<|.nl)<|gR<|uT<|λa25 tw Wu=>zu (fn:=Tryz.f110) (t:=6) V Wu V<|⟨?_,(Wu.sh.zY [] V)⟩
  congr 1
  first|exact (V2 za).symm|exact (V4 za (by first|exact .inl za|exact .inr zc)).symm|exact (V3 za i za (by first|exact .inl zc|exact .inr za)).symm|exact (Un za zc (λj hj=>zO j za)).symm
 refine gS<|hK Us<|gK λ_ De=>sG (oM 1 V<|.nl)<|gB<|λmg lW w8=>qE (λm a w=>∃(i:Nat),(i<=k)/\(∀j,j<i->(nth l.l j).lock=false/\(nth l.l j).wh≠(nth l.l k).wh)/\St 45 (λ_=>False) W a w [(1,l.v),(2,.int .i64 ((k:Nat):Int)),(7,.int .i64 ((i:Nat):Int))] [.zx g 111 [cv,pw,.int .i64 zm,.int .i64 ze,.int .i64 mode,tv,uv,ov,pv,.bool zq],.at_ l]/\m=k-i) ⟨_,0,za,(λj hj=>absurd hj za),w8.nf ⟨V,V,V,trivial⟩,V⟩ ?_
 clear w8
 rintro m28 a28 w28 ⟨i,hi,zO,U8,Ib⟩
 refine gG U8<|gK λ_ HH=>sG (oM 2 V<|xk _ _ V<|.nl)<|?_;clear U8
 refine gcd V (λI0 n5=>?_) λI0 n5=>?_
 ·skip
  refine gS<|hK HH<|gK λ_ Ur=>gB<|gK λ_ BA=>λa35 ME Yz=>wS zb zb Yz λ_ z36=>qQ Yz.fr<|vu (oM 2 V<|jo xu jy (aA 1 V) _ zp V<|QB XM V<|Z1 (.bool ((nth l.l i).lock)) w5 (aA 1 V) zp V<|oM 1 V<|.nl)<|?_
  rcases JU ((nth l.l i).lock) with gw|gw
  ·skip
   refine vu (Zy 11 gw V V<|QV gw V<|.nl)<|qN z36<|?_;clear Yz
   refine hK BA<|BJ V V<|sG (oM 1 V<|.nl)<|gF [6] V<|gR<|uB<|uT<|uT<|uB<|uT<|λa40 mr YO=>zu (fn:=Tryz.f110) (t:=6) V YO V<|⟨?_,(YO.sh.zY [] V)⟩
   congr 1
   first|exact (V2 za).symm|exact (V4 za (by first|exact .inl za|exact .inr zc)).symm|exact (V3 za i za (by first|exact .inl zc|exact .inr za)).symm|exact (Un za zc (λj hj=>zO j za)).symm
  refine vu (oG gw (zG V V) V<|oG gw (zG V V) V<|oG gw (gD (s:=l) (q:=i) xu jy V V V (λw h=>(h.at 1 V)) (show i<l.l.length from zp)) V<|oG gw (jT (r:=1) Qr V V V) V<|oG gw (x6 (s:=l) (i:=i) (v:= .int .i64 ((nth l.l i).wh)) zj V V V (λw h=>(h.at 1 V)) (show i<l.l.length from zp) (y5 V) V) V<|oG gw (zG V V) V<|oG gw (zG V V) V<|oG gw (gD (s:=l) (q:=k) xu jy V V V (λw h=>(h.at 1 V)) (show k<l.l.length from zp)) V<|oG gw (jT (r:=1) Qr V V V) V<|oG gw (x6 (s:=l) (i:=k) (v:= .int .i64 ((nth l.l k).wh)) zj V V V (λw h=>(h.at 1 V)) (show k<l.l.length from zp) (y5 V) V) V<|oG gw (kJ (p:=(nth l.l i).wh) (q:=(nth l.l k).wh) V V V) V<|Zx gw V<|.nl)<|qN z36<|?_;clear Yz
  refine hK BA<|gcd V (λXi n3=>?_) λXi n3=>?_
  ·skip
   refine sG (oM 1 V<|.nl)<|gF [6] V<|gR<|uB<|uT<|uT<|uB<|uT<|λa54 w54 DL=>zu (fn:=Tryz.f110) (t:=6) V DL V<|⟨?_,(DL.sh.zY [] V)⟩
   congr 1
   first|exact (V2 za).symm|exact (V4 za (by first|exact .inl za|exact .inr zc)).symm|exact (V3 za i za (by first|exact .inl zc|exact .inr za)).symm|exact (Un za zc (λj hj=>zO j za)).symm
  refine gS<|hK Ur<|gL<|zn (oM 1 V<|yl _ 1 zp V<|oM 1 V<|.nl)<|nN<|λa55 P6 GZ=>zH ⟨_,?_,i+1,?_,?_,GZ.nf ⟨V,V,V,trivial⟩,V⟩
  · rw [Ib];first|omega|(simp only [qf];omega)
  · omega
  · intro j hj;rcases yq j i with h|h;(exact zO j h);obtain rfl:j=i:=za;exact ⟨zc,za⟩
 refine gX<|hK De<|sG (oM 1 V<|.nl)<|gR<|λa57 w57 DK=>zu (fn:=Tryz.f110) (t:=6) V DK V<|⟨?_,(DK.sh.zY [] V)⟩
 congr 1
 first|exact (V2 za).symm|exact (V4 za (by first|exact .inl za|exact .inr zc)).symm|exact (V3 za i za (by first|exact .inl zc|exact .inr za)).symm|exact (Un za zc (λj hj=>zO j za)).symm
theorem np (g t:Nat)(code:Ls (Ls Ins))(zl:Ls kp)(pw:Value)(zm:Int)(ze:Int)(mode:Int)(uv:Value)(ov:Value)(pv:Value)(zq:Bool)(W:World)(hB:xB W g 111 #[code.v,pw,.int .i64 zm,.int .i64 ze,.int .i64 mode,zl.v,uv,ov,pv,.bool zq])(wg:code.At W)(vM:zl.At W)(ht:t<code.l.length)(ht2:t<zl.l.length)(JZ:0<=(nth zl.l t).pc):
    zP Tryz.prog 108 [.pointer (some ⟨g,0,none⟩),.int .i64 ((t:Nat):Int)] W (λv w' =>v= .tuple #[(zo (nth code.l t).l (nth zl.l t).pc).val,.bool (decide ((nth zl.l t).pc<((nth code.l t).l.length:Int)))]/\qM W w' []):=by
 refine gen Tryz.func108 Tryz.ntmps108 (qM.ext (by intro A hA;simp at hA;rcases hA with rfl|rfl|rfl;exact hB;exact wg;exact vM) (by intro A hA b hb;simp at hA;rcases hA with rfl|rfl|rfl<;>exact hb):Sh (λ_=>False) W W [.zx g 111 [code.v,pw,.int .i64 zm,.int .i64 ze,.int .i64 mode,zl.v,uv,ov,pv,.bool zq],.at_ code,.at_ zl]) V λjP z7=>gG z7<|sK λ_ kz=>Q2 qG V λxX=>zn (oM 1 V<|.nl)<|nK kz<|sK λ_ gu=>y4 (aA 2 V) λDv=>zn (oM 1 V<|jA ly V<|qB jZ V<|w7 1 ZE V V<|oM 1 V<|jo vp jN (aA 2 V) _ zp V<|Z1 ((nth code.l t).v) jN (aA 2 V) zp V<|oM 1 V<|.nl)<|nK gu<|sK λ_ Xe=>y4 (aA 3 V) λIm=>zn (oM 1 V<|jA yg V<|w7 1 xD V V<|oM 1 V<|jo jF jg (aA 3 V) _ zp V<|QB YD V<|wx zj (aA 3 V) zp V<|oM 1 V<|.nl)<|nK Xe<|gK λ_ Us=>sK λ_ JH=>y4 (λw h=>((h.at 2 V).nth t (show t<code.l.length from za))) λ(zc6:((nth code.l t).l).length<=140737488355328)=>zn (oM 2 V<|wk (n:=((nth code.l t).l).length) yZ (λw h=>((h.at 2 V).nth t (show t<code.l.length from za))) V<|nc _ _ V<|.nl)<|nK JH<|?_;clear z7
 refine gcd V (λwQ Ki=>?_) λwQ Ki=>?_
 ·skip
  refine sK λ_ cH=>zn (oV (q8 (cs:= [.int .i64 0,.int .i64 0,.int .i64 0,.int .i64 0]) V V zb) V<|.nl)<|YK 0 qG V V V<|zn (oM 1 V<|.nl)<|nK cH<|gF [4,5] V<|gR<|uT<|λa23 tx kq=>HV (fn:=Tryz.f108) (t:=4) (u:=5) (i:=0) qG V kq V V V V<|⟨?_,(kq.sh.zY [] V)⟩
  first|(rw [vL za,decide_eq_true za];rfl)|(rw [VZ za,decide_eq_false za];rfl)
 refine gS<|hK Us<|gF [4,6,7] V<|sK λ_ Ke=>zn (oM 2 V<|vC yZ qG (λw h=>((h.at 2 V).nth t (show t<code.l.length from za))) zp V<|Xz [.int .i64 ((nth ((nth code.l t).l) (((nth zl.l t).pc).toNat)).op),.int .i64 ((nth ((nth code.l t).l) (((nth zl.l t).pc).toNat)).a),.int .i64 ((nth ((nth code.l t).l) (((nth zl.l t).pc).toNat)).b),.int .i64 ((nth ((nth code.l t).l) (((nth zl.l t).pc).toNat)).c)] qG (λw h=>((h.at 2 V).nth t (show t<code.l.length from za))) zp V<|.nl)<|YK 0 qG V V V<|zn (oM 1 V<|.nl)<|nK Ke<|gR<|λa26 lX Y0=>HV (fn:=Tryz.f108) (t:=4) (u:=5) (i:=0) qG V Y0 V V V V<|⟨?_,(Y0.sh.zY [] V)⟩
 first|(rw [vL za,decide_eq_true za];rfl)|(rw [VZ za,decide_eq_false za];rfl)
theorem zeK (g t:Nat)(code:Ls (Ls Ins))(zl:Ls xg)(owner:Ls Int)(pw:Value)(zm:Int)(ze:Int)(mode:Int)(uv:Value)(pv:Value)(zq:Bool)(W:World)(hB:xB W g 111 #[code.v,pw,.int .i64 zm,.int .i64 ze,.int .i64 mode,zl.v,uv,owner.v,pv,.bool zq])(wg:code.At W)(vM:zl.At W)(Ji:owner.At W)(ht:t<code.l.length)(Zz:zl.l.length=code.l.length)(JZ:∀t,t<code.l.length->0<=(nth zl.l t).pc)(gv:∀i,i<(nth code.l t).l.length->(nth (nth code.l t).l i).op=17->0<=(nth (nth code.l t).l i).a/\(nth (nth code.l t).l i).a<owner.l.length):
    zP Tryz.prog 109 [.pointer (some ⟨g,0,none⟩),.int .i64 ((t:Nat):Int)] W (λv w' =>v= .bool (decide ((nth zl.l t).pc<((nth code.l t).l.length:Int))&&q7 owner.l (nth zl.l t).wait.l.length (zo (nth code.l t).l (nth zl.l t).pc))/\qM W w' []):=by
 refine gen Tryz.func109 Tryz.ntmps109 (qM.ext (by intro A hA;simp at hA;rcases hA with rfl|rfl|rfl|rfl;exact hB;exact wg;exact vM;exact Ji) (by intro A hA b hb;simp at hA;rcases hA with rfl|rfl|rfl|rfl<;>exact hb):Sh (λ_=>False) W W [.zx g 111 [code.v,pw,.int .i64 zm,.int .i64 ze,.int .i64 mode,zl.v,uv,owner.v,pv,.bool zq],.at_ code,.at_ zl,.at_ owner]) V λjP z7=>gG z7<|sG (oM 1 V<|.nl)<|sK λ_ j1=>zn (oM 2 V<|.nl)<|λee BN xd=>zL (zD xd ph V V V V V (np g t code ⟨zl.v,zl.l.map xg.XT⟩ _ _ _ _ _ _ _ _ _ (xd.sh.zx 0 V) (xd.sh.at 1 V) (xg.atV (xd.sh.at 2 V)) (by first|omega|(simp only [qf];omega)) (by simp;omega) (by rw [zI _ _ _ za];exact JZ t za))) (zg V _) ?_;clear z7
 rintro HT Hz ⟨_,⟨nI,Gf⟩,Gm⟩
 rw [zI _ _ _ (show t<zl.l.length from za),show (xg.XT (nth zl.l t)).pc=(nth zl.l t).pc from V] at nI
 subst nI
 have xr:St 53 (λ_=>False) W HT Hz _ _:=⟨Gm,xd.sh.jv Gf⟩
 clear Gm Gf
 clear xd
 refine gG xr<|zn (oM 1 V<|kK V<|kK V<|.nl)<|Q2 qG V λb16=>YK 0 qG V V V<|zn (oM 1 V<|.nl)<|nK j1<|gK λ_ JH=>sG (oM 1 V<|rM V<|.nl)<|?_;clear xr
 refine Xl V (λwQ=>?_) λwQ=>?_
 ·have Ki:¬((nth zl.l t).pc<((nth code.l t).l.length:Int)):=by simpa using wQ
  refine sG (oM 1 V<|.nl)<|gR<|uT<|λa22 eI V8=>zu (fn:=Tryz.f109) (t:=4) V V8 V<|⟨?_,(V8.sh.zY [] V)⟩
  congr 1
  first|exact yP za|(refine yO za ?_;unfold q7;first|(rw [if_pos za];done)|(rw [if_neg za,if_pos za];done)|(rw [if_neg za,if_neg za,if_pos za];first|exact yP za|exact yO za V)|(rw [if_neg za,if_neg za,if_neg za]))
 have Ki:(nth zl.l t).pc<((nth code.l t).l.length:Int):=by simpa using wQ
 refine gS<|hK JH<|?_
 have zwP:=JZ t za
 have l5:=vL (c:=(nth code.l t).l) (pc:=(nth zl.l t).pc) za
 have OP:=gv (nth zl.l t).pc.toNat za
 rw [<-l5] at OP
 refine sK λ_ V6=>y4 (aA 3 V) λzrm=>y4 (λw h=>((h.at 3 V).inner t (show t<zl.l.length from za)).2) λ(zc5:(((nth zl.l t).wait).l).length<=140737488355328)=>zn (oM 1 V<|jA yg V<|w7 1 xD V V<|oM 1 V<|jo jF jg (aA 3 V) _ zp V<|QB yF V<|Z1 (((nth zl.l t).wait).v) jh (aA 3 V) zp V<|wk (n:=(((nth zl.l t).wait).l).length) xu (λw h=>((h.at 3 V).inner t (show t<zl.l.length from za)).2) V<|oM 1 V<|.nl)<|nK V6<|gK λ_ De=>sG (qB xL V<|qw 0 zj V V<|.nl)<|gB<|gK λ_ K6=>sG (yK _ _ V<|oM 1 V<|.nl)<|gcd V (λll n9=>?_) λll n9=>?_
 ·skip
  refine gS<|hK K6<|BJ V ll<|sG (oM 1 V<|xk _ 3 V<|oM 1 V<|.nl)<|gF [4] V<|gR<|uB<|uT<|λa32 MF JJ=>zu (fn:=Tryz.f109) (t:=4) V JJ V<|⟨?_,(JJ.sh.zY [] V)⟩
  congr 1
  first|exact yP za|(refine yO za ?_;unfold q7;first|(rw [if_pos za];done)|(rw [if_neg za,if_pos za];done)|(rw [if_neg za,if_neg za,if_pos za];first|exact yP za|exact yO za V)|(rw [if_neg za,if_neg za,if_neg za]))
 refine sG (yK _ _ V<|oM 1 V<|.nl)<|gF [0,5,7,26,27] V<|gcd V (λWq FF=>?_) λWq FF=>?_
 ·skip
  refine gS<|hK K6<|BJ V Wq<|sG (oM 1 V<|xk _ 3 V<|oM 1 V<|.nl)<|gR<|uB<|uT<|λpy lV QJ=>zu (fn:=Tryz.f109) (t:=4) V QJ V<|⟨?_,(QJ.sh.zY [] V)⟩
  congr 1
  first|exact yP za|(refine yO za ?_;unfold q7;first|(rw [if_pos za];done)|(rw [if_neg za,if_pos za];done)|(rw [if_neg za,if_neg za,if_pos za];first|exact yP za|exact yO za V)|(rw [if_neg za,if_neg za,if_neg za]))
 refine gL<|zn (yK _ _ V<|oM 1 V<|.nl)<|nK K6<|gcd V (λgw cV=>?_) λgw cV=>?_
 ·skip
  refine sG (oM 1 V<|xk _ 3 V<|oM 1 V<|.nl)<|gR<|uB<|uT<|λa39 pV QC=>zu (fn:=Tryz.f109) (t:=4) V QC V<|⟨?_,(QC.sh.zY [] V)⟩
  congr 1
  first|exact yP za|(refine yO za ?_;unfold q7;first|(rw [if_pos za];done)|(rw [if_neg za,if_pos za];done)|(rw [if_neg za,if_neg za,if_pos za];first|exact yP za|exact yO za V)|(rw [if_neg za,if_neg za,if_neg za]))
 refine gK λ_ MK=>sG (yK _ _ V<|oM 1 V<|.nl)<|gcd V (λuQ zqz=>?_) λuQ zqz=>?_
 ·skip
  refine gS<|hK MK<|BJ V uQ<|sG (oM 1 V<|KX _ 0 V<|oM 1 V<|.nl)<|gR<|uB<|uT<|λa44 tu Rj=>zu (fn:=Tryz.f109) (t:=4) V Rj V<|⟨?_,(Rj.sh.zY [] V)⟩
  congr 1
  first|exact yP za|(refine yO za ?_;unfold q7;first|(rw [if_pos za];done)|(rw [if_neg za,if_pos za];done)|(rw [if_neg za,if_neg za,if_pos za];first|exact yP za|exact yO za V)|(rw [if_neg za,if_neg za,if_neg za]))
 refine gL<|zn (yK _ _ V<|oM 1 V<|.nl)<|nK MK<|gcd V (λc9 FD=>?_) λc9 FD=>?_
 ·skip
  refine sG (oM 1 V<|KX _ 0 V<|oM 1 V<|.nl)<|gR<|uB<|uT<|λPO M8 Ws=>zu (fn:=Tryz.f109) (t:=4) V Ws V<|⟨?_,(Ws.sh.zY [] V)⟩
  congr 1
  first|exact yP za|(refine yO za ?_;unfold q7;first|(rw [if_pos za];done)|(rw [if_neg za,if_pos za];done)|(rw [if_neg za,if_neg za,if_pos za];first|exact yP za|exact yO za V)|(rw [if_neg za,if_neg za,if_neg za]))
 refine sG (yK _ _ V<|oM 1 V<|.nl)<|gcd V (λoF FC=>?_) λoF FC=>?_
 ·skip
  refine gK λ_ MJ=>λa51 MC YZ=>wS zb zb YZ λ_ z52=>qQ YZ.fr<|vu (oM 1 V<|KX _ 0 V<|oM 1 V<|.nl)<|?_
  rcases G3 ((((nth zl.l t).wait).l).length=0) with ⟨Kn,zcz⟩|⟨Kn,zcz⟩
  ·skip
   refine vu (oG Kn (zG V V) V<|oG Kn (jC V V) V<|oG Kn (zT (r:=7) Zs V V V) V<|oG Kn (kh zV V V (λw h=>h.zx 1 V) V) V<|oG Kn (zT (r:=1) qm V V V) V<|oG Kn (xV (i:=0) zj V V V V) V<|.nl)<|?_
   have OQ:owner.l.length<=140737488355328:=(YZ.sh.at 4 V).len
   refine vu (oG Kn (RU (s:=owner) (q:=(zo (nth code.l t).l (nth zl.l t).pc).a) zt zj V V V (λw h=>(h.at 4 V)) (show 0<=(zo (nth code.l t).l (nth zl.l t).pc).a/\(zo (nth code.l t).l (nth zl.l t).pc).a<owner.l.length from zp)) V<|oG Kn (x6 (s:=owner) (i:=((zo (nth code.l t).l (nth zl.l t).pc).a).toNat) (v:= .int .i64 (nth owner.l (((zo (nth code.l t).l (nth zl.l t).pc).a).toNat))) zj V V V (λw h=>(h.at 4 V)) (show ((zo (nth code.l t).l (nth zl.l t).pc).a).toNat<owner.l.length from zp) (y5 V) V) V<|oG Kn (kJ (p:=nth owner.l (((zo (nth code.l t).l (nth zl.l t).pc).a).toNat)) (q:=(-1)) V V V) V<|QV Kn V<|oM 1 V<|.nl)<|qN z52<|?_;clear YZ
   refine hK MJ<|gF [4] V<|gR<|uB<|uT<|λa64 w64 h64=>zu (fn:=Tryz.f109) (t:=4) V h64 V<|⟨?_,(h64.sh.zY [] V)⟩
   congr 1
   first|exact yP za|(refine yO za ?_;unfold q7;first|(rw [if_pos za];done)|(rw [if_neg za,if_pos za];done)|(rw [if_neg za,if_neg za,if_pos za];first|exact yP za|exact yO za V)|(rw [if_neg za,if_neg za,if_neg za]))
  refine vu (Zy 9 Kn V V<|Zx Kn V<|oM 1 V<|.nl)<|qN z52<|?_;clear YZ
  refine hK MJ<|gF [4] V<|gR<|uB<|uT<|λa66 M7 B8=>zu (fn:=Tryz.f109) (t:=4) V B8 V<|⟨?_,(B8.sh.zY [] V)⟩
  congr 1
  first|exact yP za|(refine yO za ?_;unfold q7;first|(rw [if_pos za];done)|(rw [if_neg za,if_pos za];done)|(rw [if_neg za,if_neg za,if_pos za];first|exact yP za|exact yO za V)|(rw [if_neg za,if_neg za,if_neg za]))
 refine gS<|hK De<|sG (oM 1 V<|.nl)<|gR<|λa68 w68 h68=>zu (fn:=Tryz.f109) (t:=4) V h68 V<|⟨?_,(h68.sh.zY [] V)⟩
 congr 1
 first|exact yP za|(refine yO za ?_;unfold q7;first|(rw [if_pos za];done)|(rw [if_neg za,if_pos za];done)|(rw [if_neg za,if_neg za,if_pos za];first|exact yP za|exact yO za V)|(rw [if_neg za,if_neg za,if_neg za]))
theorem NY (g:Nat)(code:Ls (Ls Ins))(zl:Ls xg)(owner:Ls Int)(pw:Value)(zm:Int)(ze:Int)(mode:Int)(uv:Value)(pv:Value)(zq:Bool)(W:World)(hB:xB W g 111 #[code.v,pw,.int .i64 zm,.int .i64 ze,.int .i64 mode,zl.v,uv,owner.v,pv,.bool zq])(wg:code.At W)(vM:zl.At W)(Ji:owner.At W)(qg:code.l.length<=4)(Zz:zl.l.length=code.l.length)(JZ:∀t,t<code.l.length->0<=(nth zl.l t).pc)(gv:∀t,t<code.l.length->∀i,i<(nth code.l t).l.length->(nth (nth code.l t).l i).op=17->0<=(nth (nth code.l t).l i).a/\(nth (nth code.l t).l i).a<owner.l.length)(hw:∀t,t<code.l.length->(nth zl.l t).wait.l.length<=3):
    zP Tryz.prog 70 [.pointer (some ⟨g,0,none⟩)] W (λv w' =>∃s:Ls Int,v=s.v/\s.l=Jg mode code zl owner.l code.l.length/\qM W w' [.own 3 s]):=by
 refine gen Tryz.func70 Tryz.ntmps70 (qM.ext (by intro A hA;simp at hA;rcases hA with rfl|rfl|rfl|rfl;exact hB;exact wg;exact vM;exact Ji) (by intro A hA b hb;simp at hA;rcases hA with rfl|rfl|rfl|rfl<;>exact hb):Sh (λ_=>False) W W [.zx g 111 [code.v,pw,.int .i64 zm,.int .i64 ze,.int .i64 mode,zl.v,uv,owner.v,pv,.bool zq],.at_ code,.at_ zl,.at_ owner]) V λjP z7=>gG z7<|sG (oM 1 V<|.nl)<|sG (oM 1 V<|.nl)<|gK λ_ gu=>sG (oM 1 V<|.nl)<|gB<|λa17 By jk=>?_;clear z7
 have w9:=jk.nil (α:=Int) 3
 clear jk
 refine qE (λm a w=>∃(t:Nat) (ml:List Int) (vm:Value),(t<=zl.l.length)/\(ml=Jg mode code zl owner.l t)/\(ml.length<=4*t)/\St 60 (λ_=>False) W a w [(0,.pointer (some ⟨g,0,none⟩)),(3,vm),(4,.int .i64 ((t:Nat):Int))] [.zx g 111 [code.v,pw,.int .i64 zm,.int .i64 ze,.int .i64 mode,zl.v,uv,owner.v,pv,.bool zq],.at_ code,.at_ zl,.at_ owner,.own 3 (⟨vm,ml⟩:Ls Int)]/\m=zl.l.length-t) ⟨_,0,[],(.slice none 0 0),za,(V),(by simp),w9.wN ⟨V,V,V,trivial⟩ [1,2,3,4,0] V,V⟩ ?_
 clear w9
 rintro m15 HT Hz ⟨t,ml,vm,ht,U4,hmn,xr,B2⟩
 refine gG xr<|gK λ_ JH=>sK λ_ Va=>y4 (aA 2 V) λzjj=>zn (oM 2 V<|jA yg V<|w7 0 xD V V<|wk jF (aA 2 V) V<|xk _ _ V<|.nl)<|nK Va<|?_;clear xr
 refine gcd V (λdc c6=>?_) λdc c6=>?_
 ·skip
  refine gS<|hK JH<|gK λ_ J9=>gB<|sK λ_ V6=>zn (oM 2 V<|.nl)<|gC (λ_ _ h_=>gQ h_ zev V (zeK g t code zl owner _ _ _ _ _ _ _ _ (h_.sh.zx 0 V) (h_.sh.at 1 V) (h_.sh.at 2 V) (h_.sh.at 3 V) za Zz JZ (gv t za))) V<|?_
  rintro _ _ dN ⟨rfl,Gd⟩
  refine dZ Gd V<|gU<|zn (oM 1 V<|.nl)<|nK V6<|gK λ_ Re=>sG (oM 1 V<|.nl)<|?_;clear Gd
  refine Xl V (λdb=>?_) λdb=>?_
  ·skip
   refine gL<|zn (oM 2 V<|zbj 8 _ zp V<|.nl)<|xb (λ_ _ h_=>qF (n:=1) (cs:= [.int .i64 ((8*t:Nat):Int)]) ([((8*t:Nat):Int)]:List Int) h_ zt zj V V V zf V zb V (λq hq w h=>Flat.inner _ _) (λq hq b hb=>(Flat.on _ _ hb).elim) V V) V λv28=>xb (λ_ _ h_=>yu (r:=5) (rm:=0) (s:=(⟨vm,ml⟩:Ls Int)) (m:=(⟨v28,[((8*t:Nat):Int)]⟩:Ls Int)) h_ zt zj V V V V V V V (λw h=>(h.own 0 V)) (λb hb=>qt (h_.sh.ok _ (zy (i:=0) V)) hb) (λq hq b hb=>⟨q,hq,hb⟩) V V V inferInstance (show (ml.length+([((8*t:Nat):Int)]).length)*8<=140737488355328/\ml.length+([((8*t:Nat):Int)]).length<=140737488355328 from zp) V V) V λpY=>zn (oM 1 V<|.nl)<|nK Re<|sG (oM 1 V<|.nl)<|gB<|?_
   have Df:=hw t za
   intro a32 MF JJ
   refine qE (λm a w=>∃(k:Nat) (ZQ:List Int) (WA:Value),(k<=(nth zl.l t).wait.l.length)/\(ZQ=ml++((if lP code zl owner.l t=true then [((8*t:Nat):Int)] else [])++Kd mode zl t k))/\(ZQ.length<=4*t+1+k)/\St 60 (λ_=>False) W a w [(0,.pointer (some ⟨g,0,none⟩)),(3,WA),(4,.int .i64 ((t:Nat):Int)),(6,.int .i64 ((k:Nat):Int))] [.own 3 (⟨v28,[((8*t:Nat):Int)]⟩:Ls Int),.zx g 111 [code.v,pw,.int .i64 zm,.int .i64 ze,.int .i64 mode,zl.v,uv,owner.v,pv,.bool zq],.at_ code,.at_ zl,.at_ owner,.own 3 (⟨WA,ZQ⟩:Ls Int)]/\m=(nth zl.l t).wait.l.length-k) ⟨_,0,ml++([((8*t:Nat):Int)]),pY,za,(by first|(rw [if_pos zc];simp [Kd])|(rw [if_neg (by rw [show lP code zl owner.l t=false from zc];decide)];simp [Kd])),(by simp;omega),JJ.nf ⟨V,V,V,V,trivial⟩,V⟩ ?_
   clear JJ
   rintro m31 a31 dM ⟨k,ZQ,WA,hk,Yu,OJ,ZW,zi5⟩
   refine gG ZW<|gK λ_ Ur=>sK λ_ BA=>y4 (λw h=>((h.at 3 V).inner t (show t<zl.l.length from za)).2) λ(Ij:(((nth zl.l t).wait).l).length<=140737488355328)=>zn (oM 2 V<|jA yg V<|w7 1 xD V V<|oM 1 V<|jo jF jg (aA 3 V) _ zp V<|QB yF V<|Z1 (((nth zl.l t).wait).v) jh (aA 3 V) zp V<|wk (n:=(((nth zl.l t).wait).l).length) xu (λw h=>((h.at 3 V).inner t (show t<zl.l.length from za)).2) V<|xk _ _ V<|.nl)<|nK BA<|?_;clear ZW
   refine gcd V (λZn Dp=>?_) λZn Dp=>?_
   ·skip
    refine gS<|hK Ur<|gK λ_ Dd=>gB<|sK λ_ dP=>zn (oM 2 V<|jA yg V<|w7 1 xD V V<|oM 1 V<|jo jF jg (aA 3 V) _ zp V<|QB yF V<|Z1 (((nth zl.l t).wait).v) jh (aA 3 V) zp V<|oM 1 V<|.nl)<|gC (λ_ _ h_=>gQ h_ Mm V (Sr g ((nth zl.l t).wait) k _ _ _ _ _ _ _ _ _ _ _ (h_.sh.zx 1 V) ((h_.sh.at 3 V).inner t (show t<zl.l.length from za)).2 za)) V<|?_
    rintro _ _ pV ⟨rfl,cS⟩
    refine dZ cS V<|gU<|zn (oM 1 V<|.nl)<|nK dP<|sG (oM 1 V<|.nl)<|gF [0,3,4,6,50] V<|?_;clear cS
    refine Xl V (λB5=>?_) λB5=>?_
    ·skip
     refine gL<|zn (oM 2 V<|zbj 8 _ zp V<|oM 1 V<|yl _ _ zp V<|yl _ 1 zp V<|.nl)<|xb (λ_ _ h_=>qF (n:=1) (cs:= [.int .i64 ((((8*t)+k)+1:Nat):Int)]) ([((((8*t)+k)+1:Nat):Int)]:List Int) h_ zt zj V V V zf V zb V (λq hq w h=>Flat.inner _ _) (λq hq b hb=>(Flat.on _ _ hb).elim) V V) V λAv=>xb (λ_ _ h_=>yu (r:=6) (rm:=0) (s:=(⟨WA,ZQ⟩:Ls Int)) (m:=(⟨Av,[((((8*t)+k)+1:Nat):Int)]⟩:Ls Int)) h_ zt zj V V V V V V V (λw h=>(h.own 0 V)) (λb hb=>qt (h_.sh.ok _ (zy (i:=0) V)) hb) (λq hq b hb=>⟨q,hq,hb⟩) V V V inferInstance (show (ZQ.length+([((((8*t)+k)+1:Nat):Int)]).length)*8<=140737488355328/\ZQ.length+([((((8*t)+k)+1:Nat):Int)]).length<=140737488355328 from zp) V V) V λHB=>zn (oM 1 V<|.nl)<|nK Dd<|gL<|zn (oM 1 V<|yl _ 1 zp V<|oM 1 V<|.nl)<|nN<|λa44 tu Rj=>zH ⟨_,?_,k+1,ZQ++([((((8*t)+k)+1:Nat):Int)]),HB,?_,?_,?_,Rj.wN ⟨V,V,V,V,trivial⟩ [1,2,3,4,5,6] V,V⟩
     · rw [zi5];first|omega|(simp only [qf];omega)
     · omega
     · first|(rw [cE zc,Yu];simp only [xi])|(rw [cF zc,Yu])
     · first|omega|(simp;omega)
    refine gS<|hK Dd<|gL<|zn (oM 1 V<|yl _ 1 zp V<|oM 1 V<|.nl)<|nN<|λa45 w45 dV=>zH ⟨_,?_,k+1,ZQ,WA,?_,?_,?_,dV.nf ⟨V,V,V,V,trivial⟩,V⟩
    · rw [zi5];first|omega|(simp only [qf];omega)
    · omega
    · first|(rw [cE zc,Yu];simp only [xi])|(rw [cF zc,Yu])
    · first|omega|(simp;omega)
   refine gX<|hK J9<|gL<|zn (oM 1 V<|yl _ 1 zp V<|oM 1 V<|.nl)<|nN<|λa46 w46 B9=>zH ⟨_,?_,t+1,ZQ,WA,?_,?_,?_,B9.wN ⟨V,V,V,trivial⟩ [1,2,3,4,5] V,V⟩
   · rw [B2];first|omega|(simp only [qf];omega)
   · omega
   · rw [Vk,<-U4,Yu,aN,show k=(nth zl.l t).wait.l.length from za]
   · omega
  refine gS<|hK Re<|sG (oM 1 V<|.nl)<|gB<|?_
  have Df:=hw t za
  intro a49 w49 U7
  refine qE (λm a w=>∃(k:Nat) (ZQ:List Int) (WA:Value),(k<=(nth zl.l t).wait.l.length)/\(ZQ=ml++((if lP code zl owner.l t=true then [((8*t:Nat):Int)] else [])++Kd mode zl t k))/\(ZQ.length<=4*t+1+k)/\St 60 (λ_=>False) W a w [(0,.pointer (some ⟨g,0,none⟩)),(3,WA),(4,.int .i64 ((t:Nat):Int)),(6,.int .i64 ((k:Nat):Int))] [.zx g 111 [code.v,pw,.int .i64 zm,.int .i64 ze,.int .i64 mode,zl.v,uv,owner.v,pv,.bool zq],.at_ code,.at_ zl,.at_ owner,.own 3 (⟨WA,ZQ⟩:Ls Int)]/\m=(nth zl.l t).wait.l.length-k) ⟨_,0,ml,vm,za,(by first|(rw [if_pos zc];simp [Kd])|(rw [if_neg (by rw [show lP code zl owner.l t=false from zc];decide)];simp [Kd])),(by simp;omega),U7.nf ⟨V,V,V,V,trivial⟩,V⟩ ?_
  clear U7
  rintro m48 Ao tt ⟨k,ZQ,WA,hk,Yu,OJ,Yy,zi3⟩
  refine gG Yy<|gK λ_ MJ=>sK λ_ EJ=>y4 (λw h=>((h.at 2 V).inner t (show t<zl.l.length from za)).2) λ(zxq:(((nth zl.l t).wait).l).length<=140737488355328)=>zn (oM 2 V<|jA yg V<|w7 0 xD V V<|oM 1 V<|jo jF jg (aA 2 V) _ zp V<|QB yF V<|Z1 (((nth zl.l t).wait).v) jh (aA 2 V) zp V<|wk (n:=(((nth zl.l t).wait).l).length) xu (λw h=>((h.at 2 V).inner t (show t<zl.l.length from za)).2) V<|xk _ _ V<|.nl)<|nK EJ<|?_;clear Yy
  refine gcd V (λKn zcz=>?_) λKn zcz=>?_
  ·skip
   refine gS<|hK MJ<|gK λ_ k54=>gB<|sK λ_ Sx=>zn (oM 2 V<|jA yg V<|w7 0 xD V V<|oM 1 V<|jo jF jg (aA 2 V) _ zp V<|QB yF V<|Z1 (((nth zl.l t).wait).v) jh (aA 2 V) zp V<|oM 1 V<|.nl)<|gC (λ_ _ h_=>gQ h_ Mm V (Sr g ((nth zl.l t).wait) k _ _ _ _ _ _ _ _ _ _ _ (h_.sh.zx 0 V) ((h_.sh.at 2 V).inner t (show t<zl.l.length from za)).2 za)) V<|?_
   rintro _ _ P5 ⟨rfl,uH⟩
   refine dZ uH V<|gU<|zn (oM 1 V<|.nl)<|nK Sx<|sG (oM 1 V<|.nl)<|gF [0,3,4,6,50] V<|?_;clear uH
   refine Xl V (λHP=>?_) λHP=>?_
   ·skip
    refine gL<|zn (oM 2 V<|zbj 8 _ zp V<|oM 1 V<|yl _ _ zp V<|yl _ 1 zp V<|.nl)<|xb (λ_ _ h_=>qF (n:=1) (cs:= [.int .i64 ((((8*t)+k)+1:Nat):Int)]) ([((((8*t)+k)+1:Nat):Int)]:List Int) h_ zt zj V V V zf V zb V (λq hq w h=>Flat.inner _ _) (λq hq b hb=>(Flat.on _ _ hb).elim) V V) V λv59=>xb (λ_ _ h_=>yu (r:=5) (rm:=0) (s:=(⟨WA,ZQ⟩:Ls Int)) (m:=(⟨v59,[((((8*t)+k)+1:Nat):Int)]⟩:Ls Int)) h_ zt zj V V V V V V V (λw h=>(h.own 0 V)) (λb hb=>qt (h_.sh.ok _ (zy (i:=0) V)) hb) (λq hq b hb=>⟨q,hq,hb⟩) V V V inferInstance (show (ZQ.length+([((((8*t)+k)+1:Nat):Int)]).length)*8<=140737488355328/\ZQ.length+([((((8*t)+k)+1:Nat):Int)]).length<=140737488355328 from zp) V V) V λv60=>zn (oM 1 V<|.nl)<|nK k54<|gL<|zn (oM 1 V<|yl _ 1 zp V<|oM 1 V<|.nl)<|nN<|λa61 P4 me=>zH ⟨_,?_,k+1,ZQ++([((((8*t)+k)+1:Nat):Int)]),v60,?_,?_,?_,me.wN ⟨V,V,V,V,trivial⟩ [1,2,3,4,5] V,V⟩
    · rw [zi3];first|omega|(simp only [qf];omega)
    · omega
    · first|(rw [cE zc,Yu];simp only [xi])|(rw [cF zc,Yu])
    · first|omega|(simp;omega)
   refine gS<|hK k54<|gL<|zn (oM 1 V<|yl _ 1 zp V<|oM 1 V<|.nl)<|nN<|λa62 w62 O6=>zH ⟨_,?_,k+1,ZQ,WA,?_,?_,?_,O6.nf ⟨V,V,V,V,trivial⟩,V⟩
   · rw [zi3];first|omega|(simp only [qf];omega)
   · omega
   · first|(rw [cE zc,Yu];simp only [xi])|(rw [cF zc,Yu])
   · first|omega|(simp;omega)
  refine gX<|hK J9<|gL<|zn (oM 1 V<|yl _ 1 zp V<|oM 1 V<|.nl)<|nN<|λa63 w63 U6=>zH ⟨_,?_,t+1,ZQ,WA,?_,?_,?_,U6.nf ⟨V,V,V,trivial⟩,V⟩
  · rw [B2];first|omega|(simp only [qf];omega)
  · omega
  · rw [Vk,<-U4,Yu,aN,show k=(nth zl.l t).wait.l.length from za]
  · omega
 refine gX<|hK gu<|sG (oM 2 V<|.nl)<|gR<|λa65 w65 Uz=>zu (fn:=Tryz.f70) (t:=2) V Uz V<|⟨⟨vm,ml⟩,V,?_,(Uz.sh.zY [4] V)⟩
 rw [<-show t=code.l.length from za];exact U4
theorem Pn (g:Nat)(code:Ls (Ls Ins))(zl:Ls xg)(pw:Value)(zm:Int)(ze:Int)(mode:Int)(uv:Value)(ov:Value)(pv:Value)(zq:Bool)(W:World)(hB:xB W g 111 #[code.v,pw,.int .i64 zm,.int .i64 ze,.int .i64 mode,zl.v,uv,ov,pv,.bool zq])(wg:code.At W)(vM:zl.At W)(qg:code.l.length<=4)(Zz:zl.l.length=code.l.length)(JZ:∀t,t<code.l.length->0<=(nth zl.l t).pc):
    zP Tryz.prog 69 [.pointer (some ⟨g,0,none⟩)] W (λv w' =>v= .bool (Kr code zl)/\qM W w' []):=by
 refine gen Tryz.func69 Tryz.ntmps69 (qM.ext (by intro A hA;simp at hA;rcases hA with rfl|rfl|rfl;exact hB;exact wg;exact vM) (by intro A hA b hb;simp at hA;rcases hA with rfl|rfl|rfl<;>exact hb):Sh (λ_=>False) W W [.zx g 111 [code.v,pw,.int .i64 zm,.int .i64 ze,.int .i64 mode,zl.v,uv,ov,pv,.bool zq],.at_ code,.at_ zl]) V λjP z7=>gG z7<|sG (oM 1 V<|.nl)<|gK λ_ j1=>sG (oM 1 V<|.nl)<|gB<|λHT Hz xr=>qE (λm a w=>∃(t:Nat),(t<=zl.l.length)/\(∀j,j<t->Ab code zl j=true)/\St 34 (λ_=>False) W a w [(0,.pointer (some ⟨g,0,none⟩)),(3,.int .i64 ((t:Nat):Int))] [.zx g 111 [code.v,pw,.int .i64 zm,.int .i64 ze,.int .i64 mode,zl.v,uv,ov,pv,.bool zq],.at_ code,.at_ zl]/\m=zl.l.length-t) ⟨_,0,za,(λj hj=>absurd hj za),xr.nf ⟨V,V,trivial⟩,V⟩ ?_;clear z7
 clear xr
 rintro m14 ee BN ⟨t,ht,zO,xd,Ie⟩
 refine gG xd<|gK λ_ nC=>sK λ_ Us=>y4 (aA 2 V) λzjk=>zn (oM 2 V<|jA yg V<|w7 0 xD V V<|wk jF (aA 2 V) V<|xk _ _ V<|.nl)<|nK Us<|?_;clear xd
 refine gcd V (λZB Uv=>?_) λZB Uv=>?_
 ·skip
  refine gS<|hK nC<|gK λ_ K7=>gB<|sK λ_ cH=>zn (oM 2 V<|.nl)<|λa23 tx kq=>zL (zD kq ph V V V V V (np g t code ⟨zl.v,zl.l.map xg.XT⟩ _ _ _ _ _ _ _ _ _ (kq.sh.zx 0 V) (kq.sh.at 1 V) (xg.atV (kq.sh.at 2 V)) (by first|omega|(simp only [qf];omega)) (by simp;omega) (by rw [zI _ _ _ za];exact JZ t za))) (zg V _) ?_
  rintro a24 dN ⟨_,⟨zg8,Gd⟩,DE⟩
  rw [zI _ _ _ (show t<zl.l.length from za),show (xg.XT (nth zl.l t)).pc=(nth zl.l t).pc from V] at zg8
  subst zg8
  have wJ:St 34 (λ_=>False) W a24 dN _ _:=⟨DE,kq.sh.jv Gd⟩
  clear DE Gd
  clear kq
  refine gG wJ<|zn (oM 1 V<|kK V<|kK V<|.nl)<|Q2 qG V λb25=>YK 0 qG V V V<|zn (oM 1 V<|.nl)<|nK cH<|sK λ_ Rc=>zn (oM 2 V<|.nl)<|?_;clear wJ
  rcases G3 ((nth zl.l t).pc<((nth code.l t).l.length:Int)) with ⟨XJ,FG⟩|⟨XJ,FG⟩
  ·skip
   refine zn (Zy 10 XJ V V<|QV XJ V<|.nl)<|nK Rc<|gF [0,3,33] V<|BJ V V<|sG (oM 1 V<|.nl)<|gR<|uB<|uT<|uT<|uB<|uT<|λec ak Qp=>zu (fn:=Tryz.f69) (t:=2) V Qp V<|⟨?_,(Qp.sh.zY [] V)⟩
   congr 1
   first|exact (D0 (λj hj=>zO j za)).symm|exact (D1 (t:=t) za za).symm
  refine y4 (λw h=>((h.at 3 V).inner t (show t<zl.l.length from za)).2) λ(OR:(((nth zl.l t).wait).l).length<=140737488355328)=>zn (oG XJ (zG V V) V<|oG XJ (jC V V) V<|oG XJ (zT (r:=5) yg V V V) V<|oG XJ (kh xD V V (λw h=>h.zx 1 V) V) V<|oG XJ (zG V V) V<|oG XJ (gD (s:=zl) (q:=t) jF jg V V V (λw h=>(h.at 3 V)) (show t<zl.l.length from zp)) V<|oG XJ (jT (r:=2) yF V V V) V<|oG XJ (x6 (s:=zl) (i:=t) (v:=((nth zl.l t).wait).v) jh V V V (λw h=>(h.at 3 V)) (show t<zl.l.length from zp) (y5 V) V) V<|oG XJ (Zc (s:=(nth zl.l t).wait) (n:=(((nth zl.l t).wait).l).length) xu V V (λw h=>((h.at 3 V).inner t (show t<zl.l.length from zp)).2) V) V<|oG XJ (Ub (p:=(((nth zl.l t).wait).l).length) (q:=0) V V V) V<|Zx XJ V<|.nl)<|nK Rc<|gF [0,3,33] V<|gcd V (λI0 n5=>?_) λI0 n5=>?_
  ·skip
   refine sG (oM 1 V<|.nl)<|gR<|uB<|uT<|uT<|uB<|uT<|λpz mu YA=>zu (fn:=Tryz.f69) (t:=2) V YA V<|⟨?_,(YA.sh.zY [] V)⟩
   congr 1
   first|exact (D0 (λj hj=>zO j za)).symm|exact (D1 (t:=t) za za).symm
  refine gS<|hK K7<|gL<|zn (oM 1 V<|yl _ 1 zp V<|oM 1 V<|.nl)<|nN<|λa35 ME Yz=>zH ⟨_,?_,t+1,?_,?_,Yz.wN ⟨V,V,trivial⟩ [1,2,3] V,V⟩
  · rw [Ie];first|omega|(simp only [qf];omega)
  · omega
  · intro j hj;rcases yq j t with h|h;(exact zO j h);obtain rfl:j=t:=za;exact zdQ za za
 refine gX<|hK j1<|sG (oM 1 V<|.nl)<|gR<|λa37 w37 KF=>zu (fn:=Tryz.f69) (t:=2) V KF V<|⟨?_,(KF.sh.zY [] V)⟩
 congr 1
 first|exact (D0 (λj hj=>zO j za)).symm|exact (D1 (t:=t) za za).symm
theorem Vz {l:List Wt}{words:List Int}{w:Int}{i:Nat}(hi:i<l.length)(h1:(nth l i).lock=false)(h2:(nth l i).wh=w)(ha:∀j,i<j->j<l.length->¬((nth l j).lock=false/\(nth l j).wh=w)):x4 l words w=(nth l i).qk:=by
 have e:l.reverse.find? (λx=> !x.lock&&decide (x.wh=w))=some (nth l i):=by
  have hs:l=l.take i++nth l i::l.drop (i+1):=by
   have:=Bt i l
   rw [JV hi] at this
   rw [show nth l i=l[i] from by simp [nth,hi]]
   exact this.symm
  rw [hs,List.reverse_append,List.reverse_cons,List.find?_append,List.find?_append]
  have hn:(l.drop (i+1)).reverse.find? (λx=> !x.lock&&decide (x.wh=w))=none:=by
   rw [List.find?_eq_none]
   intro x hx
   rw [List.mem_reverse] at hx
   obtain ⟨k,hk,rfl⟩:=List.mem_iff_getElem.1 hx
   have OV:i+1+k<l.length:=by simpa [Nat.lt_sub_iff_add_lt,Nat.add_comm] using hk
   have:=ha (i+1+k) za OV
   rw [show nth l (i+1+k)=(l.drop (i+1))[k] from by simp [nth,OV]] at this
   intro hc
   simp only [qI,wE,decide_eq_true_eq] at hc
   exact this hc
  rw [<-hs,hn]
  simp [h1,h2]
 unfold x4
 rw [e]
theorem Y6 {l:List Wt}{words:List Int}{w:Int}(ha:∀j,j<l.length->¬((nth l j).lock=false/\(nth l j).wh=w)):x4 l words w=nth words w.toNat:=by
 have e:l.reverse.find? (λx=> !x.lock&&decide (x.wh=w))=none:=by
  rw [List.find?_eq_none]
  intro x hx
  rw [List.mem_reverse] at hx
  obtain ⟨k,hk,rfl⟩:=List.mem_iff_getElem.1 hx
  have:=ha k hk
  rw [show nth l k=l[k] from by simp [nth,hk]] at this
  intro hc
  simp only [qI,wE,decide_eq_true_eq] at hc
  exact this hc
 unfold x4
 rw [e]
theorem sQ (g t:Nat)(word:Int)(zl:Ls kp)(words:Ls Int)(wait:Ls Wt)(cv pw:Value)(zm ze mode:Int)(ov pv:Value)(zq:Bool)(W:World)(hB:xB W g 111 #[cv,pw,.int .i64 zm,.int .i64 ze,.int .i64 mode,zl.v,words.v,ov,pv,.bool zq])(vM:zl.At W)(Gq:words.At W)(zdD:wait.At W)(ht:t<zl.l.length)(EW:(nth zl.l t).wv=wait.v)(hwo:0<=word/\word<words.l.length):
    zP Tryz.prog 114 [.pointer (some ⟨g,0,none⟩),.int .i64 ((t:Nat):Int),.int .i64 word] W (λv w' =>v= .int .i64 (x4 wait.l words.l word)/\qM W w' []):=by
 refine gen Tryz.func114 Tryz.ntmps114 (qM.ext (by intro A hA;simp at hA;rcases hA with rfl|rfl|rfl|rfl;exact hB;exact vM;exact Gq;exact zdD) (by intro A hA b hb;simp at hA;rcases hA with rfl|rfl|rfl|rfl<;>exact hb):Sh (λ_=>False) W W [.zx g 111 [cv,pw,.int .i64 zm,.int .i64 ze,.int .i64 mode,zl.v,words.v,ov,pv,.bool zq],.at_ zl,.at_ words,.at_ wait]) V λjP z7=>gG z7<|sG (oM 1 V<|.nl)<|sK λ_ j1=>y4 (aA 1 V) λc7=>zn (oM 1 V<|jA yg V<|w7 0 xD V V<|oM 1 V<|jo jF jg (aA 1 V) _ zp V<|QB yF V<|oV (Rn.same (x6 (s:=zl) (i:=t) (v:=((nth zl.l t).wv)) jh V V V (λw h=>(h.at 1 V)) (show t<zl.l.length from zp) (y5 V) V) EW) V<|oM 1 V<|.nl)<|nK j1<|gK λ_ Xp=>sK λ_ Xe=>y4 (aA 3 V) λIm=>zn (oM 1 V<|wk xu (aA 3 V) V<|zbg _ _ zp V<|oM 1 V<|.nl)<|nK Xe<|gB<|λHS Hx jc=>qE (λm a w=>∃(i:Int),(-1<=i/\i<wait.l.length)/\(∀j:Nat,i<j->j<wait.l.length->¬((nth wait.l j).lock=false/\(nth wait.l j).wh=word))/\St 51 (λ_=>False) W a w [(0,.pointer (some ⟨g,0,none⟩)),(2,.int .i64 word),(7,wait.v),(8,.int .i64 i)] [.zx g 111 [cv,pw,.int .i64 zm,.int .i64 ze,.int .i64 mode,zl.v,words.v,ov,pv,.bool zq],.at_ zl,.at_ words,.at_ wait]/\m=(i+1).toNat) ⟨_,((wait.l.length:Nat):Int)-1,za,(λj hj Xg=>absurd hj za),jc.nf ⟨V,V,V,V,trivial⟩,V⟩ ?_;clear z7
 clear jc
 rintro m17 a17 By ⟨i,hi,zO,jk,B1⟩
 refine gG jk<|gK λ_ Va=>sG (oM 1 V<|nc _ _ V<|.nl)<|?_;clear jk
 refine gcd V (λdc c6=>?_) λdc c6=>?_
 ·skip
  refine gS<|hK Va<|gK λ_ J9=>gB<|sK λ_ V6=>zn (oM 2 V<|vC xu jy (aA 3 V) zp V<|QB XM V<|Z1 (.bool ((nth wait.l i.toNat).lock)) w5 (aA 3 V) zp V<|rM V<|oM 1 V<|.nl)<|?_
  rcases JU (!((nth wait.l i.toNat).lock)) with Xj|Xj
  ·have zqT:(nth wait.l i.toNat).lock=false:=(wE _).mp Xj
   refine zn (oG Xj (zG V V) V<|oG Xj (zG V V) V<|oG Xj (RU (s:=wait) (q:=i) xu jy V V V (λw h=>(h.at 3 V)) (show 0<=i/\i<wait.l.length from zp)) V<|oG Xj (jT (r:=1) Qr V V V) V<|oG Xj (x6 (s:=wait) (i:=i.toNat) (v:= .int .i64 ((nth wait.l i.toNat).wh)) zj V V V (λw h=>(h.at 3 V)) (show i.toNat<wait.l.length from zp) (y5 V) V) V<|oG Xj (zG V V) V<|oG Xj (kJ (p:=(nth wait.l i.toNat).wh) (q:=word) V V V) V<|QV Xj V<|.nl)<|nK V6<|gcd V (λDI cY=>?_) λDI cY=>?_
   ·skip
    refine sG (oM 2 V<|vC xu jy (aA 3 V) zp V<|QB GA V<|wx zj (aA 3 V) zp V<|oM 1 V<|.nl)<|gF [6] V<|gR<|uB<|uT<|uT<|uB<|uT<|λMW MG Ko=>zu (fn:=Tryz.f114) (t:=6) V Ko V<|⟨?_,(Ko.sh.zY [] V)⟩
    congr 1
    first|exact (Vz (i:=i.toNat) za zc za (λj hj Xg=>zO j za Xg)).symm|exact (Y6 (λj hj=>zO j za hj)).symm
   refine gS<|hK J9<|gL<|zn (oM 1 V<|zbg _ _ zp V<|oM 1 V<|.nl)<|nN<|λa28 w28 U8=>zH ⟨_,?_,i-1,?_,?_,U8.nf ⟨V,V,V,V,trivial⟩,V⟩
   · rw [B1];first|omega|(simp only [qf];omega)
   · omega
   · intro j hj Xg;by_cases h9:i<j;(exact zO j h9 Xg);obtain rfl:j=i.toNat:=za;first|(rintro ⟨h8,_⟩;exact absurd (h8.symm.trans (show _=true from zc)) zf)|(rintro ⟨_,h8⟩;omega)
  have zqT:(nth wait.l i.toNat).lock=true:=(JS _).mp Xj
  refine zn (Zy 7 Xj V V<|Zx Xj V<|.nl)<|nK V6<|Q1 V V<|gS<|hK J9<|gL<|zn (oM 1 V<|zbg _ _ zp V<|oM 1 V<|.nl)<|nN<|λmg lW w8=>zH ⟨_,?_,i-1,?_,?_,w8.nf ⟨V,V,V,V,trivial⟩,V⟩
  · rw [B1];first|omega|(simp only [qf];omega)
  · omega
  · intro j hj Xg;by_cases h9:i<j;(exact zO j h9 Xg);obtain rfl:j=i.toNat:=za;first|(rintro ⟨h8,_⟩;exact absurd (h8.symm.trans (show _=true from zc)) zf)|(rintro ⟨_,h8⟩;omega)
 refine gX<|hK Xp<|sK λ_ HH=>y4 (aA 2 V) λOR=>zn (oM 1 V<|jA kn V<|w7 0 zV V V<|oM 1 V<|vC zt zj (aA 2 V) zp V<|wx zj (aA 2 V) zp V<|oM 1 V<|.nl)<|nK HH<|gR<|λa32 MF JJ=>zu (fn:=Tryz.f114) (t:=6) V JJ V<|⟨?_,(JJ.sh.zY [] V)⟩
 congr 1
 first|exact (Vz (i:=i.toNat) za zc za (λj hj Xg=>zO j za Xg)).symm|exact (Y6 (λj hj=>zO j za hj)).symm
set_option maxHeartbeats 4000000
theorem eZ {l:List kp}{t:Nat}{v:Value}(h:t<l.length)(e:(nth l t).wv=v):l.set t { nth l t with wv:=v } =l:=by
 subst e
 refine gi _ _ (by simp) λi hi=>?_
 rw [jt]
 split
 ·rename_i hh;rw [<-hh.1]
 ·rfl
theorem LG (K:Nat->Prop)(g:Nat)(x:Wt)(words owner:Ls Int)(cv pw:Value)(zm ze mode:Int)(tv pv:Value)(zq:Bool)(W:World)(hS:Sh K W W [.zM g 111 [cv,pw,.int .i64 zm,.int .i64 ze,.int .i64 mode,tv,words.v,owner.v,pv,.bool zq],.own 3 words,.own 3 owner])(hx:if x.lock=true then 0<=x.wh/\x.wh<owner.l.length else 0<=x.wh/\x.wh<words.l.length):
    zP Tryz.prog 112 [.pointer (some ⟨g,0,none⟩),.agg #[.bool x.lock,.int .i64 x.wh,.int .i64 x.qk]] W (λv w' =>v= .tuple #[]/\Sh K W w' [.zM g 111 [cv,pw,.int .i64 zm,.int .i64 ze,.int .i64 mode,tv,words.v,owner.v,pv,.bool zq],.own 3 (⟨words.v,if x.lock=true then words.l else words.l.set x.wh.toNat x.qk⟩:Ls Int),.own 3 (⟨owner.v,if x.lock=true then owner.l.set x.wh.toNat (-1) else owner.l⟩:Ls Int)]):=by
 refine gen Tryz.func112 Tryz.ntmps112 hS V λjP z7=>gG z7<|sK λ_ kz=>XV V V λxX=>nK kz<|sG (qB XM V<|qw 0 w5 V V<|.nl)<|?_;clear z7
 refine Xl V (λZo=>?_) λZo=>?_
 ·skip
  rw [if_pos zc] at hx
  rw [if_pos zc,if_pos zc]
  refine y4 (aO 3 V) λB3=>rT 7 [] (oM 1 V<|yb 1 Zs zV V V<|qB Qr V<|qw 0 zj V V<|vC zt zj (aO 3 V) zp V<|.nl)<|XK 3 ((-1):Int) zj zp V V<|nN<|λa17 By jk=>?_
  try simp only [Exit.then,Exit.inBlock,if_true]
  refine qj (fn:=Tryz.f112) V jk ?_
  exact ⟨V,(jk.sh.zY [1,2,3] V)⟩
 rw [if_neg (by rw [show x.lock=false from zc];decide)] at hx
 rw [if_neg (by rw [show x.lock=false from zc];decide),if_neg (by rw [show x.lock=false from zc];decide)]
 refine y4 (aO 2 V) λzjk=>rT 9 [] (oM 1 V<|yb 1 kn zV V V<|qB Qr V<|qw 0 zj V V<|qB GA V<|qw 0 zj V V<|vC zt zj (aO 2 V) zp V<|.nl)<|XK 2 (x.qk:Int) zj zp V V<|nN<|λa20 mw wV=>?_
 try simp only [Exit.then,Exit.inBlock,if_true]
 refine qj (fn:=Tryz.f112) V wV ?_
 exact ⟨V,(wV.sh.zY [1,2,3] V)⟩
theorem AW (K:Nat->Prop)(g:Nat)(n:Int)(words:Ls Int)(cv pw:Value)(zm ze mode:Int)(tv ov pv:Value)(zq:Bool)(W:World)(hS:Sh K W W [.zM g 111 [cv,pw,.int .i64 zm,.int .i64 ze,.int .i64 mode,tv,words.v,ov,pv,.bool zq],.own 3 words]):
    zP Tryz.prog 116 [.pointer (some ⟨g,0,none⟩),.int .i64 n] W (λv w' =>v= .bool (decide (0<=n/\n<(words.l.length:Int)))/\Sh K W w' [.zM g 111 [cv,pw,.int .i64 zm,.int .i64 ze,.int .i64 mode,tv,words.v,ov,pv,.bool (zq|| !decide (0<=n/\n<(words.l.length:Int)))],.own 3 words]):=by
 refine gen Tryz.func116 Tryz.ntmps116 hS V λjP z7=>gG z7<|sG (oM 1 V<|.nl)<|gK λ_ j1=>sK λ_ gu=>zn (oM 1 V<|fG _ _ V<|oM 1 V<|.nl)<|?_;clear z7
 rcases G3 (n<0) with ⟨Zo,oe⟩|⟨Zo,oe⟩
 ·skip
  refine zn (Zy 7 Zo V V<|QV Zo V<|.nl)<|nK gu<|BJ V V<|sK λ_ Xe=>zn (oM 1 V<|jA XN V<|.nl)<|dX (v:= .bool true) 0 w5 V V V<|nK Xe<|sG (oM 1 V<|.nl)<|gR<|uT<|λHS Hx jc=>zu (fn:=Tryz.f116) (t:=4) V jc V ?_
  first|(have e9:decide (0<=n/\n<(words.l.length:Int))=true:=decide_eq_true za)|(have e9:decide (0<=n/\n<(words.l.length:Int))=false:=decide_eq_false za)
  rw [e9]
  refine ⟨V,?_⟩
  first|(simp only [Bool.not_true,Bool.or_false];exact jc.sh)|(simp only [Bool.not_false,Bool.or_true];exact jc.sh)
 refine y4 (aO 1 V) λzc6=>zn (oG Zo (zG V V) V<|oG Zo (zG V V) V<|oG Zo (jC V V) V<|oG Zo (zT (r:=6) kn V V V) V<|oG Zo (xV (i:=0) zV V V V V) V<|oG Zo (Zc (s:=words) (n:=words.l.length) zt V V (λw h=>(h.own 1 V)) V) V<|oG Zo (RW (p:=n) (q:=((words.l.length:Nat):Int)) V V V) V<|Zx Zo V<|.nl)<|nK gu<|gcd V (λwQ Ki=>?_) λwQ Ki=>?_
 ·skip
  refine sK λ_ cH=>zn (oM 1 V<|jA XN V<|.nl)<|dX (v:= .bool true) 0 w5 V V V<|nK cH<|sG (oM 1 V<|.nl)<|gR<|uT<|λa24 dN wJ=>zu (fn:=Tryz.f116) (t:=4) V wJ V ?_
  first|(have e9:decide (0<=n/\n<(words.l.length:Int))=true:=decide_eq_true za)|(have e9:decide (0<=n/\n<(words.l.length:Int))=false:=decide_eq_false za)
  rw [e9]
  refine ⟨V,?_⟩
  first|(simp only [Bool.not_true,Bool.or_false];exact wJ.sh)|(simp only [Bool.not_false,Bool.or_true];exact wJ.sh)
 refine gS<|hK j1<|sG (oM 1 V<|.nl)<|gR<|λa26 lX Y0=>zu (fn:=Tryz.f116) (t:=4) V Y0 V ?_
 first|(have e9:decide (0<=n/\n<(words.l.length:Int))=true:=decide_eq_true za)|(have e9:decide (0<=n/\n<(words.l.length:Int))=false:=decide_eq_false za)
 rw [e9]
 refine ⟨V,?_⟩
 first|(simp only [Bool.not_true,Bool.or_false];exact Y0.sh)|(simp only [Bool.not_false,Bool.or_true];exact Y0.sh)
theorem b6 (K:Nat->Prop)(g t:Nat)(x:Wt)(zl:Ls kp)(wait:Ls Wt)(words owner:Ls Int)(cv pw:Value)(zm ze mode:Int)(pv:Value)(zq:Bool)(W:World)(hS:Sh K W W [.zM g 111 [cv,pw,.int .i64 zm,.int .i64 ze,.int .i64 mode,zl.v,words.v,owner.v,pv,.bool zq],.own 119 zl,.own 167 wait,.own 3 words,.own 3 owner])(hx:if x.lock=true then 0<=x.wh/\x.wh<owner.l.length else 0<=x.wh/\x.wh<words.l.length)(ht:t<zl.l.length)(EW:(nth zl.l t).wv=wait.v)(ZU:wait.l.length<=100):
    zP Tryz.prog 115 [.pointer (some ⟨g,0,none⟩),.int .i64 ((t:Nat):Int),.agg #[.bool x.lock,.int .i64 x.wh,.int .i64 x.qk]] W (λv w' =>v= .tuple #[]/\∃(kP:Ls Wt) (zB zA:Ls Int),(if 0<mode then kP.l=wait.l++ [x]/\zB=words/\zA=owner else kP=wait/\zB=(⟨words.v,if x.lock=true then words.l else words.l.set x.wh.toNat x.qk⟩:Ls Int)/\zA=(⟨owner.v,if x.lock=true then owner.l.set x.wh.toNat (-1) else owner.l⟩:Ls Int))/\Sh K W w' [.zM g 111 [cv,pw,.int .i64 zm,.int .i64 ze,.int .i64 mode,zl.v,zB.v,zA.v,pv,.bool zq],.own 119 (⟨zl.v,zl.l.set t { nth zl.l t with wv:=kP.v }⟩:Ls kp),.own 167 kP,.own 3 zB,.own 3 zA]):=by
 refine gen Tryz.func115 Tryz.ntmps115 hS V λjP z7=>gG z7<|sK λ_ kz=>XV V V λxX=>nK kz<|sG (oM 1 V<|yb 1 DV zj V V<|zbm _ _ V<|.nl)<|?_;clear z7
 refine gcd V (λZo oe=>?_) λZo oe=>?_
 ·skip
  refine y4 (aO 2 V) λB3=>rC [14,15,18] V<|pR [0,1,2,3,4,5,6,7,8,9,10,11,12,13] V (oM 1 V<|yb 1 yg xD V V<|oM 2 V<|yb 1 yg xD V V<|oM 1 V<|jo jF jg (aO 2 V) _ zp V<|QB yF V<|oV (Rn.same (x6 (s:=zl) (i:=t) (v:=((nth zl.l t).wv)) jh V V V (λw h=>(h.own 2 V)) (show t<zl.l.length from zp) (y5 V) V) EW) V<|kt 0 jy V V<|.nl) V<|pX (λ_ _ h_=>qF (n:=1) (cs:= [.bool x.lock,.int .i64 x.wh,.int .i64 x.qk]) ([x]:List Wt) h_ xu jy V V V zf V zb V (λq hq w h=>Flat.inner _ _) (λq hq b hb=>(Flat.on _ _ hb).elim) V V) V λP8=>pR [0,1,2,3,4,5,6,7,8,9,10,11,12] V (oM 1 V<|yb 2 yg xD V V<|oM 2 V<|yb 2 yg xD V V<|oM 1 V<|jo jF jg (aO 3 V) _ zp V<|QB yF V<|oV (Rn.same (x6 (s:=zl) (i:=t) (v:=((nth zl.l t).wv)) jh V V V (λw h=>(h.own 3 V)) (show t<zl.l.length from zp) (y5 V) V) EW) V<|.nl) V<|pX (λ_ _ h_=>yu (r:=4) (rm:=0) (s:=wait) (m:=(⟨P8,[x]⟩:Ls Wt)) h_ xu jy V V V V V V V (λw h=>(h.own 0 V)) (λb hb=>qt (h_.sh.ok _ (zy (i:=0) V)) hb) (λq hq b hb=>⟨q,hq,hb⟩) V V V inferInstance (show (wait.l.length+([x]).length)*24<=140737488355328/\wait.l.length+([x]).length<=140737488355328 from zp) V V) V λv17=>pR [0,1,2,3,4,16,17] V (oM 1 V<|yb 2 yg xD V V<|oM 1 V<|jo jF jg (aO 3 V) _ zp V<|QB yF V<|.nl) V<|pS (λ_ _ h_=>ei (r:=3) (i:=t) (j:=2) (x' :=({ nth zl.l t with wv:=v17 } :kp)) h_ jh V V V V V (show t<zl.l.length from zp) (y5 V) V (y7 ((h_.sh.own 4 V)).one) ((h_.sh.own 4 V)).one (by intro q hq;rcases q with _|_|_|q<;>first|rfl|omega) (λw h=>Flat.inner _ _) (λb hb=>(Flat.on _ _ hb).elim)) V<|pE [] V (.nl) V<|λPS Na XU=>?_
  try simp only [Exit.then,Exit.inBlock,if_true]
  refine qj (fn:=Tryz.f115) V XU<|⟨V,⟨v17,wait.l++([x])⟩,words,owner,?_⟩
  first|(rw [if_pos za];exact ⟨⟨V,V,V⟩,(XU.sh.zY (L' := [_,_,_,_,_]) [2,3,4,5,6] V)⟩)|(rw [if_neg za];refine ⟨⟨V,V,V⟩,?_⟩;rw [eZ za EW];exact (XU.sh.zY (L' := [_,_,_,_,_]) [2,3,4,5,6] V))
 refine gL<|zn (oM 1 V<|kt 0 jy V V<|.nl)<|gO [1,4,5,0,2,3] V<|gM 3 V (λ_ _ h_=>gQ h_ Mk V (LG _ _ x words owner _ _ _ _ _ _ _ _ _ (mY 3 h_ V) hx)) V<|?_
 rintro _ _ eI ⟨rfl,iq⟩
 refine oQ iq V<|gU<|nN<|λa23 tx kq=>?_;clear iq
 try simp only [Exit.then,Exit.inBlock,if_true]
 refine qj (fn:=Tryz.f115) V kq<|⟨V,wait,⟨words.v,if x.lock=true then words.l else words.l.set x.wh.toNat x.qk⟩,⟨owner.v,if x.lock=true then owner.l.set x.wh.toNat (-1) else owner.l⟩,?_⟩
 first|(rw [if_pos za];exact ⟨⟨V,V,V⟩,(kq.sh.zY (L' := [_,_,_,_,_]) [0,4,5,1,2] V)⟩)|(rw [if_neg za];refine ⟨⟨V,V,V⟩,?_⟩;rw [eZ za EW];exact (kq.sh.zY (L' := [_,_,_,_,_]) [0,4,5,1,2] V))
set_option maxHeartbeats 20000000
structure GV (R W L:Nat)(i:Ins):Prop where
 o1:i.op=1->0<=i.a/\i.a<R
 o2:i.op=2->(0<=i.a/\i.a<R)/\0<=i.b/\i.b<R
 o3:i.op=3\/i.op=4\/i.op=5\/i.op=6\/i.op=7->(0<=i.a/\i.a<R)/\(0<=i.b/\i.b<R)/\0<=i.c/\i.c<R
 o8:i.op=8->(0<=i.a/\i.a<R)/\0<=i.b/\i.b<W
 o9:i.op=9->(0<=i.a/\i.a<W)/\0<=i.b/\i.b<R
 o10:i.op=10\/i.op=11->(0<=i.a/\i.a<R)/\0<=i.b/\i.b<R
 o13:i.op=13->(0<=i.a/\i.a<W)/\(0<=i.b/\i.b<R)/\0<=i.c/\i.c<R
 o15:i.op=15\/i.op=16->0<=i.a/\i.a<R
 MH:i.op=17\/i.op=18->0<=i.a/\i.a<L
theorem eO {l tl:List kp}{n:Nat}{p q:Int}{r v:Value}(h:n<l.length)(e:tl=l.set n ⟨p,r,v⟩):tl.set n { nth tl n with pc:=q } =l.set n ⟨q,r,v⟩:=by
 subst e
 rw [jt,if_pos ⟨V,h⟩,List.set_set]
theorem RH {l tl:List kp}{n:Nat}{p:Int}{r v v' :Value}(h:n<l.length)(e:tl=l.set n ⟨p,r,v⟩):tl.set n { nth tl n with wv:=v' } =l.set n ⟨p,r,v'⟩:=by
 subst e
 rw [jt,if_pos ⟨V,h⟩,List.set_set]
theorem Nl {l:List kp}{n:Nat}{q:Int}{r v:Value}(hr:(nth l n).rv=r)(hv:(nth l n).wv=v):l.set n { nth l n with pc:=q } =l.set n ⟨q,r,v⟩:=by
 subst hr;subst hv;rfl
theorem Ch {l:List kp}{n:Nat}{r v:Value}(hr:(nth l n).rv=r):l.set n { nth l n with wv:=v } =l.set n ⟨(nth l n).pc,r,v⟩:=by
 subst hr;rfl
def zeT (K:Nat->Prop)(W:World)(ST TH WT xn:Nat)(g n k:Nat)(mode:Int)(c:List Ins)(zl:Ls kp)(hd:List Value)(x:TS)(code:Ls (Ls Ins))(w' :World):Prop:=
 ∃(vW:Ls Int) (kP:Ls Wt) (zB zA qT:Ls Int) (Bz:Int) (vX:Bool),(⟨Bz,vW.l,kP.l,zB.l,zA.l,qT.l,vX⟩:TS)=XY mode n c k x/\
  Sh K W w' [.zM g ST (hd++ [zl.v,zB.v,zA.v,qT.v,.bool vX]),.own TH (⟨zl.v,zl.l.set n ⟨Bz,vW.v,kP.v⟩⟩:Ls kp),.own xn vW,.own WT kP,.own xn zB,.own xn zA,.own xn qT,.at_ code]
section
variable {m:Int}{n:Nat}{i:Ins}{x:TS}
theorem Qc (h:i.op=1):zJ m n i x=x.put i.a i.b:=by simp [zJ,h]
theorem Qb (h:i.op=2):zJ m n i x=x.put i.a (x.xQ i.b):=by simp [zJ,h]
theorem Qa (h:i.op=3):zJ m n i x=x.put i.a (wrap64 (x.xQ i.b+x.xQ i.c)):=by simp [zJ,h]
theorem Z9 (h:i.op=4):zJ m n i x=x.put i.a (wrap64 (x.xQ i.b-x.xQ i.c)):=by simp [zJ,h]
theorem Z8 (h:i.op=5):zJ m n i x=x.put i.a (wrap64 (x.xQ i.b*x.xQ i.c)):=by simp [zJ,h]
theorem Z7 (h:i.op=6):zJ m n i x=x.put i.a (bit (decide (x.xQ i.b<x.xQ i.c))):=by simp [zJ,h]
theorem Z6 (h:i.op=7):zJ m n i x=x.put i.a (bit (decide (x.xQ i.b=x.xQ i.c))):=by simp [zJ,h]
theorem Z5 (h:i.op=8):zJ m n i x=x.put i.a (x.JM i.b):=by simp [zJ,h]
theorem Z4 (h:i.op=9):zJ m n i x=x.store m ⟨false,i.a,x.xQ i.b⟩:=by simp [zJ,h]
theorem vf (h:i.op=10)(h1:0<=x.xQ i.b/\x.xQ i.b<(x.words.length:Int)):zJ m n i x=x.put i.a (x.JM (x.xQ i.b)):=by simp [zJ,h,TS.isWord,h1]
theorem vg (h:i.op=10)(h1:¬(0<=x.xQ i.b/\x.xQ i.b<(x.words.length:Int))):zJ m n i x= { x with zq:=true } :=by
 have e:x.isWord (x.xQ i.b)=false:=decide_eq_false h1
 simp [zJ,h,e]
theorem vQ (h:i.op=11)(h1:0<=x.xQ i.a/\x.xQ i.a<(x.words.length:Int)):zJ m n i x=x.store m ⟨false,x.xQ i.a,x.xQ i.b⟩:=by simp [zJ,h,TS.isWord,h1]
theorem vR (h:i.op=11)(h1:¬(0<=x.xQ i.a/\x.xQ i.a<(x.words.length:Int))):zJ m n i x= { x with zq:=true } :=by
 have e:x.isWord (x.xQ i.a)=false:=decide_eq_false h1
 simp [zJ,h,e]
theorem vO (h:i.op=13)(h1:nth x.words i.a.toNat=x.xQ i.b):zJ m n i x= { x with words:=x.words.set i.a.toNat (x.xQ i.c),ze:=x.ze.set i.b.toNat 1 } :=by simp [zJ,h,h1]
theorem vP (h:i.op=13)(h1:¬nth x.words i.a.toNat=x.xQ i.b):zJ m n i x=x.put i.b 0:=by simp [zJ,h,h1]
theorem ko (h:i.op=14):zJ m n i x= { x with pc:=i.a } :=by simp [zJ,h]
theorem jQ (h:i.op=15)(h1:x.xQ i.a=0):zJ m n i x= { x with pc:=i.b } :=by simp [zJ,h,h1]
theorem jR (h:i.op=15)(h1:¬x.xQ i.a=0):zJ m n i x=x:=by simp [zJ,h,h1]
theorem kZ (h:i.op=16):zJ m n i x= { x with zd:=x.zd++ [(n:Int),x.xQ i.a] } :=by simp [zJ,h]
theorem kY (h:i.op=17):zJ m n i x= { x with owner:=x.owner.set i.a.toNat n } :=by simp [zJ,h]
theorem va (h:i.op=18)(h1:nth x.owner i.a.toNat≠n):zJ m n i x= { x with zq:=true } :=by simp [zJ,h,h1]
theorem wK (h:i.op=18)(h1:¬nth x.owner i.a.toNat≠n)(j:Nat)(hj:j<x.wait.length)(hl:(nth x.wait j).lock=true)(hw:(nth x.wait j).wh=i.a):zJ m n i x= { x with zq:=true } :=by
 have e:x.holds i.a=true:=List.any_eq_true.2 ⟨_,qb _ _ hj,by simp [hl,hw]⟩
 simp [zJ,h,e]
theorem vN (h:i.op=18)(h1:¬nth x.owner i.a.toNat≠n)(zO:∀q,q<x.wait.length->¬((nth x.wait q).lock=true/\(nth x.wait q).wh=i.a)):zJ m n i x=x.store m ⟨true,i.a,0⟩:=by
 have e:x.holds i.a=false:=by
  unfold TS.holds
  rw [List.any_eq_false]
  intro y hy
  obtain ⟨k,hk,rfl⟩:=List.mem_iff_getElem.1 hy
  have:=zO k hk
  rw [show nth x.wait k=x.wait[k] from qq _ _ hk] at this
  simpa using this
 have Lg:nth x.owner i.a.toNat=n:=Decidable.not_not.1 h1
 simp [zJ,h,Lg,e]
theorem wB (h:¬i.op=1/\¬i.op=2/\¬i.op=3/\¬i.op=4/\¬i.op=5/\¬i.op=6/\¬i.op=7/\¬i.op=8/\¬i.op=9/\¬i.op=10/\¬i.op=11/\¬i.op=13/\¬i.op=14/\¬i.op=15/\¬i.op=16/\¬i.op=17/\¬i.op=18):zJ m n i x=x:=by
 obtain ⟨h1,h2,h3,h4,h5,h6,h7,h8,h9,z7,Pb,QO,xd,xr,w9,jk,jc⟩:=h
 simp [zJ,h1,h2,h3,h4,h5,h6,h7,h8,h9,z7,Pb,QO,xd,xr,w9,jk,jc]
theorem Xt {pc:Int}{ze zd:List Int}{zq:Bool}{wait kP:Ls Wt}{words zB owner zA:Ls Int}{y:Wt}(hst:if 0<m then kP.l=wait.l++ [y]/\zB=words/\zA=owner else kP=wait/\zB=(⟨words.v,if y.lock=true then words.l else words.l.set y.wh.toNat y.qk⟩:Ls Int)/\zA=(⟨owner.v,if y.lock=true then owner.l.set y.wh.toNat (-1) else owner.l⟩:Ls Int)):
  (⟨pc,ze,kP.l,zB.l,zA.l,zd,zq⟩:TS)=TS.store m ⟨pc,ze,wait.l,words.l,owner.l,zd,zq⟩ y:=by
 unfold TS.store TS.done
 split at hst
 ·rename_i h
  obtain ⟨h1,rfl,rfl⟩:=hst
  rw [if_pos h,h1]
 ·rename_i h
  obtain ⟨rfl,rfl,rfl⟩:=hst
  rw [if_neg h]
theorem zly {c:List Ins}{k:Nat}(hk:0<k):XY m n c k x= { x.done (nth x.wait (k-1)) with wait:=x.wait.take (k-1)++x.wait.drop k } :=by
 unfold XY
 rw [if_pos hk,List.eraseIdx_eq_take_drop_succ,show k-1+1=k from za]
theorem NO {b:Bool}{p:Prop}[Decidable p](h:decide p=true):(b|| !decide p)=b:=by rw [h];simp
theorem NN {b:Bool}{p:Prop}[Decidable p](h:decide p=false):(b|| !decide p)=true:=by rw [h];simp
end
theorem xO {m:Int}{n:Nat}{c:List Ins}{k:Nat}{x:TS}(hk:k=0):XY m n c k x=zJ m n (zo c x.pc) { x with pc:=x.pc+1 } :=by subst hk;rfl
theorem zsM (K:Nat->Prop)(g mv:Nat)(code:Ls (Ls Ins))(zl:Ls kp)(ze:Ls Int)(wait:Ls Wt)(words owner zd:Ls Int)(pw:Value)(zm z8 mode:Int)(zq:Bool)(W:World)(hS:Sh K W W [.zM g 111 [code.v,pw,.int .i64 zm,.int .i64 z8,.int .i64 mode,zl.v,words.v,owner.v,zd.v,.bool zq],.own 119 zl,.own 3 ze,.own 167 wait,.own 3 words,.own 3 owner,.own 3 zd,.at_ code])(ht:mv/8<zl.l.length)(SH:mv/8<code.l.length)(Xf:mv<1000000)(Dm:(nth zl.l (mv/8)).rv=ze.v)(EW:(nth zl.l (mv/8)).wv=wait.v)(JZ:0<=(nth zl.l (mv/8)).pc/\(nth zl.l (mv/8)).pc<1000000)(ZU:wait.l.length<=3)(OS:mv%8<=wait.l.length)(Rf:zd.l.length<=100000000)(Vr:owner.l.length<=100)(Df:∀j,j<wait.l.length->if (nth wait.l j).lock=true then 0<=(nth wait.l j).wh/\(nth wait.l j).wh<owner.l.length else 0<=(nth wait.l j).wh/\(nth wait.l j).wh<words.l.length)(Is:mv%8=0->GV ze.l.length words.l.length owner.l.length (zo (nth code.l (mv/8)).l (nth zl.l (mv/8)).pc)):
    zP Tryz.prog 73 [.pointer (some ⟨g,0,none⟩),.int .i64 ((mv:Nat):Int)] W (λv w' =>v= .tuple #[]/\zeT K W 111 119 167 3 g (mv/8) (mv%8) mode (nth code.l (mv/8)).l zl [code.v,pw,.int .i64 zm,.int .i64 z8,.int .i64 mode] (⟨(nth zl.l (mv/8)).pc,ze.l,wait.l,words.l,owner.l,zd.l,zq⟩:TS) code w'):=by
 refine gen Tryz.func73 Tryz.ntmps73 hS V λjP z7=>gG z7<|sG (oM 1 V<|zn9 _ 8 zp V<|oM 1 V<|.nl)<|sK λ_ j1=>y4 (aO 1 V) λc7=>zn (oM 1 V<|yb 0 yg xD V V<|oM 1 V<|jo jF jg (aO 1 V) _ zp V<|oM 1 V<|.nl)<|nK j1<|sG (oM 1 V<|zn8 _ 8 zp V<|oM 1 V<|.nl)<|gK λ_ Xe=>sG (oM 1 V<|NU _ 0 V<|.nl)<|?_;clear z7
 refine gcd V (λzdA zcE=>?_) λzdA zcE=>?_
 ·skip
  have hwk:=Df (mv%8-1) za
  refine sK λ_ JH=>y4 (aO 3 V) λzc6=>zn (oM 2 V<|cz V<|QB yF V<|oV (Rn.same (x6 (s:=zl) (i:=mv/8) (v:=((nth zl.l (mv/8)).wv)) jh V V V (λw h=>(h.own 1 V)) (show mv/8<zl.l.length from zp) (y5 V) V) EW) V<|oM 1 V<|na _ 1 zp V<|jo xu jy (aO 3 V) _ zp V<|Xz [.bool ((nth wait.l ((mv%8)-1)).lock),.int .i64 ((nth wait.l ((mv%8)-1)).wh),.int .i64 ((nth wait.l ((mv%8)-1)).qk)] jy (aO 3 V) zp V<|.nl)<|gO [0,4,5,1,2,3,6,7] V<|gM 3 V (λ_ _ h_=>gQ h_ Mk V (LG _ _ (nth wait.l ((mv%8)-1)) words owner _ _ _ _ _ _ _ _ _ (mY 3 h_ V) hwk)) V<|?_
  rintro _ _ eI ⟨rfl,iq⟩
  refine oQ iq V<|gU<|nK JH<|gF [5,6] V<|gK λ_ V6=>rT 14 [0] (oM 2 V<|cz V<|QB yF V<|oV (Rn.same (x6 (s:=zl) (i:=mv/8) (v:=((nth zl.l (mv/8)).wv)) jh V V V (λw h=>(h.own 3 V)) (show mv/8<zl.l.length from zp) (y5 V) V) EW) V<|oM 1 V<|na _ 1 zp V<|oV (CK (s:=wait) (j:=(mv%8)-1) xu jy V V V (λw h=>(h.own 5 V)) (show (mv%8)-1<=wait.l.length from zp) (show 0<wait.l.length from zp)) V<|oM 1 V<|cz V<|QB yF V<|oV (Rn.same (x6 (s:=zl) (i:=mv/8) (v:=((nth zl.l (mv/8)).wv)) jh V V V (λw h=>(h.own 3 V)) (show mv/8<zl.l.length from zp) (y5 V) V) EW) V<|oM 1 V<|oV (fj (s:=wait) (k:=mv%8) xu jy V V V (λw h=>(h.own 5 V)) (show mv%8<=wait.l.length from zp)) V<|.nl)<|xb (λ_ _ h_=>zfG (r:=5) (j:=(mv%8)-1) (k:=mv%8) (s:=wait) h_ xu jy V V V V V V inferInstance (show (mv%8)-1<=mv%8/\mv%8<=wait.l.length/\0<wait.l.length from zp) V V) V λv24=>zn (cz V<|QB yF V<|.nl)<|gtr 3 ({ nth zl.l (mv/8) with wv:=v24 } :kp) jh zp (aO 5 V) V<|nK V6<|gR<|uT<|λa26 lX Y0=>?_;clear iq
  refine Vc (fn:=Tryz.f73) V Y0<|⟨V,⟨ze.v,ze.l⟩,⟨v24,wait.l.take ((mv%8)-1)++wait.l.drop (mv%8)⟩,⟨words.v,if (nth wait.l ((mv%8)-1)).lock=true then words.l else words.l.set (nth wait.l ((mv%8)-1)).wh.toNat (nth wait.l ((mv%8)-1)).qk⟩,⟨owner.v,if (nth wait.l ((mv%8)-1)).lock=true then owner.l.set (nth wait.l ((mv%8)-1)).wh.toNat (-1) else owner.l⟩,⟨zd.v,zd.l⟩,(nth zl.l (mv/8)).pc,zq,?_,?_⟩
  · rw [zly za];rfl
  ·have hz:=(Y0.sh.zY (L' := [_,_,_,_,_,_,_,_]) [0,3,4,5,1,2,6,7] V)
   rw [Ch Dm] at hz;exact hz
 refine gS<|hK Xe<|sK λ_ Rc=>zn (oM 2 V<|.nl)<|λmg lW w8=>zL (zD w8 ph V V V V V (np g (mv/8) code zl _ _ _ _ _ _ _ _ _ (w8.sh.zM 0 V) (w8.sh.at 7 V) (w8.sh.own 1 V) SH ht za)) (zg V _) ?_
 rintro ec ak ⟨_,⟨zg7,Yt⟩,Vt⟩
 obtain ⟨ins,xv⟩:∃i,i=zo (nth code.l (mv/8)).l (nth zl.l (mv/8)).pc:=⟨_,V⟩
 rw [<-xv] at zg7
 subst zg7
 have hR:=Is za
 rw [<-xv] at hR
 have Qp:St 384 K W ec ak _ _:=⟨Vt,w8.sh.jv Yt⟩
 clear Vt Yt
 clear w8
 refine gG Qp<|zn (oM 1 V<|kK V<|kK V<|.nl)<|Q2 qG V λb31=>YK 0 qG V V V<|zn (oM 1 V<|.nl)<|nK Rc<|sK λ_ Ur=>zn (oM 1 V<|cz V<|QB YD V<|wx zj (aO 2 V) zp V<|zgv _ _ zp V<|cz V<|QB YD V<|.nl)<|XK 2 ({ nth zl.l (mv/8) with pc:=((nth zl.l (mv/8)).pc)+1 } :kp) zj zp V V<|nK Ur<|gF [0,4,5,7] V<|?_;clear Qp
 obtain ⟨tl,Zz⟩:∃tl,tl=zl.l.set (mv/8) ({ nth zl.l (mv/8) with pc:=((nth zl.l (mv/8)).pc)+1 }):=⟨_,V⟩
 intro a35 ME Yz
 have zk3:=Yz.Jb (i:=2) (l' :=tl) V Zz.symm
 clear Yz
 rw [Nl Dm EW] at Zz
 have zpo:tl.length=zl.l.length:=by rw [Zz,XP]
 have Ow:(nth tl (mv/8)).rv=ze.v:=by rw [Zz,jt,if_pos ⟨V,ht⟩]
 have ib:(nth tl (mv/8)).wv=wait.v:=by rw [Zz,jt,if_pos ⟨V,ht⟩]
 refine gG zk3<|sG (oM 1 V<|cz V<|QB GC V<|oV (Rn.same (x6 (s:=(⟨zl.v,tl⟩:Ls kp)) (i:=mv/8) (v:=((nth tl (mv/8)).rv)) zV V V V (λw h=>(h.own 2 V)) (show mv/8<tl.length from zp) (y5 V) V) Ow) V<|oM 1 V<|.nl)<|sG (qB xL V<|qw 0 zj V V<|.nl)<|gB<|sG (yK _ _ V<|oM 1 V<|.nl)<|?_;clear zk3
 refine gcd V (λzdy zcB=>?_) λzdy zcB=>?_
 ·skip
  have q9:=hR.o1 za
  refine gL<|y4 (aO 3 V) λzri=>zn (oM 1 V<|qB qm V<|qw 0 zj V V<|qB qZ V<|qw 0 zj V V<|vC zt zj (aO 3 V) zp V<|.nl)<|XK 3 (ins.b:Int) zj zp V V<|nN<|λa42 w42 WM=>?_
  try simp only [Exit.then,Exit.inBlock,if_true]
  refine qj (fn:=Tryz.f73) V WM<|⟨V,⟨ze.v,ze.l.set ins.a.toNat ins.b⟩,⟨wait.v,wait.l⟩,⟨words.v,words.l⟩,⟨owner.v,owner.l⟩,⟨zd.v,zd.l⟩,(nth zl.l (mv/8)).pc+1,zq,?_,?_⟩
  · refine zU ?_ (xO za).symm;show _=zJ mode (mv/8) (zo (nth code.l (mv/8)).l (nth zl.l (mv/8)).pc) _;rw [<-xv];(refine zU ?_ (Qc zc).symm;rfl)
  ·have hz:=(WM.sh.zY (L' := [_,_,_,_,_,_,_,_]) [1,2,3,4,5,6,7,8] V)
   rw [Zz] at hz;exact hz
 refine sG (yK _ _ V<|oM 1 V<|.nl)<|gcd V (λzdw FE=>?_) λzdw FE=>?_
 ·skip
  have q9:=hR.o2 za
  refine y4 (aO 3 V) λzrh=>rT 9 [] (oM 1 V<|qB qm V<|qw 0 zj V V<|oM 1 V<|qB qZ V<|qw 0 zj V V<|vC zt zj (aO 3 V) zp V<|wx zj (aO 3 V) zp V<|vC zt zj (aO 3 V) zp V<|.nl)<|XK 3 (nth ze.l ins.b.toNat:Int) zj zp V V<|nN<|λPO M8 Ws=>?_
  try simp only [Exit.then,Exit.inBlock,if_true]
  refine qj (fn:=Tryz.f73) V Ws<|⟨V,⟨ze.v,ze.l.set ins.a.toNat (nth ze.l ins.b.toNat)⟩,⟨wait.v,wait.l⟩,⟨words.v,words.l⟩,⟨owner.v,owner.l⟩,⟨zd.v,zd.l⟩,(nth zl.l (mv/8)).pc+1,zq,?_,?_⟩
  · refine zU ?_ (xO za).symm;show _=zJ mode (mv/8) (zo (nth code.l (mv/8)).l (nth zl.l (mv/8)).pc) _;rw [<-xv];(refine zU ?_ (Qb zc).symm;rfl)
  ·have hz:=(Ws.sh.zY (L' := [_,_,_,_,_,_,_,_]) [1,2,3,4,5,6,7,8] V)
   rw [Zz] at hz;exact hz
 refine sG (yK _ _ V<|oM 1 V<|.nl)<|gcd V (λoF FC=>?_) λoF FC=>?_
 ·skip
  have q9:=hR.o3 za
  refine y4 (aO 3 V) λzxs=>rT 15 [] (oM 1 V<|qB qm V<|qw 0 zj V V<|oM 1 V<|qB qZ V<|qw 0 zj V V<|vC zt zj (aO 3 V) zp V<|wx zj (aO 3 V) zp V<|oM 1 V<|qB gh V<|qw 0 zj V V<|vC zt zj (aO 3 V) zp V<|wx zj (aO 3 V) zp V<|oV (RX (p:=nth ze.l ins.b.toNat) (q:=nth ze.l ins.c.toNat) V V V) V<|vC zt zj (aO 3 V) zp V<|.nl)<|XK 3 (wrap64 ((nth ze.l ins.b.toNat)+(nth ze.l ins.c.toNat)):Int) zj zp V V<|nN<|λMV MB G0=>?_
  try simp only [Exit.then,Exit.inBlock,if_true]
  refine qj (fn:=Tryz.f73) V G0<|⟨V,⟨ze.v,ze.l.set ins.a.toNat (wrap64 ((nth ze.l ins.b.toNat)+(nth ze.l ins.c.toNat)))⟩,⟨wait.v,wait.l⟩,⟨words.v,words.l⟩,⟨owner.v,owner.l⟩,⟨zd.v,zd.l⟩,(nth zl.l (mv/8)).pc+1,zq,?_,?_⟩
  · refine zU ?_ (xO za).symm;show _=zJ mode (mv/8) (zo (nth code.l (mv/8)).l (nth zl.l (mv/8)).pc) _;rw [<-xv];(refine zU ?_ (Qa zc).symm;rfl)
  ·have hz:=(G0.sh.zY (L' := [_,_,_,_,_,_,_,_]) [1,2,3,4,5,6,7,8] V)
   rw [Zz] at hz;exact hz
 refine sG (yK _ _ V<|oM 1 V<|.nl)<|gcd V (λzdt nZ=>?_) λzdt nZ=>?_
 ·skip
  have q9:=hR.o3 za
  refine y4 (aO 3 V) λzxp=>rT 15 [] (oM 1 V<|qB qm V<|qw 0 zj V V<|oM 1 V<|qB qZ V<|qw 0 zj V V<|vC zt zj (aO 3 V) zp V<|wx zj (aO 3 V) zp V<|oM 1 V<|qB gh V<|qw 0 zj V V<|vC zt zj (aO 3 V) zp V<|wx zj (aO 3 V) zp V<|oV (mP (p:=nth ze.l ins.b.toNat) (q:=nth ze.l ins.c.toNat) V V V) V<|vC zt zj (aO 3 V) zp V<|.nl)<|XK 3 (wrap64 ((nth ze.l ins.b.toNat)-(nth ze.l ins.c.toNat)):Int) zj zp V V<|nN<|λa57 w57 DK=>?_
  try simp only [Exit.then,Exit.inBlock,if_true]
  refine qj (fn:=Tryz.f73) V DK<|⟨V,⟨ze.v,ze.l.set ins.a.toNat (wrap64 ((nth ze.l ins.b.toNat)-(nth ze.l ins.c.toNat)))⟩,⟨wait.v,wait.l⟩,⟨words.v,words.l⟩,⟨owner.v,owner.l⟩,⟨zd.v,zd.l⟩,(nth zl.l (mv/8)).pc+1,zq,?_,?_⟩
  · refine zU ?_ (xO za).symm;show _=zJ mode (mv/8) (zo (nth code.l (mv/8)).l (nth zl.l (mv/8)).pc) _;rw [<-xv];(refine zU ?_ (Z9 zc).symm;rfl)
  ·have hz:=(DK.sh.zY (L' := [_,_,_,_,_,_,_,_]) [1,2,3,4,5,6,7,8] V)
   rw [Zz] at hz;exact hz
 refine sG (yK _ _ V<|oM 1 V<|.nl)<|gcd V (λzsh zqs=>?_) λzsh zqs=>?_
 ·skip
  have q9:=hR.o3 za
  refine y4 (aO 3 V) λzxn=>rT 15 [] (oM 1 V<|qB qm V<|qw 0 zj V V<|oM 1 V<|qB qZ V<|qw 0 zj V V<|vC zt zj (aO 3 V) zp V<|wx zj (aO 3 V) zp V<|oM 1 V<|qB gh V<|qw 0 zj V V<|vC zt zj (aO 3 V) zp V<|wx zj (aO 3 V) zp V<|oV (mQ (p:=nth ze.l ins.b.toNat) (q:=nth ze.l ins.c.toNat) V V V) V<|vC zt zj (aO 3 V) zp V<|.nl)<|XK 3 (wrap64 ((nth ze.l ins.b.toNat)*(nth ze.l ins.c.toNat)):Int) zj zp V V<|nN<|λa62 w62 O6=>?_
  try simp only [Exit.then,Exit.inBlock,if_true]
  refine qj (fn:=Tryz.f73) V O6<|⟨V,⟨ze.v,ze.l.set ins.a.toNat (wrap64 ((nth ze.l ins.b.toNat)*(nth ze.l ins.c.toNat)))⟩,⟨wait.v,wait.l⟩,⟨words.v,words.l⟩,⟨owner.v,owner.l⟩,⟨zd.v,zd.l⟩,(nth zl.l (mv/8)).pc+1,zq,?_,?_⟩
  · refine zU ?_ (xO za).symm;show _=zJ mode (mv/8) (zo (nth code.l (mv/8)).l (nth zl.l (mv/8)).pc) _;rw [<-xv];(refine zU ?_ (Z8 zc).symm;rfl)
  ·have hz:=(O6.sh.zY (L' := [_,_,_,_,_,_,_,_]) [1,2,3,4,5,6,7,8] V)
   rw [Zz] at hz;exact hz
 refine sG (yK _ _ V<|oM 1 V<|.nl)<|gcd V (λoE FA=>?_) λoE FA=>?_
 ·skip
  have q9:=hR.o3 za
  intro a66 M7 B8
  refine ka 16 [] zb zb B8 λ_ z67=>qQ B8.fr<|vu (oM 1 V<|qB qm V<|qw 0 zj V V<|oM 1 V<|qB qZ V<|qw 0 zj V V<|.nl)<|?_
  have zrc:ze.l.length<=140737488355328:=(B8.sh.own 3 V).len
  refine vu (vC zt zj (aO 3 V) zp V<|wx zj (aO 3 V) zp V<|oM 1 V<|qB gh V<|qw 0 zj V V<|vC zt zj (aO 3 V) zp V<|wx zj (aO 3 V) zp V<|fG _ _ V<|.nl)<|qP Mj V (λw h=>(zai (decide (nth ze.l ins.b.toNat<nth ze.l ins.c.toNat)) _))<|vu (vC zt zj (aO 3 V) zp V<|.nl)<|qN z67<|XK 3 (bit (decide (nth ze.l ins.b.toNat<nth ze.l ins.c.toNat)):Int) zj zp V V<|nN<|λa70 w70 BH=>?_;clear B8
  try simp only [Exit.then,Exit.inBlock,if_true]
  refine qj (fn:=Tryz.f73) V BH<|⟨V,⟨ze.v,ze.l.set ins.a.toNat (bit (decide (nth ze.l ins.b.toNat<nth ze.l ins.c.toNat)))⟩,⟨wait.v,wait.l⟩,⟨words.v,words.l⟩,⟨owner.v,owner.l⟩,⟨zd.v,zd.l⟩,(nth zl.l (mv/8)).pc+1,zq,?_,?_⟩
  · refine zU ?_ (xO za).symm;show _=zJ mode (mv/8) (zo (nth code.l (mv/8)).l (nth zl.l (mv/8)).pc) _;rw [<-xv];(refine zU ?_ (Z7 zc).symm;rfl)
  ·have hz:=(BH.sh.zY (L' := [_,_,_,_,_,_,_,_]) [1,2,3,4,5,6,7,8] V)
   rw [Zz] at hz;exact hz
 refine sG (yK _ _ V<|oM 1 V<|.nl)<|gcd V (λkN nY=>?_) λkN nY=>?_
 ·skip
  have q9:=hR.o3 za
  intro a74 w74 h74
  refine ka 16 [] zb zb h74 λ_ z75=>qQ h74.fr<|vu (oM 1 V<|qB qm V<|qw 0 zj V V<|oM 1 V<|qB qZ V<|qw 0 zj V V<|.nl)<|?_
  have zxk:ze.l.length<=140737488355328:=(h74.sh.own 3 V).len
  refine vu (vC zt zj (aO 3 V) zp V<|wx zj (aO 3 V) zp V<|oM 1 V<|qB gh V<|qw 0 zj V V<|vC zt zj (aO 3 V) zp V<|wx zj (aO 3 V) zp V<|yK _ _ V<|.nl)<|qP Mj V (λw h=>(zai (decide (nth ze.l ins.b.toNat=nth ze.l ins.c.toNat)) _))<|vu (vC zt zj (aO 3 V) zp V<|.nl)<|qN z75<|XK 3 (bit (decide (nth ze.l ins.b.toNat=nth ze.l ins.c.toNat)):Int) zj zp V V<|nN<|λa78 w78 O4=>?_;clear h74
  try simp only [Exit.then,Exit.inBlock,if_true]
  refine qj (fn:=Tryz.f73) V O4<|⟨V,⟨ze.v,ze.l.set ins.a.toNat (bit (decide (nth ze.l ins.b.toNat=nth ze.l ins.c.toNat)))⟩,⟨wait.v,wait.l⟩,⟨words.v,words.l⟩,⟨owner.v,owner.l⟩,⟨zd.v,zd.l⟩,(nth zl.l (mv/8)).pc+1,zq,?_,?_⟩
  · refine zU ?_ (xO za).symm;show _=zJ mode (mv/8) (zo (nth code.l (mv/8)).l (nth zl.l (mv/8)).pc) _;rw [<-xv];(refine zU ?_ (Z6 zc).symm;rfl)
  ·have hz:=(O4.sh.zY (L' := [_,_,_,_,_,_,_,_]) [1,2,3,4,5,6,7,8] V)
   rw [Zz] at hz;exact hz
 refine sG (yK _ _ V<|oM 1 V<|.nl)<|gcd V (λzr9 zqj=>?_) λzr9 zqj=>?_
 ·skip
  have q9:=hR.o8 za
  intro a81 w81 AH
  refine ka 9 [] zb zb AH λ_ z82=>qQ AH.fr<|vu (oM 1 V<|qB qm V<|qw 0 zj V V<|oM 2 V<|qB qZ V<|qw 0 zj V V<|.nl)<|qP Mi V (λw h=>(sQ g (mv/8) ins.b (⟨zl.v,tl⟩:Ls kp) words wait _ _ _ _ _ _ _ _ _ (h.zM 1 V) (h.own 2 V) (h.own 5 V) (h.own 4 V) (show mv/8<tl.length from za) ib za))<|?_
  have zjf:ze.l.length<=140737488355328:=(AH.sh.own 3 V).len
  refine vu (vC zt zj (aO 3 V) zp V<|.nl)<|qN z82<|XK 3 (x4 wait.l words.l ins.b:Int) zj zp V V<|nN<|λa85 w85 I9=>?_;clear AH
  try simp only [Exit.then,Exit.inBlock,if_true]
  refine qj (fn:=Tryz.f73) V I9<|⟨V,⟨ze.v,ze.l.set ins.a.toNat (x4 wait.l words.l ins.b)⟩,⟨wait.v,wait.l⟩,⟨words.v,words.l⟩,⟨owner.v,owner.l⟩,⟨zd.v,zd.l⟩,(nth zl.l (mv/8)).pc+1,zq,?_,?_⟩
  · refine zU ?_ (xO za).symm;show _=zJ mode (mv/8) (zo (nth code.l (mv/8)).l (nth zl.l (mv/8)).pc) _;rw [<-xv];(refine zU ?_ (Z5 zc).symm;rfl)
  ·have hz:=(I9.sh.zY (L' := [_,_,_,_,_,_,_,_]) [1,2,3,4,5,6,7,8] V)
   rw [Zz] at hz;exact hz
 refine sG (yK _ _ V<|oM 1 V<|.nl)<|gcd V (λZA Fz=>?_) λZA Fz=>?_
 ·skip
  have q9:=hR.o9 za
  refine y4 (aO 3 V) λzxf=>rT 10 [] (oM 2 V<|qB qm V<|qw 0 zj V V<|oM 1 V<|qB qZ V<|qw 0 zj V V<|vC zt zj (aO 3 V) zp V<|wx zj (aO 3 V) zp V<|oV (q8 (cs:= [.bool false,.int .i64 ins.a,.int .i64 (nth ze.l ins.b.toNat)]) V V zb) V<|.nl)<|gO [1,2,4,5,6,0,3,7,8] V<|gM 5 V (λ_ _ h_=>gQ h_ pg V (b6 _ _ (mv/8) (⟨false,ins.a,nth ze.l ins.b.toNat⟩:Wt) (⟨zl.v,tl⟩:Ls kp) wait words owner _ _ _ _ _ _ _ _ (mY 5 h_ V) (by first|(simp only [if_true];omega)|(simp only [Bool.false_eq_true,if_false];omega)) (show mv/8<tl.length from za) ib za)) V<|?_
  rintro _ _ w91 ⟨rfl,AZ,pQ,rG,hst,E7⟩
  refine oQ E7 V<|gU<|nN<|λa92 w92 h92=>?_;clear E7
  try simp only [Exit.then,Exit.inBlock,if_true]
  refine qj (fn:=Tryz.f73) V h92<|⟨V,⟨ze.v,ze.l⟩,⟨AZ.v,AZ.l⟩,⟨pQ.v,pQ.l⟩,⟨rG.v,rG.l⟩,⟨zd.v,zd.l⟩,(nth zl.l (mv/8)).pc+1,zq,?_,?_⟩
  · refine zU ?_ (xO za).symm;show _=zJ mode (mv/8) (zo (nth code.l (mv/8)).l (nth zl.l (mv/8)).pc) _;rw [<-xv];exact zU (Xt hst) (Z4 zc).symm
  ·have hz:=(h92.sh.zY (L' := [_,_,_,_,_,_,_,_]) [0,1,6,2,3,4,7,8] V)
   rw [RH ht Zz] at hz;exact hz
 refine sG (yK _ _ V<|oM 1 V<|.nl)<|gF [0,4,5,7,9,70,201] V<|gcd V (λHO zct=>?_) λHO zct=>?_
 ·skip
  have q9:=hR.o10 za
  refine sK λ_ k95=>y4 (aO 3 V) λzxc=>zn (oM 2 V<|qB qZ V<|qw 0 zj V V<|vC zt zj (aO 3 V) zp V<|wx zj (aO 3 V) zp V<|.nl)<|gO [1,5,0,2,3,4,6,7,8] V<|gM 2 V (λ_ _ h_=>gQ h_ Mh V (AW _ _ (nth ze.l ins.b.toNat) _ _ _ _ _ _ _ _ _ _ _ (mY 2 h_ V))) V<|?_
  rintro _ _ w99 ⟨rfl,zhr⟩
  refine oQ zhr V<|gU<|zn (oM 1 V<|.nl)<|nK k95<|sG (oM 1 V<|.nl)<|?_;clear zhr
  refine gcd V (λYx iB=>?_) λYx iB=>?_
  ·skip
   intro zeR zaG dq
   refine ka 12 [] zb zb dq λ_ znn=>qQ dq.fr<|vu (oM 1 V<|qB qm V<|qw 2 zj V V<|oM 3 V<|qB qZ V<|qw 2 zj V V<|vC zt zj (aO 4 V) zp V<|wx zj (aO 4 V) zp V<|.nl)<|qP Mi V (λw h=>(sQ g (mv/8) (nth ze.l ins.b.toNat) (⟨zl.v,tl⟩:Ls kp) words wait _ _ _ _ _ _ _ _ _ (h.zM 0 V) (h.own 3 V) (h.own 1 V) (h.own 5 V) (show mv/8<tl.length from za) ib za))<|vu (vC zt zj (aO 4 V) zp V<|.nl)<|qN znn<|XK 4 (x4 wait.l words.l (nth ze.l ins.b.toNat):Int) zj zp V V<|nN<|λa105 Ng J4=>?_;clear dq
   try simp only [Exit.then,Exit.inBlock,if_true]
   refine qj (fn:=Tryz.f73) V J4 ?_
   have B4:(zq|| !decide (0<=nth ze.l ins.b.toNat/\nth ze.l ins.b.toNat<(words.l.length:Int)))=zq:=NO Yx
   refine ⟨V,⟨ze.v,ze.l.set ins.a.toNat (x4 wait.l words.l (nth ze.l ins.b.toNat))⟩,⟨wait.v,wait.l⟩,⟨words.v,words.l⟩,⟨owner.v,owner.l⟩,⟨zd.v,zd.l⟩,(nth zl.l (mv/8)).pc+1,zq,?_,?_⟩
   · refine zU ?_ (xO za).symm;show _=zJ mode (mv/8) (zo (nth code.l (mv/8)).l (nth zl.l (mv/8)).pc) _;rw [<-xv];first|(refine zU ?_ (vf zc zc).symm;rfl)|(refine zU ?_ (vg zc zc).symm;rfl)
   ·have hz:=(J4.sh.zY (L' := [_,_,_,_,_,_,_,_]) [0,3,4,5,1,6,7,8] V)
    rw [B4,Zz] at hz;exact hz
  refine gS<|λpA my YQ=>?_
  try simp only [Exit.then,Exit.inBlock,if_true]
  refine qj (fn:=Tryz.f73) V YQ ?_
  have B4:(zq|| !decide (0<=nth ze.l ins.b.toNat/\nth ze.l ins.b.toNat<(words.l.length:Int)))=true:=NN Yx
  refine ⟨V,⟨ze.v,ze.l⟩,⟨wait.v,wait.l⟩,⟨words.v,words.l⟩,⟨owner.v,owner.l⟩,⟨zd.v,zd.l⟩,(nth zl.l (mv/8)).pc+1,true,?_,?_⟩
  · refine zU ?_ (xO za).symm;show _=zJ mode (mv/8) (zo (nth code.l (mv/8)).l (nth zl.l (mv/8)).pc) _;rw [<-xv];first|(refine zU ?_ (vf zc zc).symm;rfl)|(refine zU ?_ (vg zc zc).symm;rfl)
  ·have hz:=(YQ.sh.zY (L' := [_,_,_,_,_,_,_,_]) [0,3,4,5,1,6,7,8] V)
   rw [B4,Zz] at hz;exact hz
 refine sG (yK _ _ V<|oM 1 V<|.nl)<|gcd V (λzkG zim=>?_) λzkG zim=>?_
 ·skip
  have q9:=hR.o10 za
  refine sK λ_ zbF=>y4 (aO 3 V) λzub=>zn (oM 2 V<|qB qm V<|qw 0 zj V V<|vC zt zj (aO 3 V) zp V<|wx zj (aO 3 V) zp V<|.nl)<|gO [1,5,0,2,3,4,6,7,8] V<|gM 2 V (λ_ _ h_=>gQ h_ Mh V (AW _ _ (nth ze.l ins.a.toNat) _ _ _ _ _ _ _ _ _ _ _ (mY 2 h_ V))) V<|?_
  rintro _ _ A1 ⟨rfl,Gh⟩
  refine oQ Gh V<|gU<|zn (oM 1 V<|.nl)<|nK zbF<|sG (oM 1 V<|.nl)<|?_;clear Gh
  refine gcd V (λQN FJ=>?_) λQN FJ=>?_
  ·skip
   refine rT 13 [] (oM 3 V<|qB qm V<|qw 2 zj V V<|vC zt zj (aO 4 V) zp V<|wx zj (aO 4 V) zp V<|oM 1 V<|qB qZ V<|qw 2 zj V V<|vC zt zj (aO 4 V) zp V<|wx zj (aO 4 V) zp V<|oV (q8 (cs:= [.bool false,.int .i64 (nth ze.l ins.a.toNat),.int .i64 (nth ze.l ins.b.toNat)]) V V zb) V<|.nl)<|gO [0,3,5,1,6,2,4,7,8] V<|gM 5 V (λ_ _ h_=>gQ h_ pg V (b6 _ _ (mv/8) (⟨false,nth ze.l ins.a.toNat,nth ze.l ins.b.toNat⟩:Wt) (⟨zl.v,tl⟩:Ls kp) wait words owner _ _ _ _ _ _ _ _ (mY 5 h_ V) (by first|(simp only [if_true];omega)|(simp only [Bool.false_eq_true,if_false];omega)) (show mv/8<tl.length from za) ib za)) V<|?_
   rintro _ _ tz ⟨rfl,pU,eB,fF,hst,U2⟩
   refine oQ U2 V<|gU<|nN<|λa119 zfW ae=>?_;clear U2
   try simp only [Exit.then,Exit.inBlock,if_true]
   refine qj (fn:=Tryz.f73) V ae ?_
   have B4:(zq|| !decide (0<=nth ze.l ins.a.toNat/\nth ze.l ins.a.toNat<(words.l.length:Int)))=zq:=NO QN
   refine ⟨V,⟨ze.v,ze.l⟩,⟨pU.v,pU.l⟩,⟨eB.v,eB.l⟩,⟨fF.v,fF.l⟩,⟨zd.v,zd.l⟩,(nth zl.l (mv/8)).pc+1,zq,?_,?_⟩
   · refine zU ?_ (xO za).symm;show _=zJ mode (mv/8) (zo (nth code.l (mv/8)).l (nth zl.l (mv/8)).pc) _;rw [<-xv];first|exact zU (Xt hst) (vQ zc zc).symm|(refine zU ?_ (vR zc zc).symm;rfl)
   ·have hz:=(ae.sh.zY (L' := [_,_,_,_,_,_,_,_]) [0,1,6,2,3,4,7,8] V)
    rw [B4,RH ht Zz] at hz;exact hz
  refine gS<|λzl6 zfV ab=>?_
  try simp only [Exit.then,Exit.inBlock,if_true]
  refine qj (fn:=Tryz.f73) V ab ?_
  have B4:(zq|| !decide (0<=nth ze.l ins.a.toNat/\nth ze.l ins.a.toNat<(words.l.length:Int)))=true:=NN QN
  refine ⟨V,⟨ze.v,ze.l⟩,⟨wait.v,wait.l⟩,⟨words.v,words.l⟩,⟨owner.v,owner.l⟩,⟨zd.v,zd.l⟩,(nth zl.l (mv/8)).pc+1,true,?_,?_⟩
  · refine zU ?_ (xO za).symm;show _=zJ mode (mv/8) (zo (nth code.l (mv/8)).l (nth zl.l (mv/8)).pc) _;rw [<-xv];first|exact zU (Xt hst) (vQ zc zc).symm|(refine zU ?_ (vR zc zc).symm;rfl)
  ·have hz:=(ab.sh.zY (L' := [_,_,_,_,_,_,_,_]) [0,3,4,5,1,6,7,8] V)
   rw [B4,Zz] at hz;exact hz
 refine sG (yK _ _ V<|oM 1 V<|.nl)<|gcd V (λzkF zih=>?_) λzkF zih=>?_
 ·skip
  have q9:=hR.o13 za
  refine gK λ_ zo0=>y4 (aO 5 V) λzt9=>y4 (aO 3 V) λzt8=>rQ (oM 1 V<|yb 1 kn zV V V<|qB qm V<|qw 0 zj V V<|vC zt zj (aO 5 V) zp V<|wx zj (aO 5 V) zp V<|oM 1 V<|qB qZ V<|qw 0 zj V V<|vC zt zj (aO 3 V) zp V<|wx zj (aO 3 V) zp V<|yK _ _ V<|.nl)<|hK zo0<|gcd V (λzkD zig=>?_) λzkD zig=>?_
  ·skip
   have q9:=hR.o13 za
   refine gK λ_ zoY=>rT 12 [] (oM 1 V<|yb 1 kn zV V V<|qB qm V<|qw 0 zj V V<|oM 1 V<|qB gh V<|qw 0 zj V V<|vC zt zj (aO 3 V) zp V<|wx zj (aO 3 V) zp V<|vC zt zj (aO 5 V) zp V<|.nl)<|XK 5 (nth ze.l ins.c.toNat:Int) zj zp V V<|nK zoY<|gF [7,9] V<|gL<|zn (oM 1 V<|qB qZ V<|qw 0 zj V V<|vC zt zj (aO 3 V) zp V<|.nl)<|XK 3 (1:Int) zj zp V V<|nN<|λa130 znD O9=>?_
   try simp only [Exit.then,Exit.inBlock,if_true]
   refine qj (fn:=Tryz.f73) V O9<|⟨V,⟨ze.v,ze.l.set ins.b.toNat 1⟩,⟨wait.v,wait.l⟩,⟨words.v,words.l.set ins.a.toNat (nth ze.l ins.c.toNat)⟩,⟨owner.v,owner.l⟩,⟨zd.v,zd.l⟩,(nth zl.l (mv/8)).pc+1,zq,?_,?_⟩
   · refine zU ?_ (xO za).symm;show _=zJ mode (mv/8) (zo (nth code.l (mv/8)).l (nth zl.l (mv/8)).pc) _;rw [<-xv];first|(refine zU ?_ (vO zc zc).symm;rfl)|(refine zU ?_ (vP zc zc).symm;rfl)
   ·have hz:=(O9.sh.zY (L' := [_,_,_,_,_,_,_,_]) [1,2,3,4,5,6,7,8] V)
    rw [Zz] at hz;exact hz
  refine gL<|zn (oM 1 V<|qB qZ V<|qw 0 zj V V<|vC zt zj (aO 3 V) zp V<|.nl)<|XK 3 (0:Int) zj zp V V<|nN<|λPV Nc Xk=>?_
  try simp only [Exit.then,Exit.inBlock,if_true]
  refine qj (fn:=Tryz.f73) V Xk<|⟨V,⟨ze.v,ze.l.set ins.b.toNat 0⟩,⟨wait.v,wait.l⟩,⟨words.v,words.l⟩,⟨owner.v,owner.l⟩,⟨zd.v,zd.l⟩,(nth zl.l (mv/8)).pc+1,zq,?_,?_⟩
  · refine zU ?_ (xO za).symm;show _=zJ mode (mv/8) (zo (nth code.l (mv/8)).l (nth zl.l (mv/8)).pc) _;rw [<-xv];first|(refine zU ?_ (vO zc zc).symm;rfl)|(refine zU ?_ (vP zc zc).symm;rfl)
  ·have hz:=(Xk.sh.zY (L' := [_,_,_,_,_,_,_,_]) [1,2,3,4,5,6,7,8] V)
   rw [Zz] at hz;exact hz
 refine sG (yK _ _ V<|oM 1 V<|.nl)<|gcd V (λzkC zid=>?_) λzkC zid=>?_
 ·skip
  refine gL<|zn (oM 1 V<|qB qm V<|qw 0 zj V V<|cz V<|QB YD V<|.nl)<|XK 2 ({ nth tl (mv/8) with pc:=ins.a } :kp) zj zp V V<|nN<|λzs9 znB Lc=>?_
  try simp only [Exit.then,Exit.inBlock,if_true]
  refine qj (fn:=Tryz.f73) V Lc<|⟨V,⟨ze.v,ze.l⟩,⟨wait.v,wait.l⟩,⟨words.v,words.l⟩,⟨owner.v,owner.l⟩,⟨zd.v,zd.l⟩,ins.a,zq,?_,?_⟩
  · refine zU ?_ (xO za).symm;show _=zJ mode (mv/8) (zo (nth code.l (mv/8)).l (nth zl.l (mv/8)).pc) _;rw [<-xv];(refine zU ?_ (ko zc).symm;rfl)
  ·have hz:=(Lc.sh.zY (L' := [_,_,_,_,_,_,_,_]) [1,2,3,4,5,6,7,8] V)
   rw [eO ht Zz] at hz;exact hz
 refine sG (yK _ _ V<|oM 1 V<|.nl)<|gcd V (λzkB zib=>?_) λzkB zib=>?_
 ·skip
  have q9:=hR.o15 za
  refine sK λ_ zoV=>y4 (aO 3 V) λzt7=>zn (oM 1 V<|qB qm V<|qw 0 zj V V<|vC zt zj (aO 3 V) zp V<|wx zj (aO 3 V) zp V<|yK _ _ V<|.nl)<|nK zoV<|gcd V (λzkA zia=>?_) λzkA zia=>?_
  ·skip
   refine gL<|zn (oM 1 V<|qB qZ V<|qw 0 zj V V<|cz V<|QB YD V<|.nl)<|XK 2 ({ nth tl (mv/8) with pc:=ins.b } :kp) zj zp V V<|nN<|λa143 zny lu=>?_
   try simp only [Exit.then,Exit.inBlock,if_true]
   refine qj (fn:=Tryz.f73) V lu<|⟨V,⟨ze.v,ze.l⟩,⟨wait.v,wait.l⟩,⟨words.v,words.l⟩,⟨owner.v,owner.l⟩,⟨zd.v,zd.l⟩,ins.b,zq,?_,?_⟩
   · refine zU ?_ (xO za).symm;show _=zJ mode (mv/8) (zo (nth code.l (mv/8)).l (nth zl.l (mv/8)).pc) _;rw [<-xv];first|(refine zU ?_ (jQ zc zc).symm;rfl)|(refine zU ?_ (jR zc zc).symm;rfl)
   ·have hz:=(lu.sh.zY (L' := [_,_,_,_,_,_,_,_]) [1,2,3,4,5,6,7,8] V)
    rw [eO ht Zz] at hz;exact hz
  refine gS<|λzl1 zfP La=>?_
  try simp only [Exit.then,Exit.inBlock,if_true]
  refine qj (fn:=Tryz.f73) V La<|⟨V,⟨ze.v,ze.l⟩,⟨wait.v,wait.l⟩,⟨words.v,words.l⟩,⟨owner.v,owner.l⟩,⟨zd.v,zd.l⟩,(nth zl.l (mv/8)).pc+1,zq,?_,?_⟩
  · refine zU ?_ (xO za).symm;show _=zJ mode (mv/8) (zo (nth code.l (mv/8)).l (nth zl.l (mv/8)).pc) _;rw [<-xv];first|(refine zU ?_ (jQ zc zc).symm;rfl)|(refine zU ?_ (jR zc zc).symm;rfl)
  ·have hz:=(La.sh.zY (L' := [_,_,_,_,_,_,_,_]) [1,2,3,4,5,6,7,8] V)
   rw [Zz] at hz;exact hz
 refine sG (yK _ _ V<|oM 1 V<|.nl)<|gcd V (λzkz zh9=>?_) λzkz zh9=>?_
 ·skip
  have q9:=hR.o15 za
  refine y4 (aO 3 V) λzt6=>rC [11,12,15] V<|pR [0,1,2,3,4,5,6,7,8,9,10] V (oM 2 V<|yb 1 Zr zV V V<|oM 2 V<|qB qm V<|qw 0 zj V V<|vC zt zj (aO 3 V) zp V<|wx zj (aO 3 V) zp V<|.nl) V<|pX (λ_ _ h_=>qF (n:=2) (cs:= [.int .i64 ((mv/8:Nat):Int),.int .i64 (nth ze.l ins.a.toNat)]) ([((mv/8:Nat):Int),nth ze.l ins.a.toNat]:List Int) h_ zt zj V V V zf V zb V (λq hq w h=>Flat.inner _ _) (λq hq b hb=>(Flat.on _ _ hb).elim) V V) V λv148=>pR [0,1,2,3,4] V (oM 2 V<|yb 2 Zr zV V V<|.nl) V<|pX (λ_ _ h_=>yu (r:=8) (rm:=0) (s:=zd) (m:=(⟨v148,[((mv/8:Nat):Int),nth ze.l ins.a.toNat]⟩:Ls Int)) h_ zt zj V V V V V V V (λw h=>(h.own 0 V)) (λb hb=>qt (h_.sh.ok _ (zy (i:=0) V)) hb) (λq hq b hb=>⟨q,hq,hb⟩) V V V inferInstance (show (zd.l.length+([((mv/8:Nat):Int),nth ze.l ins.a.toNat]).length)*8<=140737488355328/\zd.l.length+([((mv/8:Nat):Int),nth ze.l ins.a.toNat]).length<=140737488355328 from zp) V V) V λzaI=>pR [0,13,14] V (oM 1 V<|jA Zr V<|.nl) V<|pS (λ_ _ h_=>j3 (i:=2) (vs:= [zaI]) (YR:= [code.v,pw,.int .i64 zm,.int .i64 z8,.int .i64 mode,zl.v,words.v,owner.v,zaI,.bool zq]) h_ zV V V V V V (y7 ((h_.sh.own 8 V)).one) V (zr ((h_.sh.own 8 V)).one qx) (y5 V) V) V<|pE [] V (.nl) V<|λzy3 zvm zlf=>?_
  try simp only [Exit.then,Exit.inBlock,if_true]
  refine qj (fn:=Tryz.f73) V zlf<|⟨V,⟨ze.v,ze.l⟩,⟨wait.v,wait.l⟩,⟨words.v,words.l⟩,⟨owner.v,owner.l⟩,⟨zaI,zd.l++([((mv/8:Nat):Int),nth ze.l ins.a.toNat])⟩,(nth zl.l (mv/8)).pc+1,zq,?_,?_⟩
  · refine zU ?_ (xO za).symm;show _=zJ mode (mv/8) (zo (nth code.l (mv/8)).l (nth zl.l (mv/8)).pc) _;rw [<-xv];(refine zU ?_ (kZ zc).symm;rfl)
  ·have hz:=(zlf.sh.zY (L' := [_,_,_,_,_,_,_,_]) [2,3,4,5,6,7,8,9] V)
   rw [Zz] at hz;exact hz
 refine sG (yK _ _ V<|oM 1 V<|.nl)<|gcd V (λzky zh8=>?_) λzky zh8=>?_
 ·skip
  have q9:=hR.MH za
  refine y4 (aO 6 V) λzt5=>rT 8 [] (oM 1 V<|yb 1 Zs zV V V<|qB qm V<|qw 0 zj V V<|oM 1 V<|vC zt zj (aO 6 V) zp V<|.nl)<|XK 6 (((mv/8:Nat):Int):Int) zj zp V V<|nN<|λa156 zvk zld=>?_
  try simp only [Exit.then,Exit.inBlock,if_true]
  refine qj (fn:=Tryz.f73) V zld<|⟨V,⟨ze.v,ze.l⟩,⟨wait.v,wait.l⟩,⟨words.v,words.l⟩,⟨owner.v,owner.l.set ins.a.toNat ((mv/8:Nat):Int)⟩,⟨zd.v,zd.l⟩,(nth zl.l (mv/8)).pc+1,zq,?_,?_⟩
  · refine zU ?_ (xO za).symm;show _=zJ mode (mv/8) (zo (nth code.l (mv/8)).l (nth zl.l (mv/8)).pc) _;rw [<-xv];(refine zU ?_ (kY zc).symm;rfl)
  ·have hz:=(zld.sh.zY (L' := [_,_,_,_,_,_,_,_]) [1,2,3,4,5,6,7,8] V)
   rw [Zz] at hz;exact hz
 refine sG (yK _ _ V<|oM 1 V<|.nl)<|gcd V (λzkx zh6=>?_) λzkx zh6=>?_
 ·skip
  have q9:=hR.MH za
  refine gK λ_ zoR=>gK λ_ zoQ=>y4 (aO 6 V) λzt4=>rQ (oM 1 V<|yb 1 Zs zV V V<|qB qm V<|qw 0 zj V V<|vC zt zj (aO 6 V) zp V<|wx zj (aO 6 V) zp V<|oM 1 V<|QW _ _ V<|.nl)<|hK zoQ<|gF [0,4,5,7,341] V<|gcd V (λzkw zh5=>?_) λzkw zh5=>?_
  ·skip
   have q9:=hR.MH za
   refine sK λ_ zoP=>zn (oM 1 V<|jA XN V<|.nl)<|dX (v:= .bool true) 1 w5 V V V<|nK zoP<|gR<|uT<|uB<|λzyZ zvg zk9=>Vc (fn:=Tryz.f73) V zk9<|⟨V,⟨ze.v,ze.l⟩,⟨wait.v,wait.l⟩,⟨words.v,words.l⟩,⟨owner.v,owner.l⟩,⟨zd.v,zd.l⟩,(nth zl.l (mv/8)).pc+1,true,?_,?_⟩
   · refine zU ?_ (xO za).symm;show _=zJ mode (mv/8) (zo (nth code.l (mv/8)).l (nth zl.l (mv/8)).pc) _;rw [<-xv];first|(refine zU ?_ (va zc zc).symm;rfl)|exact zU (Xt hst) (vN zc zc (λq (hq:q<wait.l.length)=>zO q za)).symm|(refine zU ?_ (wK zc zc j zc zc zc).symm;rfl)
   ·have hz:=(zk9.sh.zY (L' := [_,_,_,_,_,_,_,_]) [1,2,3,4,5,6,7,8] V)
    rw [Zz] at hz;exact hz
  refine gS<|hK zoR<|gK λ_ zoO=>sG (oM 1 V<|.nl)<|gB<|λzyY zve zk7=>qE (λm a w=>∃(j:Nat),(j<=wait.l.length)/\(∀q,q<j->¬((nth wait.l q).lock=true/\(nth wait.l q).wh=ins.a))/\St 384 K W a w [(0,.pointer (some ⟨g,0,none⟩)),(4,.int .i64 ((mv/8:Nat):Int)),(5,.pointer (some (ja zl.v 3 (mv/8) 0))),(7,.pointer (some ⟨b31,0,none⟩)),(12,.int .i64 ((j:Nat):Int))] [.zM b31 32 [.int .i64 ins.op,.int .i64 ins.a,.int .i64 ins.b,.int .i64 ins.c],.zM g 111 [code.v,pw,.int .i64 zm,.int .i64 z8,.int .i64 mode,zl.v,words.v,owner.v,zd.v,.bool zq],.own 119 (⟨zl.v,tl⟩:Ls kp),.own 3 ze,.own 167 wait,.own 3 words,.own 3 owner,.own 3 zd,.at_ code]/\m=wait.l.length-j) ⟨_,0,za,(λq hq=>absurd hq za),zk7.nf ⟨V,V,V,V,V,trivial⟩,V⟩ ?_
  clear zk7
  rintro zv3 a168 zvf ⟨j,hj,zO,zk8,Tc⟩
  refine gG zk8<|gK λ_ zoN=>sK λ_ zoM=>y4 (aO 4 V) λzt3=>zn (oM 2 V<|cz V<|QB yF V<|oV (Rn.same (x6 (s:=(⟨zl.v,tl⟩:Ls kp)) (i:=mv/8) (v:=((nth tl (mv/8)).wv)) jh V V V (λw h=>(h.own 2 V)) (show mv/8<tl.length from zp) (y5 V) V) ib) V<|wk xu (aO 4 V) V<|xk _ _ V<|.nl)<|nK zoM<|?_;clear zk8
  refine gcd V (λzkv zh4=>?_) λzkv zh4=>?_
  ·skip
   refine gS<|hK zoN<|gK λ_ zgN=>gB<|gK λ_ zgM=>λzyX zvd O7=>wS zb zb O7 λ_ zfD=>qQ O7.fr<|vu (oM 1 V<|cz V<|QB yF V<|oV (Rn.same (x6 (s:=(⟨zl.v,tl⟩:Ls kp)) (i:=mv/8) (v:=((nth tl (mv/8)).wv)) jh V V V (λw h=>(h.own 2 V)) (show mv/8<tl.length from zp) (y5 V) V) ib) V<|oM 1 V<|jo xu jy (aO 4 V) _ zp V<|QB XM V<|Z1 (.bool ((nth wait.l j).lock)) w5 (aO 4 V) zp V<|oM 1 V<|.nl)<|?_
   rcases JU ((nth wait.l j).lock) with Yw|Yw
   ·skip
    refine vu (oG Yw (zG V V) V<|oG Yw (jC V V) V<|oG Yw (jT (r:=2) yF V V V) V<|oG Yw (Rn.same (x6 (s:=(⟨zl.v,tl⟩:Ls kp)) (i:=mv/8) (v:=((nth tl (mv/8)).wv)) jh V V V (λw h=>(h.own 2 V)) (show mv/8<tl.length from zp) (y5 V) V) ib) V<|oG Yw (zG V V) V<|oG Yw (gD (s:=wait) (q:=j) xu jy V V V (λw h=>(h.own 4 V)) (show j<wait.l.length from zp)) V<|oG Yw (jT (r:=1) Qr V V V) V<|oG Yw (x6 (s:=wait) (i:=j) (v:= .int .i64 ((nth wait.l j).wh)) zj V V V (λw h=>(h.own 4 V)) (show j<wait.l.length from zp) (y5 V) V) V<|oG Yw (zT (r:=1) qm V V V) V<|oG Yw (xV (i:=0) zj V V V V) V<|oG Yw (kJ (p:=(nth wait.l j).wh) (q:=ins.a) V V V) V<|QV Yw V<|.nl)<|qN zfD<|?_;clear O7
    refine hK zgM<|gF [0,4,5,7,12,374] V<|gcd V (λzku zh3=>?_) λzku zh3=>?_
    ·skip
     refine sK λ_ zoL=>zn (oM 1 V<|jA XN V<|.nl)<|dX (v:= .bool true) 1 w5 V V V<|nK zoL<|gR<|uB<|uT<|uT<|uB<|uT<|uB<|λa193 zvc zk6=>Vc (fn:=Tryz.f73) V zk6<|⟨V,⟨ze.v,ze.l⟩,⟨wait.v,wait.l⟩,⟨words.v,words.l⟩,⟨owner.v,owner.l⟩,⟨zd.v,zd.l⟩,(nth zl.l (mv/8)).pc+1,true,?_,?_⟩
     · refine zU ?_ (xO za).symm;show _=zJ mode (mv/8) (zo (nth code.l (mv/8)).l (nth zl.l (mv/8)).pc) _;rw [<-xv];first|(refine zU ?_ (va zc zc).symm;rfl)|exact zU (Xt hst) (vN zc zc (λq (hq:q<wait.l.length)=>zO q za)).symm|(refine zU ?_ (wK zc zc j zc zc zc).symm;rfl)
     ·have hz:=(zk6.sh.zY (L' := [_,_,_,_,_,_,_,_]) [1,2,3,4,5,6,7,8] V)
      rw [Zz] at hz;exact hz
    refine gS<|hK zgN<|gL<|zn (oM 1 V<|yl _ 1 zp V<|oM 1 V<|.nl)<|nN<|λa194 zvb zsz=>zH ⟨_,?_,j+1,?_,?_,zsz.nf ⟨V,V,V,V,V,trivial⟩,V⟩
    · rw [Tc];first|omega|(simp only [qf];omega)
    · omega
    · intro q hq;rcases yq q j with h9|h9;(exact zO q h9);obtain rfl:q=j:=za;first|(rintro ⟨h8,_⟩;exact absurd (h8.symm.trans (show _=false from zc)) zf)|(rintro ⟨_,h8⟩;omega)
   refine vu (Zy 11 Yw V V<|Zx Yw V<|.nl)<|qN zfD<|?_;clear O7
   refine hK zgM<|gF [0,4,5,7,12,374] V<|Q1 V V<|gS<|hK zgN<|gL<|zn (oM 1 V<|yl _ 1 zp V<|oM 1 V<|.nl)<|nN<|λa196 zva zsy=>zH ⟨_,?_,j+1,?_,?_,zsy.nf ⟨V,V,V,V,V,trivial⟩,V⟩
   · rw [Tc];first|omega|(simp only [qf];omega)
   · omega
   · intro q hq;rcases yq q j with h9|h9;(exact zO q h9);obtain rfl:q=j:=za;first|(rintro ⟨h8,_⟩;exact absurd (h8.symm.trans (show _=false from zc)) zf)|(rintro ⟨_,h8⟩;omega)
  refine gX<|hK zoO<|gL<|zn (oM 2 V<|qB qm V<|qw 0 zj V V<|oV (q8 (cs:= [.bool true,.int .i64 ins.a,.int .i64 0]) V V zb) V<|.nl)<|gO [1,2,4,5,6,0,3,7,8] V<|gM 5 V (λ_ _ h_=>gQ h_ pg V (b6 _ _ (mv/8) (⟨true,ins.a,0⟩:Wt) (⟨zl.v,tl⟩:Ls kp) wait words owner _ _ _ _ _ _ _ _ (mY 5 h_ V) (by first|(simp only [if_true];omega)|(simp only [Bool.false_eq_true,if_false];omega)) (show mv/8<tl.length from za) ib za)) V<|?_
  rintro _ _ zu9 ⟨rfl,pT,eA,fE,hst,SL⟩
  refine oQ SL V<|gU<|nN<|λzyW zu8 zk5=>?_;clear SL
  try simp only [Exit.then,Exit.inBlock,if_true]
  refine qj (fn:=Tryz.f73) V zk5<|⟨V,⟨ze.v,ze.l⟩,⟨pT.v,pT.l⟩,⟨eA.v,eA.l⟩,⟨fE.v,fE.l⟩,⟨zd.v,zd.l⟩,(nth zl.l (mv/8)).pc+1,zq,?_,?_⟩
  · refine zU ?_ (xO za).symm;show _=zJ mode (mv/8) (zo (nth code.l (mv/8)).l (nth zl.l (mv/8)).pc) _;rw [<-xv];first|(refine zU ?_ (va zc zc).symm;rfl)|exact zU (Xt hst) (vN zc zc (λq (hq:q<wait.l.length)=>zO q za)).symm|(refine zU ?_ (wK zc zc j zc zc zc).symm;rfl)
  ·have hz:=(zk5.sh.zY (L' := [_,_,_,_,_,_,_,_]) [0,1,6,2,3,4,7,8] V)
   rw [RH ht Zz] at hz;exact hz
 refine gS<|λa201 zu7 zk4=>?_
 try simp only [Exit.then,Exit.inBlock,if_true]
 refine qj (fn:=Tryz.f73) V zk4<|⟨V,⟨ze.v,ze.l⟩,⟨wait.v,wait.l⟩,⟨words.v,words.l⟩,⟨owner.v,owner.l⟩,⟨zd.v,zd.l⟩,(nth zl.l (mv/8)).pc+1,zq,?_,?_⟩
 · refine zU ?_ (xO za).symm;show _=zJ mode (mv/8) (zo (nth code.l (mv/8)).l (nth zl.l (mv/8)).pc) _;rw [<-xv];(refine zU ?_ (wB za).symm;rfl)
 ·have hz:=(zk4.sh.zY (L' := [_,_,_,_,_,_,_,_]) [1,2,3,4,5,6,7,8] V)
  rw [Zz] at hz;exact hz
def Bw (x:Wt):List Int:= [if x.lock=true then 1 else 0,x.wh,x.qk]
theorem P2 {x:Wt}(h:x.lock=true):Bw x= [1,x.wh,x.qk]:=by simp [Bw,h]
theorem P3 {x:Wt}(h:x.lock=false):Bw x= [0,x.wh,x.qk]:=by simp [Bw,h]
def thN (x:Th):List Int:= [x.pc,(x.wait.length:Int)]++x.ze++x.wait.flatMap Bw
def KY (zW:List Th)(words owner zd:List Int):List Int:=zW.flatMap thN++words++owner++zd
theorem Q3 {α β:Type}[Inhabited α](f:α->List β)(l:List α)(i:Nat)(h:i<l.length):(l.take (i+1)).flatMap f=(l.take i).flatMap f++f (nth l i):=by
 rw [zS _ _ h];simp
theorem uf (g:Nat)(zl:Ls xg)(words owner zd:Ls Int)(cv pw:Value)(zm z8 mode:Int)(zq:Bool)(W:World)(hB:xB W g 111 #[cv,pw,.int .i64 zm,.int .i64 z8,.int .i64 mode,zl.v,words.v,owner.v,zd.v,.bool zq])(vM:zl.At W)(Gq:words.At W)(Ji:owner.At W)(DJ:zd.At W)(qg:zl.l.length<=4)(hrg:∀i,i<zl.l.length->(nth zl.l i).ze.l.length<=100000)(ZU:∀i,i<zl.l.length->(nth zl.l i).wait.l.length<=3)(aV:words.l.length<=100000/\owner.l.length<=100000/\zd.l.length<=100000000):
    zP Tryz.prog 106 [.pointer (some ⟨g,0,none⟩)] W (λv w' =>∃s:Ls Int,v=s.v/\s.l=KY (zl.l.map xg.th) words.l owner.l zd.l/\qM W w' [.own 3 s]):=by
 refine gen Tryz.func106 Tryz.ntmps106 (qM.ext (by intro A hA;simp at hA;rcases hA with rfl|rfl|rfl|rfl|rfl;exact hB;exact vM;exact Gq;exact Ji;exact DJ) (by intro A hA b hb;simp at hA;rcases hA with rfl|rfl|rfl|rfl|rfl<;>exact hb):Sh (λ_=>False) W W [.zx g 111 [cv,pw,.int .i64 zm,.int .i64 z8,.int .i64 mode,zl.v,words.v,owner.v,zd.v,.bool zq],.at_ zl,.at_ words,.at_ owner,.at_ zd]) V λjP z7=>gG z7<|sG (oM 1 V<|.nl)<|sG (oM 1 V<|.nl)<|gK λ_ gu=>sG (oM 1 V<|.nl)<|gB<|λa17 By jk=>?_;clear z7
 have w9:=jk.nil (α:=Int) 3
 clear jk
 refine qE (λm a w=>∃(i:Nat) (ml:List Int) (vm:Value),(i<=zl.l.length)/\(ml=((zl.l.take i).map xg.th).flatMap thN)/\(ml.length<=200000*i)/\St 83 (λ_=>False) W a w [(0,.pointer (some ⟨g,0,none⟩)),(3,vm),(4,.int .i64 ((i:Nat):Int))] [.zx g 111 [cv,pw,.int .i64 zm,.int .i64 z8,.int .i64 mode,zl.v,words.v,owner.v,zd.v,.bool zq],.at_ zl,.at_ words,.at_ owner,.at_ zd,.own 3 (⟨vm,ml⟩:Ls Int)]/\m=zl.l.length-i) ⟨_,0,[],(.slice none 0 0),za,(by simp),(by simp),w9.wN ⟨V,V,V,trivial⟩ [1,2,3,4,5,0] V,V⟩ ?_
 clear w9
 rintro m15 HT Hz ⟨i,ml,vm,hi,U4,hmn,xr,B2⟩
 refine gG xr<|gK λ_ JH=>sK λ_ Va=>y4 (aA 1 V) λzjj=>zn (oM 2 V<|jA yg V<|w7 0 xD V V<|wk jF (aA 1 V) V<|xk _ _ V<|.nl)<|nK Va<|?_;clear xr
 refine gcd V (λdc c6=>?_) λdc c6=>?_
 ·skip
  refine gS<|hK JH<|?_
  have zpU:=hrg i za
  have zpj:=ZU i za
  refine gK λ_ J9=>gB<|sK λ_ V6=>zn (oM 1 V<|jA yg V<|w7 0 xD V V<|oM 1 V<|jo jF jg (aA 1 V) _ zp V<|Xz [.int .i64 ((nth zl.l i).pc),((nth zl.l i).ze).v,((nth zl.l i).wait).v] jg (aA 1 V) zp V<|.nl)<|Q2 jg V λb24=>gE (λ_ _ h_=>j3 (i:=0) (vs:= [.int .i64 ((nth zl.l i).pc),((nth zl.l i).ze).v,((nth zl.l i).wait).v]) (YR:= [.int .i64 ((nth zl.l i).pc),((nth zl.l i).ze).v,((nth zl.l i).wait).v]) h_ jg V V V V V V V (zr V (zr (((h_.sh.at 2 V).inner i (show i<zl.l.length from zp)).1).one (zr (((h_.sh.at 2 V).inner i (show i<zl.l.length from zp)).2).one qx))) (y5 V) V) V<|nK V6<|sK λ_ De=>y4 (λw h=>((h.at 2 V).inner i (show i<zl.l.length from za)).2) λ(zc4:(((nth zl.l i).wait).l).length<=140737488355328)=>zn (oM 1 V<|qB YD V<|qw 0 zj V V<|qB yF V<|qw 0 jh V V<|wk (n:=(((nth zl.l i).wait).l).length) xu (λw h=>((h.at 2 V).inner i (show i<zl.l.length from za)).2) V<|.nl)<|xb (λ_ _ h_=>qF (n:=2) (cs:= [.int .i64 ((nth zl.l i).pc),.int .i64 (((((nth zl.l i).wait).l).length:Nat):Int)]) ([(nth zl.l i).pc,(((((nth zl.l i).wait).l).length:Nat):Int)]:List Int) h_ zt zj V V V zf V zb V (λq hq w h=>Flat.inner _ _) (λq hq b hb=>(Flat.on _ _ hb).elim) V V) V λv28=>xb (λ_ _ h_=>yu (r:=7) (rm:=0) (s:=(⟨vm,ml⟩:Ls Int)) (m:=(⟨v28,[(nth zl.l i).pc,(((((nth zl.l i).wait).l).length:Nat):Int)]⟩:Ls Int)) h_ zt zj V V V V V V V (λw h=>(h.own 0 V)) (λb hb=>qt (h_.sh.ok _ (zy (i:=0) V)) hb) (λq hq b hb=>⟨q,hq,hb⟩) V V V inferInstance (show (ml.length+([(nth zl.l i).pc,(((((nth zl.l i).wait).l).length:Nat):Int)]).length)*8<=140737488355328/\ml.length+([(nth zl.l i).pc,(((((nth zl.l i).wait).l).length:Nat):Int)]).length<=140737488355328 from zp) V V) V λpY=>zn (oM 1 V<|.nl)<|nK De<|sK λ_ HH=>zn (oM 1 V<|qB GC V<|qw 1 zV V V<|.nl)<|xb (λ_ _ h_=>yu (r:=7) (rm:=3) (s:=(⟨pY,ml++([(nth zl.l i).pc,(((((nth zl.l i).wait).l).length:Nat):Int)])⟩:Ls Int)) (m:=(nth zl.l i).ze) h_ zt zj V V V V V V V (λw h=>((h.at 3 V).inner i (show i<zl.l.length from zp)).1) (λb hb=> .inr (.inr ⟨i,(show i<zl.l.length from zp),.inl hb⟩)) (λq hq b hb=>(Flat.on _ _ hb).elim) V V V inferInstance (show ((ml++([(nth zl.l i).pc,(((((nth zl.l i).wait).l).length:Nat):Int)])).length+(((nth zl.l i).ze).l).length)*8<=140737488355328/\(ml++([(nth zl.l i).pc,(((((nth zl.l i).wait).l).length:Nat):Int)])).length+(((nth zl.l i).ze).l).length<=140737488355328 from zp) V V) V λv31=>zn (oM 1 V<|.nl)<|nK HH<|gF [0,3,4,5] V<|sG (oM 1 V<|.nl)<|gB<|λpz mu YA=>qE (λm a w=>∃(k:Nat) (ZQ:List Int) (WA:Value),(k<=(nth zl.l i).wait.l.length)/\(ZQ=ml++([(nth zl.l i).pc,((nth zl.l i).wait.l.length:Int)]++(nth zl.l i).ze.l++((nth zl.l i).wait.l.take k).flatMap Bw))/\(ZQ.length<=ml.length+2+(nth zl.l i).ze.l.length+3*k)/\St 83 (λ_=>False) W a w [(0,.pointer (some ⟨g,0,none⟩)),(3,WA),(4,.int .i64 ((i:Nat):Int)),(5,.pointer (some ⟨b24,0,none⟩)),(6,.int .i64 ((k:Nat):Int))] [.own 3 (⟨v28,[(nth zl.l i).pc,(((((nth zl.l i).wait).l).length:Nat):Int)]⟩:Ls Int),.zM b24 119 [.int .i64 ((nth zl.l i).pc),((nth zl.l i).ze).v,((nth zl.l i).wait).v],.zx g 111 [cv,pw,.int .i64 zm,.int .i64 z8,.int .i64 mode,zl.v,words.v,owner.v,zd.v,.bool zq],.at_ zl,.at_ words,.at_ owner,.at_ zd,.own 3 (⟨WA,ZQ⟩:Ls Int)]/\m=(nth zl.l i).wait.l.length-k) ⟨_,0,(ml++([(nth zl.l i).pc,(((((nth zl.l i).wait).l).length:Nat):Int)]))++(((nth zl.l i).ze).l),v31,za,(by simp),(by simp;omega),YA.nf ⟨V,V,V,V,V,trivial⟩,V⟩ ?_
  clear YA
  rintro m33 a33 M9 ⟨k,ZQ,WA,hk,Yu,OJ,Vb,OM⟩
  refine gG Vb<|gK λ_ k35=>sG (oM 1 V<|qB yF V<|qw 1 jh V V<|wk (n:=(((nth zl.l i).wait).l).length) xu (λw h=>((h.at 3 V).inner i (show i<zl.l.length from za)).2) V<|xk _ _ V<|.nl)<|?_;clear Vb
  refine gcd V (λgw cV=>?_) λgw cV=>?_
  ·skip
   refine gS<|hK k35<|gK λ_ dP=>gB<|sG (oM 1 V<|.nl)<|gK λ_ MK=>sG (qB yF V<|qw 1 jh V V<|oM 1 V<|jo xu jy (λw h=>((h.at 3 V).inner i (show i<zl.l.length from za)).2) _ zp V<|QB XM V<|Z1 (.bool ((nth (((nth zl.l i).wait).l) k).lock)) w5 (λw h=>((h.at 3 V).inner i (show i<zl.l.length from za)).2) zp V<|.nl)<|Xl V (λuQ=>?_) λuQ=>?_
   ·skip
    refine gL<|zn (oM 1 V<|.nl)<|nK MK<|rT 14 [0] (oM 2 V<|qB yF V<|qw 1 jh V V<|oM 1 V<|jo xu jy (λw h=>((h.at 3 V).inner i (show i<zl.l.length from za)).2) _ zp V<|QB Qr V<|Z1 (.int .i64 ((nth (((nth zl.l i).wait).l) k).wh)) zj (λw h=>((h.at 3 V).inner i (show i<zl.l.length from za)).2) zp V<|qB yF V<|qw 1 jh V V<|oM 1 V<|jo xu jy (λw h=>((h.at 3 V).inner i (show i<zl.l.length from za)).2) _ zp V<|QB GA V<|Z1 (.int .i64 ((nth (((nth zl.l i).wait).l) k).qk)) zj (λw h=>((h.at 3 V).inner i (show i<zl.l.length from za)).2) zp V<|.nl)<|xb (λ_ _ h_=>qF (n:=3) (cs:= [.int .i64 1,.int .i64 ((nth (((nth zl.l i).wait).l) k).wh),.int .i64 ((nth (((nth zl.l i).wait).l) k).qk)]) ([1,(nth (((nth zl.l i).wait).l) k).wh,(nth (((nth zl.l i).wait).l) k).qk]:List Int) h_ zt zj V V V zf V zb V (λq hq w h=>Flat.inner _ _) (λq hq b hb=>(Flat.on _ _ hb).elim) V V) V λHB=>xb (λ_ _ h_=>yu (r:=8) (rm:=0) (s:=(⟨WA,ZQ⟩:Ls Int)) (m:=(⟨HB,[1,(nth (((nth zl.l i).wait).l) k).wh,(nth (((nth zl.l i).wait).l) k).qk]⟩:Ls Int)) h_ zt zj V V V V V V V (λw h=>(h.own 0 V)) (λb hb=>qt (h_.sh.ok _ (zy (i:=0) V)) hb) (λq hq b hb=>⟨q,hq,hb⟩) V V V inferInstance (show (ZQ.length+([1,(nth (((nth zl.l i).wait).l) k).wh,(nth (((nth zl.l i).wait).l) k).qk]).length)*8<=140737488355328/\ZQ.length+([1,(nth (((nth zl.l i).wait).l) k).wh,(nth (((nth zl.l i).wait).l) k).qk]).length<=140737488355328 from zp) V V) V λv44=>zn (oM 1 V<|.nl)<|nK dP<|gF [0,3,4,5,6] V<|gL<|zn (oM 1 V<|yl _ 1 zp V<|oM 1 V<|.nl)<|nN<|λa45 w45 dV=>zH ⟨_,?_,k+1,ZQ++([1,(nth (((nth zl.l i).wait).l) k).wh,(nth (((nth zl.l i).wait).l) k).qk]),v44,?_,?_,?_,dV.wN ⟨V,V,V,V,V,trivial⟩ [1,2,3,4,5,6,7,8] V,V⟩
    · rw [OM];first|omega|(simp only [qf];omega)
    · omega
    · first|(rw [Q3 _ _ _ za,Yu,P2 zc];simp only [xi];done)|(rw [Q3 _ _ _ za,Yu,P3 zc];simp only [xi];done)
    · simp;omega
   refine gS<|hK MK<|rT 14 [0] (oM 2 V<|qB yF V<|qw 1 jh V V<|oM 1 V<|jo xu jy (λw h=>((h.at 3 V).inner i (show i<zl.l.length from za)).2) _ zp V<|QB Qr V<|Z1 (.int .i64 ((nth (((nth zl.l i).wait).l) k).wh)) zj (λw h=>((h.at 3 V).inner i (show i<zl.l.length from za)).2) zp V<|qB yF V<|qw 1 jh V V<|oM 1 V<|jo xu jy (λw h=>((h.at 3 V).inner i (show i<zl.l.length from za)).2) _ zp V<|QB GA V<|Z1 (.int .i64 ((nth (((nth zl.l i).wait).l) k).qk)) zj (λw h=>((h.at 3 V).inner i (show i<zl.l.length from za)).2) zp V<|.nl)<|xb (λ_ _ h_=>qF (n:=3) (cs:= [.int .i64 0,.int .i64 ((nth (((nth zl.l i).wait).l) k).wh),.int .i64 ((nth (((nth zl.l i).wait).l) k).qk)]) ([0,(nth (((nth zl.l i).wait).l) k).wh,(nth (((nth zl.l i).wait).l) k).qk]:List Int) h_ zt zj V V V zf V zb V (λq hq w h=>Flat.inner _ _) (λq hq b hb=>(Flat.on _ _ hb).elim) V V) V λv46=>xb (λ_ _ h_=>yu (r:=8) (rm:=0) (s:=(⟨WA,ZQ⟩:Ls Int)) (m:=(⟨v46,[0,(nth (((nth zl.l i).wait).l) k).wh,(nth (((nth zl.l i).wait).l) k).qk]⟩:Ls Int)) h_ zt zj V V V V V V V (λw h=>(h.own 0 V)) (λb hb=>qt (h_.sh.ok _ (zy (i:=0) V)) hb) (λq hq b hb=>⟨q,hq,hb⟩) V V V inferInstance (show (ZQ.length+([0,(nth (((nth zl.l i).wait).l) k).wh,(nth (((nth zl.l i).wait).l) k).qk]).length)*8<=140737488355328/\ZQ.length+([0,(nth (((nth zl.l i).wait).l) k).wh,(nth (((nth zl.l i).wait).l) k).qk]).length<=140737488355328 from zp) V V) V λv47=>zn (oM 1 V<|.nl)<|nK dP<|gF [0,3,4,5,6] V<|gL<|zn (oM 1 V<|yl _ 1 zp V<|oM 1 V<|.nl)<|nN<|λAo tt Yy=>zH ⟨_,?_,k+1,ZQ++([0,(nth (((nth zl.l i).wait).l) k).wh,(nth (((nth zl.l i).wait).l) k).qk]),v47,?_,?_,?_,Yy.wN ⟨V,V,V,V,V,trivial⟩ [1,2,3,4,5,6,7,8] V,V⟩
   · rw [OM];first|omega|(simp only [qf];omega)
   · omega
   · first|(rw [Q3 _ _ _ za,Yu,P2 zc];simp only [xi];done)|(rw [Q3 _ _ _ za,Yu,P3 zc];simp only [xi];done)
   · simp;omega
  refine gX<|hK J9<|gL<|zn (oM 1 V<|yl _ 1 zp V<|oM 1 V<|.nl)<|nN<|λa49 w49 U7=>zH ⟨_,?_,i+1,ZQ,WA,?_,?_,?_,U7.wN ⟨V,V,V,trivial⟩ [2,3,4,5,6,7] V,V⟩
  · rw [B2];first|omega|(simp only [qf];omega)
  · omega
  · rw [zS _ _ za,yi,XR,<-U4,Yu,show k=(nth zl.l i).wait.l.length from za];simp [thN,xg.th,QR]
  · have:=hrg i za;have:=ZU i za;omega
 refine gX<|hK gu<|sK λ_ MJ=>zn (oM 2 V<|jA kn V<|w7 0 zV V V<|.nl)<|xb (λ_ _ h_=>yu (r:=5) (rm:=2) (s:=(⟨vm,ml⟩:Ls Int)) (m:=words) h_ zt zj V V V V V V V (λw h=>(h.at 2 V)) (λb hb=> .inr hb) (λq hq b hb=> .inr ⟨q,hq,hb⟩) V V V inferInstance (show (ml.length+words.l.length)*8<=140737488355328/\ml.length+words.l.length<=140737488355328 from zp) V V) V λv51=>zn (oM 1 V<|.nl)<|nK MJ<|sK λ_ EI=>zn (oM 2 V<|jA Zs V<|w7 0 zV V V<|.nl)<|xb (λ_ _ h_=>yu (r:=5) (rm:=3) (s:=(⟨v51,ml++words.l⟩:Ls Int)) (m:=owner) h_ zt zj V V V V V V V (λw h=>(h.at 3 V)) (λb hb=> .inr hb) (λq hq b hb=> .inr ⟨q,hq,hb⟩) V V V inferInstance (show ((ml++words.l).length+owner.l.length)*8<=140737488355328/\(ml++words.l).length+owner.l.length<=140737488355328 from zp) V V) V λv53=>zn (oM 1 V<|.nl)<|nK EI<|sK λ_ k54=>zn (oM 2 V<|jA Zr V<|w7 0 zV V V<|.nl)<|xb (λ_ _ h_=>yu (r:=5) (rm:=4) (s:=(⟨v53,(ml++words.l)++owner.l⟩:Ls Int)) (m:=zd) h_ zt zj V V V V V V V (λw h=>(h.at 4 V)) (λb hb=> .inr hb) (λq hq b hb=> .inr ⟨q,hq,hb⟩) V V V inferInstance (show (((ml++words.l)++owner.l).length+zd.l.length)*8<=140737488355328/\((ml++words.l)++owner.l).length+zd.l.length<=140737488355328 from zp) V V) V λv55=>zn (oM 1 V<|.nl)<|nK k54<|gF [2] V<|gR<|λa56 P5 KE=>zu (fn:=Tryz.f106) (t:=2) V KE V<|⟨⟨v55,((ml++words.l)++owner.l)++zd.l⟩,V,?_,(KE.sh.zY [5] V)⟩
 show _++_++_++_=_;rw [U4,show i=zl.l.length from za,Y9];rfl
theorem zdY (g:Nat)(zl:Ls xg)(words owner zd:Ls Int)(cv pw:Value)(zm z8 mode:Int)(zq:Bool)(W:World)(hB:xB W g 111 #[cv,pw,.int .i64 zm,.int .i64 z8,.int .i64 mode,zl.v,words.v,owner.v,zd.v,.bool zq])(vM:zl.At W)(Gq:words.At W)(Ji:owner.At W)(DJ:zd.At W)(qg:zl.l.length<=4)(hrg:∀i,i<zl.l.length->(nth zl.l i).ze.l.length<=100000)(ZU:∀i,i<zl.l.length->(nth zl.l i).wait.l.length<=3)(aV:words.l.length<=100000/\owner.l.length<=100000/\zd.l.length<=100000000):
    zP Tryz.prog 72 [.pointer (some ⟨g,0,none⟩)] W (λv w' =>∃(g2:Nat) (rows:List xg) (vt:Value) (zB zA qT:Ls Int),v= .pointer (some ⟨g2,0,none⟩)/\rows.map xg.th=zl.l.map xg.th/\zB.l=words.l/\zA.l=owner.l/\qT.l=zd.l/\qM W w' [.zM g2 111 [cv,pw,.int .i64 zm,.int .i64 z8,.int .i64 mode,vt,zB.v,zA.v,qT.v,.bool zq],.own 119 (⟨vt,rows.map xg.XT⟩:Ls kp),.x5 (xo 3 167 rows),.own 3 zB,.own 3 zA,.own 3 qT]):=by
 refine gen Tryz.func72 Tryz.ntmps72 (qM.ext (by intro A hA;simp at hA;rcases hA with rfl|rfl|rfl|rfl|rfl;exact hB;exact vM;exact Gq;exact Ji;exact DJ) (by intro A hA b hb;simp at hA;rcases hA with rfl|rfl|rfl|rfl|rfl<;>exact hb):Sh (λ_=>False) W W [.zx g 111 [cv,pw,.int .i64 zm,.int .i64 z8,.int .i64 mode,zl.v,words.v,owner.v,zd.v,.bool zq],.at_ zl,.at_ words,.at_ owner,.at_ zd]) V λjP z7=>gG z7<|sG (oM 1 V<|.nl)<|gK λ_ j1=>rT 13 [] (oM 1 V<|jA ly V<|oV (rq (vs:= [cv,pw,.int .i64 zm,.int .i64 z8]) qu V V (λw h=>h.zx 0 V) V V) V<|oM 1 V<|jA DV V<|w7 0 zj V V<|oM 1 V<|jA XN V<|w7 0 w5 V V<|oV (q8 (cs:= [cv,pw,.int .i64 zm,.int .i64 z8,.int .i64 mode,(.slice none 0 0),(.slice none 0 0),(.slice none 0 0),(.slice none 0 0),.bool zq]) V V zb) V<|.nl)<|XV V V λgk=>zn (oM 1 V<|.nl)<|nK j1<|sK λ_ Xp=>zn (oM 1 V<|.nl)<|xb (λ_ _ h_=>Xc (α:=Int) h_ zt zj V V V) V λHC=>zn (oM 1 V<|jA kn V<|w7 2 zV V V<|.nl)<|xb (λ_ _ h_=>yu (r:=0) (rm:=4) (s:=(⟨HC,[]⟩:Ls Int)) (m:=words) h_ zt zj V V V V V V V (λw h=>(h.at 4 V)) (λb hb=> .inr hb) (λq hq b hb=> .inr ⟨q,hq,hb⟩) V V V inferInstance (show (([]).length+words.l.length)*8<=140737488355328/\([]).length+words.l.length<=140737488355328 from zp) V V) V λP8=>zn (jA kn V<|.nl)<|dY 1 zV V (aO 0 V) V<|nK Xp<|gF [0,3] V<|sK λ_ JH=>zn (oM 1 V<|.nl)<|xb (λ_ _ h_=>Xc (α:=Int) h_ zt zj V V V) V λmB=>zn (oM 1 V<|jA Zs V<|w7 3 zV V V<|.nl)<|xb (λ_ _ h_=>yu (r:=0) (rm:=6) (s:=(⟨mB,[]⟩:Ls Int)) (m:=owner) h_ zt zj V V V V V V V (λw h=>(h.at 6 V)) (λb hb=> .inr hb) (λq hq b hb=> .inr ⟨q,hq,hb⟩) V V V inferInstance (show (([]).length+owner.l.length)*8<=140737488355328/\([]).length+owner.l.length<=140737488355328 from zp) V V) V λv20=>zn (jA Zs V<|.nl)<|dY 2 zV V (aO 0 V) V<|nK JH<|sK λ_ J9=>zn (oM 1 V<|.nl)<|xb (λ_ _ h_=>Xc (α:=Int) h_ zt zj V V V) V λv23=>zn (oM 1 V<|jA Zr V<|w7 4 zV V V<|.nl)<|xb (λ_ _ h_=>yu (r:=0) (rm:=8) (s:=(⟨v23,[]⟩:Ls Int)) (m:=zd) h_ zt zj V V V V V V V (λw h=>(h.at 8 V)) (λb hb=> .inr hb) (λq hq b hb=> .inr ⟨q,hq,hb⟩) V V V inferInstance (show (([]).length+zd.l.length)*8<=140737488355328/\([]).length+zd.l.length<=140737488355328 from zp) V V) V λv24=>zn (jA Zr V<|.nl)<|dY 3 zV V (aO 0 V) V<|nK J9<|gK λ_ De=>sG (oM 1 V<|.nl)<|gB<|λec ak Qp=>?_;clear z7
 have w8:=Qp.nil (α:=kp) 119
 clear Qp
 have ZW:=w8.zlD 3 167
 clear w8
 refine qE (λm a w=>∃(i:Nat) (rows:List xg) (vt:Value),(i<=zl.l.length)/\(rows.length=i)/\(rows.map xg.th=(zl.l.take i).map xg.th)/\St 98 (λ_=>False) W a w [(0,.pointer (some ⟨g,0,none⟩)),(3,.pointer (some ⟨gk,0,none⟩)),(4,.int .i64 ((i:Nat):Int))] [.own 3 (⟨v24,zd.l⟩:Ls Int),.own 3 (⟨v20,owner.l⟩:Ls Int),.own 3 (⟨P8,words.l⟩:Ls Int),.zM gk 111 [cv,pw,.int .i64 zm,.int .i64 z8,.int .i64 mode,vt,P8,v20,v24,.bool zq],.zx g 111 [cv,pw,.int .i64 zm,.int .i64 z8,.int .i64 mode,zl.v,words.v,owner.v,zd.v,.bool zq],.at_ zl,.at_ words,.at_ owner,.at_ zd,.own 119 (⟨vt,rows.map xg.XT⟩:Ls kp),.x5 (xo 3 167 rows)]/\m=zl.l.length-i) ⟨_,0,[],_,za,(V),(by simp),ZW.wN ⟨V,V,V,trivial⟩ [2,3,4,5,6,7,8,9,10,1,0] V,V⟩ ?_
 clear ZW
 rintro m28 a28 w28 ⟨i,rows,vt,hi,Wk,S3,U8,Ib⟩
 refine gG U8<|gK λ_ sb=>sK λ_ Ur=>y4 (aA 5 V) λzxx=>zn (oM 2 V<|jA yg V<|w7 4 xD V V<|wk jF (aA 5 V) V<|xk _ _ V<|.nl)<|nK Ur<|?_;clear U8
 refine gcd V (λda zcC=>?_) λda zcC=>?_
 ·skip
  refine gS<|hK sb<|?_
  have zpU:=hrg i za
  have zpj:=ZU i za
  refine gK λ_ ia=>gB<|sK λ_ Dd=>zn (oM 1 V<|jA yg V<|w7 4 xD V V<|oM 1 V<|jo jF jg (aA 5 V) _ zp V<|QB YD V<|wx zj (aA 5 V) zp V<|oV (q8 (cs:= [.int .i64 ((nth zl.l i).pc),(.slice none 0 0),(.slice none 0 0)]) V V zb) V<|.nl)<|Q2 jg V λb38=>YK 0 jg V V V<|nK Dd<|sK λ_ MK=>xb (λ_ _ h_=>Xc (α:=Int) h_ zt zj V V V) V λv41=>zn (oM 1 V<|jA yg V<|w7 6 xD V V<|oM 1 V<|jo jF jg (aA 7 V) _ zp V<|QB GC V<|Z1 (((nth zl.l i).ze).v) zV (aA 7 V) zp V<|.nl)<|xb (λ_ _ h_=>yu (r:=0) (rm:=7) (s:=(⟨v41,[]⟩:Ls Int)) (m:=(nth zl.l i).ze) h_ zt zj V V V V V V V (λw h=>((h.at 7 V).inner i (show i<zl.l.length from zp)).1) (λb hb=> .inr (.inr ⟨i,(show i<zl.l.length from zp),.inl hb⟩)) (λq hq b hb=>(Flat.on _ _ hb).elim) V V V inferInstance (show (([]).length+(((nth zl.l i).ze).l).length)*8<=140737488355328/\([]).length+(((nth zl.l i).ze).l).length<=140737488355328 from zp) V V) V λAv=>zn (qB GC V<|.nl)<|dY 1 zV V (aO 0 V) V<|nK MK<|gF [0,3,4,5] V<|sK λ_ nB=>xb (λ_ _ h_=>Xc (α:=Wt) h_ xu jy V V V) V λv45=>zn (oM 1 V<|jA yg V<|w7 7 xD V V<|oM 1 V<|jo jF jg (aA 8 V) _ zp V<|QB yF V<|Z1 (((nth zl.l i).wait).v) jh (aA 8 V) zp V<|.nl)<|xb (λ_ _ h_=>yu (r:=0) (rm:=8) (s:=(⟨v45,[]⟩:Ls Wt)) (m:=(nth zl.l i).wait) h_ xu jy V V V V V V V (λw h=>((h.at 8 V).inner i (show i<zl.l.length from zp)).2) (λb hb=> .inr (.inr ⟨i,(show i<zl.l.length from zp),.inr hb⟩)) (λq hq b hb=>(Flat.on _ _ hb).elim) V V V inferInstance (show (([]).length+(((nth zl.l i).wait).l).length)*24<=140737488355328/\([]).length+(((nth zl.l i).wait).l).length<=140737488355328 from zp) V V) V λv46=>zn (qB yF V<|.nl)<|dY 2 jh V (aO 0 V) V<|nK nB<|rC [6,7,10] V<|pR [0,1,2,3,4,5] V (oM 2 V<|yb 6 yg xD V V<|kt 2 jg V V<|.nl) V<|pX (λ_ _ h_=>qF (n:=1) (cs:= [.int .i64 ((nth zl.l i).pc),Av,v46]) ([(⟨(nth zl.l i).pc,Av,v46⟩:kp)]:List kp) h_ jF jg V V V zf V zb V (λq hq w h=>Flat.inner _ _) (λq hq b hb=>(Flat.on _ _ hb).elim) V V) V λv48=>pR [0,1,2,3,4] V (oM 2 V<|yb 7 yg xD V V<|.nl) V<|pX (λ_ _ h_=>RC (r:=13) (rm:=0) (s:=(⟨vt,rows.map xg.XT⟩:Ls kp)) (m:=(⟨v48,[(⟨(nth zl.l i).pc,Av,v46⟩:kp)]⟩:Ls kp)) h_ jF jg V V V V V V V (λw h=>(h.own 0 V)) (λb hb=>qt (h_.sh.ok _ (zy (i:=0) V)) hb) (λq hq b hb=>⟨q,hq,hb⟩) V V V (λw h q hq j hj=>by obtain rfl:q=0:=(by simpa using hq);rcases j with _|_|_|j;exact V;exact ((h.own 2 V)).one;exact ((h.own 1 V)).one;exact absurd hj (by show¬(j+3<3);omega)) (show ((rows.map xg.XT).length+([(⟨(nth zl.l i).pc,Av,v46⟩:kp)]).length)*56<=140737488355328/\(rows.map xg.XT).length+([(⟨(nth zl.l i).pc,Av,v46⟩:kp)]).length<=140737488355328 from zp) V V) V λv49=>pR [0,8,9] V (oM 1 V<|jA yg V<|.nl) V<|pS (λ_ _ h_=>j3 (i:=7) (vs:= [v49]) (YR:= [cv,pw,.int .i64 zm,.int .i64 z8,.int .i64 mode,v49,P8,v20,v24,.bool zq]) h_ xD V V V V V (y7 ((h_.sh.own 13 V)).one) V (zr ((h_.sh.own 13 V)).one qx) (y5 V) V) V<|pE [] V (.nl) V<|hK ia<|gL<|zn (oM 1 V<|yl _ 1 zp V<|oM 1 V<|.nl)<|nN<|gO [2,1,14,0,3,4,5,6,7,8,9,10,11,12,13] V<|λa53 w53 mf=>?_
  have G0:=mf.fold (x:=(⟨(nth zl.l i).pc,(⟨Av,((nth zl.l i).ze).l⟩:Ls Int),(⟨v46,((nth zl.l i).wait).l⟩:Ls Wt)⟩:xg))
  clear mf
  have DL:=G0.Jb (i:=12) (l' :=(rows++ [(⟨(nth zl.l i).pc,(⟨Av,((nth zl.l i).ze).l⟩:Ls Int),(⟨v46,((nth zl.l i).wait).l⟩:Ls Wt)⟩:xg)]).map xg.XT) V (by simp [xg.XT])
  clear G0
  refine zH ⟨_,?_,(i+1),(rows++ [(⟨(nth zl.l i).pc,(⟨Av,((nth zl.l i).ze).l⟩:Ls Int),(⟨v46,((nth zl.l i).wait).l⟩:Ls Wt)⟩:xg)]),v49,?_,?_,?_,DL.wN ⟨V,V,V,trivial⟩ [3,4,5,6,7,8,9,10,11,12,0] V,V⟩
  · rw [Ib];first|omega|(simp only [qf];omega)
  · omega
  · simp [Wk]
  · rw [yi,S3,zS _ _ za,yi];rfl
 refine gX<|hK De<|sG (oM 2 V<|.nl)<|gR<|λa56 P5 KE=>zu (fn:=Tryz.f72) (t:=2) V KE V<|⟨gk,rows,vt,⟨P8,words.l⟩,⟨v20,owner.l⟩,⟨v24,zd.l⟩,V,?_,V,V,V,(KE.sh.zY [3,9,10,2,1,0] V)⟩
 rw [S3,show i=zl.l.length from za,Y9]
theorem PF (code:Ls (Ls Ins))(words:Ls Int)(Lk R:Nat)(mode:Int)(W:World)(qY:code.At W)(yo:words.At W)(qg:code.l.length<=4)(gv:Lk<=4)(hR:R<=200)(aV:words.l.length<=64):
    zP Tryz.prog 67 [.agg #[code.v,words.v,.int .i64 ((Lk:Nat):Int),.int .i64 ((R:Nat):Int)],.int .i64 mode] W (λv w' =>∃(g2:Nat) (rows:List xg) (vt:Value) (zB zA qT:Ls Int),v= .pointer (some ⟨g2,0,none⟩)/\rows.map xg.th=List.replicate code.l.length ⟨0,List.replicate R 0,[]⟩/\zB.l=words.l/\zA.l=List.replicate Lk (-1)/\qT.l= []/\qM W w' [.zM g2 111 [code.v,words.v,.int .i64 (Lk:Int),.int .i64 (R:Int),.int .i64 mode,vt,zB.v,zA.v,qT.v,.bool false],.own 119 (⟨vt,rows.map xg.XT⟩:Ls kp),.x5 (xo 3 167 rows),.own 3 zB,.own 3 zA,.own 3 qT]):=by
 refine gen Tryz.func67 Tryz.ntmps67 (qM.Jo qY yo:Sh (λ_=>False) W W [.at_ code,.at_ words]) V λjP z7=>gG z7<|sK λ_ kz=>XV V V λxX=>zn (oM 1 V<|.nl)<|nK kz<|sK λ_ gu=>zn (kt 0 qu V V<|oM 1 V<|oV (q8 (cs:= [code.v,words.v,.int .i64 ((Lk:Nat):Int),.int .i64 ((R:Nat):Int),.int .i64 mode,(.slice none 0 0),(.slice none 0 0),(.slice none 0 0),(.slice none 0 0),.bool false]) V V zb) V<|.nl)<|XV V V λeb=>zn (oM 1 V<|.nl)<|nK gu<|sK λ_ Xe=>zn (oM 1 V<|.nl)<|xb (λ_ _ h_=>Xc (α:=Int) h_ zt zj V V V) V λP8=>zn (qB Gz V<|qw 2 zV V V<|.nl)<|xb (λ_ _ h_=>yu (r:=0) (rm:=4) (s:=(⟨P8,[]⟩:Ls Int)) (m:=words) h_ zt zj V V V V V V V (λw h=>(h.at 4 V)) (λb hb=> .inr hb) (λq hq b hb=> .inr ⟨q,hq,hb⟩) V V V inferInstance (show (([]).length+words.l.length)*8<=140737488355328/\([]).length+words.l.length<=140737488355328 from zp) V V) V λv17=>zn (jA kn V<|.nl)<|dY 1 zV V (aO 0 V) V<|nK Xe<|gK λ_ Va=>sG (oM 1 V<|.nl)<|gB<|λa23 tx kq=>?_;clear z7
 have V8:=kq.nil (α:=Int) 3
 clear kq
 refine qE (λm a w=>∃(i:Nat) (ol:List Int) (vo:Value),(i<=Lk)/\(ol=List.replicate i (-1))/\(ol.length=i)/\St 55 (λ_=>False) W a w [(2,.pointer (some ⟨xX,0,none⟩)),(5,.pointer (some ⟨eb,0,none⟩)),(6,.int .i64 ((i:Nat):Int))] [.own 3 (⟨v17,words.l⟩:Ls Int),.zM eb 111 [code.v,words.v,.int .i64 ((Lk:Nat):Int),.int .i64 ((R:Nat):Int),.int .i64 mode,(.slice none 0 0),v17,vo,(.slice none 0 0),.bool false],.zM xX 25 [code.v,words.v,.int .i64 ((Lk:Nat):Int),.int .i64 ((R:Nat):Int)],.at_ code,.at_ words,.own 3 (⟨vo,ol⟩:Ls Int)]/\m=Lk-i) ⟨_,0,[],(.slice none 0 0),za,(V),(V),V8.wN ⟨V,V,V,trivial⟩ [1,2,3,4,5,0] V,V⟩ ?_
 clear V8
 rintro m21 a21 Au ⟨i,ol,vo,hi,Vr,ziu,Wv,Ic⟩
 refine gG Wv<|gK λ_ Ke=>sG (oM 1 V<|qB Wb V<|qw 2 zj V V<|xk _ _ V<|.nl)<|?_;clear Wv
 refine gcd V (λI1 FI=>?_) λI1 FI=>?_
 ·skip
  refine gS<|hK Ke<|gK λ_ Rc=>gB<|gL<|zn (oM 2 V<|yb 1 Zs zV V V<|.nl)<|xb (λ_ _ h_=>qF (n:=1) (cs:= [.int .i64 (-1)]) ([(-1)]:List Int) h_ zt zj V V V zf V zb V (λq hq w h=>Flat.inner _ _) (λq hq b hb=>(Flat.on _ _ hb).elim) V V) V λv28=>xb (λ_ _ h_=>yu (r:=6) (rm:=0) (s:=(⟨vo,ol⟩:Ls Int)) (m:=(⟨v28,[(-1)]⟩:Ls Int)) h_ zt zj V V V V V V V (λw h=>(h.own 0 V)) (λb hb=>qt (h_.sh.ok _ (zy (i:=0) V)) hb) (λq hq b hb=>⟨q,hq,hb⟩) V V V inferInstance (show (ol.length+([(-1)]).length)*8<=140737488355328/\ol.length+([(-1)]).length<=140737488355328 from zp) V V) V λpY=>zn (jA Zs V<|.nl)<|dY 2 zV V (aO 6 V) V<|nK Rc<|gL<|zn (oM 1 V<|yl _ 1 zp V<|oM 1 V<|.nl)<|nN<|λa31 dM ZW=>zH ⟨_,?_,i+1,ol++([(-1)]),pY,?_,?_,?_,ZW.wN ⟨V,V,V,trivial⟩ [1,2,3,4,5,6] V,V⟩
  · rw [Ic];first|omega|(simp only [qf];omega)
  · omega
  · rw [Vr,List.replicate_succ']
  · simp [ziu]
 refine gX<|hK Va<|?_
 have zqF:ol=List.replicate Lk (-1):=by rw [Vr,show i=Lk from za]
 clear Vr hi ziu
 refine gK λ_ sb=>sG (oM 1 V<|.nl)<|gB<|λpy lV QJ=>?_
 have Yz:=QJ.nil (α:=kp) 119
 clear QJ
 have KF:=Yz.zlD 3 167
 clear Yz
 refine qE (λm a w=>∃(i:Nat) (rows:List xg) (vt:Value),(i<=code.l.length)/\(rows.length=i)/\(rows.map xg.th=List.replicate i ⟨0,List.replicate R 0,[]⟩)/\St 55 (λ_=>False) W a w [(2,.pointer (some ⟨xX,0,none⟩)),(5,.pointer (some ⟨eb,0,none⟩)),(7,.int .i64 ((i:Nat):Int))] [.own 3 (⟨v17,words.l⟩:Ls Int),.zM eb 111 [code.v,words.v,.int .i64 ((Lk:Nat):Int),.int .i64 ((R:Nat):Int),.int .i64 mode,vt,v17,vo,(.slice none 0 0),.bool false],.zM xX 25 [code.v,words.v,.int .i64 ((Lk:Nat):Int),.int .i64 ((R:Nat):Int)],.at_ code,.at_ words,.own 3 (⟨vo,ol⟩:Ls Int),.own 119 (⟨vt,rows.map xg.XT⟩:Ls kp),.x5 (xo 3 167 rows)]/\m=code.l.length-i) ⟨_,0,[],_,za,(V),(V),KF.wN ⟨V,V,V,trivial⟩ [2,3,4,5,6,7,1,0] V,V⟩ ?_
 clear KF
 rintro m34 pz mu ⟨i,rows,vt,hi,Wk,S3,YA,OL⟩
 refine gG YA<|gK λ_ dP=>sK λ_ k39=>y4 (aA 3 V) λzri=>zn (oM 1 V<|qB jZ V<|qw 2 ZE V V<|wk vp (aA 3 V) V<|xk _ _ V<|.nl)<|nK k39<|?_;clear YA
 refine gcd V (λB5 cU=>?_) λB5 cU=>?_
 ·skip
  refine gS<|hK dP<|gK λ_ Ol=>gB<|rC [7,9,10,13] V<|pR [0,1,2,3,4,5,6] V (oM 2 V<|yb 1 yg xD V V<|qB du V<|qw 2 zj V V<|.nl) V<|pX (λ_ _ h_=>G4 (n:=R) (0:Int) h_ zt zj V V V V V (show 8*R<=140737488355328/\R<=140737488355328 from zp) (λw=>Flat.inner _ _) (λb=>Flat.on _ _) V V) V λHB=>pR [0,1,2,3,4,8] V (oM 2 V<|yb 2 yg xD V V<|oV (xW (cs:= [.int .i64 0,HB,(.slice none 0 0)]) V V (λw h=>by obtain ⟨A44,n44,c44,(e44:HB=_)⟩:=((h.own 0 V)).form;rw [e44];kernel_rfl)) V<|.nl) V<|pX (λ_ _ h_=>qF (n:=1) (cs:= [.int .i64 0,HB,(.slice none 0 0)]) ([(⟨0,HB,(.slice none 0 0)⟩:kp)]:List kp) h_ jF jg V V V zf V zb V (λq hq w h=>Flat.inner _ _) (λq hq b hb=>(Flat.on _ _ hb).elim) V V) V λv45=>pR [0,1,2,3,4] V (oM 2 V<|yb 3 yg xD V V<|.nl) V<|pX (λ_ _ h_=>RC (r:=8) (rm:=0) (s:=(⟨vt,rows.map xg.XT⟩:Ls kp)) (m:=(⟨v45,[(⟨0,HB,(.slice none 0 0)⟩:kp)]⟩:Ls kp)) h_ jF jg V V V V V V V (λw h=>(h.own 0 V)) (λb hb=>qt (h_.sh.ok _ (zy (i:=0) V)) hb) (λq hq b hb=>⟨q,hq,hb⟩) V V V (λw h q hq j hj=>by obtain rfl:q=0:=(by simpa using hq);rcases j with _|_|_|j;exact V;exact ((h.own 1 V)).one;exact V;exact absurd hj (by show¬(j+3<3);omega)) (show ((rows.map xg.XT).length+([(⟨0,HB,(.slice none 0 0)⟩:kp)]).length)*56<=140737488355328/\(rows.map xg.XT).length+([(⟨0,HB,(.slice none 0 0)⟩:kp)]).length<=140737488355328 from zp) V V) V λv46=>pR [0,11,12] V (oM 1 V<|jA yg V<|.nl) V<|pS (λ_ _ h_=>j3 (i:=3) (vs:= [v46]) (YR:= [code.v,words.v,.int .i64 ((Lk:Nat):Int),.int .i64 ((R:Nat):Int),.int .i64 mode,v46,v17,vo,(.slice none 0 0),.bool false]) h_ xD V V V V V (y7 ((h_.sh.own 8 V)).one) V (zr ((h_.sh.own 8 V)).one qx) (y5 V) V) V<|pE [] V (.nl) V<|hK Ol<|gL<|zn (oM 1 V<|yl _ 1 zp V<|oM 1 V<|.nl)<|nN<|λa49 w49 U7=>?_
  have Yy:=U7.nil (α:=Wt) 167
  clear U7
  have Ri:=Yy.zY (L' := [_,_,_,_,_,_,_,_,_,_,_]) [2,0,10,1,3,4,5,6,7,8,9] V
  have YZ:=Ri.fold (x:=(⟨0,(⟨HB,List.replicate R 0⟩:Ls Int),(⟨.slice none 0 0,[]⟩:Ls Wt)⟩:xg))
  clear Ri
  have G0:=YZ.Jb (i:=8) (l' :=(rows++ [(⟨0,(⟨HB,List.replicate R 0⟩:Ls Int),(⟨.slice none 0 0,[]⟩:Ls Wt)⟩:xg)]).map xg.XT) V (by simp [xg.XT])
  clear YZ
  refine zH ⟨_,?_,(i+1),(rows++ [(⟨0,(⟨HB,List.replicate R 0⟩:Ls Int),(⟨.slice none 0 0,[]⟩:Ls Wt)⟩:xg)]),v46,?_,?_,?_,G0.wN ⟨V,V,V,trivial⟩ [2,3,4,5,6,7,8,0] V,V⟩
  · rw [OL];first|omega|(simp only [qf];omega)
  · omega
  · simp [Wk]
  · rw [yi,S3,List.replicate_succ'];rfl
 refine gX<|hK sb<|sG (oM 2 V<|.nl)<|gR<|λa54 w54 DL=>zu (fn:=Tryz.f67) (t:=4) V DL V ?_
 have KE:=DL.nil (α:=Int) 3
 clear DL
 refine ⟨eb,rows,vt,⟨v17,words.l⟩,⟨vo,ol⟩,⟨.slice none 0 0,[]⟩,V,?_,V,zqF,V,(KE.sh.zY [2,7,8,1,6,0] V)⟩
 rw [S3,show i=code.l.length from za]
def stA (g:Nat)(hd:List Value)(vt:Value)(rows:List xg)(words owner zd:Ls Int)(zq:Bool):List zZ:=
 [.zM g 111 (hd++ [vt,words.v,owner.v,zd.v,.bool zq]),.own 119 (⟨vt,rows.map xg.XT⟩:Ls kp),.x5 (xo 3 167 rows),.own 3 words,.own 3 owner,.own 3 zd]
theorem Pq (K:Nat->Prop)(g mv:Nat)(code:Ls (Ls Ins))(vt:Value)(rows:List xg)(words owner zd:Ls Int)(pw:Value)(zm z8 mode:Int)(zq:Bool)(W:World)
  (hS:Sh K W W (stA g [code.v,pw,.int .i64 zm,.int .i64 z8,.int .i64 mode] vt rows words owner zd zq++ [.at_ code]))
  (hn:mv/8<rows.length) (SH:mv/8<code.l.length) (Xf:mv<1000000) (JZ:0<=(nth rows (mv/8)).pc/\(nth rows (mv/8)).pc<1000000) (ZU:(nth rows (mv/8)).wait.l.length<=3) (OS:mv%8<=(nth rows (mv/8)).wait.l.length) (Rf:zd.l.length<=100000000) (Vr:owner.l.length<=100)
  (Df:∀j,j<(nth rows (mv/8)).wait.l.length->if (nth (nth rows (mv/8)).wait.l j).lock=true then 0<=(nth (nth rows (mv/8)).wait.l j).wh/\(nth (nth rows (mv/8)).wait.l j).wh<owner.l.length else 0<=(nth (nth rows (mv/8)).wait.l j).wh/\(nth (nth rows (mv/8)).wait.l j).wh<words.l.length)
  (Is:mv%8=0->GV (nth rows (mv/8)).ze.l.length words.l.length owner.l.length (zo (nth code.l (mv/8)).l (nth rows (mv/8)).pc)):
  zP Tryz.prog 73 [.pointer (some ⟨g,0,none⟩),.int .i64 ((mv:Nat):Int)] W (λv w' =>v= .tuple #[]/\∃(Zb:List xg) (zB zA qT:Ls Int) (vX:Bool) (y:TS),
   y=XY mode (mv/8) (nth code.l (mv/8)).l (mv%8) ⟨(nth rows (mv/8)).pc,(nth rows (mv/8)).ze.l,(nth rows (mv/8)).wait.l,words.l,owner.l,zd.l,zq⟩/\Zb.map xg.th=(rows.map xg.th).set (mv/8) ⟨y.pc,y.ze,y.wait⟩/\zB.l=y.words/\zA.l=y.owner/\qT.l=y.zd/\vX=y.zq/\
   Sh K W w' (stA g [code.v,pw,.int .i64 zm,.int .i64 z8,.int .i64 mode] vt Zb zB zA qT vX++ [.at_ code])):=by
 have h1:=hS.perm (L' := .x5 (xo 3 167 rows):: [.zM g 111 [code.v,pw,.int .i64 zm,.int .i64 z8,.int .i64 mode,vt,words.v,owner.v,zd.v,.bool zq],.own 119 (⟨vt,rows.map xg.XT⟩:Ls kp),.own 3 words,.own 3 owner,.own 3 zd,.at_ code]) ((List.Perm.swap _ _ _).cons _|>.trans (List.Perm.swap _ _ _))
 have h2:=h1.zbi _ hn
 have h3:Sh K W W ([.zM g 111 [code.v,pw,.int .i64 zm,.int .i64 z8,.int .i64 mode,vt,words.v,owner.v,zd.v,.bool zq],.own 119 (⟨vt,rows.map xg.XT⟩:Ls kp),.own 3 (nth rows (mv/8)).ze,.own 167 (nth rows (mv/8)).wait,.own 3 words,.own 3 owner,.own 3 zd,.at_ code]++ [.x5 (xo 3 167 (rows.eraseIdx (mv/8)))]):=h2.zY (L' := [.zM g 111 [code.v,pw,.int .i64 zm,.int .i64 z8,.int .i64 mode,vt,words.v,owner.v,zd.v,.bool zq],.own 119 (⟨vt,rows.map xg.XT⟩:Ls kp),.own 3 (nth rows (mv/8)).ze,.own 167 (nth rows (mv/8)).wait,.own 3 words,.own 3 owner,.own 3 zd,.at_ code,.x5 (xo 3 167 (rows.eraseIdx (mv/8)))]) [3,4,0,1,5,6,7,8,2] V
 have BW:nth (rows.map xg.XT) (mv/8)=(nth rows (mv/8)).XT:=zI _ _ _ hn
 refine zP.mono (zsM _ g mv code ⟨vt,rows.map xg.XT⟩ (nth rows (mv/8)).ze (nth rows (mv/8)).wait words owner zd pw zm z8 mode zq W h3.yT (by simpa using hn) SH Xf (by rw [BW];rfl) (by rw [BW];rfl) (by rw [BW];exact JZ) ZU OS Rf Vr Df (by rw [BW];exact Is)) ?_
 rintro v w' ⟨rfl,vW,kP,zB,zA,qT,Bz,vX,he,hs⟩
 have h4:=h3.xP hs (by intro A hA b hb;simp only [z6,qd,or_false] at hA;rcases hA with rfl|rfl|rfl|rfl|rfl|rfl|rfl|rfl<;>first|exact (hb:False).elim|exact Flat.qh hb|exact .inl ⟨_,zy (i:=7) V,.inr hb⟩)
 have h5:=h4.zY (L' := .own 3 vW:: .own 167 kP:: .x5 (xo 3 167 (rows.eraseIdx (mv/8))):: [.zM g 111 ([code.v,pw,.int .i64 zm,.int .i64 z8,.int .i64 mode]++ [vt,zB.v,zA.v,qT.v,.bool vX]),.own 119 (⟨vt,(rows.map xg.XT).set (mv/8) ⟨Bz,vW.v,kP.v⟩⟩:Ls kp),.own 3 zB,.own 3 zA,.own 3 qT,.at_ code]) [2,3,8,0,1,4,5,6,7] V
 have h6:=Sh.Pv (x:=⟨Bz,vW,kP⟩) _ hn h5
 rw [show (rows.map xg.XT).set (mv/8) ⟨Bz,vW.v,kP.v⟩=(rows.set (mv/8) ⟨Bz,vW,kP⟩).map xg.XT by rw [List.map_set];rfl] at h6
 have h7:=h6.perm (L' :=stA g [code.v,pw,.int .i64 zm,.int .i64 z8,.int .i64 mode] vt (rows.set (mv/8) ⟨Bz,vW,kP⟩) zB zA qT vX++ [.at_ code]) ((List.Perm.swap _ _ _).trans ((List.Perm.swap _ _ _).cons _))
 rw [BW] at he
 refine ⟨V,rows.set (mv/8) ⟨Bz,vW,kP⟩,zB,zA,qT,vX,(⟨Bz,vW.l,kP.l,zB.l,zA.l,qT.l,vX⟩:TS),he,?_,V,V,V,V,h7⟩
 rw [List.map_set];rfl
def b4 (h:Nat)(x:Int):Nat:=((h^^^W1 x)*1099511628211%18446744073709551616)^^^(((h^^^W1 x)*1099511628211%18446744073709551616)/2^29)
def Qh (l:List Int):Nat:=l.foldl b4 (W1 (l.length:Int))%4096
theorem KM (l:List Int):Qh l<4096:=VH _ zf
def ju :List Int->List Int->Bool
 |a::l,b::m=>if a=b then ju l m else decide (a<b)
 |l,m=>decide (l.length<m.length)
theorem K5 :∀ {l m:List Int} (i:Nat),i<l.length->i<m.length->(∀j,j<i->nth l j=nth m j)->nth l i≠nth m i->ju l m=decide (nth l i<nth m i)
 |a::l,b::m,0,_,_,_,h=>by
  have h' :a≠b:=h
  unfold ju;rw [if_neg h'];rfl
 |a::l,b::m,i+1,hl,hm,zO,h=>by
  have h0:a=b:=zO 0 za
  unfold ju;rw [if_pos h0]
  exact K5 i (by simpa using hl) (by simpa using hm) (λj hj=>zO (j+1) za) h
theorem V5 :∀ {l m:List Int} (i:Nat),i<=l.length->i<=m.length->(i=l.length\/i=m.length)->(∀j,j<i->nth l j=nth m j)->ju l m=decide (l.length<m.length)
 | [],m,i,_,_,_,_=>by unfold ju;rfl
 |a::l,[],i,_,_,_,_=>by unfold ju;rfl
 |a::l,b::m,0,_,_,h,_=>by simp at h
 |a::l,b::m,i+1,hl,hm,he,zO=>by
  have h0:a=b:=zO 0 za
  have ih:=V5 (l:=l) (m:=m) i (by simpa using hl) (by simpa using hm) (by simpa using he) (λj hj=>zO (j+1) za)
  unfold ju;rw [if_pos h0,ih];simp
def yh (a b:xR):Bool:=if a.st=b.st then (if a.words=b.words then ju a.zd b.zd else ju a.words b.words) else decide (a.st<b.st)
theorem KP {l m:List zC}(hl:l.length=m.length)(h:∀i,i<l.length->(nth l i).out=(nth m i).out):l.map zC.out=m.map zC.out:=by
 refine gi _ _ (by simpa using hl) λi hi=>?_
 have wm:i<l.length:=by simpa using hi
 rw [zI _ _ _ wm,zI _ _ _ za]
 exact h i wm
theorem sameAt {l m:List zC}(h:l.map zC.out=m.map zC.out)(i:Nat)(hi:i<l.length):(nth l i).out=(nth m i).out:=by
 have hl:l.length=m.length:=by simpa using congrArg List.length h
 have:=congrArg (λq=>nth q i) h
 rwa [zI _ _ _ hi,zI _ _ _ za] at this
theorem zav {α:Type}[zz α](w:World):(⟨.slice none 0 0,[]⟩:Ls α).At w:=vE (E:=0) (World.ownsRow_nil w 0 0 _|>λh=>⟨h,by simp,λi hi=>absurd hi (by simp)⟩)
theorem zgb (x:Ls Int)(W:World)(hx:x.At W):
    zP Tryz.prog 107 [x.v] W (λv w' =>v= .int .i64 ((Qh x.l:Nat):Int)/\qM W w' []):=by
 refine gen Tryz.func107 Tryz.ntmps107 (qM.ext1 hx:Sh (λ_=>False) W W [.at_ x]) V λjP z7=>gG z7<|sG (oM 1 V<|.nl)<|sK λ_ j1=>y4 (aA 0 V) λc7=>zn (oM 1 V<|wk zt (aA 0 V) V<|oV (rr Tryz.underlying3 Tryz.underlying202 V V) V<|oM 1 V<|.nl)<|nK j1<|gK λ_ Xp=>sG (oM 1 V<|.nl)<|gB<|λa17 By jk=>qE (λm a w=>∃(i hh:Nat),(i<=x.l.length)/\(hh<18446744073709551616)/\(hh=(x.l.take i).foldl b4 (W1 (x.l.length:Int)))/\St 29 (λ_=>False) W a w [(0,x.v),(3,.int .u64 ((hh:Nat):Int)),(4,.int .i64 ((i:Nat):Int))] [.at_ x]/\m=x.l.length-i) ⟨_,0,W1 ((x.l.length:Nat):Int),za,(WZ _),(V),jk.nf ⟨V,V,V,trivial⟩,V⟩ ?_;clear z7
 clear jk
 rintro m16 BK Hy ⟨i,hh,hi,qU,hh2,w9,HM⟩
 refine gG w9<|gK λ_ JH=>sG (oM 2 V<|wk zt (aA 0 V) V<|xk _ _ V<|.nl)<|?_;clear w9
 refine gcd V (λwQ Ki=>?_) λwQ Ki=>?_
 ·skip
  refine gS<|hK JH<|gK λ_ cH=>gB<|sG (oM 3 V<|jo zt zj (aA 0 V) _ zp V<|wx zj (aA 0 V) zp V<|oV (rr Tryz.underlying3 Tryz.underlying202 V V) V<|oV (CH (p:=hh) (q:=W1 (nth x.l i)) V V V ⟨(by first|assumption|exact WZ _|omega),(by first|assumption|exact WZ _|omega)⟩) V<|oV (CM (p:=hh^^^(W1 (nth x.l i))) (q:=1099511628211) V V V) V<|oM 1 V<|.nl)<|gL<|zn (oM 2 V<|oV (CL (p:=(hh^^^(W1 (nth x.l i)))*1099511628211%18446744073709551616) (k:=29) V V V zf) V<|oV (CH (p:=(hh^^^(W1 (nth x.l i)))*1099511628211%18446744073709551616) (q:=((hh^^^(W1 (nth x.l i)))*1099511628211%18446744073709551616)/2^29) V V V ⟨(by first|assumption|exact WZ _|omega),(by first|assumption|exact WZ _|omega)⟩) V<|oM 1 V<|.nl)<|nK cH<|gL<|zn (oM 1 V<|yl _ 1 zp V<|oM 1 V<|.nl)<|nN<|λa23 tx kq=>zH ⟨_,?_,i+1,((hh^^^(W1 (nth x.l i)))*1099511628211%18446744073709551616)^^^(((hh^^^(W1 (nth x.l i)))*1099511628211%18446744073709551616)/2^29),?_,?_,?_,kq.nf ⟨V,V,V,trivial⟩,V⟩
  · rw [HM];first|omega|(simp only [qf];omega)
  · omega
  · exact AK za za
  · rw [zS _ _ za,bD,<-hh2,List.foldl_cons,List.foldl_nil,b4]
 refine gX<|hK Xp<|sG (oM 1 V<|oV (za2 (p:=hh) (q:=4096) V V V zf) V<|oV (Sc Tryz.underlying202 Tryz.underlying3 V V (show hh%4096<9223372036854775808 from zp)) V<|oM 1 V<|.nl)<|gR<|λa25 tw Wu=>zu (fn:=Tryz.f107) (t:=2) V Wu V<|⟨?_,(Wu.sh.zY [] V)⟩
 rw [show hh%4096=Qh x.l by rw [Qh,hh2,show i=x.l.length from za,Y9]]
theorem Ez (x y:Ls Int)(W:World)(hx:x.At W)(hy:y.At W):
    zP Tryz.prog 118 [x.v,y.v] W (λv w' =>v= .bool (ju x.l y.l)/\qM W w' []):=by
 refine gen Tryz.func118 Tryz.ntmps118 (qM.Jo hx hy:Sh (λ_=>False) W W [.at_ x,.at_ y]) V λjP z7=>gG z7<|sG (oM 1 V<|.nl)<|gK λ_ j1=>sG (oM 1 V<|.nl)<|gB<|λHT Hz xr=>qE (λm a w=>∃(i:Nat),(i<=x.l.length/\i<=y.l.length)/\(∀j,j<i->nth x.l j=nth y.l j)/\St 41 (λ_=>False) W a w [(0,x.v),(1,y.v),(5,.int .i64 ((i:Nat):Int))] [.at_ x,.at_ y]/\m=x.l.length-i) ⟨_,0,za,(λj hj=>absurd hj za),xr.nf ⟨V,V,V,trivial⟩,V⟩ ?_;clear z7
 clear xr
 rintro m14 ee BN ⟨i,hi,zO,xd,Ie⟩
 refine gG xd<|gK λ_ nC=>sK λ_ Us=>y4 (aA 0 V) λzjk=>zn (oM 2 V<|wk zt (aA 0 V) V<|xk _ _ V<|oM 1 V<|.nl)<|?_;clear xd
 rcases G3 (i<x.l.length) with ⟨ZB,Uv⟩|⟨ZB,Uv⟩
 ·skip
  refine y4 (aA 1 V) λzjj=>zn (oG ZB (zG V V) V<|oG ZB (zG V V) V<|oG ZB (Zc (s:=y) (n:=y.l.length) zt V V (λw h=>(h.at 1 V)) V) V<|oG ZB (cg (p:=i) (q:=y.l.length) V V V) V<|QV ZB V<|.nl)<|nK Us<|gcd V (λdc c6=>?_) λdc c6=>?_
  ·skip
   refine gS<|hK nC<|gK λ_ J9=>gB<|gK λ_ V6=>rQ (oM 2 V<|jo zt zj (aA 0 V) _ zp V<|wx zj (aA 0 V) zp V<|oM 2 V<|jo zt zj (aA 1 V) _ zp V<|wx zj (aA 1 V) zp V<|QW _ _ V<|.nl)<|hK V6<|gcd V (λXj oc=>?_) λXj oc=>?_
   ·skip
    refine gK λ_ Re=>rQ (oM 2 V<|jo zt zj (aA 0 V) _ zp V<|wx zj (aA 0 V) zp V<|oM 2 V<|jo zt zj (aA 1 V) _ zp V<|wx zj (aA 1 V) zp V<|fG _ _ V<|oM 1 V<|.nl)<|hK Re<|gF [4] V<|gR<|uB<|uT<|uT<|uB<|uT<|λa26 lX Y0=>zu (fn:=Tryz.f118) (t:=4) V Y0 V<|⟨?_,(Y0.sh.zY [] V)⟩
    congr 1
    first|exact (K5 i za za (λj hj=>zO j hj) za).symm|exact (V5 i za za za (λj hj=>zO j hj)).symm
   refine gS<|hK J9<|gL<|zn (oM 1 V<|yl _ 1 zp V<|oM 1 V<|.nl)<|nN<|λMW MG Ko=>zH ⟨_,?_,i+1,?_,?_,Ko.nf ⟨V,V,V,trivial⟩,V⟩
   · rw [Ie];first|omega|(simp only [qf];omega)
   · omega
   · intro j hj;rcases yq j i with h|h;exact zO j h;obtain rfl:j=i:=za;omega
  refine gX<|hK j1<|sG (oM 1 V<|wk zt (aA 0 V) V<|oM 1 V<|wk zt (aA 1 V) V<|xk _ _ V<|oM 1 V<|.nl)<|gR<|λmg lW w8=>zu (fn:=Tryz.f118) (t:=4) V w8 V<|⟨?_,(w8.sh.zY [] V)⟩
  congr 1
  first|exact (K5 i za za (λj hj=>zO j hj) za).symm|exact (V5 i za za za (λj hj=>zO j hj)).symm
 refine zn (Zy 4 ZB V V<|Zx ZB V<|.nl)<|nK Us<|Q1 V V<|gX<|hK j1<|sK λ_ HH=>y4 (aA 1 V) λOR=>zn (oM 1 V<|wk zt (aA 0 V) V<|oM 1 V<|wk zt (aA 1 V) V<|xk _ _ V<|oM 1 V<|.nl)<|nK HH<|gR<|λa32 MF JJ=>zu (fn:=Tryz.f118) (t:=4) V JJ V<|⟨?_,(JJ.sh.zY [] V)⟩
 congr 1
 first|exact (K5 i za za (λj hj=>zO j hj) za).symm|exact (V5 i za za za (λj hj=>zO j hj)).symm
theorem tf (x y:zC)(W:World)(Aw:x.words.At W)(hxp:x.zd.At W)(hyw:y.words.At W)(hyp:y.zd.At W):
    zP Tryz.prog 111 [.agg #[.int .i64 x.st,x.words.v,x.zd.v],.agg #[.int .i64 y.st,y.words.v,y.zd.v]] W (λv w' =>v= .bool (yh x.out y.out)/\qM W w' []):=by
 refine gen Tryz.func111 Tryz.ntmps111 (qM.zsF Aw hxp hyw hyp:Sh (λ_=>False) W W [.at_ x.words,.at_ x.zd,.at_ y.words,.at_ y.zd]) V λjP z7=>gG z7<|sK λ_ kz=>XV V V λxX=>XV V V λgk=>zn (oM 1 V<|.nl)<|nK kz<|gK λ_ Xp=>sG (qB Y4 V<|qw 1 zj V V<|qB Y4 V<|qw 0 zj V V<|QW _ _ V<|.nl)<|?_;clear z7
 refine gcd V (λdd Ds=>?_) λdd Ds=>?_
 ·skip
  refine sG (qB Y4 V<|qw 1 zj V V<|qB Y4 V<|qw 0 zj V V<|fG _ _ V<|oM 1 V<|.nl)<|gR<|uT<|λHS Hx jc=>zu (fn:=Tryz.f111) (t:=4) V jc V<|⟨?_,(jc.sh.zY [] V)⟩
  congr 1
  unfold yh zC.out
  first|(rw [if_neg zc];done)|(rw [if_pos za,if_neg zc];done)|(rw [if_pos za,if_pos zc];done)|(simp only [];rw [if_neg zc];done)|(simp only [];rw [if_pos za,if_neg zc];done)|(simp only [];rw [if_pos za,if_pos zc])
 refine gS<|hK Xp<|sK λ_ Va=>zn (qB Y3 V<|qw 1 zV V V<|qB Y3 V<|qw 0 zV V V<|.nl)<|gP (λ_ _ h_=>gQ h_ tb V (cI x.words y.words _ (h_.sh.at 2 V) (h_.sh.at 4 V))) V<|zn (oM 1 V<|.nl)<|nK Va<|gK λ_ cH=>sG (oM 1 V<|rM V<|.nl)<|Xl V (λUy=>?_) λUy=>?_
 ·have Dq:¬(x.words.l=y.words.l):=by simpa using Uy
  refine sK λ_ Ke=>zn (qB Y3 V<|qw 1 zV V V<|qB Y3 V<|qw 0 zV V V<|.nl)<|gP (λ_ _ h_=>gQ h_ Mg V (Ez x.words y.words _ (h_.sh.at 2 V) (h_.sh.at 4 V))) V<|zn (oM 1 V<|.nl)<|nK Ke<|gR<|uT<|λa26 lX Y0=>zu (fn:=Tryz.f111) (t:=4) V Y0 V<|⟨?_,(Y0.sh.zY [] V)⟩
  congr 1
  unfold yh zC.out
  first|(rw [if_neg zc];done)|(rw [if_pos za,if_neg zc];done)|(rw [if_pos za,if_pos zc];done)|(simp only [];rw [if_neg zc];done)|(simp only [];rw [if_pos za,if_neg zc];done)|(simp only [];rw [if_pos za,if_pos zc])
 have Dq:x.words.l=y.words.l:=by simpa using Uy
 refine gS<|hK cH<|sK λ_ Rc=>zn (qB Wa V<|qw 1 zV V V<|qB Wa V<|qw 0 zV V V<|.nl)<|gP (λ_ _ h_=>gQ h_ Mg V (Ez x.zd y.zd _ (h_.sh.at 3 V) (h_.sh.at 5 V))) V<|zn (oM 1 V<|.nl)<|nK Rc<|gR<|λmg lW w8=>zu (fn:=Tryz.f111) (t:=4) V w8 V<|⟨?_,(w8.sh.zY [] V)⟩
 congr 1
 unfold yh zC.out
 first|(rw [if_neg zc];done)|(rw [if_pos za,if_neg zc];done)|(rw [if_pos za,if_pos zc];done)|(simp only [];rw [if_neg zc];done)|(simp only [];rw [if_pos za,if_neg zc];done)|(simp only [];rw [if_pos za,if_pos zc])
theorem VQ (x y:Ls zC)(W:World)(hx:x.At W)(hy:y.At W):
    zP Tryz.prog 28 [x.v,y.v] W (λv w' =>v= .bool (decide (x.l.map zC.out=y.l.map zC.out))/\qM W w' []):=by
 refine gen Tryz.func28 Tryz.ntmps28 (qM.Jo hx hy:Sh (λ_=>False) W W [.at_ x,.at_ y]) V λjP z7=>gG z7<|sG (oM 1 V<|.nl)<|gK λ_ j1=>sK λ_ gu=>y4 (aA 0 V) λDv=>y4 (aA 1 V) λB3=>zn (oM 1 V<|wk xc (aA 0 V) V<|oM 1 V<|wk xc (aA 1 V) V<|ue _ _ V<|.nl)<|nK gu<|?_;clear z7
 refine gcd V (λdd Ds=>?_) λdd Ds=>?_
 ·skip
  refine sG (oM 1 V<|.nl)<|gR<|uT<|λHS Hx jc=>zu (fn:=Tryz.f28) (t:=4) V jc V<|⟨?_,(jc.sh.zY [] V)⟩
  congr 1
  first|(refine (decide_eq_true (KP za λj hj=>zO j za)).symm;done)|(refine (decide_eq_false λe=>?_).symm;have e1:=congrArg List.length e;simp only [yw] at e1;first|omega|(have e2:=sameAt e i za;have e3:=congrArg xR.st e2;have e4:=congrArg xR.words e2;have e5:=congrArg xR.zd e2;simp only [zC.out] at e3 e4 e5;first|omega|(exact absurd e4 zc)|(exact absurd e5 zc)))
 refine gS<|hK j1<|gK λ_ Va=>sG (oM 1 V<|.nl)<|gB<|λa22 eI V8=>qE (λm a w=>∃(i:Nat),(i<=x.l.length)/\(∀j,j<i->(nth x.l j).out=(nth y.l j).out)/\St 60 (λ_=>False) W a w [(0,x.v),(1,y.v),(5,.int .i64 ((i:Nat):Int))] [.at_ x,.at_ y]/\m=x.l.length-i) ⟨_,0,za,(λj hj=>absurd hj za),V8.nf ⟨V,V,V,trivial⟩,V⟩ ?_
 clear V8
 rintro m21 a21 Au ⟨i,hi,zO,Wv,Ic⟩
 refine gG Wv<|gK λ_ V6=>sG (oM 2 V<|wk xc (aA 0 V) V<|xk _ _ V<|.nl)<|?_;clear Wv
 refine gcd V (λDI cY=>?_) λDI cY=>?_
 ·skip
  refine gS<|hK V6<|gK λ_ De=>gB<|gK λ_ Rc=>λa28 w28 U8=>wS zb zb U8 λ_ z29=>qQ U8.fr<|vu (oM 2 V<|jo xc yD (aA 0 V) _ zp V<|QB Y3 V<|Z1 (((nth x.l i).words).v) zV (aA 0 V) zp V<|oM 2 V<|jo xc yD (aA 1 V) _ zp V<|QB Y3 V<|Z1 (((nth y.l i).words).v) zV (aA 1 V) zp V<|.nl)<|qP tb V (λw h=>(cI ((nth x.l i).words) ((nth y.l i).words) _ ((h.at 0 V).inner i (show i<x.l.length from za)).1 ((h.at 1 V).inner i (show i<y.l.length from za)).1))<|vu (oM 1 V<|.nl)<|qN z29<|hK Rc<|gK λ_ HH=>λa31 dM ZW=>wS zb zb ZW λ_ z32=>qQ ZW.fr<|vu (oM 2 V<|jo xc yD (aA 0 V) _ zp V<|QB Wa V<|Z1 (((nth x.l i).zd).v) zV (aA 0 V) zp V<|oM 2 V<|jo xc yD (aA 1 V) _ zp V<|QB Wa V<|Z1 (((nth y.l i).zd).v) zV (aA 1 V) zp V<|.nl)<|qP tb V (λw h=>(cI ((nth x.l i).zd) ((nth y.l i).zd) _ ((h.at 0 V).inner i (show i<x.l.length from za)).2 ((h.at 1 V).inner i (show i<y.l.length from za)).2))<|vu (oM 1 V<|.nl)<|qN z32<|hK HH<|gF [0,1,5,6,7] V<|gK λ_ Ur=>λpz mu YA=>wS zb zb YA λ_ z35=>qQ YA.fr<|vu (oM 2 V<|jo xc yD (aA 0 V) _ zp V<|QB Y4 V<|wx zj (aA 0 V) zp V<|oM 2 V<|jo xc yD (aA 1 V) _ zp V<|QB Y4 V<|wx zj (aA 1 V) zp V<|QW _ _ V<|oM 1 V<|.nl)<|?_;clear U8 ZW
  rcases G3 ((nth x.l i).st≠(nth y.l i).st) with ⟨Zn,Dp⟩|⟨Zn,Dp⟩
  ·skip
   refine vu (Zy 2 Zn V V<|QV Zn V<|oM 1 V<|Zy 2 V V V<|QV V V<|.nl)<|qN z35<|?_;clear YA
   refine hK Ur<|BJ V V<|sG (oM 1 V<|.nl)<|gF [4] V<|gR<|uB<|uT<|uT<|uB<|uT<|λa40 mr YO=>zu (fn:=Tryz.f28) (t:=4) V YO V<|⟨?_,(YO.sh.zY [] V)⟩
   congr 1
   first|(refine (decide_eq_true (KP za λj hj=>zO j za)).symm;done)|(refine (decide_eq_false λe=>?_).symm;have e1:=congrArg List.length e;simp only [yw] at e1;first|omega|(have e2:=sameAt e i za;have e3:=congrArg xR.st e2;have e4:=congrArg xR.words e2;have e5:=congrArg xR.zd e2;simp only [zC.out] at e3 e4 e5;first|omega|(exact absurd e4 zc)|(exact absurd e5 zc)))
  refine vu (oG Zn (zG V V) V<|oG Zn (WD V V) V<|Zx Zn V<|oM 1 V<|.nl)<|?_
  rcases JU (!(decide (((nth x.l i).words).l=((nth y.l i).words).l))) with J1|J1
  ·have n4:¬(((nth x.l i).words).l=((nth y.l i).words).l):=by simpa using J1
   refine vu (Zy 2 J1 V V<|QV J1 V<|.nl)<|qN z35<|?_;clear YA
   refine hK Ur<|BJ V V<|sG (oM 1 V<|.nl)<|gF [4] V<|gR<|uB<|uT<|uT<|uB<|uT<|λa46 w46 B9=>zu (fn:=Tryz.f28) (t:=4) V B9 V<|⟨?_,(B9.sh.zY [] V)⟩
   congr 1
   first|(refine (decide_eq_true (KP za λj hj=>zO j za)).symm;done)|(refine (decide_eq_false λe=>?_).symm;have e1:=congrArg List.length e;simp only [yw] at e1;first|omega|(have e2:=sameAt e i za;have e3:=congrArg xR.st e2;have e4:=congrArg xR.words e2;have e5:=congrArg xR.zd e2;simp only [zC.out] at e3 e4 e5;first|omega|(exact absurd e4 zc)|(exact absurd e5 zc)))
  have n4:((nth x.l i).words).l=((nth y.l i).words).l:=by simpa using J1
  refine vu (oG J1 (zG V V) V<|oG J1 (WD V V) V<|Zx J1 V<|.nl)<|qN z35<|?_;clear YA
  refine hK Ur<|Xl V (λoF=>?_) λoF=>?_
  ·have FC:¬(((nth x.l i).zd).l=((nth y.l i).zd).l):=by simpa using oF
   refine sG (oM 1 V<|.nl)<|gF [4] V<|gR<|uB<|uT<|uT<|uB<|uT<|λa51 MC YZ=>zu (fn:=Tryz.f28) (t:=4) V YZ V<|⟨?_,(YZ.sh.zY [] V)⟩
   congr 1
   first|(refine (decide_eq_true (KP za λj hj=>zO j za)).symm;done)|(refine (decide_eq_false λe=>?_).symm;have e1:=congrArg List.length e;simp only [yw] at e1;first|omega|(have e2:=sameAt e i za;have e3:=congrArg xR.st e2;have e4:=congrArg xR.words e2;have e5:=congrArg xR.zd e2;simp only [zC.out] at e3 e4 e5;first|omega|(exact absurd e4 zc)|(exact absurd e5 zc)))
  have FC:((nth x.l i).zd).l=((nth y.l i).zd).l:=by simpa using oF
  refine gS<|hK De<|gL<|zn (oM 1 V<|yl _ 1 zp V<|oM 1 V<|.nl)<|nN<|λMV MB G0=>zH ⟨_,?_,i+1,?_,?_,G0.nf ⟨V,V,V,trivial⟩,V⟩
  · rw [Ic];first|omega|(simp only [qf];omega)
  · omega
  · intro j hj;rcases yq j i with h|h;exact zO j h;obtain rfl:j=i:=za;unfold zC.out;congr 1<;>first|assumption|omega
 refine gX<|hK Va<|sG (oM 1 V<|.nl)<|gR<|λa54 w54 DL=>zu (fn:=Tryz.f28) (t:=4) V DL V<|⟨?_,(DL.sh.zY [] V)⟩
 congr 1
 first|(refine (decide_eq_true (KP za λj hj=>zO j za)).symm;done)|(refine (decide_eq_false λe=>?_).symm;have e1:=congrArg List.length e;simp only [yw] at e1;first|omega|(have e2:=sameAt e i za;have e3:=congrArg xR.st e2;have e4:=congrArg xR.words e2;have e5:=congrArg xR.zd e2;simp only [zC.out] at e3 e4 e5;first|omega|(exact absurd e4 zc)|(exact absurd e5 zc)))
def gm (ks:List (List Int))(n h:Nat)(r:Int):Prop:=(r= -1/\∀j,j<n->Qh (nth ks j)≠h)\/∃k:Nat,r=k/\k<n/\Qh (nth ks k)=h/\∀j,k<j->j<n->Qh (nth ks j)≠h
theorem gm.lt {ks:List (List Int)}{n h:Nat}{r:Int}(hl:gm ks n h r): -1<=r/\r<n:=by
 rcases hl with ⟨h,_⟩|⟨k,h,h2,_⟩<;>omega
theorem gm.at {ks:List (List Int)}{n h:Nat}{r:Int}(hl:gm ks n h r)(h0:0<=r):Qh (nth ks r.toNat)=h/\∀j,r.toNat<j->j<n->Qh (nth ks j)≠h:=by
 rcases hl with ⟨h,_⟩|⟨k,rfl,h2,h3,h4⟩
 ·omega
 ·exact ⟨by simpa using h3,λj hj=>h4 j (by simpa using hj)⟩
theorem gm.none {ks:List (List Int)}{n h:Nat}{r:Int}(hl:gm ks n h r)(h0:¬0<=r):∀j,j<n->Qh (nth ks j)≠h:=by
 rcases hl with ⟨_,h⟩|⟨k,rfl,_⟩
 ·exact h
 ·omega
structure Qf (ks:List (List Int))(heads before:List Int):Prop where
 hl:heads.length=4096
 bl:before.length=ks.length
 hd:∀h,h<4096->gm ks ks.length h (nth heads h)
 bf:∀i,i<ks.length->gm ks i (Qh (nth ks i)) (nth before i)
theorem wy {α:Type}[Inhabited α](l m:List α)(k:Nat):nth (l++m) k=if k<l.length then nth l k else nth m (k-l.length):=by
 simp only [nth,List.getD]
 by_cases h:k<l.length
 ·rw [List.getElem?_append_left h,if_pos h]
 ·rw [List.getElem?_append_right za,if_neg h]
theorem gm.more {ks:List (List Int)}{n h:Nat}{r:Int}(x:List Int)(hl:gm ks n h r)(hn:n<=ks.length):gm (ks++ [x]) n h r:=by
 have e:∀j,j<n->nth (ks++ [x]) j=nth ks j:=λj hj=>by rw [wy,if_pos za]
 rcases hl with ⟨h1,h2⟩|⟨k,h1,h2,h3,h4⟩
 ·exact .inl ⟨h1,λj hj=>by rw [e j hj];exact h2 j hj⟩
 ·exact .inr ⟨k,h1,h2,by rw [e k h2];exact h3,λj hj Xg=>by rw [e j Xg];exact h4 j hj Xg⟩
theorem Qf.put {ks:List (List Int)}{heads before:List Int}(h:Qf ks heads before)(x:List Int):Qf (ks++ [x]) (heads.set (Qh x) ((ks.length:Nat):Int)) (before++ [nth heads (Qh x)]):=by
 have hx:nth (ks++ [x]) ks.length=x:=by rw [wy,if_neg za];simp [nth]
 refine ⟨by simpa using h.hl,by simp [h.bl],λs hs=>?_,λi hi=>?_⟩
 ·rw [jt]
  by_cases e:Qh x=s
  ·rw [if_pos ⟨e,by rw [h.hl];exact KM x⟩]
   exact .inr ⟨ks.length,V,by simp,by rw [hx];exact e,λj hj Xg=>by simp at Xg;omega⟩
  ·rw [if_neg (λhh=>e hh.1)]
   rcases h.hd s hs with ⟨h1,h2⟩|⟨k,h1,h2,h3,h4⟩
   ·refine .inl ⟨h1,λj hj=>?_⟩
    simp at hj
    rcases yq j ks.length with qU|Vs
    ·rw [wy,if_pos qU];exact h2 j qU
    ·obtain rfl:j=ks.length:=za
     rw [hx];exact e
   ·refine .inr ⟨k,h1,by simp;omega,by rw [wy,if_pos h2];exact h3,λj hj Xg=>?_⟩
    simp at Xg
    rcases yq j ks.length with qU|Vs
    ·rw [wy,if_pos qU];exact h4 j hj qU
    ·obtain rfl:j=ks.length:=za
     rw [hx];exact e
 ·simp at hi
  rcases yq i ks.length with qU|Vs
  ·rw [wy ks,if_pos qU,wy before,if_pos (by rw [h.bl];exact qU)]
   exact (h.bf i qU).more x za
  ·obtain rfl:i=ks.length:=za
   rw [hx,wy before,if_neg (by rw [h.bl];omega),h.bl]
   have:=(h.hd (Qh x) (KM x)).more x (qC _)
   simpa [nth] using this
def VJ (o:zC)(l l' :List zC):Prop:=((∃i,i<l.length/\yh o.out (nth l i).out=false/\yh (nth l i).out o.out=false)/\l' =l)\/
 ∃k,k<=l.length/\(∀j,j<k->yh o.out (nth l j).out=false/\yh (nth l j).out o.out=true)/\(k<l.length->yh o.out (nth l k).out=true)/\l' =l.take k++o::l.drop k
def yI (o:zC)(l:List zC)(i:Nat)(dn:Bool)(ol:List zC):Prop:=(dn=false/\ol=l.take i/\∀j,j<i->yh o.out (nth l j).out=false/\yh (nth l j).out o.out=true)\/
 (dn=true/\∃k,k<i/\k<l.length/\(∀j,j<k->yh o.out (nth l j).out=false/\yh (nth l j).out o.out=true)/\yh o.out (nth l k).out=true/\ol=l.take k++o::(l.drop k).take (i-k))
theorem yI.one {o:zC}{l ol:List zC}{i:Nat}(h:yI o l i false ol)(hi:i<l.length)(h1:yh o.out (nth l i).out=true):yI o l (i+1) true ((ol++ [o])++ [nth l i]):=by
 rcases h with ⟨_,h2,h3⟩|⟨h,_⟩
 ·refine .inr ⟨V,i,za,hi,h3,h1,?_⟩
  have e1:(l.drop i).take 1= [nth l i]:=by rw [JV hi,qq l i hi];rfl
  rw [h2,show i+1-i=1 from za,e1]
  simp
 ·cases h
theorem yI.two {o:zC}{l ol:List zC}{i:Nat}{dn:Bool}(h:yI o l i dn ol)(hi:i<l.length)(h1:dn=true\/(yh o.out (nth l i).out=false/\yh (nth l i).out o.out=true)):yI o l (i+1) dn (ol++ [nth l i]):=by
 rcases h with ⟨h,h2,h3⟩|⟨h,k,h2,h3,h4,h5,h6⟩
 ·refine .inl ⟨h,by rw [h2,zS _ _ hi],λj hj=>?_⟩
  rcases yq j i with qU|Vs
  ·exact h3 j qU
  ·obtain rfl:j=i:=za
   rcases h1 with h1|h1
   ·rw [h] at h1;cases h1
   ·exact h1
 ·refine .inr ⟨h,k,za,h3,h4,h5,?_⟩
  rw [h6,show i+1-k=(i-k)+1 from za,zS _ _ (by simp;omega)]
  have:nth (l.drop k) (i-k)=nth l i:=by simp only [nth,List.getD,GS,show k+(i-k)=i from za]
  rw [this];simp
theorem yI.rel {o:zC}{l ol:List zC}{i:Nat}(h:yI o l i true ol)(hi:i=l.length):VJ o l ol:=by
 rcases h with ⟨h,_⟩|⟨_,k,h2,h3,h4,h5,h6⟩
 ·cases h
 ·exact .inr ⟨k,za,h4,λ_=>h5,by rw [h6,QR (l:=l.drop k) (by rw [v7];omega)]⟩
theorem yI.zaX {o:zC}{l ol:List zC}{i:Nat}(h:yI o l i false ol)(hi:i=l.length):VJ o l (ol++ [o]):=by
 rcases h with ⟨_,h2,h3⟩|⟨h,_⟩
 ·subst hi
  exact .inr ⟨l.length,qC _,h3,λh=>absurd h za,by rw [h2];simp⟩
 ·cases h
theorem yI.len {o:zC}{l ol:List zC}{i:Nat}{dn:Bool}(h:yI o l i dn ol)(hi:i<=l.length):ol.length<=i+1:=by
 rcases h with ⟨_,h2,_⟩|⟨_,k,h2,h3,_,_,h6⟩
 ·rw [h2];simp;omega
 ·rw [h6];simp;omega
def Bv (L:List Int)(x:SD)(zF jr:List SD)(keys Qn:List (Ls Int))(heads before ZV kB:List Int)(full JL:Bool):Prop:=
 ((∃j,j<keys.length/\(nth keys j).l=L)/\jr=zF/\Qn.map (·.l)=keys.map (·.l)/\Qf (Qn.map (·.l)) ZV kB/\JL=full)\/
 ((∀j,j<keys.length->(nth keys j).l≠L)/\jr=zF++ [x]/\Qn.map (·.l)=keys.map (·.l)++ [L]/\Qf (Qn.map (·.l)) ZV kB/\JL=(full||decide (4000<zF.length+1)))
theorem Sd (K:Nat->Prop)(gs:Nat)(x:SD)(zF:Ls SD)(keys:Ls (Ls Int))(heads before:Ls Int)(ev:Value)(full:Bool)(cv pw:Value)(zm z8 mode:Int)(W:World)(hS:Sh K W W [.zM gs 52 [zF.v,keys.v,heads.v,before.v,ev,.bool full],.own 103 zF,.deep 23 keys,.own 3 heads,.own 3 before,.Yd x])(zR:Qf (keys.l.map (·.l)) heads.l before.l)(hlen:zF.l.length=keys.l.length)(hkl:keys.l.length<=5000)(hhd:x.hd= [cv,pw,.int .i64 zm,.int .i64 z8,.int .i64 mode])(hE:x.E=111)(qg:x.zl.l.length<=4)(hrg:∀i,i<x.zl.l.length->(nth x.zl.l i).ze.l.length<=100000)(ZU:∀i,i<x.zl.l.length->(nth x.zl.l i).wait.l.length<=3)(aV:x.words.l.length<=100000/\x.owner.l.length<=100000/\x.zd.l.length<=100000000):
    zP Tryz.prog 68 [.pointer (some ⟨gs,0,none⟩),.pointer (some ⟨x.g,0,none⟩)] W (λv w' =>v= .tuple #[]/\∃(jr:Ls SD) (Qn:Ls (Ls Int)) (ZV kB:Ls Int) (JL:Bool),Bv (KY (x.zl.l.map xg.th) x.words.l x.owner.l x.zd.l) x zF.l jr.l keys.l Qn.l heads.l before.l ZV.l kB.l full JL/\Sh K W w' [.zM gs 52 [jr.v,Qn.v,ZV.v,kB.v,ev,.bool JL],.own 103 jr,.deep 23 Qn,.own 3 ZV,.own 3 kB,.Yd x]):=by
 have O2:before.l.length=keys.l.length:=by simpa using zR.bl
 have hhl:heads.l.length=4096:=zR.hl
 have zwH:=λl=>KM l
 refine gen Tryz.func68 Tryz.ntmps68 hS V λjP z7=>gG z7<|sK λ_ kz=>zn (oM 1 V<|.nl)<|λPW A0 QO=>zL (zD QO zex V V V V V (uf x.g x.zl x.words x.owner x.zd _ _ _ _ _ _ _ (by have h9:=(show zz.inner x _ from (QO.sh.ok _ (zy (i:=5) V))).1;rw [hE,SD.cells,hhd] at h9;exact h9) (show zz.inner x _ from (QO.sh.ok _ (zy (i:=5) V))).2.1 (show zz.inner x _ from (QO.sh.ok _ (zy (i:=5) V))).2.2.1 (show zz.inner x _ from (QO.sh.ok _ (zy (i:=5) V))).2.2.2.1 (show zz.inner x _ from (QO.sh.ok _ (zy (i:=5) V))).2.2.2.2 qg hrg ZU aV)) (zg V _) ?_;clear z7
 rintro ee BN ⟨_,⟨Wi,rfl,ziX,Gg⟩,zj2⟩
 have U4:=ziX
 have xd:St _ K W ee BN _ _:=⟨zj2,QO.sh.Hj Gg⟩
 clear zj2 Gg
 clear QO
 refine gG xd<|zn (oM 1 V<|.nl)<|nK kz<|sK λ_ Xe=>zn (oM 1 V<|.nl)<|gP (λ_ _ h_=>gQ h_ zew V (zgb Wi _ (h_.sh.own 0 V))) V<|zn (oM 1 V<|.nl)<|nK Xe<|?_;clear xd
 have hsl:=KM Wi.l
 refine gK λ_ Us=>sK λ_ JH=>y4 (aO 4 V) λzc6=>zn (oM 1 V<|yb 1 Gy zV V V<|oM 1 V<|jo zt zj (aO 4 V) _ zp V<|wx zj (aO 4 V) zp V<|oM 1 V<|.nl)<|nK JH<|gB<|λa21 Au Wv=>qE (λm a w=>∃(i:Int) (mm:Nat),(gm (keys.l.map (·.l)) mm (Qh Wi.l) i)/\(mm<=keys.l.length)/\(∀j,mm<=j->j<keys.l.length->(nth keys.l j).l≠Wi.l)/\St 100 K W a w [(0,.pointer (some ⟨gs,0,none⟩)),(1,.pointer (some ⟨x.g,0,none⟩)),(4,Wi.v),(5,.int .i64 ((Qh Wi.l:Nat):Int)),(6,.int .i64 i)] [.own 3 Wi,.zM gs 52 [zF.v,keys.v,heads.v,before.v,ev,.bool full],.own 103 zF,.deep 23 keys,.own 3 heads,.own 3 before,.Yd x]/\m=(i+1).toNat) ⟨_,_,keys.l.length,(by have:=zR.hd _ (KM Wi.l);simpa using this),(qC _),(λj hj Xg=>absurd Xg za),Wv.nf ⟨V,V,V,V,V,trivial⟩,V⟩ ?_
 clear Wv
 rintro m20 a20 mw ⟨i,mm,Te,hm,Xq,wV,zcZ⟩
 have qU:=Te.lt
 refine gG wV<|gK λ_ J9=>sG (oM 1 V<|nc _ _ V<|.nl)<|?_;clear wV
 refine gcd V (λXj oc=>?_) λXj oc=>?_
 ·skip
  refine gS<|hK J9<|gK λ_ Re=>gB<|sK λ_ De=>y4 (aD 3 V) λzc4=>zn (oM 1 V<|yb 1 dt Cf V V<|oM 1 V<|vC Cv zV (aD 3 V) zp V<|Z1 ((nth keys.l i.toNat).v) zV (aD 3 V) zp V<|oM 1 V<|.nl)<|gP (λ_ _ h_=>gQ h_ tb V (cI (nth keys.l i.toNat) Wi _ ((h_.sh.deep 3 V).nth i.toNat (show i.toNat<keys.l.length from za)) (h_.sh.own 0 V))) V<|zn (oM 1 V<|.nl)<|nK De<|sG (oM 1 V<|.nl)<|gcd V (λll n9=>?_) λll n9=>?_
  ·skip
   refine gR<|uB<|uT<|uT<|uB<|uT<|λa31 dM ZW=>Vc (fn:=Tryz.f68) V ZW<|⟨V,zF,keys,heads,before,full,?_,(ZW.sh.zY [1,2,3,4,5,6] V)⟩
   exact .inl ⟨⟨i.toNat,za,by rw [<-U4];assumption⟩,V,V,zR,V⟩
  refine gS<|hK Re<|gL<|y4 (aO 5 V) λzjh=>zn (oM 1 V<|yb 1 Rk zV V V<|oM 1 V<|vC zt zj (aO 5 V) zp V<|wx zj (aO 5 V) zp V<|oM 1 V<|.nl)<|nN<|λa33 M9 Vb=>zH ⟨_,?_,_,i.toNat,?_,?_,?_,Vb.nf ⟨V,V,V,V,V,trivial⟩,V⟩
  · rw [zcZ];have h9:=(zR.bf i.toNat (by simp;omega)).lt;omega
  · have h9:=zR.bf i.toNat (by simp;omega);rw [(Te.at za).1] at h9;exact h9
  · omega
  · intro j hj Xg;rcases yq j mm with h9|h9;(rcases yq i.toNat j with h8|h8;(intro e9;have h7:=(Te.at za).2 j h8 h9;rw [zI _ _ _ Xg,e9] at h7;exact h7 V);(obtain rfl:j=i.toNat:=za;assumption));exact Xq j h9 Xg
 refine gX<|hK Us<|gK λ_ BA=>rC [12,13,16] V<|pR [0,1,2,3,4,5,6,7,8,9,10,11] V (oM 2 V<|yb 1 Rk zV V V<|oM 1 V<|yb 1 Gy zV V V<|oM 1 V<|jo zt zj (aO 4 V) _ zp V<|wx zj (aO 4 V) zp V<|.nl) V<|pX (λ_ _ h_=>qF (n:=1) (cs:= [.int .i64 (nth heads.l (Qh Wi.l))]) ([nth heads.l (Qh Wi.l)]:List Int) h_ zt zj V V V zf V zb V (λq hq w h=>Flat.inner _ _) (λq hq b hb=>(Flat.on _ _ hb).elim) V V) V λv35=>pR [0,1,2,3,4] V (oM 2 V<|yb 2 Rk zV V V<|.nl) V<|pX (λ_ _ h_=>yu (r:=6) (rm:=0) (s:=before) (m:=(⟨v35,[nth heads.l (Qh Wi.l)]⟩:Ls Int)) h_ zt zj V V V V V V V (λw h=>(h.own 0 V)) (λb hb=>qt (h_.sh.ok _ (zy (i:=0) V)) hb) (λq hq b hb=>⟨q,hq,hb⟩) V V V inferInstance (show (before.l.length+([nth heads.l (Qh Wi.l)]).length)*8<=140737488355328/\before.l.length+([nth heads.l (Qh Wi.l)]).length<=140737488355328 from zp) V V) V λv36=>pR [0,14,15] V (oM 1 V<|jA Rk V<|.nl) V<|pS (λ_ _ h_=>j3 (i:=2) (vs:= [v36]) (YR:= [zF.v,keys.v,heads.v,v36,ev,.bool full]) h_ zV V V V V V (y7 ((h_.sh.own 6 V)).one) V (zr ((h_.sh.own 6 V)).one qx) (y5 V) V) V<|pE [] V (.nl) V<|hK BA<|gK λ_ dP=>y4 (aO 3 V) λzjg=>rT 11 [] (oM 1 V<|yb 2 Gy zV V V<|oM 2 V<|yb 2 V9 an V V<|wk av (aO 3 V) V<|jo zt zj (aO 5 V) _ zp V<|.nl)<|XK 5 (((zF.l.length:Nat):Int):Int) zj zp V V<|nK dP<|gF [0,1,4] V<|sK λ_ hU=>zn (oM 2 V<|yb 2 V9 an V V<|oM 1 V<|.nl)<|xb (λ_ _ h_=>qF (n:=1) (cs:= [.pointer (some ⟨x.g,0,none⟩)]) ([x]:List SD) h_ av b2 V V V zf V zb V (λq hq w h=>by obtain rfl:q=0:=(by simpa using hq);exact h.ok _ (zy (i:=7) V)) (λq hq b hb=>by obtain rfl:q=0:=(by simpa using hq);exact ⟨_,zy (i:=7) V,hb⟩) V V) V λAv=>xb (λ_ _ h_=>yu (r:=4) (rm:=0) (s:=zF) (m:=(⟨Av,[x]⟩:Ls SD)) h_ av b2 V V V V V V V (λw h=>(h.own 0 V)) (λb hb=>qt (h_.sh.ok _ (zy (i:=0) V)) hb) (λq hq b hb=>⟨q,hq,hb⟩) V V V inferInstance (show (zF.l.length+([x]).length)*8<=140737488355328/\zF.l.length+([x]).length<=140737488355328 from zp) V V) V λHB=>zn (jA V9 V<|.nl)<|dY 3 an V (aO 4 V) V<|nK hU<|sK λ_ k45=>zn (oM 2 V<|yb 3 dt Cf V V<|oM 1 V<|.nl)<|gO [2,0,1,3,4,5,6,7,8] V<|xb (λ_ _ h_=>RA (E:=0) (x:=Wi) h_ Cv zV V V V ((h_.sh.own 0 V)) (λb hb=>(qt (h_.sh.ok _ (zy (i:=0) V)) hb).elim (λh=>h) (λh=>Flat.qh h)) (λb hb=>Flat.qh hb) V V) V λv47=>gO [5,0,1,2,3,4,6,7,8] V<|xb (λ_ _ h_=>RB (s:=keys) (m:=(⟨v47,[Wi]⟩:Ls (Ls Int))) h_ Cv zV V V V V V V V inferInstance (show (keys.l.length+([Wi]).length)*24<=140737488355328/\keys.l.length+([Wi]).length<=140737488355328 from zp) V V) V λv49=>zn (jA dt V<|.nl)<|dY 3 Cf V (aD 0 V) V<|nK k45<|gL<|zn (oM 2 V<|yb 3 Jl w5 V V<|oM 1 V<|.nl)<|?_
 rcases JU full with Wp|Wp
 ·skip
  refine zn (Zy 6 Wp V V<|QV Wp V<|jA Jl V<|.nl)<|dX (v:= .bool true) 3 w5 V V V<|nN<|λa53 w53 mf=>?_
  try simp only [Exit.then,Exit.inBlock,if_true]
  refine qj (fn:=Tryz.f68) V mf<|⟨V,⟨HB,zF.l++([x])⟩,⟨v49,keys.l++([Wi])⟩,⟨heads.v,heads.l.set (Qh Wi.l) ((zF.l.length:Nat):Int)⟩,⟨v36,before.l++([nth heads.l (Qh Wi.l)])⟩,true,?_,(mf.sh.zY [3,4,0,5,6,7] V)⟩
  refine .inr ⟨λj hj=>?_,V,?_,?_,?_⟩
  · rw [<-U4];rcases yq j mm with h9|h9;(intro e9;have h8:=Te.none za j h9;rw [zI _ _ _ hj,e9] at h8;exact h8 V);exact Xq j h9 hj
  · rw [yi,<-U4];rfl
  · have h9:=zR.put Wi.l;rw [yw,<-hlen] at h9;rw [yi];exact h9
  · first|rfl|(rw [show full=true from zc];rfl)|(rw [show full=false from zc];simp)
 refine zn (oG Wp (zG V V) V<|oG Wp (jC V V) V<|oG Wp (zT (r:=0) V9 V V V) V<|oG Wp (xV (i:=3) an V V V V) V<|oG Wp (Zc (s:=(⟨HB,zF.l++([x])⟩:Ls SD)) (n:=(zF.l++([x])).length) av V V (λw h=>(h.own 4 V)) V) V<|oG Wp (Ub (p:=(zF.l++([x])).length) (q:=4000) V V V) V<|Zx Wp V<|jA Jl V<|.nl)<|dX 3 w5 V V V<|nN<|λa55 P6 GZ=>?_
 try simp only [Exit.then,Exit.inBlock,if_true]
 refine qj (fn:=Tryz.f68) V GZ<|⟨V,⟨HB,zF.l++([x])⟩,⟨v49,keys.l++([Wi])⟩,⟨heads.v,heads.l.set (Qh Wi.l) ((zF.l.length:Nat):Int)⟩,⟨v36,before.l++([nth heads.l (Qh Wi.l)])⟩,decide (4000<(zF.l++([x])).length),?_,(GZ.sh.zY [3,4,0,5,6,7] V)⟩
 refine .inr ⟨λj hj=>?_,V,?_,?_,?_⟩
 · rw [<-U4];rcases yq j mm with h9|h9;(intro e9;have h8:=Te.none za j h9;rw [zI _ _ _ hj,e9] at h8;exact h8 V);exact Xq j h9 hj
 · rw [yi,<-U4];rfl
 · have h9:=zR.put Wi.l;rw [yw,<-hlen] at h9;rw [yi];exact h9
 · first|rfl|(rw [show full=true from zc];rfl)|(rw [show full=false from zc];simp)
theorem mU (K:Nat->Prop)(gs:Nat)(o:zC)(ends:Ls zC)(sv kv hv bv:Value)(full:Bool)(W:World)(hS:Sh K W W [.zM gs 52 [sv,kv,hv,bv,ends.v,.bool full],.own 39 ends,.at_ o.words,.at_ o.zd])(WJ:ends.l.length<=100000000):
    zP Tryz.prog 71 [.pointer (some ⟨gs,0,none⟩),.agg #[.int .i64 o.st,o.words.v,o.zd.v]] W (λv w' =>v= .tuple #[]/\∃WO:Ls zC,VJ o ends.l WO.l/\Sh K W w' [.zM gs 52 [sv,kv,hv,bv,WO.v,.bool full],.own 39 WO,.at_ o.words,.at_ o.zd]):=by
 refine gen Tryz.func71 Tryz.ntmps71 hS V λjP z7=>gG z7<|sK λ_ kz=>XV V V λxX=>nK kz<|sG (oM 1 V<|.nl)<|sG (oM 1 V<|.nl)<|gK λ_ Xe=>sG (oM 1 V<|.nl)<|gB<|λPS Na XU=>?_;clear z7
 have jc:=XU.nil (α:=zC) 39
 clear XU
 refine qE (λm a w=>∃(i:Nat) (dn:Bool) (ol:List zC) (vo:Value),(i<=ends.l.length)/\(yI o ends.l i dn ol)/\St 71 K W a w [(0,.pointer (some ⟨gs,0,none⟩)),(3,.pointer (some ⟨xX,0,none⟩)),(4,vo),(5,.bool dn),(6,.int .i64 ((i:Nat):Int))] [.zM xX 39 [.int .i64 o.st,o.words.v,o.zd.v],.zM gs 52 [sv,kv,hv,bv,ends.v,.bool full],.own 39 ends,.at_ o.words,.at_ o.zd,.own 39 (⟨vo,ol⟩:Ls zC)]/\m=ends.l.length-i) ⟨_,0,false,[],_,za,(.inl ⟨V,V,λj hj=>absurd hj za⟩),jc.wN ⟨V,V,V,V,V,trivial⟩ [1,2,3,4,5,0] V,V⟩ ?_
 clear jc
 rintro m17 a17 By ⟨i,dn,ol,vo,hi,hinv,jk,B1⟩
 have Vr:=hinv.len za
 refine gG jk<|gK λ_ K7=>sK λ_ cH=>y4 (aO 2 V) λzji=>zn (oM 2 V<|yb 1 wW ZD V V<|wk xc (aO 2 V) V<|xk _ _ V<|.nl)<|nK cH<|?_;clear jk
 refine gcd V (λUy Dq=>?_) λUy Dq=>?_
 ·skip
  refine gS<|hK K7<|gK λ_ Ke=>gB<|gK λ_ Re=>λa26 lX Y0=>wS zb zb Y0 λ_ z27=>qQ Y0.fr<|vu (kt 0 yD V V<|oM 1 V<|yb 1 wW ZD V V<|oM 1 V<|jo xc yD (aO 2 V) _ zp V<|Xz [.int .i64 ((nth ends.l i).st),((nth ends.l i).words).v,((nth ends.l i).zd).v] yD (aO 2 V) zp V<|.nl)<|qP Ml V (λw h=>(tf o (nth ends.l i) _ (h.at 3 V) (h.at 4 V) ((h.own 2 V).inner i (show i<ends.l.length from za)).1 ((h.own 2 V).inner i (show i<ends.l.length from za)).2))<|vu (oM 1 V<|.nl)<|qN z27<|hK Re<|gK λ_ K6=>λmg lW w8=>wS zb zb w8 λ_ z30=>qQ w8.fr<|vu (oM 1 V<|yb 1 wW ZD V V<|oM 1 V<|jo xc yD (aO 2 V) _ zp V<|Xz [.int .i64 ((nth ends.l i).st),((nth ends.l i).words).v,((nth ends.l i).zd).v] yD (aO 2 V) zp V<|kt 0 yD V V<|.nl)<|qP Ml V (λw h=>(tf (nth ends.l i) o _ ((h.own 2 V).inner i (show i<ends.l.length from za)).1 ((h.own 2 V).inner i (show i<ends.l.length from za)).2 (h.at 3 V) (h.at 4 V)))<|vu (oM 1 V<|.nl)<|qN z30<|hK K6<|gF [0,3,4,5,6,7,8] V<|gK λ_ lY=>sK λ_ sb=>zn (oM 1 V<|rM V<|oM 1 V<|.nl)<|?_;clear Y0 w8
  rcases JU (!(yh (zC.out o) (zC.out (nth ends.l i)))) with QY|QY
  ·have uL:yh (zC.out o) (zC.out (nth ends.l i))=false:=(wE _).mp QY
   refine zn (oG QY (zG V V) V<|oG QY (WD V V) V<|QV QY V<|.nl)<|nK sb<|Xl V (λWq=>?_) λWq=>?_
   ·have zqS:yh (zC.out (nth ends.l i)) (zC.out o)=false:=(wE _).mp Wq
    refine gR<|uT<|uB<|uT<|uT<|uB<|uT<|λa35 ME Yz=>Vc (fn:=Tryz.f71) V Yz<|⟨V,ends,?_,(Yz.sh.zY [1,2,3,4] V)⟩
    first|exact .inl ⟨⟨i,za,zc,zc⟩,V⟩|exact yI.rel (by first|exact hinv|(rw [show dn=true from zc] at hinv;exact hinv)) za|exact yI.zaX (by first|exact hinv|(rw [show dn=false from zc] at hinv;exact hinv)) za
   have zqS:yh (zC.out (nth ends.l i)) (zC.out o)=true:=(JS _).mp Wq
   refine gS<|hK lY<|gK λ_ ia=>sG (oM 2 V<|Zy 2 uL V V<|Zx uL V<|.nl)<|Q1 V V<|gS<|hK ia<|gL<|zn (oM 2 V<|yb 1 wW ZD V V<|oM 1 V<|jo xc yD (aO 2 V) _ zp V<|Xz [.int .i64 ((nth ends.l i).st),((nth ends.l i).words).v,((nth ends.l i).zd).v] yD (aO 2 V) zp V<|.nl)<|xb (λ_ _ h_=>qF (n:=1) (cs:= [.int .i64 ((nth ends.l i).st),((nth ends.l i).words).v,((nth ends.l i).zd).v]) ([nth ends.l i]:List zC) h_ xc yD V V V zf V zb V (λq hq w h=>by obtain rfl:q=0:=(by simpa using hq);exact ⟨((h.own 2 V).inner i (show i<ends.l.length from zp)).1,((h.own 2 V).inner i (show i<ends.l.length from zp)).2⟩) (λq hq b hb=>by obtain rfl:q=0:=(by simpa using hq);rcases hb with hb|hb;exact ⟨_,zy (i:=2) V,i,(show i<ends.l.length from zp),.inl hb⟩;exact ⟨_,zy (i:=2) V,i,(show i<ends.l.length from zp),.inr hb⟩) V V) V λv38=>xb (λ_ _ h_=>yu (r:=6) (rm:=0) (s:=(⟨vo,ol⟩:Ls zC)) (m:=(⟨v38,[nth ends.l i]⟩:Ls zC)) h_ xc yD V V V V V V V (λw h=>(h.own 0 V)) (λb hb=>qt (h_.sh.ok _ (zy (i:=0) V)) hb) (λq hq b hb=>⟨q,hq,hb⟩) V V V inferInstance (show (ol.length+([nth ends.l i]).length)*56<=140737488355328/\ol.length+([nth ends.l i]).length<=140737488355328 from zp) V V) V λv39=>zn (oM 1 V<|.nl)<|nK Ke<|gF [0,3,4,5,6] V<|gL<|zn (oM 1 V<|yl _ 1 zp V<|oM 1 V<|.nl)<|nN<|λa40 mr YO=>zH ⟨_,?_,i+1,dn,ol++([nth ends.l i]),v39,?_,?_,YO.wN ⟨V,V,V,V,V,trivial⟩ [1,2,3,4,5,6] V,V⟩
   · rw [B1];first|omega|(simp only [qf];omega)
   · omega
   · first|exact yI.one hinv za zc|exact yI.two hinv za (.inl zc)|exact yI.two hinv za (.inr ⟨zc,zc⟩)|(subst_vars;first|exact yI.one hinv za zc|exact yI.two hinv za (.inl V)|exact yI.two hinv za (.inr ⟨zc,zc⟩))
  have uL:yh (zC.out o) (zC.out (nth ends.l i))=true:=(JS _).mp QY
  refine zn (Zy 2 QY V V<|Zx QY V<|.nl)<|nK sb<|Q1 V V<|gS<|hK lY<|gK λ_ hU=>sG (oM 2 V<|oG uL (zG V V) V<|oG uL (WD V V) V<|QV uL V<|.nl)<|Xl V (λJ1=>?_) λJ1=>?_
  ·have zqR:dn=false:=(wE _).mp J1
   refine sK λ_ nB=>zn (oM 1 V<|kt 0 yD V V<|.nl)<|xb (λ_ _ h_=>qF (n:=1) (cs:= [.int .i64 o.st,o.words.v,o.zd.v]) ([o]:List zC) h_ xc yD V V V zf V zb V (λq hq w h=>by obtain rfl:q=0:=(by simpa using hq);exact ⟨(h.at 3 V),(h.at 4 V)⟩) (λq hq b hb=>by obtain rfl:q=0:=(by simpa using hq);rcases hb with hb|hb;exact ⟨_,zy (i:=3) V,hb⟩;exact ⟨_,zy (i:=4) V,hb⟩) V V) V λv45=>xb (λ_ _ h_=>yu (r:=6) (rm:=0) (s:=(⟨vo,ol⟩:Ls zC)) (m:=(⟨v45,[o]⟩:Ls zC)) h_ xc yD V V V V V V V (λw h=>(h.own 0 V)) (λb hb=>qt (h_.sh.ok _ (zy (i:=0) V)) hb) (λq hq b hb=>⟨q,hq,hb⟩) V V V inferInstance (show (ol.length+([o]).length)*56<=140737488355328/\ol.length+([o]).length<=140737488355328 from zp) V V) V λv46=>zn (oM 1 V<|.nl)<|nK nB<|gL<|zn (oM 1 V<|.nl)<|nK hU<|gL<|zn (oM 2 V<|yb 2 wW ZD V V<|oM 1 V<|jo xc yD (aO 3 V) _ zp V<|Xz [.int .i64 ((nth ends.l i).st),((nth ends.l i).words).v,((nth ends.l i).zd).v] yD (aO 3 V) zp V<|.nl)<|xb (λ_ _ h_=>qF (n:=1) (cs:= [.int .i64 ((nth ends.l i).st),((nth ends.l i).words).v,((nth ends.l i).zd).v]) ([nth ends.l i]:List zC) h_ xc yD V V V zf V zb V (λq hq w h=>by obtain rfl:q=0:=(by simpa using hq);exact ⟨((h.own 3 V).inner i (show i<ends.l.length from zp)).1,((h.own 3 V).inner i (show i<ends.l.length from zp)).2⟩) (λq hq b hb=>by obtain rfl:q=0:=(by simpa using hq);rcases hb with hb|hb;exact ⟨_,zy (i:=3) V,i,(show i<ends.l.length from zp),.inl hb⟩;exact ⟨_,zy (i:=3) V,i,(show i<ends.l.length from zp),.inr hb⟩) V V) V λv47=>xb (λ_ _ h_=>yu (r:=7) (rm:=0) (s:=(⟨v46,ol++([o])⟩:Ls zC)) (m:=(⟨v47,[nth ends.l i]⟩:Ls zC)) h_ xc yD V V V V V V V (λw h=>(h.own 0 V)) (λb hb=>qt (h_.sh.ok _ (zy (i:=0) V)) hb) (λq hq b hb=>⟨q,hq,hb⟩) V V V inferInstance (show ((ol++([o])).length+([nth ends.l i]).length)*56<=140737488355328/\(ol++([o])).length+([nth ends.l i]).length<=140737488355328 from zp) V V) V λv48=>zn (oM 1 V<|.nl)<|nK Ke<|gF [0,3,4,5,6] V<|gL<|zn (oM 1 V<|yl _ 1 zp V<|oM 1 V<|.nl)<|nN<|λa49 w49 U7=>zH ⟨_,?_,i+1,true,(ol++([o]))++([nth ends.l i]),v48,?_,?_,U7.wN ⟨V,V,V,V,V,trivial⟩ [2,3,4,5,6,7] V,V⟩
   · rw [B1];first|omega|(simp only [qf];omega)
   · omega
   · first|exact yI.one hinv za zc|exact yI.two hinv za (.inl zc)|exact yI.two hinv za (.inr ⟨zc,zc⟩)|(subst_vars;first|exact yI.one hinv za zc|exact yI.two hinv za (.inl V)|exact yI.two hinv za (.inr ⟨zc,zc⟩))
  have zqR:dn=true:=(JS _).mp J1
  refine gS<|hK hU<|gL<|zn (oM 2 V<|yb 1 wW ZD V V<|oM 1 V<|jo xc yD (aO 2 V) _ zp V<|Xz [.int .i64 ((nth ends.l i).st),((nth ends.l i).words).v,((nth ends.l i).zd).v] yD (aO 2 V) zp V<|.nl)<|xb (λ_ _ h_=>qF (n:=1) (cs:= [.int .i64 ((nth ends.l i).st),((nth ends.l i).words).v,((nth ends.l i).zd).v]) ([nth ends.l i]:List zC) h_ xc yD V V V zf V zb V (λq hq w h=>by obtain rfl:q=0:=(by simpa using hq);exact ⟨((h.own 2 V).inner i (show i<ends.l.length from zp)).1,((h.own 2 V).inner i (show i<ends.l.length from zp)).2⟩) (λq hq b hb=>by obtain rfl:q=0:=(by simpa using hq);rcases hb with hb|hb;exact ⟨_,zy (i:=2) V,i,(show i<ends.l.length from zp),.inl hb⟩;exact ⟨_,zy (i:=2) V,i,(show i<ends.l.length from zp),.inr hb⟩) V V) V λv50=>xb (λ_ _ h_=>yu (r:=6) (rm:=0) (s:=(⟨vo,ol⟩:Ls zC)) (m:=(⟨v50,[nth ends.l i]⟩:Ls zC)) h_ xc yD V V V V V V V (λw h=>(h.own 0 V)) (λb hb=>qt (h_.sh.ok _ (zy (i:=0) V)) hb) (λq hq b hb=>⟨q,hq,hb⟩) V V V inferInstance (show (ol.length+([nth ends.l i]).length)*56<=140737488355328/\ol.length+([nth ends.l i]).length<=140737488355328 from zp) V V) V λv51=>zn (oM 1 V<|.nl)<|nK Ke<|gF [0,3,4,5,6] V<|gL<|zn (oM 1 V<|yl _ 1 zp V<|oM 1 V<|.nl)<|nN<|λMV MB G0=>zH ⟨_,?_,i+1,dn,ol++([nth ends.l i]),v51,?_,?_,G0.wN ⟨V,V,V,V,V,trivial⟩ [1,2,3,4,5,6] V,V⟩
  · rw [B1];first|omega|(simp only [qf];omega)
  · omega
  · first|exact yI.one hinv za zc|exact yI.two hinv za (.inl zc)|exact yI.two hinv za (.inr ⟨zc,zc⟩)|(subst_vars;first|exact yI.one hinv za zc|exact yI.two hinv za (.inl V)|exact yI.two hinv za (.inr ⟨zc,zc⟩))
 refine gX<|hK Xe<|gK λ_ MI=>sG (oM 1 V<|rM V<|.nl)<|Xl V (λc8=>?_) λc8=>?_
 ·have zqP:dn=false:=(wE _).mp c8
  refine gL<|zn (oM 1 V<|kt 0 yD V V<|.nl)<|xb (λ_ _ h_=>qF (n:=1) (cs:= [.int .i64 o.st,o.words.v,o.zd.v]) ([o]:List zC) h_ xc yD V V V zf V zb V (λq hq w h=>by obtain rfl:q=0:=(by simpa using hq);exact ⟨(h.at 3 V),(h.at 4 V)⟩) (λq hq b hb=>by obtain rfl:q=0:=(by simpa using hq);rcases hb with hb|hb;exact ⟨_,zy (i:=3) V,hb⟩;exact ⟨_,zy (i:=4) V,hb⟩) V V) V λv56=>xb (λ_ _ h_=>yu (r:=6) (rm:=0) (s:=(⟨vo,ol⟩:Ls zC)) (m:=(⟨v56,[o]⟩:Ls zC)) h_ xc yD V V V V V V V (λw h=>(h.own 0 V)) (λb hb=>qt (h_.sh.ok _ (zy (i:=0) V)) hb) (λq hq b hb=>⟨q,hq,hb⟩) V V V inferInstance (show (ol.length+([o]).length)*56<=140737488355328/\ol.length+([o]).length<=140737488355328 from zp) V V) V λv57=>zn (oM 1 V<|.nl)<|nK MI<|gL<|zn (oM 2 V<|jA wW V<|.nl)<|dY 2 ZD V (aO 6 V) V<|nN<|λa59 w59 Rh=>?_
  try simp only [Exit.then,Exit.inBlock,if_true]
  refine qj (fn:=Tryz.f71) V Rh<|⟨V,⟨v57,ol++([o])⟩,?_,(Rh.sh.zY [2,6,4,5] V)⟩
  first|exact .inl ⟨⟨i,za,zc,zc⟩,V⟩|exact yI.rel (by first|exact hinv|(rw [show dn=true from zc] at hinv;exact hinv)) za|exact yI.zaX (by first|exact hinv|(rw [show dn=false from zc] at hinv;exact hinv)) za
 have zqP:dn=true:=(JS _).mp c8
 refine gS<|hK MI<|gL<|zn (oM 2 V<|jA wW V<|.nl)<|dY 1 ZD V (aO 5 V) V<|nN<|λa61 P4 me=>?_
 try simp only [Exit.then,Exit.inBlock,if_true]
 refine qj (fn:=Tryz.f71) V me<|⟨V,⟨vo,ol⟩,?_,(me.sh.zY [1,5,3,4] V)⟩
 first|exact .inl ⟨⟨i,za,zc,zc⟩,V⟩|exact yI.rel (by first|exact hinv|(rw [show dn=true from zc] at hinv;exact hinv)) za|exact yI.zaX (by first|exact hinv|(rw [show dn=false from zc] at hinv;exact hinv)) za
theorem Y5 {p:Pg}{size n:Int}(h:ZI p size 114 n=true):0<=n/\n<p.ze:=by
 unfold ZI at h
 simp only [Int.reduceEq,if_false,if_true,qI,decide_eq_true_eq] at h
 exact h
theorem Li {p:Pg}{size n:Int}(h:ZI p size 119 n=true):0<=n/\n<p.words.length:=by
 unfold ZI at h
 simp only [Int.reduceEq,if_false,if_true,qI,decide_eq_true_eq] at h
 exact h
theorem zlr {p:Pg}{size n:Int}(h:ZI p size 108 n=true):0<=n/\n<p.zm:=by
 unfold ZI at h
 simp only [Int.reduceEq,if_false,if_true,qI,decide_eq_true_eq] at h
 exact h
theorem zaf {p:Pg}{size n:Int}(hs:0<=size/\size<=100000)(h:ZI p size 99 n=true):0<=n/\n<=size:=by
 unfold ZI at h
 simp only [Int.reduceEq,if_false,if_true,qI,decide_eq_true_eq] at h
 rw [Bm _ ⟨za,za⟩] at h
 omega
theorem R7 {p:Pg}{size:Int}{x:Ins}(h:gq p size x 0=true){b:UInt8}{r:List UInt8}(hk:qL x.op=⟨(b::r).toArray⟩):ZI p size (b.toNat:Int) x.a=true:=by
 unfold gq at h
 rw [hk] at h
 rw [dif_pos (by simp [ByteArray.size])] at h
 exact h
theorem ng {p:Pg}{size:Int}{x:Ins}(h:gq p size x 1=true){a b:UInt8}{r:List UInt8}(hk:qL x.op=⟨(a::b::r).toArray⟩):ZI p size (b.toNat:Int) x.b=true:=by
 unfold gq at h
 rw [hk] at h
 rw [dif_pos (by simp [ByteArray.size])] at h
 exact h
theorem zgy {p:Pg}{size:Int}{x:Ins}(h:gq p size x 2=true){a b c:UInt8}{r:List UInt8}(hk:qL x.op=⟨(a::b::c::r).toArray⟩):ZI p size (c.toNat:Int) x.c=true:=by
 unfold gq at h
 rw [hk] at h
 rw [dif_pos (by simp [ByteArray.size])] at h
 exact h
theorem On {p:Pg}{size:Int}{x:Ins}(hs:0<=size/\size<=100000)(hr:0<=p.ze)(hl:0<=p.zm)(h:My p size x):GV p.ze.toNat p.words.length p.zm.toNat x/\(x.op=14->0<=x.a/\x.a<=size)/\(x.op=15->0<=x.b/\x.b<=size):=by
 have er:(p.ze.toNat:Int)=p.ze:=Int.toNat_of_nonneg hr
 have el:(p.zm.toNat:Int)=p.zm:=Int.toNat_of_nonneg hl
 have h0:=h.n0
 have h1:=h.n1
 have h2:=h.n2
 refine ⟨⟨λe=>?_,λe=>?_,λe=>?_,λe=>?_,λe=>?_,λe=>?_,λe=>?_,λe=>?_,λe=>?_⟩,λe=>?_,λe=>?_⟩
 ·have k:qL x.op=⟨[114,110].toArray⟩:=by rw [e];unfold qL;simp
  rw [er];exact Y5 (R7 h0 k)
 ·have k:qL x.op=⟨[114,114].toArray⟩:=by rw [e];unfold qL;simp
  rw [er];exact ⟨Y5 (R7 h0 k),Y5 (ng h1 k)⟩
 ·have k:qL x.op=⟨[114,114,114].toArray⟩:=by rcases e with e|e|e|e|e<;>(rw [e];unfold qL;simp)
  rw [er];exact ⟨Y5 (R7 h0 k),Y5 (ng h1 k),Y5 (zgy h2 k)⟩
 ·have k:qL x.op=⟨[114,119].toArray⟩:=by rw [e];unfold qL;simp
  rw [er];exact ⟨Y5 (R7 h0 k),Li (ng h1 k)⟩
 ·have k:qL x.op=⟨[119,114].toArray⟩:=by rw [e];unfold qL;simp
  rw [er];exact ⟨Li (R7 h0 k),Y5 (ng h1 k)⟩
 ·have k:qL x.op=⟨[114,114].toArray⟩:=by rcases e with e|e<;>(rw [e];unfold qL;simp)
  rw [er];exact ⟨Y5 (R7 h0 k),Y5 (ng h1 k)⟩
 ·have k:qL x.op=⟨[119,114,114].toArray⟩:=by rw [e];unfold qL;simp
  rw [er];exact ⟨Li (R7 h0 k),Y5 (ng h1 k),Y5 (zgy h2 k)⟩
 ·rw [er]
  rcases e with e|e
  ·have k:qL x.op=⟨[114,99].toArray⟩:=by rw [e];unfold qL;simp
   exact Y5 (R7 h0 k)
  ·have k:qL x.op=⟨[114].toArray⟩:=by rw [e];unfold qL;simp
   exact Y5 (R7 h0 k)
 ·have k:qL x.op=⟨[108].toArray⟩:=by rcases e with e|e<;>(rw [e];unfold qL;simp)
  rw [el];exact zlr (R7 h0 k)
 ·have k:qL x.op=⟨[99].toArray⟩:=by rw [e];unfold qL;simp
  exact zaf hs (R7 h0 k)
 ·have k:qL x.op=⟨[114,99].toArray⟩:=by rw [e];unfold qL;simp
  exact zaf hs (ng h1 k)
theorem yJ.uD {p:Pg}(h:yJ p){t i:Nat}(ht:t<p.code.length)(hi:i<(nth p.code t).length):GV p.ze.toNat p.words.length p.zm.toNat (nth (nth p.code t) i)/\((nth (nth p.code t) i).op=14->0<=(nth (nth p.code t) i).a/\(nth (nth p.code t) i).a<=(nth p.code t).length)/\((nth (nth p.code t) i).op=15->0<=(nth (nth p.code t) i).b/\(nth (nth p.code t) i).b<=(nth p.code t).length):=by
 have hl:=h.len t ht
 have:=h.ze
 have:=h.zm
 exact On ⟨za,za⟩ za za (h.ins t i ht hi)
structure BL (R W L C:Nat)(x:TS):Prop where
 pc:0<=x.pc/\x.pc<=C
 ze:x.ze.length=R
 wait:x.wait.length<=3
 wt:∀w∈x.wait,if w.lock=true then 0<=w.wh/\w.wh<L else 0<=w.wh/\w.wh<W
 words:x.words.length=W
 owner:x.owner.length=L
section
variable {R W L C:Nat}{x:TS}
theorem BL.put (h:BL R W L C x)(k v:Int):BL R W L C (x.put k v):=⟨h.pc,by simpa [TS.put] using h.ze,h.wait,h.wt,h.words,h.owner⟩
theorem BL.zq (h:BL R W L C x):BL R W L C { x with zq:=true } :=⟨h.pc,h.ze,h.wait,h.wt,h.words,h.owner⟩
theorem BL.done (h:BL R W L C x)(w:Wt):BL R W L C (x.done w):=by
 refine ⟨h.pc,h.ze,h.wait,h.wt,?_,?_⟩
 ·show (if w.lock=true then x.words else x.words.set w.wh.toNat w.qk).length=W
  split
  ·exact h.words
  ·rw [XP];exact h.words
 ·show (if w.lock=true then x.owner.set w.wh.toNat (-1) else x.owner).length=L
  split
  ·rw [XP];exact h.owner
  ·exact h.owner
theorem BL.store (h:BL R W L C x){m:Int}{w:Wt}(hw:if w.lock=true then 0<=w.wh/\w.wh<L else 0<=w.wh/\w.wh<W)(hl:x.wait.length<3):BL R W L C (x.store m w):=by
 unfold TS.store
 split
 ·refine ⟨h.pc,h.ze,by simp;omega,λy hy=>?_,h.words,h.owner⟩
  rcases List.mem_append.1 hy with hy|hy
  ·exact h.wt y hy
  ·obtain rfl:y=w:=by simpa using hy
   exact hw
 ·exact h.done w
theorem BL.exec (h:BL R W L C x){m:Int}{n:Nat}{i:Ins}(hR:GV R W L i)(xd:i.op=14->0<=i.a/\i.a<=C)(xr:i.op=15->0<=i.b/\i.b<=C)(ha:q7 x.owner x.wait.length i=true):BL R W L C (zJ m n i x):=by
 have hst:i.op=9\/i.op=11\/i.op=18->x.wait.length<3:=by
  intro e
  unfold q7 at ha
  rw [if_pos e] at ha
  exact of_decide_eq_true ha
 by_cases e1:i.op=1
 ·rw [Qc e1];exact h.put _ _
 by_cases e2:i.op=2
 ·rw [Qb e2];exact h.put _ _
 by_cases e3:i.op=3
 ·rw [Qa e3];exact h.put _ _
 by_cases e4:i.op=4
 ·rw [Z9 e4];exact h.put _ _
 by_cases e5:i.op=5
 ·rw [Z8 e5];exact h.put _ _
 by_cases e6:i.op=6
 ·rw [Z7 e6];exact h.put _ _
 by_cases e7:i.op=7
 ·rw [Z6 e7];exact h.put _ _
 by_cases e8:i.op=8
 ·rw [Z5 e8];exact h.put _ _
 by_cases e9:i.op=9
 ·rw [Z4 e9]
  have q:=hR.o9 e9
  exact h.store (by show if (false=true) then _ else _;rw [if_neg XQ];exact q.1) (hst (.inl e9))
 by_cases Wx:i.op=10
 ·by_cases hw:0<=x.xQ i.b/\x.xQ i.b<(x.words.length:Int)
  ·rw [vf Wx hw];exact h.put _ _
  ·rw [vg Wx hw];exact h.zq
 by_cases Kt:i.op=11
 ·by_cases hw:0<=x.xQ i.a/\x.xQ i.a<(x.words.length:Int)
  ·rw [vQ Kt hw]
   rw [h.words] at hw
   exact h.store (by show if (false=true) then _ else _;rw [if_neg XQ];exact hw) (hst (.inr (.inl Kt)))
  ·rw [vR Kt hw];exact h.zq
 by_cases XX:i.op=13
 ·by_cases hw:nth x.words i.a.toNat=x.xQ i.b
  ·rw [vO XX hw]
   exact ⟨h.pc,by simpa using h.ze,h.wait,h.wt,by simpa using h.words,h.owner⟩
  ·rw [vP XX hw];exact h.put _ _
 by_cases bm:i.op=14
 ·rw [ko bm];exact ⟨xd bm,h.ze,h.wait,h.wt,h.words,h.owner⟩
 by_cases GH:i.op=15
 ·by_cases hw:x.xQ i.a=0
  ·rw [jQ GH hw];exact ⟨xr GH,h.ze,h.wait,h.wt,h.words,h.owner⟩
  ·rw [jR GH hw];exact h
 by_cases He:i.op=16
 ·rw [kZ He];exact ⟨h.pc,h.ze,h.wait,h.wt,h.words,h.owner⟩
 by_cases KG:i.op=17
 ·rw [kY KG];exact ⟨h.pc,h.ze,h.wait,h.wt,h.words,by simpa using h.owner⟩
 by_cases Jp:i.op=18
 ·have q:=hR.MH (.inr Jp)
  by_cases hw:nth x.owner i.a.toNat≠n
  ·rw [va Jp hw];exact h.zq
  ·by_cases hh:∃j,j<x.wait.length/\(nth x.wait j).lock=true/\(nth x.wait j).wh=i.a
   ·obtain ⟨j,hj,h1,h2⟩:=hh
    rw [wK Jp hw j hj h1 h2];exact h.zq
   ·rw [vN Jp hw (λq hq hc=>hh ⟨q,hq,hc⟩)]
    exact h.store (by show if (true=true) then _ else _;rw [if_pos V];exact q) (hst (.inr (.inr Jp)))
 rw [wB ⟨e1,e2,e3,e4,e5,e6,e7,e8,e9,Wx,Kt,XX,bm,GH,He,KG,Jp⟩]
 exact h
end
theorem kj {m:Int}{c:List Ins}{x:TS}{k:Nat}(h:xp m c x k=true):(k=0/\x.pc<c.length/\q7 x.owner x.wait.length (zo c x.pc)=true)\/(0<k/\k<=x.wait.length/\w6 m x.wait (k-1)=true):=by
 unfold xp at h
 split at h
 ·rename_i hk
  left
  unfold vT at h
  simp only [qI,decide_eq_true_eq] at h
  exact ⟨hk,h⟩
 ·right
  simp only [qI,decide_eq_true_eq] at h
  exact ⟨za,h⟩
theorem BL.XY {R W L:Nat}{x:TS}{m:Int}{n k:Nat}{c:List Ins}(h:BL R W L c.length x)(hR:∀i,i<c.length->GV R W L (nth c i)/\((nth c i).op=14->0<=(nth c i).a/\(nth c i).a<=c.length)/\((nth c i).op=15->0<=(nth c i).b/\(nth c i).b<=c.length))(hk:xp m c x k=true):BL R W L c.length (Go.Proofs.YtmjkobhkkjgplaaGreatDoor.XY m n c k x):=by
 have JZ:=h.pc
 rcases kj hk with ⟨rfl,h1,h2⟩|⟨h1,h2,h3⟩
 ·rw [xO V]
  have hn:zo c x.pc=nth c x.pc.toNat:=vL h1
  obtain ⟨q1,q2,q3⟩:=hR x.pc.toNat za
  rw [hn] at h2⊢
  exact BL.exec (x:= { x with pc:=x.pc+1 }) ⟨⟨by show 0<=x.pc+1;omega,by show x.pc+1<=_;omega⟩,h.ze,h.wait,h.wt,h.words,h.owner⟩ q1 q2 q3 h2
 ·unfold Go.Proofs.YtmjkobhkkjgplaaGreatDoor.XY
  rw [if_pos h1]
  have hd:=h.done (nth x.wait (k-1))
  exact ⟨hd.pc,hd.ze,by show (x.wait.eraseIdx (k-1)).length<=3;have:=List.length_eraseIdx_le x.wait (k-1);have:=h.wait;omega,λw hw=>h.wt w (bL hw),hd.words,hd.owner⟩
structure Wf (p:Pg)(s:yc):Prop where
 zW:s.zW.length=p.code.length
 th:∀t,t<p.code.length->BL p.ze.toNat p.words.length p.zm.toNat (nth p.code t).length (s.view t)
 words:s.words.length=p.words.length
 owner:s.owner.length=p.zm.toNat
theorem yL {α:Type}[Inhabited α](l:List α)(i k:Nat)(x:α):nth (l.set i x) k=if i=k/\i<l.length then x else nth l k:=by
 simp only [nth,List.getD,List.getElem?_set]
 by_cases h:i=k
 ·subst h
  by_cases h2:i<l.length<;>simp [h2]
 ·simp [h]
theorem ZM {s:yc}{t:Nat}{y:TS}(ht:t<s.zW.length):(s.yt t y).view t= { y with zq:=false } :=by
 unfold yc.view yc.yt
 simp [yL,ht]
theorem Je {s:yc}{t u:Nat}{y:TS}(h:t≠u):(s.yt t y).view u=⟨(s.view u).pc,(s.view u).ze,(s.view u).wait,y.words,y.owner,y.zd,false⟩:=by
 unfold yc.view yc.yt
 simp only [yL]
 rw [if_neg (λhh=>h hh.1)]
theorem Wf.yr {p:Pg}(h:yJ p):Wf p (yr p):=by
 refine ⟨by simp [Go.Proofs.YtmjkobhkkjgplaaGreatDoor.yr],λt ht=>?_,V,by simp [Go.Proofs.YtmjkobhkkjgplaaGreatDoor.yr]⟩
 have e:nth (Go.Proofs.YtmjkobhkkjgplaaGreatDoor.yr p).zW t=⟨0,List.replicate p.ze.toNat 0,[]⟩:=by
  unfold Go.Proofs.YtmjkobhkkjgplaaGreatDoor.yr
  rw [zI _ _ _ ht]
 unfold yc.view
 rw [e]
 exact ⟨⟨Int.le_refl _,by simp⟩,by simp,by simp,λw hw=>(by cases hw),V,by simp [Go.Proofs.YtmjkobhkkjgplaaGreatDoor.yr]⟩
theorem Wf.step {p:Pg}(zR:yJ p){s:yc}(h:Wf p s){m:Int}{t k:Nat}(ht:t<p.code.length)(hk:xp m (nth p.code t) (s.view t) k=true):Wf p (s.yt t (stepT p m s t k)):=by
 have h1:=(h.th t ht).XY (m:=m) (n:=t) (λi hi=>zR.uD ht hi) hk
 refine ⟨by simpa [yc.yt] using h.zW,λu hu=>?_,h1.words,h1.owner⟩
 by_cases e:t=u
 ·subst e
  rw [ZM (by rw [h.zW];exact ht)]
  exact ⟨h1.pc,h1.ze,h1.wait,h1.wt,h1.words,h1.owner⟩
 ·rw [Je e]
  have h2:=h.th u hu
  exact ⟨h2.pc,h2.ze,h2.wait,h2.wt,h1.words,h1.owner⟩
inductive Reach (p:Pg)(m:Int):yc->Prop
 |start:Reach p m (yr p)
 |step {s:yc} {t k:Nat} :Reach p m s->t<p.code.length->xp m (nth p.code t) (s.view t) k=true->(stepT p m s t k).zq=false->Reach p m (s.yt t (stepT p m s t k))
def Xo (p:Pg)(m:Int)(s:yc):Prop:=∀t k,t<p.code.length->xp m (nth p.code t) (s.view t) k=false
inductive jq (p:Pg)(m:Int):xR->Prop
 |done {s:yc} :Reach p m s->ended p s=true->jq p m ⟨0,s.words,s.zd⟩
 |stuck {s:yc} :Reach p m s->ended p s=false->Xo p m s->jq p m ⟨2,s.words,s.zd⟩
 |zq {s:yc} {t k:Nat} :Reach p m s->t<p.code.length->xp m (nth p.code t) (s.view t) k=true->(stepT p m s t k).zq=true->jq p m ⟨1,[],(stepT p m s t k).zd⟩
theorem Reach.wf {p:Pg}(zR:yJ p){m:Int}{s:yc}(h:Reach p m s):Wf p s:=by
 induction h with
 |start=>exact Wf.yr zR
 |step _ ht hk _ ih=>exact ih.step zR ht hk
theorem rX {m:Int}{c:List Ins}{t:Nat}{x:TS}{v:Int} :v∈mvs m c t x↔∃k,xp m c x k=true/\v=((8*t+k:Nat):Int):=by
 unfold mvs
 rw [GQ]
 constructor
 ·rintro (h|h)
  ·split at h
   ·rename_i ha
    exact ⟨0,by unfold xp;rw [if_pos V];exact ha,by simpa using h⟩
   ·cases h
  ·obtain ⟨k,hk,rfl⟩:=List.mem_map.1 h
   obtain ⟨h1,h2⟩:=List.mem_filter.1 hk
   refine ⟨k+1,?_,V⟩
   unfold xp
   rw [if_neg za]
   have:k+1<=x.wait.length:=by have:=List.mem_range.1 h1;omega
   simp [this,h2]
 ·rintro ⟨k,hk,rfl⟩
  rcases kj hk with ⟨rfl,h1,h2⟩|⟨h1,h2,h3⟩
  ·left
   have:vT c x=true:=by unfold vT;simp [h1,h2]
   rw [if_pos this];simp
  ·right
   refine List.mem_map.2 ⟨k-1,List.mem_filter.2 ⟨by simp;omega,h3⟩,?_⟩
   rw [show 8*t+(k-1)+1=8*t+k from za]
theorem V1 {p:Pg}{m:Int}{s:yc}{v:Int} :v∈Zi p m s↔∃t k,t<p.code.length/\xp m (nth p.code t) (s.view t) k=true/\v=((8*t+k:Nat):Int):=by
 unfold Zi
 rw [List.mem_flatMap]
 constructor
 ·rintro ⟨t,ht,h⟩
  obtain ⟨k,hk,e⟩:=rX.1 h
  exact ⟨t,k,by simpa using ht,hk,e⟩
 ·rintro ⟨t,k,ht,hk,e⟩
  exact ⟨t,by simpa using ht,rX.2 ⟨k,hk,e⟩⟩
theorem rS {m:Int}{c:List Ins}{x:TS}{k:Nat}(h:xp m c x k=true)(hw:x.wait.length<=3):k<=3:=by
 rcases kj h with ⟨rfl,_⟩|⟨_,h2,_⟩<;>omega
theorem X8 (m:Int)(x:TS)(w:Wt):(x.store m w).zd=x.zd:=by unfold TS.store;split<;>rfl
theorem dy (m:Int)(n:Nat)(i:Ins)(x:TS):(zJ m n i x).zd.length<=x.zd.length+2:=by
 by_cases e1:i.op=1
 ·rw [Qc e1];show x.zd.length<=_;omega
 by_cases e2:i.op=2
 ·rw [Qb e2];show x.zd.length<=_;omega
 by_cases e3:i.op=3
 ·rw [Qa e3];show x.zd.length<=_;omega
 by_cases e4:i.op=4
 ·rw [Z9 e4];show x.zd.length<=_;omega
 by_cases e5:i.op=5
 ·rw [Z8 e5];show x.zd.length<=_;omega
 by_cases e6:i.op=6
 ·rw [Z7 e6];show x.zd.length<=_;omega
 by_cases e7:i.op=7
 ·rw [Z6 e7];show x.zd.length<=_;omega
 by_cases e8:i.op=8
 ·rw [Z5 e8];show x.zd.length<=_;omega
 by_cases e9:i.op=9
 ·rw [Z4 e9,X8];omega
 by_cases Wx:i.op=10
 ·by_cases hw:0<=x.xQ i.b/\x.xQ i.b<(x.words.length:Int)
  ·rw [vf Wx hw];show x.zd.length<=_;omega
  ·rw [vg Wx hw];show x.zd.length<=_;omega
 by_cases Kt:i.op=11
 ·by_cases hw:0<=x.xQ i.a/\x.xQ i.a<(x.words.length:Int)
  ·rw [vQ Kt hw,X8];omega
  ·rw [vR Kt hw];show x.zd.length<=_;omega
 by_cases XX:i.op=13
 ·by_cases hw:nth x.words i.a.toNat=x.xQ i.b
  ·rw [vO XX hw];show x.zd.length<=_;omega
  ·rw [vP XX hw];show x.zd.length<=_;omega
 by_cases bm:i.op=14
 ·rw [ko bm];show x.zd.length<=_;omega
 by_cases GH:i.op=15
 ·by_cases hw:x.xQ i.a=0
  ·rw [jQ GH hw];show x.zd.length<=_;omega
  ·rw [jR GH hw];omega
 by_cases He:i.op=16
 ·rw [kZ He];show (x.zd++_).length<=_;simp
 by_cases KG:i.op=17
 ·rw [kY KG];show x.zd.length<=_;omega
 by_cases Jp:i.op=18
 ·by_cases hw:nth x.owner i.a.toNat≠n
  ·rw [va Jp hw];show x.zd.length<=_;omega
  ·by_cases hh:∃j,j<x.wait.length/\(nth x.wait j).lock=true/\(nth x.wait j).wh=i.a
   ·obtain ⟨j,hj,h1,h2⟩:=hh
    rw [wK Jp hw j hj h1 h2];show x.zd.length<=_;omega
   ·rw [vN Jp hw (λq hq hc=>hh ⟨q,hq,hc⟩),X8];omega
 rw [wB ⟨e1,e2,e3,e4,e5,e6,e7,e8,e9,Wx,Kt,XX,bm,GH,He,KG,Jp⟩]
 omega
theorem D7 (m:Int)(n:Nat)(c:List Ins)(k:Nat)(x:TS):(XY m n c k x).zd.length<=x.zd.length+2:=by
 unfold XY
 split
 ·show x.zd.length<=_;omega
 ·exact dy _ _ _ _
theorem AV :∀ {l m:List Wt} {r r' :List Int},l.length=m.length->l.flatMap Bw++r=m.flatMap Bw++r' ->l=m/\r=r'
 | [],[],r,r',_,h=>⟨V,h⟩
 | [],_::_,_,_,hl,_=>by simp at hl
 |_::_,[],_,_,hl,_=>by simp at hl
 |x::l,y::m,r,r',hl,h=>by
  simp only [kF,xi] at h
  unfold Bw at h
  simp only [QQ,JP,JO] at h
  obtain ⟨h1,h2,h3,h4⟩:=h
  obtain ⟨e1,e2⟩:=AV (by simpa using hl) h4
  have gv:x.lock=y.lock:=by
   cases hx:x.lock<;>cases hy:y.lock<;>simp [hx,hy] at h1⊢
  refine ⟨?_,e2⟩
  rw [e1]
  congr 1
  cases x;cases y
  simp only at gv h2 h3
  rw [gv,h2,h3]
theorem Ci {R:Nat} :∀ {l m:List Th} {r r' :List Int},l.length=m.length->(∀x∈l,x.ze.length=R)->(∀x∈m,x.ze.length=R)->l.flatMap thN++r=m.flatMap thN++r' ->l=m/\r=r'
 | [],[],r,r',_,_,_,h=>⟨V,h⟩
 | [],_::_,_,_,hl,_,_,_=>by simp at hl
 |_::_,[],_,_,hl,_,_,_=>by simp at hl
 |x::l,y::m,r,r',hl,h1,h2,h=>by
  simp only [kF,xi] at h
  unfold thN at h
  simp only [xi,QQ,JP,JO] at h
  obtain ⟨e1,e2,h3⟩:=h
  have hx:=h1 x (by simp)
  have hy:=h2 y (by simp)
  obtain ⟨e3,h4⟩:=List.append_inj h3 (by rw [hx,hy])
  obtain ⟨e4,h5⟩:=AV za h4
  obtain ⟨e5,e6⟩:=Ci (by simpa using hl) (λz hz=>h1 z (by simp [hz])) (λz hz=>h2 z (by simp [hz])) h5
  refine ⟨?_,e6⟩
  rw [e5]
  congr 1
  cases x;cases y
  simp only at e1 e3 e4
  rw [e1,e3,e4]
def keyOf (s:yc):List Int:=KY s.zW s.words s.owner s.zd
theorem key_inj {p:Pg}{s s' :yc}(h:Wf p s)(h' :Wf p s')(e:keyOf s=keyOf s'):s=s' :=by
 unfold keyOf KY at e
 simp only [xi] at e
 have hr:∀ {s:yc},Wf p s->∀x∈s.zW,x.ze.length=p.ze.toNat:=by
  intro s h x hx
  obtain ⟨i,hi⟩:=kG hx
  obtain ⟨qU,e⟩:=List.getElem?_eq_some_iff.1 hi
  have:=(h.th i (by rw [<-h.zW];exact qU)).ze
  have e2:nth s.zW i=x:=by rw [qq _ _ qU];exact e
  unfold yc.view at this
  simpa [e2] using this
 obtain ⟨e1,h2⟩:=Ci (by rw [h.zW,h'.zW]) (hr h) (hr h') e
 obtain ⟨e2,h3⟩:=List.append_inj h2 (by rw [h.words,h'.words])
 obtain ⟨e3,e4⟩:=List.append_inj h3 (by rw [h.owner,h'.owner])
 cases s;cases s'
 simp only at e1 e2 e3 e4
 rw [e1,e2,e3,e4]
theorem Uq :∀l:List Int,ju l l=false
 | []=>by simp [ju]
 |a::l=>by unfold ju;rw [if_pos V];exact Uq l
theorem Vm :∀ {l m n:List Int},ju l m=true->ju m n=true->ju l n=true
 | [],m,[],h1,h2=>by cases m<;>simp [ju] at h1 h2
 | [],m,c::n,h1,h2=>by simp [ju]
 |a::l,[],n,h1,h2=>by simp [ju] at h1
 |a::l,b::m,[],h1,h2=>by simp [ju] at h2
 |a::l,b::m,c::n,h1,h2=>by
  unfold ju at h1 h2⊢
  by_cases e1:a=b
  ·by_cases e2:b=c
   ·rw [if_pos e1] at h1;rw [if_pos e2] at h2;rw [if_pos (e1.trans e2)];exact Vm h1 h2
   ·rw [if_neg e2] at h2;subst e1;rw [if_neg e2];exact h2
  ·rw [if_neg e1] at h1
   by_cases e2:b=c
   ·subst e2;rw [if_neg e1];exact h1
   ·rw [if_neg e2] at h2
    have Lg:a<b:=by simpa using h1
    have h2' :b<c:=by simpa using h2
    rw [if_neg za]
    simp;omega
theorem Up :∀ {l m:List Int},ju l m=false->ju m l=false->l=m
 | [],[],_,_=>rfl
 | [],b::m,h1,_=>by simp [ju] at h1
 |a::l,[],_,h2=>by simp [ju] at h2
 |a::l,b::m,h1,h2=>by
  unfold ju at h1 h2
  by_cases e:a=b
  ·rw [if_pos e] at h1;rw [if_pos e.symm] at h2
   rw [e,Up h1 h2]
  ·rw [if_neg e] at h1;rw [if_neg (λh=>e h.symm)] at h2
   simp at h1 h2;omega
theorem Jv (a:xR):yh a a=false:=by unfold yh;rw [if_pos V,if_pos V];exact Uq _
theorem Ju {a b:xR}(h1:yh a b=false)(h2:yh b a=false):a=b:=by
 unfold yh at h1 h2
 by_cases e:a.st=b.st
 ·rw [if_pos e] at h1;rw [if_pos e.symm] at h2
  by_cases e2:a.words=b.words
  ·rw [if_pos e2] at h1;rw [if_pos e2.symm] at h2
   have e3:=Up h1 h2
   cases a;cases b;simp only at e e2 e3;rw [e,e2,e3]
  ·rw [if_neg e2] at h1;rw [if_neg (λh=>e2 h.symm)] at h2
   exact absurd (Up h1 h2) e2
 ·rw [if_neg e] at h1;rw [if_neg (λh=>e h.symm)] at h2
  simp at h1 h2;omega
theorem Ya {a b c:xR}(h1:yh a b=true)(h2:yh b c=true):yh a c=true:=by
 unfold yh at h1 h2⊢
 by_cases e1:a.st=b.st
 ·rw [if_pos e1] at h1
  by_cases e2:b.st=c.st
  ·rw [if_pos e2] at h2
   rw [if_pos (e1.trans e2)]
   by_cases f1:a.words=b.words
   ·rw [if_pos f1] at h1
    by_cases f2:b.words=c.words
    ·rw [if_pos f2] at h2;rw [if_pos (f1.trans f2)];exact Vm h1 h2
    ·rw [if_neg f2] at h2;rw [if_neg (λh=>f2 (f1.symm.trans h)),f1];exact h2
   ·rw [if_neg f1] at h1
    by_cases f2:b.words=c.words
    ·rw [if_neg (λh=>f1 (h.trans f2.symm)),<-f2];exact h1
    ·rw [if_neg f2] at h2
     have h3:=Vm h1 h2
     rw [if_neg (λh=>?_)]
     ·exact h3
     ·rw [h,Uq] at h3;cases h3
  ·rw [if_neg e2] at h2;rw [if_neg (λh=>e2 (e1.symm.trans h)),e1];exact h2
 ·rw [if_neg e1] at h1
  have Lg:a.st<b.st:=by simpa using h1
  by_cases e2:b.st=c.st
  ·rw [if_neg za];simp;omega
  ·rw [if_neg e2] at h2
   have h2' :b.st<c.st:=by simpa using h2
   rw [if_neg za];simp;omega
def j0 (l:List xR):Prop:=l.Pairwise λa b=>yh a b=true
theorem gn :∀ {l m:List xR},j0 l->j0 m->(∀o,o∈l↔o∈m)->l=m
 | [],[],_,_,_=>rfl
 | [],b::m,_,_,h=>by have:=(h b).2 (by simp);cases this
 |a::l,[],_,_,h=>by have:=(h a).1 (by simp);cases this
 |a::l,b::m,h1,h2,h=>by
  obtain ⟨p1,p2⟩:=List.pairwise_cons.1 h1
  obtain ⟨q1,q2⟩:=List.pairwise_cons.1 h2
  have e:a=b:=by
   rcases List.mem_cons.1 ((h a).1 (by simp)) with e|ha
   ·exact e
   ·rcases List.mem_cons.1 ((h b).2 (by simp)) with e|hb
    ·exact e.symm
    ·have:=Ya (p1 b hb) (q1 a ha)
     rw [Jv] at this;cases this
  subst e
  have e2:l=m:=by
   refine gn p2 q2 λo=>⟨λho=>?_,λho=>?_⟩
   ·rcases List.mem_cons.1 ((h o).1 (by simp [ho])) with e|h3
    ·subst e;have:=p1 o ho;rw [Jv] at this;cases this
    ·exact h3
   ·rcases List.mem_cons.1 ((h o).2 (by simp [ho])) with e|h3
    ·subst e;have:=q1 o ho;rw [Jv] at this;cases this
    ·exact h3
  rw [e2]
theorem VJ.sorted {o:zC}{l l' :List zC}(h:VJ o l l')(hs:j0 (l.map zC.out)):j0 (l'.map zC.out)/\∀y,y∈l'.map zC.out↔y∈l.map zC.out\/y=o.out:=by
 rcases h with ⟨⟨i,hi,h1,h2⟩,rfl⟩|⟨k,hk,h1,h2,rfl⟩
 ·refine ⟨hs,λy=>⟨.inl,λh=>h.elim id λe=>?_⟩⟩
  rw [e,Ju h1 h2]
  exact List.mem_map.2 ⟨_,qb _ _ hi,V⟩
 ·have E4:l=l.take k++l.drop k:=(Bt k l).symm
  have hb:∀x∈l.take k,yh x.out o.out=true:=by
   intro x hx
   obtain ⟨j,hj⟩:=kG hx
   obtain ⟨qU,e⟩:=List.getElem?_eq_some_iff.1 hj
   have OW:j<k:=by simp at qU;omega
   have:=(h1 j OW).2
   rw [qq _ _ (by simp at qU;omega)] at this
   rw [<-e,List.getElem_take];exact this
  have hs2:j0 (l.take k|>.map zC.out)/\j0 (l.drop k|>.map zC.out)/\∀x∈l.take k,∀y∈l.drop k,yh x.out y.out=true:=by
   rw [E4,yi] at hs
   obtain ⟨a1,a2,a3⟩:=List.pairwise_append.1 hs
   exact ⟨a1,a2,λx hx y hy=>a3 _ (List.mem_map.2 ⟨x,hx,V⟩) _ (List.mem_map.2 ⟨y,hy,V⟩)⟩
  have ha:∀x∈l.drop k,yh o.out x.out=true:=by
   intro x hx
   rcases yq k l.length with qU|Vs
   ·have zR:=h2 qU
    rw [qq l k qU] at zR
    rw [JV qU] at hx
    rcases List.mem_cons.1 hx with rfl|hx
    ·exact zR
    ·have h3:=hs2.2.1
     rw [JV qU,xA] at h3
     exact Ya zR ((List.pairwise_cons.1 h3).1 _ (List.mem_map.2 ⟨x,hx,V⟩))
   ·rw [lQ Vs] at hx;cases hx
  constructor
  ·unfold j0
   rw [yi,xA]
   refine List.pairwise_append.2 ⟨hs2.1,List.pairwise_cons.2 ⟨λy hy=>?_,hs2.2.1⟩,λx hx y hy=>?_⟩
   ·obtain ⟨z,hz,rfl⟩:=List.mem_map.1 hy;exact ha z hz
   ·obtain ⟨z,hz,rfl⟩:=List.mem_map.1 hx
    rcases List.mem_cons.1 hy with rfl|hy
    ·exact hb z hz
    ·obtain ⟨u,hu,rfl⟩:=List.mem_map.1 hy;exact hs2.2.2 z hz u hu
  ·intro y
   conv=>rhs;rw [E4]
   simp only [yi,xA,GQ,z6]
   constructor
   ·rintro (h|h|h)
    ·exact .inl (.inl h)
    ·exact .inr h
    ·exact .inl (.inr h)
   ·rintro ((h|h)|h)
    ·exact .inl h
    ·exact .inr (.inr h)
    ·exact .inr (.inl h)
def wj (p:Pg)(m:Int)(S:List yc)(E:List xR)(s:yc)(t k:Nat):Prop:=if (stepT p m s t k).zq=true then (⟨1,[],(stepT p m s t k).zd⟩:xR)∈E else s.yt t (stepT p m s t k)∈S
structure k7 (p:Pg)(m:Int)(S:List yc)(E:List xR)(s:yc):Prop where
 done:ended p s=true->(⟨0,s.words,s.zd⟩:xR)∈E
 stuck:ended p s=false->Xo p m s->(⟨2,s.words,s.zd⟩:xR)∈E
 Zi:∀t k,t<p.code.length->xp m (nth p.code t) (s.view t) k=true->wj p m S E s t k
structure Inv (p:Pg)(m:Int)(S:List yc)(E:List xR)(full:Bool)(i:Nat):Prop where
 start:yr p∈S
 reach:∀s∈S,Reach p m s
 pr:∀j,j<S.length->(nth S j).zd.length<=2*j
 len:S.length<=4001
 iQ:full=decide (4000<S.length)
 sound:∀o∈E,jq p m o
 sorted:j0 E
 done:full=false->∀j,j<i->k7 p m S E (nth S j)
 nd:S.Nodup
def pK (p:Pg)(m:Int):Prop:=∃S:List yc,S.Nodup/\(∀s∈S,Reach p m s)/\4000<S.length
theorem VX :∀ {S T:List yc},S.Nodup->(∀s∈S,s∈T)->S.length<=T.length
 | [],_,_,_=>wX _
 |a::S,T,h,hs=>by
  obtain ⟨h1,h2⟩:=List.nodup_cons.1 h
  have ha:=hs a (by simp)
  have:=VX (S:=S) (T:=T.erase a) h2 λs hm=>(List.mem_erase_of_ne (λ(e:s=a)=>h1 (by rw [<-e];exact hm))).2 (hs s (by simp [hm]))
  rw [List.length_erase_of_mem ha] at this
  have:=List.length_pos_of_mem ha
  simp only [yY];omega
theorem wj.mono {p:Pg}{m:Int}{S S' :List yc}{E E' :List xR}{s:yc}{t k:Nat}(h:wj p m S E s t k)(hS:∀x∈S,x∈S')(hE:∀x∈E,x∈E'):wj p m S' E' s t k:=by
 unfold wj at h⊢
 split at h
 ·rename_i hf;rw [if_pos hf];exact hE _ h
 ·rename_i hf;rw [if_neg hf];exact hS _ h
theorem k7.mono {p:Pg}{m:Int}{S S' :List yc}{E E' :List xR}{s:yc}(h:k7 p m S E s)(hS:∀x∈S,x∈S')(hE:∀x∈E,x∈E'):k7 p m S' E' s:=
 ⟨λe=>hE _ (h.done e),λe e2=>hE _ (h.stuck e e2),λt k ht hk=>(h.Zi t k ht hk).mono hS hE⟩
theorem Inv.zF {p:Pg}{m:Int}{S:List yc}{E:List xR}{i:Nat}(h:Inv p m S E false i)(hi:S.length<=i):∀s,s∈S↔Reach p m s:=by
 intro s
 refine ⟨h.reach s,λhs=>?_⟩
 induction hs with
 |start=>exact h.start
 | @step s t k hr ht hk hf ih=>
  obtain ⟨j,hj⟩:=kG ih
  obtain ⟨qU,e⟩:=List.getElem?_eq_some_iff.1 hj
  have h9:=h.done V j za
  rw [qq _ _ qU,e] at h9
  have:=h9.Zi _ _ ht hk
  unfold wj at this
  rw [if_neg (by rw [hf];decide)] at this
  exact this
theorem Inv.x5 {p:Pg}{m:Int}{S:List yc}{E:List xR}{full:Bool}{i:Nat}(h:Inv p m S E full i)(hi:full=true\/S.length<=i):full=true↔pK p m:=by
 constructor
 ·intro hf
  have:=h.iQ
  rw [hf] at this
  exact ⟨S,h.nd,h.reach,of_decide_eq_true this.symm⟩
 ·rintro ⟨T,h1,h2,h3⟩
  cases hf:full with
  |true=>rfl
  |false=>
   rw [hf] at hi h
   have h4:=VX h1 λs hs=>(h.zF (hi.resolve_left XQ) s).2 (h2 s hs)
   have:=h.iQ
   have:=of_decide_eq_false this.symm
   omega
theorem Inv.all {p:Pg}{m:Int}{S:List yc}{E:List xR}{i:Nat}(h:Inv p m S E false i)(hi:S.length<=i):∀o,o∈E↔jq p m o:=by
 have hex:∀s∈S,k7 p m S E s:=by
  intro s hs
  obtain ⟨j,hj⟩:=kG hs
  obtain ⟨qU,e⟩:=List.getElem?_eq_some_iff.1 hj
  have:=h.done V j za
  rwa [qq _ _ qU,e] at this
 have zO:∀s,Reach p m s->s∈S:=by
  intro s hs
  induction hs with
  |start=>exact h.start
  |step hr ht hk hf ih=>
   have:=(hex _ ih).Zi _ _ ht hk
   unfold wj at this
   rw [if_neg (by rw [hf];decide)] at this
   exact this
 intro o
 refine ⟨h.sound o,λho=>?_⟩
 cases ho with
 |done hr he=>exact (hex _ (zO _ hr)).done he
 |stuck hr he hst=>exact (hex _ (zO _ hr)).stuck he hst
 |zq hr ht hk hf=>
  have:=(hex _ (zO _ hr)).Zi _ _ ht hk
  unfold wj at this
  rwa [if_pos hf] at this
theorem YB {α β:Type}{f g:α->List β} :∀ {l:List α},(∀x∈l,f x=g x)->l.flatMap f=l.flatMap g
 | [],_=>rfl
 |x::l,h=>by simp only [kF];rw [h x (by simp),YB λy hy=>h y (by simp [hy])]
theorem Ky {α:Type}{f g:α->Bool} :∀ {l:List α},(∀x∈l,f x=g x)->l.all f=l.all g
 | [],_=>rfl
 |x::l,h=>by simp only [List.all_cons];rw [h x (by simp),Ky λy hy=>h y (by simp [hy])]
section
variable {code:Ls (Ls Ins)}{words:Ls Int}{Lk R:Nat}{mode:Int}{x:SD}
abbrev ya (code:Ls (Ls Ins))(words:Ls Int)(Lk R:Nat):Pg:=yH code words (Lk:Int) (R:Int)
theorem x8 :(ya code words Lk R).code.length=code.l.length:=by simp [ya,yH]
theorem jj {t:Nat}(ht:t<code.l.length):nth (ya code words Lk R).code t=(nth code.l t).l:=zI _ _ _ ht
theorem Sb {t:Nat}(ht:t<x.zl.l.length):nth x.st.zW t=(nth x.zl.l t).th:=zI _ _ _ ht
theorem H2 {t:Nat}(ht:t<x.zl.l.length):x.st.view t=⟨(nth x.zl.l t).pc,(nth x.zl.l t).ze.l,(nth x.zl.l t).wait.l,x.words.l,x.owner.l,x.zd.l,false⟩:=by
 unfold yc.view
 rw [Sb ht];rfl
theorem GG (hl:x.zl.l.length=code.l.length):Kr code x.zl=ended (ya code words Lk R) x.st:=by
 unfold Kr ended
 rw [x8]
 refine Ky λt ht=>?_
 have Ut:t<code.l.length:=by simpa using ht
 rw [jj Ut,Sb za];rfl
theorem fT (hl:x.zl.l.length=code.l.length):Jg mode code x.zl x.owner.l code.l.length=Zi (ya code words Lk R) mode x.st:=by
 unfold Jg Zi
 rw [x8]
 refine YB λt ht=>?_
 have Ut:t<code.l.length:=by simpa using ht
 rw [jj Ut,H2 za];rfl
structure WfX (code:Ls (Ls Ins))(words:Ls Int)(Lk R:Nat)(x:SD):Prop where
 ao:x.zl.l.length=code.l.length
 pc:∀t,t<code.l.length->0<=(nth x.zl.l t).pc/\(nth x.zl.l t).pc<=(nth code.l t).l.length
 ze:∀t,t<x.zl.l.length->(nth x.zl.l t).ze.l.length=R
 wait:∀t,t<x.zl.l.length->(nth x.zl.l t).wait.l.length<=3
 wt:∀t,t<x.zl.l.length->∀j,j<(nth x.zl.l t).wait.l.length->if (nth (nth x.zl.l t).wait.l j).lock=true then 0<=(nth (nth x.zl.l t).wait.l j).wh/\(nth (nth x.zl.l t).wait.l j).wh<x.owner.l.length else 0<=(nth (nth x.zl.l t).wait.l j).wh/\(nth (nth x.zl.l t).wait.l j).wh<x.words.l.length
 words:x.words.l.length=words.l.length
 owner:x.owner.l.length=Lk
theorem Wf.toX (h:Wf (ya code words Lk R) x.st):WfX code words Lk R x:=by
 have hl:x.zl.l.length=code.l.length:=by have:=h.zW;rw [x8] at this;simpa [SD.st] using this
 have hw:x.words.l.length=words.l.length:=h.words
 have ho:x.owner.l.length=Lk:=by have:=h.owner;simpa [ya,yH,SD.st] using this
 have hv:∀t,t<code.l.length->BL R words.l.length Lk (nth code.l t).l.length ⟨(nth x.zl.l t).pc,(nth x.zl.l t).ze.l,(nth x.zl.l t).wait.l,x.words.l,x.owner.l,x.zd.l,false⟩:=by
  intro t ht
  have:=h.th t (by rw [x8];exact ht)
  rw [jj ht,H2 za] at this
  simpa [ya,yH] using this
 refine ⟨hl,λt ht=>(hv t ht).pc,λt ht=>(hv t za).ze,λt ht=>(hv t za).wait,λt ht j hj=>?_,hw,ho⟩
 rw [ho,hw]
 exact (hv t za).wt _ (qb _ _ hj)
theorem rk {rows:List xg}(e:rows.map xg.th=x.zl.l.map xg.th):rows.length=x.zl.l.length/\∀t,t<x.zl.l.length->(nth rows t).pc=(nth x.zl.l t).pc/\(nth rows t).ze.l=(nth x.zl.l t).ze.l/\(nth rows t).wait.l=(nth x.zl.l t).wait.l:=by
 have hl:rows.length=x.zl.l.length:=by simpa using congrArg List.length e
 refine ⟨hl,λt ht=>?_⟩
 have h1:=congrArg (λl=>nth l t) e
 simp only [zI xg.th _ _ ht,zI xg.th rows t za] at h1
 exact ⟨congrArg Th.pc h1,congrArg Th.ze h1,congrArg Th.wait h1⟩
theorem nD (zR:yJ (ya code words Lk R)){t:Nat}(ht:t<code.l.length){pc:Int}(h0:0<=pc)(h1:pc<(nth code.l t).l.length):GV R words.l.length Lk (zo (nth code.l t).l pc):=by
 have h:=(zR.uD (t:=t) (i:=pc.toNat) (by rw [x8];exact ht) (by rw [jj ht];omega)).1
 rw [jj ht] at h
 rw [vL h1]
 simpa [ya,yH] using h
theorem Ey (zR:yJ (ya code words Lk R)){t i:Nat}(ht:t<code.l.length)(hi:i<(nth code.l t).l.length)(jk:(nth (nth code.l t).l i).op=17):0<=(nth (nth code.l t).l i).a/\(nth (nth code.l t).l i).a<(Lk:Int):=by
 have h:=(zR.uD (t:=t) (i:=i) (by rw [x8];exact ht) (by rw [jj ht];exact hi)).1
 rw [jj ht] at h
 have:=h.MH (.inl jk)
 simpa [ya,yH] using this
theorem uk (hl:x.zl.l.length=code.l.length)(hc:code.l.length<=4)(hw:∀t,t<x.zl.l.length->(nth x.zl.l t).wait.l.length<=3):(Zi (ya code words Lk R) mode x.st).length<=16:=by
 rw [<-fT hl]
 have key:∀n,n<=code.l.length->(Jg mode code x.zl x.owner.l n).length<=4*n:=by
  intro n
  induction n with
  |zero=>intro _;simp [Jg]
  |succ n ih=>
   intro hn
   rw [Vk,yX]
   have h1:=ih za
   have h2:=hw n za
   have h3:=Eu mode x.zl n (nth x.zl.l n).wait.l.length
   have h4:(aN mode code x.zl x.owner.l n).length<=4:=by
    unfold aN
    rw [yX]
    split<;>simp<;>omega
   omega
 have:=key _ (qC _)
 omega
end
theorem ra {code:Ls (Ls Ins)}{words:Ls Int}{Lk R:Nat}{mode:Int}{x z:SD}{t k:Nat}{rows Zb:List xg}{y:TS}{w0 o0 p0:Ls Int}(ht:t<code.l.length)(hl:x.zl.l.length=code.l.length)(e:rows.map xg.th=x.zl.l.map xg.th)(ew:w0.l=x.words.l)(eo:o0.l=x.owner.l)(ep:p0.l=x.zd.l)
  (hy:y=XY mode t (nth code.l t).l k ⟨(nth rows t).pc,(nth rows t).ze.l,(nth rows t).wait.l,w0.l,o0.l,p0.l,false⟩):y=stepT (ya code words Lk R) mode x.st t k/\(z.zl.l=Zb->Zb.map xg.th=(rows.map xg.th).set t ⟨y.pc,y.ze,y.wait⟩->z.words.l=y.words->z.owner.l=y.owner->z.zd.l=y.zd->z.st=x.st.yt t y):=by
 obtain ⟨h1,h2⟩:=rk e
 obtain ⟨q1,q2,q3⟩:=h2 t za
 constructor
 ·rw [hy,q1,q2,q3,ew,eo,ep]
  unfold stepT
  rw [jj ht,H2 za]
 ·intro e1 e2 e3 e4 e5
  unfold yc.yt SD.st
  rw [e1,e2,e3,e4,e5,e]
section
variable {p:Pg}{m:Int}{S:List yc}{E:List xR}{full:Bool}{i:Nat}
theorem Inv.pq (h:Inv p m S E full i){o:xR}{E' :List xR}(ho:jq p m o)(hs:j0 E')(hm:∀y,y∈E' ↔y∈E\/y=o):Inv p m S E' full i:=
 ⟨h.start,h.reach,h.pr,h.len,h.iQ,λy hy=>((hm y).1 hy).elim (h.sound y) (λe=>e▸ho),hs,λhf j hj=>(h.done hf j hj).mono (λ_ h=>h) λy hy=>(hm y).2 (.inl hy),h.nd⟩
theorem KZ {α:Type}[Inhabited α](l m:List α)(j:Nat)(h:j<l.length):nth (l++m) j=nth l j:=by rw [wy,if_pos h]
theorem fJ {α:Type}[Inhabited α](l:List α)(x:α):nth (l++ [x]) l.length=x:=by rw [wy,if_neg za];simp [nth]
theorem Inv.Mr (h:Inv p m S E full i)(hf:full=false)(hi:i<=S.length){s:yc}(hr:Reach p m s)(hp:s.zd.length<=2*S.length)(hnw:s∉S):Inv p m (S++ [s]) E (full||decide (4000<S.length+1)) i:=by
 have hl:S.length<=4000:=by
  have:=h.iQ
  rw [hf] at this
  have:=of_decide_eq_false this.symm
  omega
 refine ⟨by simp [h.start],λx hx=>?_,λj hj=>?_,by simp;omega,by rw [hf];simp,h.sound,h.sorted,λ_ j hj=>?_,?_⟩
 ·rcases List.mem_append.1 hx with hx|hx
  ·exact h.reach x hx
  ·obtain rfl:x=s:=by simpa using hx
   exact hr
 ·simp at hj
  rcases yq j S.length with h1|h1
  ·rw [KZ _ _ _ h1];exact h.pr j h1
  ·obtain rfl:j=S.length:=za
   rw [fJ];exact hp
 ·rw [KZ _ _ _ za]
  exact (h.done hf j hj).mono (λx hx=>by simp [hx]) (λ_ h=>h)
 ·rw [List.nodup_append]
  exact ⟨h.nd,by simp,λx hx y hy e=>by obtain rfl:y=s:=(by simpa using hy);exact hnw (e▸hx)⟩
theorem Inv.next (h:Inv p m S E full i)(hx:full=false->k7 p m S E (nth S i)):Inv p m S E full (i+1):=
 ⟨h.start,h.reach,h.pr,h.len,h.iQ,h.sound,h.sorted,λhf j hj=>by
  rcases yq j i with h1|h1
  ·exact h.done hf j h1
  ·obtain rfl:j=i:=za
   exact hx hf,h.nd⟩
theorem Inv.first (s:yc)(hs:s=yr p):Inv p m [s] [] (false||decide (4000<0+1)) 0:=by
 subst hs
 refine ⟨by simp,λx hx=>?_,λj hj=>?_,by simp,by simp,λo ho=>?_,List.Pairwise.nil,λ_ j hj=>absurd hj za,by simp⟩
 ·obtain rfl:x=yr p:=by simpa using hx
  exact .start
 ·simp at hj;subst hj;exact wX _
 ·cases ho
theorem lG {s:yc}(he:ended p s=true):∀t k,t<p.code.length->xp m (nth p.code t) (s.view t) k=false:=by
 intro t k ht
 have h1:=(List.all_eq_true.1 he) t (by simpa using ht)
 simp only [qI,decide_eq_true_eq] at h1
 cases hk:xp m (nth p.code t) (s.view t) k with
 |false=>rfl
 |true=>
  rcases kj hk with ⟨rfl,h2,_⟩|⟨h2,h3,_⟩
  ·exact absurd h2 h1.1
  ·have:(s.view t).wait.length=0:=h1.2
   omega
theorem Inv.ended (h:Inv p m S E full i)(hi:i<S.length)(he:ended p (nth S i)=true){E' :List xR}(hs:j0 E')(hm:∀y,y∈E' ↔y∈E\/y=⟨0,(nth S i).words,(nth S i).zd⟩):Inv p m S E' full (i+1):=by
 have h1:=h.pq (.done (h.reach _ (qb _ _ hi)) he) hs hm
 refine h1.next λ_=>⟨λ_=>(hm _).2 (.inr V),λe=>?_,λt k ht hk=>?_⟩
 ·rw [he] at e;cases e
 ·rw [lG he t k ht] at hk;cases hk
theorem Co {s:yc}(hm:Zi p m s= []):Xo p m s:=by
 intro t k ht
 cases hk:xp m (nth p.code t) (s.view t) k with
 |false=>rfl
 |true=>
  have:((8*t+k:Nat):Int)∈Zi p m s:=V1.2 ⟨t,k,ht,hk,V⟩
  rw [hm] at this;cases this
theorem Inv.stuck (h:Inv p m S E full i)(hi:i<S.length)(he:Go.Proofs.YtmjkobhkkjgplaaGreatDoor.ended p (nth S i)=false)(Xf:Zi p m (nth S i)= []){E' :List xR}(hs:j0 E')(hm:∀y,y∈E' ↔y∈E\/y=⟨2,(nth S i).words,(nth S i).zd⟩):Inv p m S E' full (i+1):=by
 have hst:=Co Xf
 have h1:=h.pq (.stuck (h.reach _ (qb _ _ hi)) he hst) hs hm
 refine h1.next λ_=>⟨λe=>?_,λ_ _=>(hm _).2 (.inr V),λt k ht hk=>?_⟩
 ·rw [he] at e;cases e
 ·rw [hst t k ht] at hk;cases hk
def VL (p:Pg)(m:Int)(S:List yc)(E:List xR)(s:yc)(v:Int):Prop:=∀t k,v=((8*t+k:Nat):Int)->k<=3->wj p m S E s t k
theorem VL.mono {s:yc}{v:Int}{S' :List yc}{E' :List xR}(h:VL p m S E s v)(hS:∀x∈S,x∈S')(hE:∀x∈E,x∈E'):VL p m S' E' s v:=λt k e hk=>(h t k e hk).mono hS hE
theorem VL.of {s:yc}{v:Int}{t k:Nat}(hv:v=((8*t+k:Nat):Int))(hk:k<=3)(h:wj p m S E s t k):VL p m S E s v:=by
 intro t' k' e hk'
 rw [hv] at e
 have e' :8*t+k=8*t' +k' :=za
 obtain rfl:t=t' :=za
 obtain rfl:k=k' :=za
 exact h
theorem Inv.lB (h:Inv p m S E full i)(hi:i<S.length)(he:Go.Proofs.YtmjkobhkkjgplaaGreatDoor.ended p (nth S i)=false)(Qo:Zi p m (nth S i)≠ [])(hw:Wf p (nth S i))(zO:full=false->∀q,q<(Zi p m (nth S i)).length->VL p m S E (nth S i) (nth (Zi p m (nth S i)) q)):Inv p m S E full (i+1):=by
 refine h.next λhf=>⟨λe=>?_,λ_ hst=>?_,λt k ht hk=>?_⟩
 ·rw [he] at e;cases e
 ·exfalso
  apply Qo
  apply List.eq_nil_iff_forall_not_mem.2
  intro v hv
  obtain ⟨t,k,ht,hk,_⟩:=V1.1 hv
  rw [hst t k ht] at hk;cases hk
 ·have hv:((8*t+k:Nat):Int)∈Zi p m (nth S i):=V1.2 ⟨t,k,ht,hk,V⟩
  obtain ⟨q,hq⟩:=kG hv
  obtain ⟨qU,e⟩:=List.getElem?_eq_some_iff.1 hq
  exact zO hf q qU t k (by rw [qq _ _ qU];exact e) (rS hk (hw.th t ht).wait)
end
structure Mv where
 th:Int
 st:Int
instance : Inhabited Mv:=⟨⟨0,0⟩⟩
def Mv.cell (x:Mv):Nat->Value
 |0=> .int .i64 x.th
 |_=> .int .i64 x.st
def Mv.val (x:Mv):Value:= .agg #[.int .i64 x.th,.int .i64 x.st]
instance : zz Mv where
 sz:=2
 cell:=Mv.cell
 whole:=Mv.val
 agg:=true
 inner _ _:=True
 on _ _:=False
 one h:=by cases h
 many _ _:=rfl
 yB _ _ _ h _:=h
 lt _ _ _ _ h:=h.elim
instance : Flat Mv:=⟨λ_ _ h=>h,λ_ _=>trivial⟩
instance : One Mv:=⟨λx w _ q hq=>by rcases q with _|q<;>rfl⟩
def uj (m:Int)(c:List Ins)(t:Nat)(x:TS):List Mv:=(if vT c x=true then [⟨(t:Int),-1⟩] else [])++((List.range x.wait.length).filter (w6 m x.wait)).map λk=>⟨(t:Int),(k:Int)⟩
def vF (p:Pg)(m:Int)(s:yc):List Mv:=(List.range p.code.length).flatMap λt=>uj m (nth p.code t) t (s.view t)
theorem En {m:Int}{c:List Ins}{t:Nat}{x:TS}{v:Mv}(h:v∈uj m c t x):∃j:Nat,xp m c x j=true/\v=⟨(t:Int),(j:Int)-1⟩:=by
 unfold uj at h
 rcases List.mem_append.1 h with h|h
 ·split at h
  ·rename_i ha
   obtain rfl:v=⟨(t:Int),-1⟩:=by simpa using h
   exact ⟨0,by unfold xp;rw [if_pos V];exact ha,V⟩
  ·cases h
 ·obtain ⟨k,hk,rfl⟩:=List.mem_map.1 h
  obtain ⟨h1,h2⟩:=List.mem_filter.1 hk
  have h1:=List.mem_range.1 h1
  refine ⟨k+1,?_,?_⟩
  ·unfold xp
   rw [if_neg za,decide_eq_true za,Nat.add_sub_cancel,h2];rfl
  ·show (⟨(t:Int),(k:Int)⟩:Mv)=⟨(t:Int),((k+1:Nat):Int)-1⟩
   congr 1
   omega
theorem DY {Q:TS->Prop}{m:Int}{n:Nat}{i:Ins}{x:TS}(hx:Q x)(BV:∀k v,Q (x.put k v))(hst:∀w:Wt,(w.lock=true->w.qk=0)->Q (x.store m w))(hf:Q { x with zq:=true })(zrY:∀a b,Q { x with words:=a,ze:=b })(JZ:∀p,Q { x with pc:=p })
  (uK:∀v,Q { x with zd:=x.zd++ [(n:Int),v] }) (how:∀a,Q { x with owner:=x.owner.set a n }):Q (zJ m n i x):=by
 by_cases e1:i.op=1
 ·rw [Qc e1];exact BV _ _
 by_cases e2:i.op=2
 ·rw [Qb e2];exact BV _ _
 by_cases e3:i.op=3
 ·rw [Qa e3];exact BV _ _
 by_cases e4:i.op=4
 ·rw [Z9 e4];exact BV _ _
 by_cases e5:i.op=5
 ·rw [Z8 e5];exact BV _ _
 by_cases e6:i.op=6
 ·rw [Z7 e6];exact BV _ _
 by_cases e7:i.op=7
 ·rw [Z6 e7];exact BV _ _
 by_cases e8:i.op=8
 ·rw [Z5 e8];exact BV _ _
 by_cases e9:i.op=9
 ·rw [Z4 e9];exact hst _ (λh=>by cases h)
 by_cases Wx:i.op=10
 ·by_cases h:0<=x.xQ i.b/\x.xQ i.b<(x.words.length:Int)
  ·rw [vf Wx h];exact BV _ _
  ·rw [vg Wx h];exact hf
 by_cases Kt:i.op=11
 ·by_cases h:0<=x.xQ i.a/\x.xQ i.a<(x.words.length:Int)
  ·rw [vQ Kt h];exact hst _ (λh=>by cases h)
  ·rw [vR Kt h];exact hf
 by_cases XX:i.op=13
 ·by_cases h:nth x.words i.a.toNat=x.xQ i.b
  ·rw [vO XX h];exact zrY _ _
  ·rw [vP XX h];exact BV _ _
 by_cases bm:i.op=14
 ·rw [ko bm];exact JZ _
 by_cases GH:i.op=15
 ·by_cases h:x.xQ i.a=0
  ·rw [jQ GH h];exact JZ _
  ·rw [jR GH h];exact hx
 by_cases He:i.op=16
 ·rw [kZ He];exact uK _
 by_cases KG:i.op=17
 ·rw [kY KG];exact how _
 by_cases Jp:i.op=18
 ·by_cases h1:nth x.owner i.a.toNat≠n
  ·rw [va Jp h1];exact hf
  ·by_cases h2:∃q,q<x.wait.length/\(nth x.wait q).lock=true/\(nth x.wait q).wh=i.a
   ·obtain ⟨q,hq,h3,h4⟩:=h2
    rw [wK Jp h1 q hq h3 h4];exact hf
   ·rw [vN Jp h1 (λq hq h9=>h2 ⟨q,hq,h9⟩)];exact hst _ (λ_=>rfl)
 rw [wB ⟨e1,e2,e3,e4,e5,e6,e7,e8,e9,Wx,Kt,XX,bm,GH,He,KG,Jp⟩]
 exact hx
def MA (l:List Wt):Prop:=∀x∈l,x.lock=true->x.qk=0
theorem tH {m:Int}{x:TS}{w:Wt}(h:MA x.wait)(hw:w.lock=true->w.qk=0):MA (x.store m w).wait:=by
 unfold TS.store
 split
 ·intro y hy
  rcases List.mem_append.1 hy with hy|hy
  ·exact h y hy
  ·obtain rfl:y=w:=by simpa using hy
   exact hw
 ·exact h
theorem u4 {m:Int}{n:Nat}{i:Ins}{x:TS}(h:MA x.wait):MA (zJ m n i x).wait:=
 DY (Q:=λy=>MA y.wait) h (λ_ _=>h) (λ_ hw=>tH h hw) h (λ_ _=>h) (λ_=>h) (λ_=>h) (λ_=>h)
theorem Pr {m:Int}{n k:Nat}{c:List Ins}{x:TS}(h:MA x.wait):MA (XY m n c k x).wait:=by
 unfold XY
 split
 ·exact λy hy=>h y (bL hy)
 ·exact u4 (x:= { x with pc:=x.pc+1 }) h
theorem Reach.znp {p:Pg}{m:Int}{s:yc}(h:Reach p m s):∀t,MA (s.view t).wait:=by
 induction h with
 |start=>
  intro t
  show MA (nth (yr p).zW t).wait
  unfold yr
  rcases yq t p.code.length with h|h
  ·rw [zI _ _ _ h];exact λx hx=>by cases hx
  ·simp [nth,List.getD,h];exact λx hx=>by cases hx
 |step hr ht hk hf ih=>
  rename_i s t k
  intro u
  by_cases e:t=u
  ·subst e
   rcases yq t s.zW.length with hl|hl
   ·rw [ZM hl]
    exact Pr (ih t)
   ·show MA (nth (s.zW.set t _) t).wait
    rw [List.set_eq_of_length_le hl]
    exact ih t
  ·rw [Je e]
   exact ih u
theorem Cw {l:List Int}{i:Nat}{v:Int}(h:∀x∈l,-1<=x)(hv: -1<=v):∀x∈l.set i v,-1<=x:=λx hx=>by
 rcases List.mem_or_eq_of_mem_set hx with h1|rfl
 ·exact h x h1
 ·exact hv
theorem sW {x:TS}{w:Wt}(h:∀v∈x.owner,-1<=v):∀v∈(x.done w).owner,-1<=v:=by
 unfold TS.done
 show∀v∈(if w.lock=true then x.owner.set w.wh.toNat (-1) else x.owner),-1<=v
 split
 ·exact Cw h zf
 ·exact h
theorem Cp {m:Int}{x:TS}{w:Wt}(h:∀v∈x.owner,-1<=v):∀v∈(x.store m w).owner,-1<=v:=by
 unfold TS.store
 split
 ·exact h
 ·exact sW h
theorem Lv {m:Int}{n:Nat}{i:Ins}{x:TS}(h:∀v∈x.owner,-1<=v):∀v∈(zJ m n i x).owner,-1<=v:=
 DY (Q:=λy=>∀v∈y.owner,-1<=v) h (λ_ _=>h) (λ_ _=>Cp h) h (λ_ _=>h) (λ_=>h) (λ_=>h) (λ_=>Cw h za)
theorem zdV {m:Int}{n k:Nat}{c:List Ins}{x:TS}(h:∀v∈x.owner,-1<=v):∀v∈(XY m n c k x).owner,-1<=v:=by
 unfold XY
 split
 ·exact sW h
 ·exact Lv h
theorem Reach.C3 {p:Pg}{m:Int}{s:yc}(h:Reach p m s):∀v∈s.owner,-1<=v:=by
 induction h with
 |start=>
  intro v hv
  have:=List.eq_of_mem_replicate hv
  omega
 |step hr ht hk hf ih=>exact zdV (x:=_) ih
end Go.Proofs.YtmjkobhkkjgplaaGreatDoor
