/- Part 2 of the texts. -/
import Derived.Test.YtmbfcgpneflbmaaQ1
import Derived.Laws.Bits64
import Derived.Laws.Bits64b
import Derived.Laws.RangeString
namespace Go.Proofs.Ytmbfcgpneflbmaa
open Go.RowKit
set_option linter.unusedSimpArgs false
set_option linter.unusedVariables false
def slotsOf (o:Oper):List Nat:=o.op.operands.toList.filterMap fun x=>match x with
 | .tmp t=>some t
 |_=>none
theorem slotsOf_mem {o:Oper}{t:Nat}(h:Operand.tmp t∈o.op.operands):t∈slotsOf o:=List.mem_filterMap.2 ⟨.tmp t,by simpa using h,rfl⟩
def fill (a:Act):List (Nat×Value)→Act
 | []=>a
 |(t,v)::F=>(fill a F).put (some t) v
section
variable {P:Program}{N:Nat}{K:Nat→Prop}{W w:World}{a:Act}{F F' :List (Nat×Value)}{L:List Asn}{o:Oper}{l os:List Oper}{ops:Array Oper}{Q:Exit→Act→World→Prop}
theorem fill_size :∀F:List (Nat×Value),(fill a F).tmps.size=a.tmps.size
 | []=>rfl
 |(t,v)::F=>by simp [fill,Act.put,fill_size F]
theorem fill_defers :∀F:List (Nat×Value),(fill a F).defers=a.defers
 | []=>rfl
 |(t,v)::F=>by simp [fill,Act.put,fill_defers F]
theorem fill_at :∀ {F:List (Nat×Value)},(∀x∈F,x.1<a.tmps.size)→∀t v,lk F t=some v→(fill a F).tmps[t]? =some v
 | [],_,_,_,h=>by cases h
 |(u,x)::F,hF,t,v,h=>by
  rw [lk_cons] at h
  simp only [fill,Act.put,Array.getElem?_setIfInBounds]
  by_cases e:u=t
  ·subst e
   have:=hF _ List.mem_cons_self
   simp only [if_true] at h
   cases h
   simp [fill_size,this]
  ·rw [if_neg e] at h⊢
   exact fill_at (fun x hx=>hF x (List.mem_cons_of_mem _ hx)) t v h
theorem fill_ne :∀ {F:List (Nat×Value)} {t:Nat},lk F t=none→(fill a F).tmps[t]? =a.tmps[t]?
 | [],_,_=>rfl
 |(u,x)::F,t,h=>by
  rw [lk_cons] at h
  by_cases e:u=t
  ·simp [e] at h
  ·rw [if_neg e] at h
   simp only [fill,Act.put,Array.getElem?_setIfInBounds,if_neg e]
   exact fill_ne h
theorem fill_fr (hs:a.tmps.size=N)(hd:a.defers= [])(hF:∀x∈F,x.1<N):Fr N (fill a F) F:=⟨by rw [fill_size,hs],by rw [fill_defers,hd],fill_at (by rw [hs];exact hF)⟩
theorem fill_eval (hF:∀x∈F,x.1<a.tmps.size)(h:∀t∈slotsOf o,∀v,lk F t=some v→a.tmps[t]? =some v):∀x∈o.op.operands,(fill a F).eval x=a.eval x:=by
 intro x hx
 cases x with
 |tmp t=>
  simp only [Act.eval,Array.getD_eq_getD_getElem?]
  cases hl:lk F t with
  |none=>rw [fill_ne hl]
  |some v=>rw [fill_at hF t v hl,h t (slotsOf_mem hx) v hl]
 |const c=>rfl
 |global g=>rfl
 |func f=>rfl
def noSel (o:Oper):Bool:=match o.op with
 | .select _ _=>false
 |_=>true
theorem noSel_ne (h:noSel o=true):∀cs b,o.op≠ .select cs b:=by
 intro cs b e
 simp [noSel,e] at h
structure PhF (P:Program)(N:Nat)(K:Nat→Prop)(W:World)(L:List Asn)(F:List (Nat×Value))(o:Oper)(d:Nat)(v:Value):Prop where
 dst:o.dst=some d
 lt:d<N
 at_:lk F d=some v
 run:∀(a:Act) (w:World),a.tmps.size=N→a.defers= []→(∀t∈slotsOf o,∀u,lk F t=some u→a.tmps[t]? =some u)→Sh K W w L→(execOp a.eval o).run P w= .ok (.value v) w
def ordB :List Oper→Bool
 | []=>true
 |o::r=>noSel o&&o.guard.isNone&&((o::r).all fun x=>match x.dst with
  |some d=>(slotsOf o).all fun t=> !Nat.beq d t
  |none=>true)&&(r.all fun x=>match x.dst,o.dst with
  |some d,some e=> !Nat.beq d e
  |_,_=>true)&&ordB r
theorem Runs.keep (r:Runs P ops N K W L os F [] F'):∀t,(∀o∈os,o.dst≠some t)→lk F' t=lk F t:=by
 generalize hr:([]:List Oper)=rest at r
 induction r with
 |nl=>intros;rfl
 |cn _ _ hd _ _ ih=>
  intro t ht
  rw [ih hr t fun o ho=>ht o (List.mem_cons_of_mem _ ho),lk_cons,if_neg fun e=>ht _ List.mem_cons_self (by rw [hd,e])]
 |sk _ hd _ _ ih=>
  intro t ht
  rw [ih hr t fun o ho=>ht o (List.mem_cons_of_mem _ ho),lk_cons,if_neg fun e=>ht _ List.mem_cons_self (by rw [hd,e])]
theorem Runs.fN {rest:List Oper}(r:Runs P ops N K W L os F rest F'):(∀x∈F,x.1<N)→∀x∈F',x.1<N:=by
 induction r with
 |nl=>exact id
 |cn _ _ _ hN _ ih=>exact fun h=>ih fun x hx=>(List.mem_cons.1 hx).elim (fun e=>by rw [e];simpa [Nat.blt_eq] using hN) (h x)
 |sk _ _ hN _ ih=>exact fun h=>ih fun x hx=>(List.mem_cons.1 hx).elim (fun e=>by rw [e];simpa [Nat.blt_eq] using hN) (h x)
theorem Runs.pf {a0:Act}(h0:a0.tmps.size=N)(h1:a0.defers= [])(r:Runs P ops N K W L os F [] F'):ordB os=true→(∀x∈F,x.1<N)→∀o∈os,∃d v,PhF P N K W L F' o d v:=by
 generalize hr:([]:List Oper)=rest at r
 induction r with
 |nl=>intro _ _ o ho;subst hr;cases ho
 |cn hrn hw hd hN k ih=>
  subst hr
  rename_i o l F F' d v
  intro hB hF x hx
  simp only [ordB,Bool.and_eq_true] at hB
  obtain ⟨⟨⟨⟨hs,hg⟩,hu⟩,hdd⟩,hB⟩:=hB
  have hN' :d<N:=by simpa [Nat.blt_eq] using hN
  have hF2:∀x∈(d,v)::F,x.1<N:=fun x hx=>(List.mem_cons.1 hx).elim (fun e=>by rw [e];exact hN') (hF x)
  rcases List.mem_cons.1 hx with rfl|hx
  ·have hno:∀t∈slotsOf x,∀y∈x::l,y.dst≠some t:=by
    intro t ht y hy e
    have:=List.all_eq_true.1 hu y hy
    rw [e] at this
    have:=List.all_eq_true.1 this t ht
    simp at this
   refine ⟨d,v,hd,hN', ?_,fun a w hsz hdf hsl hsh=> ?_⟩
   ·rw [k.keep d fun y hy e=> ?_,lk_cons,if_pos rfl]
    have:=List.all_eq_true.1 hdd y hy
    rw [e,hd] at this
    simp at this
   ·have hev:=fill_eval (a:=a) (F:=F) (o:=x) (by rw [hsz];exact hF) fun t ht u hu=>hsl t ht u (by
     rw [k.keep t fun y hy=>hno t ht y (List.mem_cons_of_mem _ hy),lk_cons,if_neg fun e=>hno t ht x List.mem_cons_self (by rw [hd,e])];exact hu)
    have:=hrn (fill a F) w ⟨fill_fr hsz hdf hF,hsh⟩
    rwa [execOp_congr x (noSel_ne hs) hev] at this
  ·exact ih rfl hB hF2 x hx
 |sk hw hd hN k ih=>
  intro hB hF x hx
  rename_i o l F F' d
  simp only [ordB,Bool.and_eq_true] at hB
  obtain ⟨⟨⟨⟨hs,hg⟩,hu⟩,hdd⟩,hB⟩:=hB
  have:=hw _ (fill_fr h0 h1 hF)
  rw [wanted_none (by simpa using hg)] at this
  cases this
theorem Ex.move {b:Act}{R:Act→World→Prop}(h:Ex P o b w R)(he:execOp b.eval o=execOp a.eval o):Ex P o a w (fun a' w' =>∃b',R b' w' ∧(∃v,b'.tmps=(b.put o.dst v).tmps∧a'.tmps=(a.put o.dst v).tmps)∧(b'.defers= []→a.defers= []→a'.defers= [])):=by
 intro next Q hn
 have h1:=h R (fun e _ w=>Q e a w) (fun _ _ h=>h)
 unfold Oper.wp at h1⊢
 rw [he] at h1
 generalize (execOp a.eval o).run P w=r at h1⊢
 have hdf:∀v,(a.put o.dst v).defers=a.defers:=fun v=>by cases o.dst<;>rfl
 cases r with
 |halt x w' =>cases x<;>exact h1
 |ok n w' =>
  cases n
  case value v=>exact hn _ _ ⟨_,h1,⟨v,rfl,rfl⟩,fun _ e=>by rw [hdf,e]⟩
  case skip=>exact hn _ _ ⟨_,h1,⟨undef,rfl,rfl⟩,fun _ e=>by rw [hdf,e]⟩
  case defer d=>exact hn _ _ ⟨_,h1,⟨undef,by cases o.dst<;>rfl,by cases o.dst<;>rfl⟩,fun e=>by cases ho:o.dst<;>simp [ho,Act.put] at e⟩
  case enter f args=>
   refine Calls.mono h1 fun e w'' he=> ?_
   cases e with
   |returned v=>exact hn _ _ ⟨_,he,⟨v,rfl,rfl⟩,fun _ e=>by rw [hdf,e]⟩
   |panicked c=>exact he
   |outgrown=>obtain ⟨_,w3,h3⟩:=he;exact ⟨_,w3,h3⟩
  case row r args=>exact Rows.mono h1 fun v w'' he=>hn _ _ ⟨_,he,⟨v,rfl,rfl⟩,fun _ e=>by rw [hdf,e]⟩
  all_goals exact h1
def pickO (l:List Oper):List Nat→Option (List Oper)
 | []=>some []
 |i::r=>match l[i]? with
  |some o=>match pickO l r with
   |some os=>some (o::os)
   |none=>none
  |none=>none
theorem pickO_mem :∀ {is:List Nat} {os:List Oper},pickO l is=some os→(∀o∈os,∃i∈is,l[i]? =some o)∧∀i∈is,∃o∈os,l[i]? =some o
 | [],os,h=>by cases h;exact ⟨fun o ho=>(by cases ho),fun o ho=>(by cases ho)⟩
 |i::r,os,h=>by
  unfold pickO at h
  split at h
  ·rename_i o ho
   split at h
   ·rename_i os' hos
    cases h
    obtain ⟨h1,h2⟩:=pickO_mem hos
    refine ⟨fun x hx=> ?_,fun j hj=> ?_⟩
    ·rcases List.mem_cons.1 hx with rfl|hx
     ·exact ⟨i,List.mem_cons_self,ho⟩
     ·obtain ⟨j,hj,e⟩:=h1 x hx
      exact ⟨j,List.mem_cons_of_mem _ hj,e⟩
    ·rcases List.mem_cons.1 hj with rfl|hj
     ·exact ⟨o,List.mem_cons_self,ho⟩
     ·obtain ⟨x,hx,e⟩:=h2 j hj
      exact ⟨x,List.mem_cons_of_mem _ hx,e⟩
   ·cases h
  ·cases h
def availB (l:List Oper)(ws done rem is:List Nat):Bool:=(List.range l.length).all fun i=>ws.any (Nat.beq i)||is.any (Nat.beq i)||(rem.any fun w=>ancB l i w)||done.any fun w=>ancB l w i
def operB (l:List Oper)(o:Oper):Bool:=(slotsOf o).all fun t=>(l.all fun x=>match x.dst with
  |some d=> !Nat.beq d t
  |none=>true)||o.after.any fun e=>Region.binds .any e&&match l[e.on]? with
 |some x=>(match x.dst with
  |some d=>Nat.beq d t
  |none=>false)
 |none=>false
def noneB (l:List Oper)(t:Nat):Prop:=∀o∈l,o.dst≠some t
def dstB :List Oper→Bool
 | []=>true
 |o::r=>(r.all fun x=>match x.dst,o.dst with
  |some d,some e=> !Nat.beq d e
  |_,_=>true)&&dstB r
theorem dstB_at :∀ {l:List Oper} {i j:Nat} {x y:Oper} {d:Nat},dstB l=true→l[i]? =some x→l[j]? =some y→x.dst=some d→y.dst=some d→i=j
 | [],i,_,_,_,_,_,h,_,_,_=>by simp at h
 |o::r,i,j,x,y,d,hB,hi,hj,hx,hy=>by
  simp only [dstB,Bool.and_eq_true] at hB
  match i,j with
  |0,0=>rfl
  |i+1,j+1=>
   rw [List.getElem?_cons_succ] at hi hj
   exact congrArg (· +1) (dstB_at hB.2 hi hj hx hy)
  |0,j+1=>
   simp only [List.getElem?_cons_zero,Option.some.injEq,List.getElem?_cons_succ] at hi hj
   subst hi
   have:=List.all_eq_true.1 hB.1 y (List.mem_of_getElem? hj)
   rw [hx,hy] at this
   simp at this
  |i+1,0=>
   simp only [List.getElem?_cons_zero,Option.some.injEq,List.getElem?_cons_succ] at hi hj
   subst hj
   have:=List.all_eq_true.1 hB.1 x (List.mem_of_getElem? hi)
   rw [hx,hy] at this
   simp at this
def chainB (l:List Oper):List Nat→Bool
 | []=>true
 |w::ws=>(ws.all fun x=>ancB l x w&& !Nat.beq x w)&&chainB l ws
def regB (l:List Oper)(ws:List Nat):Bool:=depsLt l 0&&dstB l&&(l.all fun o=>noSel o&&o.guard.isNone&&operB l o)&&chainB l ws
def agA (F F' :List (Nat×Value))(os:List Oper):List (Option Value):=os.map fun o=>match o.dst with
 |some d=>(match lk F d with
  |some _=>lk F' d
  |none=>none)
 |none=>none
def agB (F:List (Nat×Value))(os:List Oper):List (Option Value):=os.map fun o=>match o.dst with
 |some d=>(match lk F d with
  |some v=>some v
  |none=>none)
 |none=>none
theorem ag_at (h:agA F F' os=agB F os)(ho:o∈os){d:Nat}{v:Value}(hd:o.dst=some d)(hv:lk F d=some v):lk F' d=some v:=by
 obtain ⟨i,hi⟩:=List.getElem?_of_mem ho
 have:=congrArg (fun l=>l[i]?) h
 simp only [agA,agB,List.getElem?_map,hi,Option.map_some,hd,hv] at this
 exact Option.some.inj this
def okF (o:Oper)(F F2:List (Nat×Value)):Prop:=match o.dst with
 |some d=>∃v,F2=(d,v)::F
 |none=>F2=F
def PhH (P:Program)(l:List Oper)(N:Nat)(K:Nat→Prop)(W:World)(Q:Exit→Act→World→Prop)(ws:List Nat)(done:List Nat):List Nat→List Asn→List (Nat×Value)→Prop
 | [],L,F=>∃is os F',pickO l is=some os∧(availB l ws done [] is&&ordB os&&is.all fun i=> !ws.any (Nat.beq i))=true∧Runs P l.toArray N K W L os F [] F' ∧agA F F' os=agB F os∧∀a w,St N K W a w F' L→Q .normal a w
 |i::rem,L,F=>∃is os F' o,pickO l is=some os∧(availB l ws done (i::rem) is&&ordB os&&is.all fun i=> !ws.any (Nat.beq i))=true∧Runs P l.toArray N K W L os F [] F' ∧agA F F' os=agB F os∧l[i]? =some o∧
  ∀a w,St N K W a w F' L→Ex P o a w (fun a' w' =>∃F2 L2,St N K W a' w' F2 L2∧okF o F' F2∧PhH P l N K W Q ws (i::done) rem L2 F2)
structure PhX (P:Program)(l:List Oper)(N:Nat)(K:Nat→Prop)(W:World)(Q:Exit→Act→World→Prop)(ws done rem:List Nat)(L:List Asn)(F:List (Nat×Value)):Prop where
 fN:∀x∈F,x.1<N
 pf:∀i o,l[i]? =some o→ws.any (Nat.beq i)=false→(rem.any fun w=>ancB l i w)=false→(done.any fun w=>ancB l w i)=false→∃d v,PhF P N K W L F o d v
 fin:rem= []→∀a w,St N K W a w F L→Q .normal a w
 nxt:∀i r,rem=i::r→∃o,l[i]? =some o∧∀a w,St N K W a w F L→Ex P o a w (fun a' w' =>∃F2 L2,St N K W a' w' F2 L2∧okF o F F2∧PhH P l N K W Q ws (i::done) r L2 F2)
structure PhJ (l:List Oper)(N:Nat)(K:Nat→Prop)(W:World)(done rem:List Nat)(L:List Asn)(F:List (Nat×Value))(S:Nat→Bool)(a:Act)(w:World):Prop where
 dn:∀i∈done,S i=true
 rm:∀i∈rem,S i=false
 sz:a.tmps.size=N
 df:a.defers= []
 out:∀t v,noneB l t→lk F t=some v→a.tmps[t]? =some v
 ins:∀i o t,l[i]? =some o→o.dst=some t→S i=true→∃v,lk F t=some v∧a.tmps[t]? =some v
 sh:Sh K W w L
theorem PhH.enter {ws done rem:List Nat}{S:Nat→Bool}(hdB:dstB l=true)(h:PhH P l N K W Q ws done rem L F)(hF:∀x∈F,x.1<N)(j:PhJ l N K W done rem L F S a w):∃F',PhX P l N K W Q ws done rem L F' ∧PhJ l N K W done rem L F' S a w:=by
 have key:∀(is:List Nat) (os:List Oper) (F' :List (Nat×Value)),pickO l is=some os→(availB l ws done rem is&&ordB os&&is.all fun i=> !ws.any (Nat.beq i))=true→Runs P l.toArray N K W L os F [] F' →agA F F' os=agB F os→
   PhJ l N K W done rem L F' S a w∧∀i o,l[i]? =some o→ws.any (Nat.beq i)=false→(rem.any fun w=>ancB l i w)=false→(done.any fun w=>ancB l w i)=false→∃d v,PhF P N K W L F' o d v:=by
  intro is os F' hp hB hr ha
  simp only [Bool.and_eq_true] at hB
  obtain ⟨⟨hav,hor⟩,_⟩:=hB
  obtain ⟨hm1,hm2⟩:=pickO_mem hp
  refine ⟨⟨j.dn,j.rm,j.sz,j.df,fun t v ht hv=> ?_,fun i o t hi ho hS=> ?_,j.sh⟩,fun i o hi h1 h2 h3=> ?_⟩
  ·rw [hr.keep t fun o ho e=> ?_] at hv
   ·exact j.out t v ht hv
   ·obtain ⟨q,_,hq⟩:=hm1 o ho
    exact ht o (List.mem_of_getElem? hq) e
  ·obtain ⟨v,hv,hat⟩:=j.ins i o t hi ho hS
   refine ⟨v, ?_,hat⟩
   by_cases hos:o∈os
   ·exact ag_at ha hos ho hv
   ·rw [hr.keep t fun x hx e=> ?_]
    ·exact hv
    ·obtain ⟨q,_,hq⟩:=hm1 x hx
     have:=dstB_at hdB hi hq ho e
     subst this
     rw [hi] at hq
     cases hq
     exact hos hx
  ·have hlt:i<l.length:=(List.getElem?_eq_some_iff.1 hi).1
   have:=List.all_eq_true.1 hav i (List.mem_range.2 hlt)
   rw [h1,h2,h3,Bool.false_or,Bool.or_false,Bool.or_false] at this
   obtain ⟨z,hz,h4⟩:=List.any_eq_true.1 this
   cases Nat.eq_of_beq_eq_true h4
   obtain ⟨x,hx,hix⟩:=hm2 i hz
   rw [hi] at hix
   cases hix
   exact hr.pf j.sz j.df hor hF o hx
 cases rem with
 |nil=>
  obtain ⟨is,os,F',hp,hB,hr,ha,hQ⟩:=h
  obtain ⟨h1,h2⟩:=key is os F' hp hB hr ha
  exact ⟨F',⟨hr.fN hF,h2,fun _=>hQ,fun _ _ e=>(by cases e)⟩,h1⟩
 |cons i rem=>
  obtain ⟨is,os,F',o,hp,hB,hr,ha,ho,hx⟩:=h
  obtain ⟨h1,h2⟩:=key is os F' hp hB hr ha
  exact ⟨F',⟨hr.fN hF,h2,fun e=>(by cases e),fun _ _ e=>(by cases e;exact ⟨o,ho,hx⟩)⟩,h1⟩
theorem anc_ready {S:Nat→Bool}{i j:Nat}(hcl:ClosedB l S)(ho:l[i]? =some o)(hdep:∀e∈o.after,Region.binds .any e=true→S e.on=true)(h:ancB l i j=true):j=i∨S j=true:=by
 have hcl2:ClosedB l (upd S i):=by
  intro q oq hq hS e he hb
  by_cases e1:q=i
  ·subst e1
   rw [ho] at hq
   cases hq
   exact upd_true (hdep e he hb)
  ·rw [upd_ne (beq_no e1)] at hS
   exact upd_true (hcl q oq hq hS e he hb)
 have:=cA hcl2 i j h (upd_self S i)
 by_cases e:j=i
 ·exact .inl e
 ·rw [upd_ne (beq_no e)] at this
  exact .inr this
theorem rC {id:Nat}(ws:List Nat)(hF:(F.all fun x=>Nat.blt x.1 N)=true)(hx:PhH P l N K W Q ws [] ws L F)(hm:P.follows .mixedOrders=true:=by kernel_rfl)(hB:regB l ws=true:=by kernel_rfl):∀a w,St N K W a w F L→(Code.region id l.toArray true).wp P Q a w:=by
  intro a w h
  simp only [regB,Bool.and_eq_true] at hB
  obtain ⟨⟨⟨hdl,hdB⟩,hall⟩,hch⟩:=hB
  have hop:∀o∈l,noSel o=true∧o.guard=none∧operB l o=true:=by
    intro o ho
    have:=List.all_eq_true.1 hall o ho
    simp only [Bool.and_eq_true,Option.isNone_iff_eq_none] at this
    exact ⟨this.1.1,this.1.2,this.2⟩
  have hFN:∀x∈F,x.1<N:=fun x hx=>by simpa [Nat.blt_eq] using List.all_eq_true.1 hF x hx
  have hsl:∀ {done rem:List Nat} {L:List Asn} {F:List (Nat×Value)} {S:Nat→Bool} {a:Act} {w:World} {o:Oper},PhJ l N K W done rem L F S a w→o∈l→(∀e∈o.after,Region.binds .any e=true→S e.on=true)→∀t∈slotsOf o,∀v,lk F t=some v→a.tmps[t]? =some v:=by
    intro done rem L F S a w o j ho hdep t ht v hv
    have:=List.all_eq_true.1 (hop o ho).2.2 t ht
    rw [Bool.or_eq_true] at this
    rcases this with h1|h1
    · refine j.out t v (fun x hx e=> ?_) hv
      have:=List.all_eq_true.1 h1 x hx
      rw [e] at this
      simp at this
    · obtain ⟨k,hk,h2⟩:=Array.any_eq_true.1 h1
      simp only [Bool.and_eq_true] at h2
      obtain ⟨hb,h2⟩:=h2
      split at h2
      · rename_i x hx
        split at h2
        · rename_i d hd
          rw [Nat.eq_of_beq_eq_true h2] at hd
          obtain ⟨u,hu,hat⟩:=j.ins _ x t hx hd (hdep _ (Array.getElem_mem hk) hb)
          rw [hv] at hu
          cases hu
          exact hat
        · cases h2
      · cases h2
  refine x_any (fun S a w=>∃done rem L F,(∀i∈ws,i∈done∨i∈rem)∧(∀i,i∈done∨i∈rem→i∈ws)∧chainB l rem=true∧PhX P l N K W Q ws done rem L F∧PhJ l N K W done rem L F S a w) hm hdl ?_ ?_ ?_
  · obtain ⟨F',h1,h2⟩:=hx.enter (S:=fun _=>false) (a:=a) (w:=w.drew) hdB hFN ⟨fun i hi=>(by cases hi),fun _ _=>rfl,h.fr.size,h.fr.defers,fun t v _ hv=>h.fr.at_ t v hv,fun _ _ _ _ _ hS=>(by cases hS),h.sh.drew⟩
    exact ⟨[],ws,L,F',fun i hi=> .inr hi,fun i hi=>hi.elim (fun h=>by cases h) (fun h=>h),hch,h1,h2⟩
  · rintro S i o ho hSi hcl hdep a w ⟨done,rem,L,F,hw1,hw2,hchr,px,j⟩
    have hol:=List.mem_of_getElem? ho
    obtain ⟨hns,hg,_⟩:=hop o hol
    have hslo:=hsl j hol hdep
    by_cases hir:i∈rem
    ·
      cases rem with
      |nil=>cases hir
      |cons i0 r=>
        simp only [chainB,Bool.and_eq_true] at hchr
        have hi0:i=i0:=by
          rcases List.mem_cons.1 hir with e|hr
          · exact e
          · exfalso
            have:=List.all_eq_true.1 hchr.1 i hr
            simp only [Bool.and_eq_true,Bool.not_eq_true'] at this
            rcases anc_ready hcl ho hdep this.1 with e|e
            · rw [e] at this;simp at this
            · rw [j.rm i0 List.mem_cons_self] at e;cases e
        subst hi0
        obtain ⟨o',ho',hx⟩:=px.nxt i r rfl
        rw [ho] at ho'
        cases ho'
        have hF2:∀x∈F,x.1<a.tmps.size:=by rw [j.sz];exact px.fN
        have hev:=fill_eval (o:=o) hF2 hslo
        have hEx:=(hx (fill a F) w ⟨fill_fr j.sz j.df px.fN,j.sh⟩).move (execOp_congr o (noSel_ne hns) hev)
        unfold StepOK
        rw [if_pos (wanted_none hg _)]
        refine hEx _ _ fun a' w' ⟨b',⟨F2,L2,hst,hok,hph⟩,⟨v,hb,ha⟩,hdf⟩=> ?_
        have hsz' :a'.tmps.size=N:=by rw [ha];cases o.dst<;>simp [Act.put,j.sz]
        have hF2N:∀x∈F2,x.1<N:=by
          unfold okF at hok
          split at hok
          · rename_i d hd
            obtain ⟨v2,rfl⟩:=hok
            intro x hx
            rcases List.mem_cons.1 hx with rfl|hx
            · have h1:=hst.fr.at_ d v2 (by rw [lk_cons,if_pos rfl])
              obtain ⟨h2,_⟩:=Array.getElem?_eq_some_iff.1 h1
              rw [hst.fr.size] at h2
              exact h2
            · exact px.fN x hx
          · rw [hok];exact px.fN
        have hoth:∀t,o.dst≠some t→lk F2 t=lk F t∧a'.tmps[t]? =a.tmps[t]? :=by
          intro t ht
          refine ⟨?_, ?_⟩
          · unfold okF at hok
            split at hok
            · rename_i d hd
              obtain ⟨v2,rfl⟩:=hok
              rw [lk_cons,if_neg fun e=>ht (by rw [hd,e])]
            · rw [hok]
          · rw [ha]
            cases hd:o.dst with
            |none=>rfl
            |some d=>
              simp only [Act.put,Array.getElem?_setIfInBounds]
              rw [if_neg fun e=>ht (by rw [hd,e])]
        have hJ:PhJ l N K W (i::done) r L2 F2 (upd S i) a' w' :=by
          refine ⟨fun q hq=> ?_,fun q hq=> ?_,hsz',hdf hst.fr.defers j.df,fun t u ht hu=> ?_,fun q x t hq hxd hS=> ?_,hst.sh⟩
          · rcases List.mem_cons.1 hq with rfl|hq
            · exact upd_self _ _
            · exact upd_true (j.dn q hq)
          · have h1:=List.all_eq_true.1 hchr.1 q hq
            simp only [Bool.and_eq_true,Bool.not_eq_true'] at h1
            rw [upd_ne h1.2]
            exact j.rm q (List.mem_cons_of_mem _ hq)
          · obtain ⟨h1,h2⟩:=hoth t (ht o hol)
            rw [h2]
            rw [h1] at hu
            exact j.out t u ht hu
          · by_cases e:q=i
            · subst e
              rw [ho] at hq
              cases hq
              unfold okF at hok
              rw [hxd] at hok
              obtain ⟨v2,rfl⟩:=hok
              have h1:=hst.fr.at_ t v2 (by rw [lk_cons,if_pos rfl])
              refine ⟨v2,by rw [lk_cons,if_pos rfl], ?_⟩
              have hlt:t<N:=hF2N _ List.mem_cons_self
              rw [hb,hxd] at h1
              rw [ha,hxd]
              simp only [Act.put,Array.getElem?_setIfInBounds,if_true,fill_size,j.sz,hlt] at h1⊢
              exact h1
            · rw [upd_ne (beq_no e)] at hS
              have hne:o.dst≠some t:=fun h2=>e (dstB_at hdB hq ho hxd h2)
              obtain ⟨h1,h2⟩:=hoth t hne
              rw [h1,h2]
              exact j.ins q x t hq hxd hS
        obtain ⟨F3,h1,h2⟩:=hph.enter hdB hF2N hJ
        refine ⟨i::done,r,L2,F3,fun q hq=> ?_,fun q hq=> ?_,hchr.2,h1,h2⟩
        · rcases hw1 q hq with h3|h3
          · exact .inl (List.mem_cons_of_mem _ h3)
          · rcases List.mem_cons.1 h3 with rfl|h3
            · exact .inl List.mem_cons_self
            · exact .inr h3
        · rcases hq with hq|hq
          · rcases List.mem_cons.1 hq with rfl|hq
            · exact hw2 _ (.inr List.mem_cons_self)
            · exact hw2 _ (.inl hq)
          · exact hw2 _ (.inr (List.mem_cons_of_mem _ hq))
    ·
      have hiw:ws.any (Nat.beq i)=false:=by
        cases hb:ws.any (Nat.beq i) with
        |false=>rfl
        |true=>
          obtain ⟨z,hz,h3⟩:=List.any_eq_true.1 hb
          cases Nat.eq_of_beq_eq_true h3
          rcases hw1 i hz with h4|h4
          · rw [j.dn i h4] at hSi;cases hSi
          · exact absurd h4 hir
      have h2:(rem.any fun w=>ancB l i w)=false:=by
        cases hb:rem.any fun w=>ancB l i w with
        |false=>rfl
        |true=>
          obtain ⟨z,hz,h3⟩:=List.any_eq_true.1 hb
          rcases anc_ready hcl ho hdep h3 with e|e
          · rw [e] at hz;exact absurd hz hir
          · rw [j.rm z hz] at e;cases e
      have h3:(done.any fun w=>ancB l w i)=false:=by
        cases hb:done.any fun w=>ancB l w i with
        |false=>rfl
        |true=>
          obtain ⟨z,hz,h3⟩:=List.any_eq_true.1 hb
          rw [cA hcl z i h3 (j.dn z hz)] at hSi
          cases hSi
      obtain ⟨d,v,pf⟩:=px.pf i o ho hiw h2 h3
      unfold StepOK
      rw [if_pos (wanted_none hg _)]
      unfold Oper.wp
      rw [pf.run a w j.sz j.df hslo j.sh]
      show∃done rem L F,_
      refine ⟨done,rem,L,F,hw1,hw2,hchr,px,fun q hq=>upd_true (j.dn q hq),fun q hq=> ?_, ?_, ?_,fun t u ht hu=> ?_,fun q x t hq hxd hS=> ?_,j.sh⟩
      · rw [upd_ne (beq_no fun e=>hir (by rw [←e];exact hq))]
        exact j.rm q hq
      · rw [pf.dst];simp [Act.put,j.sz]
      · rw [pf.dst];exact j.df
      · have hne:d≠t:=fun e=>ht o hol (by rw [pf.dst,e])
        rw [pf.dst]
        simp only [Act.put,Array.getElem?_setIfInBounds,if_neg hne]
        exact j.out t u ht hu
      · by_cases e:q=i
        · subst e
          rw [ho] at hq
          cases hq
          rw [pf.dst] at hxd
          cases hxd
          refine ⟨v,pf.at_, ?_⟩
          rw [pf.dst]
          simp [Act.put,Array.getElem?_setIfInBounds,j.sz,pf.lt]
        · rw [upd_ne (beq_no e)] at hS
          obtain ⟨u,hu,hat⟩:=j.ins q x t hq hxd hS
          refine ⟨u,hu, ?_⟩
          have hne:d≠t:=fun e2=>e (dstB_at hdB hq ho hxd (by rw [pf.dst,e2]))
          rw [pf.dst]
          simp only [Act.put,Array.getElem?_setIfInBounds,if_neg hne]
          exact hat
  · rintro S hall a w ⟨done,rem,L,F,hw1,hw2,hchr,px,j⟩
    have hrem:rem= []:=by
      cases rem with
      |nil=>rfl
      |cons i r=>
        obtain ⟨o,ho,_⟩:=px.nxt i r rfl
        have:=hall i (List.getElem?_eq_some_iff.1 ho).1
        rw [j.rm i List.mem_cons_self] at this
        cases this
    refine px.fin hrem a w ⟨⟨j.sz,j.df,fun t v hv=> ?_⟩,j.sh⟩
    by_cases hn:noneB l t
    · exact j.out t v hn hv
    · have:∃o,o∈l∧o.dst=some t:=by
        apply Classical.byContradiction
        intro h1
        exact hn fun o ho e=>h1 ⟨o,ho,e⟩
      obtain ⟨o,ho,hd⟩:=this
      obtain ⟨i,hi⟩:=List.getElem?_of_mem ho
      obtain ⟨u,hu,hat⟩:=j.ins i o t hi hd (hall i (List.getElem?_eq_some_iff.1 hi).1)
      rw [hv] at hu
      cases hu
      exact hat
section
variable {ws done rem is:List Nat}{i d:Nat}{v:Value}{F2:List (Nat×Value)}{L2:List Asn}{Φ:List Asn→List (Nat×Value)→Prop}
theorem pE (is:List Nat)(e:pickO l is=some os)(r:Runs P l.toArray N K W L os F [] F')(ha:agA F F' os=agB F os)(k:∀a w,St N K W a w F' L→Q .normal a w)(hB:(availB l ws done [] is&&ordB os&&is.all fun i=> !ws.any (Nat.beq i))=true:=by kernel_rfl):PhH P l N K W Q ws done [] L F:=⟨is,os,F',e,hB,r,ha,k⟩
theorem pR (is:List Nat)(e:(pickO l is,l[i]?)=(some os,some o))(r:Runs P l.toArray N K W L os F [] F')(ha:agA F F' os=agB F os)
  (k:∀a w,St N K W a w F' L→Ex P o a w (fun a' w' =>∃F2 L2,St N K W a' w' F2 L2∧okF o F' F2∧PhH P l N K W Q ws (i::done) rem L2 F2)) (hB:(availB l ws done (i::rem) is&&ordB os&&is.all fun i=> !ws.any (Nat.beq i))=true:=by kernel_rfl):PhH P l N K W Q ws done (i::rem) L F:=by
 simp only [Prod.mk.injEq] at e
 exact ⟨is,os,F',o,e.1,hB,r,ha,e.2,k⟩
theorem okF_some (hd:o.dst=some d):okF o F ((d,v)::F):=by unfold okF;rw [hd];exact ⟨v,rfl⟩
theorem pS (hx:∀a w,St N K W a w F L→Ex P o a w (fun a' w' =>St N K W a' w' F L2))(hd:o.dst=none)(k:Φ L2 F):∀a w,St N K W a w F L→Ex P o a w (fun a' w' =>∃F2 L2,St N K W a' w' F2 L2∧okF o F F2∧Φ L2 F2):=
 fun a w h=>(hx a w h).mono fun a' w' h' =>⟨F,L2,h',by unfold okF;rw [hd],k⟩
theorem pX {α:Type}{v:α→Value}{L2:α→List Asn}(hx:∀a w,St N K W a w F L→Ex P o a w (fun a' w' =>∃b:α,St N K W a' w' ((d,v b)::F) (L2 b)))(hd:o.dst=some d)(k:∀b,Φ (L2 b) ((d,v b)::F)):∀a w,St N K W a w F L→Ex P o a w (fun a' w' =>∃F2 L2,St N K W a' w' F2 L2∧okF o F F2∧Φ L2 F2):=
 fun a w h=>(hx a w h).mono fun a' w' ⟨b,h'⟩=>⟨_,L2 b,h',okF_some hd,k b⟩
theorem pP (hx:∀a w,St N K W a w F L→Ex P o a w (fun a' w' =>∃u,(u=v∧Sh0 w w' [])∧Fr N a' ((d,u)::F)))(hd:o.dst=some d)(k:Φ L ((d,v)::F)):∀a w,St N K W a w F L→Ex P o a w (fun a' w' =>∃F2 L2,St N K W a' w' F2 L2∧okF o F F2∧Φ L2 F2):=
 fun a w h=>(hx a w h).mono fun a' w' ⟨u,⟨hu,hs⟩,hf⟩=>by subst hu;exact ⟨_,L,⟨hf,h.sh.call0 hs⟩,okF_some hd,k⟩
theorem pC {Rr:World→Value→World→Prop}(hx:∀a w,St N K W a w F L→Ex P o a w (fun a' w' =>∃v,Rr w v w' ∧Fr N a' ((d,v)::F)))(hd:o.dst=some d)
  (k:∀w v w',Rr w v w' →∃L' L2,Sh0 w w' L' ∧AllNo L' ∧appO L' L=some L2∧Φ L2 ((d,v)::F)):∀a w,St N K W a w F L→Ex P o a w (fun a' w' =>∃F2 L2,St N K W a' w' F2 L2∧okF o F F2∧Φ L2 F2):=
 fun a w h=>(hx a w h).mono fun a' w' ⟨v,hr,hf⟩=>by
  obtain ⟨L',L2,hs,hi,e,k⟩:=k _ _ _ hr
  have:=h.sh.callI hs
  rw [appO_eq e] at this
  exact ⟨_,L2,⟨hf,this⟩,okF_some hd,k⟩
theorem pWk {L' L2 M:List Asn}{w w' :World}{X:List Asn→Prop}[hi:AllNo L'](hs:Sh0 w w' L')(e:appO L' M=some L2)(k:X L2):∃L' L2,Sh0 w w' L' ∧AllNo L' ∧appO L' M=some L2∧X L2:=⟨_,_,hs,hi,e,k⟩
end
end
theorem ti_3 :tyI Try.prog 3=some (false,1,8, [.int .i64 0]):=by kernel_rfl
theorem ti_4 :tyI Try.prog 4=some (false,1,1, [.bool false]):=by kernel_rfl
theorem ti_22 :tyI Try.prog 22=some (false,1,24, [.slice none 0 0]):=by kernel_rfl
theorem sl_22 :slI Try.prog 22=some 45:=by kernel_rfl
theorem ti_23 :tyI Try.prog 23=some (false,1,24, [.slice none 0 0]):=by kernel_rfl
theorem sl_23 :slI Try.prog 23=some 3:=by kernel_rfl
theorem ti_25 :tyI Try.prog 25=some (true,4,64, [.slice none 0 0, .slice none 0 0, .int .i64 0, .int .i64 0]):=by kernel_rfl
theorem fl_25_0 :flI Try.prog 25 0=some 0:=by kernel_rfl
theorem fl_25_1 :flI Try.prog 25 1=some 1:=by kernel_rfl
theorem fl_25_2 :flI Try.prog 25 2=some 2:=by kernel_rfl
theorem fl_25_3 :flI Try.prog 25 3=some 3:=by kernel_rfl
theorem ti_26 :tyI Try.prog 26=some (false,1,24, [.slice none 0 0]):=by kernel_rfl
theorem sl_26 :slI Try.prog 26=some 23:=by kernel_rfl
theorem ti_28 :tyI Try.prog 28=some (false,1,8, [.int .i64 0]):=by kernel_rfl
theorem ti_30 :tyI Try.prog 30=some (true,3,24, [.int .i64 0, .int .i64 0, .int .i64 0]):=by kernel_rfl
theorem fl_30_0 :flI Try.prog 30 0=some 0:=by kernel_rfl
theorem ti_41 :tyI Try.prog 41=some (false,1,24, [.slice none 0 0]):=by kernel_rfl
theorem sl_41 :slI Try.prog 41=some 92:=by kernel_rfl
theorem ti_42 :tyI Try.prog 42=some (false,1,24, [.slice none 0 0]):=by kernel_rfl
theorem sl_42 :slI Try.prog 42=some 49:=by kernel_rfl
theorem fl_44_0 :flI Try.prog 44 0=some 0:=by kernel_rfl
theorem fl_44_1 :flI Try.prog 44 1=some 1:=by kernel_rfl
theorem fl_44_2 :flI Try.prog 44 2=some 2:=by kernel_rfl
theorem fl_44_3 :flI Try.prog 44 3=some 3:=by kernel_rfl
theorem fl_44_4 :flI Try.prog 44 4=some 4:=by kernel_rfl
theorem fl_44_5 :flI Try.prog 44 5=some 5:=by kernel_rfl
theorem ti_45 :tyI Try.prog 45=some (false,1,24, [.slice none 0 0]):=by kernel_rfl
theorem sl_45 :slI Try.prog 45=some 47:=by kernel_rfl
theorem ti_47 :tyI Try.prog 47=some (true,4,32, [.int .i64 0, .int .i64 0, .int .i64 0, .int .i64 0]):=by kernel_rfl
theorem fl_47_0 :flI Try.prog 47 0=some 0:=by kernel_rfl
theorem fl_47_1 :flI Try.prog 47 1=some 1:=by kernel_rfl
theorem fl_47_2 :flI Try.prog 47 2=some 2:=by kernel_rfl
theorem fl_47_3 :flI Try.prog 47 3=some 3:=by kernel_rfl
theorem ti_49 :tyI Try.prog 49=some (true,3,56, [.int .i64 0, .slice none 0 0, .slice none 0 0]):=by kernel_rfl
theorem fl_49_0 :flI Try.prog 49 0=some 0:=by kernel_rfl
theorem fl_49_1 :flI Try.prog 49 1=some 1:=by kernel_rfl
theorem fl_49_2 :flI Try.prog 49 2=some 2:=by kernel_rfl
theorem ti_58 :tyI Try.prog 58=some (false,1,24, [.slice none 0 0]):=by kernel_rfl
theorem sl_58 :slI Try.prog 58=some 26:=by kernel_rfl
theorem sl_61 :slI Try.prog 61=some 64:=by kernel_rfl
theorem ti_64 :tyI Try.prog 64=some (false,1,24, [.slice none 0 0]):=by kernel_rfl
theorem sl_64 :slI Try.prog 64=some 4:=by kernel_rfl
theorem ti_70 :tyI Try.prog 70=some (true,6,6, [.bool false, .bool false, .bool false, .bool false, .bool false, .bool false]):=by kernel_rfl
theorem sl_77 :slI Try.prog 77=some 78:=by kernel_rfl
theorem ti_78 :tyI Try.prog 78=some (false,1,8, [.map none]):=by kernel_rfl
theorem fl_81_0 :flI Try.prog 81 0=some 0:=by kernel_rfl
theorem fl_81_1 :flI Try.prog 81 1=some 1:=by kernel_rfl
theorem ti_92 :tyI Try.prog 92=some (false,1,8, [.pointer none]):=by kernel_rfl
theorem ti_98 :tyI Try.prog 98=some (false,1,24, [.slice none 0 0]):=by kernel_rfl
theorem sl_98 :slI Try.prog 98=some 136:=by kernel_rfl
theorem fl_100_0 :flI Try.prog 100 0=some 0:=by kernel_rfl
theorem fl_100_1 :flI Try.prog 100 1=some 4:=by kernel_rfl
theorem fl_100_2 :flI Try.prog 100 2=some 5:=by kernel_rfl
theorem fl_100_3 :flI Try.prog 100 3=some 6:=by kernel_rfl
theorem fl_100_4 :flI Try.prog 100 4=some 7:=by kernel_rfl
theorem fl_100_5 :flI Try.prog 100 5=some 8:=by kernel_rfl
theorem fl_100_6 :flI Try.prog 100 6=some 9:=by kernel_rfl
theorem sl_115 :slI Try.prog 115=some 119:=by kernel_rfl
theorem ti_119 :tyI Try.prog 119=some (true,200,200, [.bool false, .bool false, .bool false, .bool false, .bool false, .bool false, .bool false, .bool false, .bool false, .bool false, .bool false, .bool false, .bool false, .bool false, .bool false, .bool false, .bool false, .bool false, .bool false, .bool false, .bool false, .bool false, .bool false, .bool false, .bool false, .bool false, .bool false, .bool false, .bool false, .bool false, .bool false, .bool false, .bool false, .bool false, .bool false, .bool false, .bool false, .bool false, .bool false, .bool false, .bool false, .bool false, .bool false, .bool false, .bool false, .bool false, .bool false, .bool false, .bool false, .bool false, .bool false, .bool false, .bool false, .bool false, .bool false, .bool false, .bool false, .bool false, .bool false, .bool false, .bool false, .bool false, .bool false, .bool false, .bool false, .bool false, .bool false, .bool false, .bool false, .bool false, .bool false, .bool false, .bool false, .bool false, .bool false, .bool false, .bool false, .bool false, .bool false, .bool false, .bool false, .bool false, .bool false, .bool false, .bool false, .bool false, .bool false, .bool false, .bool false, .bool false, .bool false, .bool false, .bool false, .bool false, .bool false, .bool false, .bool false, .bool false, .bool false, .bool false, .bool false, .bool false, .bool false, .bool false, .bool false, .bool false, .bool false, .bool false, .bool false, .bool false, .bool false, .bool false, .bool false, .bool false, .bool false, .bool false, .bool false, .bool false, .bool false, .bool false, .bool false, .bool false, .bool false, .bool false, .bool false, .bool false, .bool false, .bool false, .bool false, .bool false, .bool false, .bool false, .bool false, .bool false, .bool false, .bool false, .bool false, .bool false, .bool false, .bool false, .bool false, .bool false, .bool false, .bool false, .bool false, .bool false, .bool false, .bool false, .bool false, .bool false, .bool false, .bool false, .bool false, .bool false, .bool false, .bool false, .bool false, .bool false, .bool false, .bool false, .bool false, .bool false, .bool false, .bool false, .bool false, .bool false, .bool false, .bool false, .bool false, .bool false, .bool false, .bool false, .bool false, .bool false, .bool false, .bool false, .bool false, .bool false, .bool false, .bool false, .bool false, .bool false, .bool false, .bool false, .bool false, .bool false, .bool false, .bool false, .bool false, .bool false, .bool false, .bool false, .bool false, .bool false, .bool false, .bool false, .bool false, .bool false, .bool false, .bool false]):=by kernel_rfl
theorem ti_126 :tyI Try.prog 126=some (false,1,8, [.pointer none]):=by kernel_rfl
theorem sl_127 :slI Try.prog 127=some 126:=by kernel_rfl
theorem ti_134 :tyI Try.prog 134=some (false,1,24, [.slice none 0 0]):=by kernel_rfl
theorem sl_134 :slI Try.prog 134=some 144:=by kernel_rfl
theorem ti_136 :tyI Try.prog 136=some (true,3,56, [.int .i64 0, .slice none 0 0, .slice none 0 0]):=by kernel_rfl
theorem fl_136_0 :flI Try.prog 136 0=some 0:=by kernel_rfl
theorem fl_136_1 :flI Try.prog 136 1=some 1:=by kernel_rfl
theorem fl_136_2 :flI Try.prog 136 2=some 2:=by kernel_rfl
theorem ti_144 :tyI Try.prog 144=some (true,3,24, [.bool false, .int .i64 0, .int .i64 0]):=by kernel_rfl
theorem fl_144_0 :flI Try.prog 144 0=some 0:=by kernel_rfl
theorem fl_144_1 :flI Try.prog 144 1=some 1:=by kernel_rfl
theorem fl_144_2 :flI Try.prog 144 2=some 2:=by kernel_rfl
theorem bd_8 :bodyI Try.prog 8=true:=by kernel_rfl
theorem bd_10 :bodyI Try.prog 10=true:=by kernel_rfl
theorem bd_11 :bodyI Try.prog 11=true:=by kernel_rfl
theorem bd_12 :bodyI Try.prog 12=true:=by kernel_rfl
theorem bd_13 :bodyI Try.prog 13=true:=by kernel_rfl
theorem bd_14 :bodyI Try.prog 14=true:=by kernel_rfl
theorem bd_15 :bodyI Try.prog 15=true:=by kernel_rfl
theorem bd_16 :bodyI Try.prog 16=true:=by kernel_rfl
theorem bd_18 :bodyI Try.prog 18=true:=by kernel_rfl
theorem bd_24 :bodyI Try.prog 24=true:=by kernel_rfl
theorem bd_27 :bodyI Try.prog 27=true:=by kernel_rfl
theorem bd_28 :bodyI Try.prog 28=true:=by kernel_rfl
theorem bd_29 :bodyI Try.prog 29=true:=by kernel_rfl
theorem bd_30 :bodyI Try.prog 30=true:=by kernel_rfl
theorem bd_31 :bodyI Try.prog 31=true:=by kernel_rfl
theorem bd_32 :bodyI Try.prog 32=true:=by kernel_rfl
theorem bd_33 :bodyI Try.prog 33=true:=by kernel_rfl
theorem bd_37 :bodyI Try.prog 37=true:=by kernel_rfl
theorem bd_38 :bodyI Try.prog 38=true:=by kernel_rfl
theorem bd_39 :bodyI Try.prog 39=true:=by kernel_rfl
theorem bd_40 :bodyI Try.prog 40=true:=by kernel_rfl
theorem bd_41 :bodyI Try.prog 41=true:=by kernel_rfl
theorem bd_44 :bodyI Try.prog 44=true:=by kernel_rfl
theorem bd_45 :bodyI Try.prog 45=true:=by kernel_rfl
theorem bd_46 :bodyI Try.prog 46=true:=by kernel_rfl
theorem bd_47 :bodyI Try.prog 47=true:=by kernel_rfl
theorem bd_48 :bodyI Try.prog 48=true:=by kernel_rfl
theorem bd_49 :bodyI Try.prog 49=true:=by kernel_rfl
theorem bd_50 :bodyI Try.prog 50=true:=by kernel_rfl
theorem bd_53 :bodyI Try.prog 53=true:=by kernel_rfl
theorem bd_54 :bodyI Try.prog 54=true:=by kernel_rfl
theorem bd_57 :bodyI Try.prog 57=true:=by kernel_rfl
theorem bd_58 :bodyI Try.prog 58=true:=by kernel_rfl
theorem bd_59 :bodyI Try.prog 59=true:=by kernel_rfl
theorem bd_60 :bodyI Try.prog 60=true:=by kernel_rfl
theorem bd_61 :bodyI Try.prog 61=true:=by kernel_rfl
theorem bd_62 :bodyI Try.prog 62=true:=by kernel_rfl
theorem bd_63 :bodyI Try.prog 63=true:=by kernel_rfl
theorem bd_64 :bodyI Try.prog 64=true:=by kernel_rfl
theorem bd_65 :bodyI Try.prog 65=true:=by kernel_rfl
theorem bd_66 :bodyI Try.prog 66=true:=by kernel_rfl
theorem bd_67 :bodyI Try.prog 67=true:=by kernel_rfl
theorem bd_68 :bodyI Try.prog 68=true:=by kernel_rfl
theorem bd_69 :bodyI Try.prog 69=true:=by kernel_rfl
theorem bd_70 :bodyI Try.prog 70=true:=by kernel_rfl
theorem bd_71 :bodyI Try.prog 71=true:=by kernel_rfl
theorem bd_72 :bodyI Try.prog 72=true:=by kernel_rfl
theorem bd_78 :bodyI Try.prog 78=true:=by kernel_rfl
theorem bd_79 :bodyI Try.prog 79=true:=by kernel_rfl
theorem bd_80 :bodyI Try.prog 80=true:=by kernel_rfl
theorem bd_81 :bodyI Try.prog 81=true:=by kernel_rfl
theorem bd_82 :bodyI Try.prog 82=true:=by kernel_rfl
theorem bd_83 :bodyI Try.prog 83=true:=by kernel_rfl
theorem bd_84 :bodyI Try.prog 84=true:=by kernel_rfl
theorem bd_85 :bodyI Try.prog 85=true:=by kernel_rfl
theorem bd_86 :bodyI Try.prog 86=true:=by kernel_rfl
theorem bd_87 :bodyI Try.prog 87=true:=by kernel_rfl
theorem bd_88 :bodyI Try.prog 88=true:=by kernel_rfl
theorem bd_90 :bodyI Try.prog 90=true:=by kernel_rfl
theorem bd_91 :bodyI Try.prog 91=true:=by kernel_rfl
theorem bd_92 :bodyI Try.prog 92=true:=by kernel_rfl
theorem bd_93 :bodyI Try.prog 93=true:=by kernel_rfl
theorem bd_94 :bodyI Try.prog 94=true:=by kernel_rfl
theorem bd_98 :bodyI Try.prog 98=true:=by kernel_rfl
theorem bd_99 :bodyI Try.prog 99=true:=by kernel_rfl
theorem bd_110 :bodyI Try.prog 110=true:=by kernel_rfl
set_option maxRecDepth 100000
set_option maxHeartbeats 1000000
theorem take_succ_nth {α:Type}[Inhabited α](l:List α)(k:Nat)(h:k<l.length):l.take (k+1)=l.take k++ [nth l k]:=by
 rw [List.take_succ_eq_append_getElem h,nth_lt l k h]
theorem ext_nth {α:Type}[Inhabited α](l m:List α)(hl:l.length=m.length)(h:∀i,i<l.length→nth l i=nth m i):l=m:=by
 apply List.ext_getElem hl
 intro i h1 h2
 have:=h i h1
 rwa [nth_lt l i h1,nth_lt m i h2] at this
def JumpsOK (code:List Ins):Prop:=∀i,i<code.length→((nth code i).op=14→0≤(nth code i).a∧(nth code i).a≤code.length)∧((nth code i).op=15→0≤(nth code i).b∧(nth code i).b≤code.length)
def placeL (become:List (List Ins))(i:Nat):Nat:=((become.take i).map List.length).sum
theorem placeL_succ (become:List (List Ins))(i:Nat)(h:i<become.length):placeL become (i+1)=placeL become i+(nth become i).length:=by
 unfold placeL
 rw [take_succ_nth _ _ h]
 simp
def fixIns (become:List (List Ins))(code:List Ins)(i:Nat)(x:Ins):Ins:=
 if x.op=14∧((nth code i).op=14∨(nth code i).op=15) then { x with a:=placeL become x.a.toNat }
 else if x.op=15∧(nth code i).op=15 then { x with b:=placeL become x.b.toNat }
 else if x.op=15∧(nth code i).op=17 then { x with b:=placeL become i } else x
def putUpto (become:List (List Ins))(code:List Ins)(i:Nat):List Ins:=(List.range i).flatMap fun i=>(nth become i).map (fixIns become code i)
def putL (become:List (List Ins))(code:List Ins):List Ins:=putUpto become code code.length
theorem putUpto_succ (become:List (List Ins))(code:List Ins)(i:Nat):putUpto become code (i+1)=putUpto become code i++(nth become i).map (fixIns become code i):=by
 simp [putUpto,List.range_succ]
instance : DecidableEq Pg:=fun p q=>by
 rcases p with ⟨a,b,c,d⟩;rcases q with ⟨a',b',c',d'⟩
 exact decidable_of_iff (a=a' ∧b=b' ∧c=c' ∧d=d') (by simp)
section
variable {code code2:Ls (Ls Ins)}{words words2:Ls Int}{locks regs locks2 regs2:Int}
end
theorem ints_c (x y:Ls Int)(W:World)(hx:x.At W)(hy:y.At W):
    Rets Try.prog 24 [x.v,y.v] W (fun v w' =>v= .bool (decide (x.l=y.l))∧Sh0 W w' []):=by
 refine gen Try.func24 Try.ntmps24 (Sh0.ext2 hx hy:Sh (fun _=>False) W W [.at_ x, .at_ y]) rfl fun a10 h10=>gG h10<|sG (oM 1 rfl<|.nl)<|gK fun _ k12=>sK fun _ k13=>gNl (aA 0 rfl) fun hl14=>gNl (aA 1 rfl) fun hl15=>gRn (oM 1 rfl<|oln sl_23 (aA 0 rfl) rfl<|oM 1 rfl<|oln sl_23 (aA 1 rfl) rfl<|oneN _ _ rfl<|.nl)<|nK k13<|?_;clear h10
 refine gcd rfl (fun hb16 hp16=> ?_) fun hb16 hp16=> ?_
 ·skip
  refine sG (oM 1 rfl<|.nl)<|gR<|uT<|fun a18 w18 h18=>x_ret1 (fn:=Try.f24) (t:=4) rfl h18 rfl<|⟨?_,(h18.sh.sel [] rfl)⟩
  congr 1
  first|(exact (decide_eq_true (ext_nth _ _ (by omega) fun i hi=>hall i (by omega))).symm)|(refine (decide_eq_false fun e=> ?_).symm;simp_all)
 refine gS<|hK k12<|gK fun _ k19=>sG (oM 1 rfl<|.nl)<|gB<|fun a22 w22 h22=>x_loop (fun m a w=>∃(k:Nat),(k≤x.l.length)∧(∀j,j<k→nth x.l j=nth y.l j)∧St 26 (fun _=>False) W a w [(0,x.v),(1,y.v),(5, .int .i64 ((k:Nat):Int))] [.at_ x, .at_ y]∧m=x.l.length-k) ⟨_,0,(by omega),(fun j hj=>absurd hj (by omega)),h22.nf ⟨rfl,rfl,rfl,trivial⟩,rfl⟩ ?_
 clear h22
 rintro m21 a21 w21 ⟨k,hk,hall,h21,hm21⟩
 refine gG h21<|gK fun _ k23=>sG (oM 2 rfl<|oln sl_23 (aA 0 rfl) rfl<|oltN _ _ rfl<|.nl)<|?_;clear h21
 refine gcd rfl (fun hb25 hp25=> ?_) fun hb25 hp25=> ?_
 ·skip
  refine gS<|hK k23<|gK fun _ k26=>gB<|gK fun _ k27=>rQ (oM 2 rfl<|oxN sl_23 ti_3 (aA 0 rfl) _ om9 rfl<|olI ti_3 (aA 0 rfl) om9 rfl<|oM 2 rfl<|oxN sl_23 ti_3 (aA 1 rfl) _ om9 rfl<|olI ti_3 (aA 1 rfl) om9 rfl<|oneI _ _ rfl<|.nl)<|hK k27<|gcd rfl (fun hb28 hp28=> ?_) fun hb28 hp28=> ?_
  ·skip
   refine sG (oM 1 rfl<|.nl)<|gR<|uB<|uT<|uT<|uB<|uT<|fun a30 w30 h30=>x_ret1 (fn:=Try.f24) (t:=4) rfl h30 rfl<|⟨?_,(h30.sh.sel [] rfl)⟩
   congr 1
   first|(exact (decide_eq_true (ext_nth _ _ (by omega) fun i hi=>hall i (by omega))).symm)|(refine (decide_eq_false fun e=> ?_).symm;simp_all)
  refine gS<|hK k26<|gL<|gRn (oM 1 rfl<|oadN _ 1 om9 rfl<|oM 1 rfl<|.nl)<|nN<|fun a31 w31 h31=>x_again ⟨_, ?_,k+1, ?_, ?_,h31.nf ⟨rfl,rfl,rfl,trivial⟩,rfl⟩
  · rw [hm21];first|omega|(simp only [lens9];omega)
  · omega
  · intro j hj;rcases Nat.lt_or_ge j k with h|h;exact hall j h;obtain rfl:j=k:=(by omega);simp_all
 refine gX<|hK k19<|sG (oM 1 rfl<|.nl)<|gR<|fun a33 w33 h33=>x_ret1 (fn:=Try.f24) (t:=4) rfl h33 rfl<|⟨?_,(h33.sh.sel [] rfl)⟩
 congr 1
 first|(exact (decide_eq_true (ext_nth _ _ (by omega) fun i hi=>hall i (by omega))).symm)|(refine (decide_eq_false fun e=> ?_).symm;simp_all)
theorem perm_set_cons {α:Type}[Inhabited α]:∀(l:List α) (j:Nat) (x:α),j<l.length→List.Perm (nth l j::l.set j x) (x::l)
 | [],_,_,h=>absurd h (Nat.not_lt_zero _)
 |y::l,0,x,_=>List.Perm.swap x y l
 |y::l,j+1,x,h=>by
  have ih:=perm_set_cons l j x (by simpa using h)
  show List.Perm (nth l j::y::l.set j x) (x::y::l)
  exact ((List.Perm.swap y (nth l j) _).trans (ih.cons y)).trans (List.Perm.swap x y l)
theorem swap_perm {α:Type}[Inhabited α]:∀ {l:List α} {i j:Nat},i<l.length→j<l.length→List.Perm ((l.set i (nth l j)).set j (nth l i)) l
 | [],_,_,h,_=>absurd h (Nat.not_lt_zero _)
 |x::l,0,0,_,_=>List.Perm.refl _
 |x::l,0,j+1,_,hj=>by
  show List.Perm (nth l j::l.set j x) (x::l)
  exact perm_set_cons l j x (by simpa using hj)
 |x::l,i+1,0,hi,_=>by
  show List.Perm (nth l i::l.set i x) (x::l)
  exact perm_set_cons l i x (by simpa using hi)
 |x::l,i+1,j+1,hi,hj=>by
  show List.Perm (x::(l.set i (nth l j)).set j (nth l i)) (x::l)
  exact (swap_perm (by simpa using hi) (by simpa using hj)).cons x
theorem swap_permR {α:Type}[Inhabited α]{l:List α}{i j:Nat}(hi:i<l.length)(hj:j<l.length):List.Perm ((l.set j (nth l i)).set i (nth l j)) l:=swap_perm hj hi
section
variable {P:Program}{N:Nat}{K:Nat→Prop}{W w:World}{a:Act}{F F' :List (Nat×Value)}{L L' :List Asn}{o:Oper}{ops:Array Oper}{rest:List Oper}{Q:Exit→Act→World→Prop}
section
variable {α:Type}[Enc α]
theorem x_app1 {d:Nat}{T e:TypeId}{gg:Bool}{sz by_ r rm:Nat}{z:List Value}{x y:Operand}{s m:Ls α}{B:Asn}{E:TypeId}(h:St N K W a w F L)(hT:slI P T=some e)(he:tyI P e=some (gg,sz,by_,z))(ho:o.op= .call ⟨.builtin .append, #[x,y], #[T,T]⟩)
  (hx:ev F x=some s.v) (hy:ev F y=some m.v) (hr:L[r]? =some (.own E s)) (hE:E=e) (hrm:L[rm]? =some B) (hne:Nat.beq r rm=false) (hat:∀w,Sh K W w L→m.At w) (hon:∀b,m.on b→B.fp b∨B.rd b) (hoi:∀q,q<m.l.length→∀b,Enc.on (nth m.l q) b→B.rd b)
  (hsz:Enc.sz α=sz) (hpos:Nat.blt 0 sz=true) (hzl:z.length=sz) (h1:∀w,Sh K W w L→∀q,q<m.l.length→∀j,j<Enc.sz α→(Enc.cell (nth m.l q) j).oneCell' =true) (hn:(s.l.length+m.l.length)*by_≤140737488355328∧s.l.length+m.l.length≤140737488355328) (hd:o.dst=some d) (hdN:Nat.blt d N=true):
  Ex P o a w (fun a' w' =>∃v:Value,St N K W a' w' ((d,v)::F) (L.set r (.own E ⟨v,s.l++m.l⟩))):=by
 subst hsz
 subst hE
 obtain ⟨i,ed,zv,hi,hed,_,hsz,hby,hzz,hzc⟩:=tyI_parts he
 have hsp:0<Enc.sz α:=by simpa [Nat.blt_eq] using hpos
 obtain ⟨hown,hlen,hinn⟩:=h.sh.ok _ (List.mem_of_getElem? hr)
 have hself:=h.sh.self _ (List.mem_of_getElem? hr)
 have hmat:=hat w h.sh
 have hu:=slI_parts hT
 have hap:(Asn.own E s).Apart B:=by
  obtain ⟨l1,e1⟩:=List.getElem?_eq_some_iff.1 hr
  obtain ⟨l2,e2⟩:=List.getElem?_eq_some_iff.1 hrm
  have hne' :r≠rm:=by rintro rfl;simp at hne
  have hpw:=List.pairwise_iff_getElem.1 h.sh.apart
  rw [←e1,←e2]
  rcases Nat.lt_or_gt_of_ne hne' with hlt|hgt
  ·exact hpw r rm l1 l2 hlt
  ·exact (hpw rm r l2 l1 hgt).symm
 have hzsz:zv.cells.size=Enc.sz α:=by rw [←Array.length_toList,hzc,hzl]
 have key:∃v' w',(Builtin.append_ #[T,T] o.type #[s.v,m.v]).run P w= .ok v' w' ∧w'.ownsRow 0 E (Enc.sz α) v' (s.l.length+m.l.length) (encL s.l++encL m.l)∧w.grownBy w' s.v.ownBlock∧(∀b,v'.ownBlock=some b→s.v.ownBlock=some b∨w.heap.size≤b):=by
  obtain ⟨A,cap,hmv,hmA⟩:=hmat
  cases A with
  |none=>
   have hm0:m.l.length=0:=by
    rcases Nat.eq_zero_or_pos m.l.length with h0|h0
    ·exact h0
    ·obtain ⟨b,hb,_⟩:=hmA.some h0;cases hb
   have hml:m.l= []:=List.eq_nil_of_length_eq_zero hm0
   refine ⟨s.v,w, ?_,by rw [hm0,hml,encL_nil,List.append_nil];exact hown,⟨rfl,rfl,rfl,Nat.le_refl _,fun _ _ _=>rfl⟩,fun b hb=> .inl hb⟩
   rw [hmv,hm0]
   rcases hown.2 with ⟨hv,h0⟩|⟨g,c2,cur,hv,_,_,hnc,_⟩
   ·rw [hv];simp [Builtin.append_,run_underlying hu,sizeOf,typeInfo,hi,Builtin.lenOf,Builtin.firstCells]
   ·rw [hv];simp [Builtin.append_,run_underlying hu,sizeOf,typeInfo,hi,Builtin.lenOf,Builtin.firstCells,hnc,storeCells]
  |some ad=>
   have hnews:∀(j:Nat) (u:Value),(encL m.l)[j]? =some u→w.cell? (ad.add j)=some u:=by
    intro j u hj
    have hjl:j<m.l.length*Enc.sz α:=by
     have:=(List.getElem?_eq_some_iff.1 hj).1
     rwa [length_encL] at this
    have hq:j/Enc.sz α<m.l.length:=(Nat.div_lt_iff_lt_mul hsp).2 hjl
    have hq2:j%Enc.sz α<Enc.sz α:=Nat.mod_lt _ hsp
    have hkk:j=(j/Enc.sz α)*Enc.sz α+j%Enc.sz α:=by rw [Nat.mul_comm];exact (Nat.div_add_mod _ _).symm
    obtain ⟨b,hb,hbs⟩:=hmA.some (Nat.lt_of_le_of_lt (Nat.zero_le _) hq)
    simp only [Option.some.injEq] at hb
    subst hb
    have h2:=encL_at m.l (j/Enc.sz α) (j%Enc.sz α) hq hq2
    rw [←hkk,hj] at h2
    have h3:=hmA.cell (j/Enc.sz α) (j%Enc.sz α) hq hq2
    rw [←h2] at h3
    obtain ⟨blk,off,sp⟩:=ad
    simp only at hbs
    subst hbs
    rw [Addr.add_lit]
    have e:(⟨some ⟨blk,off,none⟩,cap,m.l⟩:Sl α).adr (Enc.sz α) (j/Enc.sz α) (j%Enc.sz α)=⟨blk,off+j,none⟩:=by
     have:off+(j/Enc.sz α)*Enc.sz α+j%Enc.sz α=off+j:=by rw [Nat.add_assoc,←hkk]
     simp [Sl.adr,this]
    rw [←e];exact h3
   have h1c:∀u∈encL m.l,u.oneCell' =true:=by
    intro u hu
    obtain ⟨x,hxm,hx⟩:=List.mem_flatMap.1 hu
    obtain ⟨q,hq,rfl⟩:=List.mem_map.1 hx
    obtain ⟨qi,hqi⟩:=List.getElem?_of_mem hxm
    have hql:=(List.getElem?_eq_some_iff.1 hqi).1
    have hqx:nth m.l qi=x:=by rw [nth_lt _ _ hql];exact (List.getElem?_eq_some_iff.1 hqi).2
    rw [←hqx];exact h1 w h.sh qi hql q (by simpa using hq)
   have h63:s.l.length+m.l.length≤maxLen:=by unfold maxLen;omega
   have hlm:(encL m.l).length=m.l.length*Enc.sz α:=length_encL _
   obtain ⟨v',w',hrun,ho',hg',_⟩:=run_append_own (P:=P) w 0 T o.type E i zv (Enc.sz α) by_ hu hi hzz hsz hby hzsz hsp s.v s.l.length (encL s.l) hown ad m.l.length cap (encL m.l) hlm hnews h1c h63 hn.1 (Nat.zero_le _)
   refine ⟨v',w',by rw [hmv];exact hrun,ho',hg',fun b hb=> ?_⟩
   rcases hown.2 with ⟨hv,h0⟩|⟨g,c2,cur,hv,_,hgc,hnc,hcm,hcs,htk⟩
   ·have hown2:w.ownsRow w.heap.size E (Enc.sz α) s.v s.l.length (encL s.l):=⟨hown.1, .inl ⟨hv,h0⟩⟩
    obtain ⟨v2,w2,hrun2,ho2,_⟩:=run_append_own (P:=P) w w.heap.size T o.type E i zv (Enc.sz α) by_ hu hi hzz hsz hby hzsz hsp s.v s.l.length (encL s.l) hown2 ad m.l.length cap (encL m.l) hlm hnews h1c h63 hn.1 (Nat.le_refl _)
    rw [hrun] at hrun2
    injection hrun2 with e1 e2
    subst e1
    exact .inr (ho2.lt b hb).1
   ·by_cases hroom:s.l.length+m.l.length≤c2
    ·have hr2:=run_append_room (P:=P) w T o.type E i hu hi g s.l.length c2 cur hgc ad m.l.length cap (encL m.l) (by rw [hlm,hsz]) hnews h1c hroom (by rw [hlm,hsz,hcs,←Nat.add_mul];exact Nat.mul_le_mul_right _ hroom)
     rw [hv,hr2] at hrun
     injection hrun with e1 e2
     subst e1
     left;rw [hv];exact hb
    ·have holds:∀(j:Nat) (u:Value),(encL s.l)[j]? =some u→w.cell? ((⟨g,0,none⟩:Addr).add j)=some u:=hown.cells (g:=g) (by rw [hv];rfl)
     have hr2:=run_append_grow (P:=P) w T o.type E i zv hu hi hzz ⟨g,0,none⟩ s.l.length c2 (encL s.l) (by rw [length_encL,hsz]) holds ad m.l.length cap (encL m.l) (by rw [hlm,hsz]) hnews (by omega) (by unfold maxLen at h63;omega) (growslice_fits (by omega) (by rw [hby];exact hn.1))
     rw [hv,hr2] at hrun
     injection hrun with e1 e2
     subst e1
     right
     have:w.heap.size=b:=by simpa [Value.ownBlock] using hb
     omega
 obtain ⟨v',w',hrun,ho',hg',hv'⟩:=key
 refine Ex.of_run (v:=v') (w' :=w') ?_ ⟨v', ?_⟩
 ·unfold execOp
  simp only [ho,resolve,invoke,builtin,Sem.run_bind,Sem.run_pure,Result.andThen_ok,List.map_toArray,List.map_cons,List.map_nil,h.fr.ev hx,h.fr.ev hy,hrun]
 ·rw [hd]
  have hmin:∀q,q<m.l.length→Enc.inner (nth m.l q) w' :=fun q hq=>Enc.keep _ w w' (hmat.inner q hq) fun b hb=>by
   have hbr:=hoi q hq b hb
   refine hg'.block b (h.sh.lt (List.mem_of_getElem? hrm) (.inr hbr)) (fun e=> ?_)
   exact ((hap b).1 e.symm).2 hbr
  have hsin:∀q,q<s.l.length→Enc.inner (nth s.l q) w' :=fun q hq=>Enc.keep _ w w' (hinn q hq) fun b hb=>by
   refine hg'.block b (h.sh.lt (List.mem_of_getElem? hr) (.inr ⟨q,hq,hb⟩)) (fun e=> ?_)
   exact hself b e.symm ⟨q,hq,hb⟩
  have honq:∀b,(∃q,q<(s.l++m.l).length∧Enc.on (nth (s.l++m.l) q) b)→(Asn.own E s).rd b∨B.rd b:=by
   rintro b ⟨q,hq,hb⟩
   rw [nth_append] at hb
   split at hb
   ·exact .inl ⟨q,by assumption,hb⟩
   ·exact .inr (hoi _ (by rw [List.length_append] at hq;omega) b hb)
  refine ⟨h.fr.put d (by simpa [Nat.blt_eq] using hdN) _,h.sh.put hr (Chg.grown hg' (fun k hk=>hk)) ⟨?_, ?_,fun q hq=> ?_⟩ (fun b hb=>hv' b hb) (fun b hb=> ?_) (fun b hb hb' => ?_)⟩
  ·show World.ownsRow _ 0 E _ v' (s.l++m.l).length (encL (s.l++m.l))
   rw [List.length_append,encL_append];exact ho'
  ·show (s.l++m.l).length≤_
   rw [List.length_append];exact hn.2
  ·show Enc.inner (nth (s.l++m.l) q) w'
   rw [nth_append]
   have hq' :q<s.l.length+m.l.length:=by rw [←List.length_append];exact hq
   split
   ·exact hsin q (by assumption)
   ·exact hmin _ (by omega)
  ·rcases honq b hb with hb|hb
   ·exact .inr (.inl hb)
   ·exact .inr (.inr (.inl ⟨B,List.mem_of_getElem? hrm,hb⟩))
  ·rcases honq b hb' with hr' |hr'
   ·rcases hv' b hb with hb|hb
    ·exact hself b hb hr'
    ·have:=h.sh.lt (List.mem_of_getElem? hr) (.inr hr');omega
   ·rcases hv' b hb with hb|hb
    ·exact ((hap b).1 hb).2 hr'
    ·have:=h.sh.lt (List.mem_of_getElem? hrm) (.inr hr');omega
end
theorem Sh.perm (h:Sh K W w L)(hp:L.Perm L'):Sh K W w L' :=
 ⟨h.chg,fun A hA=>h.ok A (hp.mem_iff.2 hA),fun A hA=>h.mine A (hp.mem_iff.2 hA),fun A hA=>h.self A (hp.mem_iff.2 hA),(List.Perm.pairwise_iff (fun {x y} hxy=>hxy.symm) hp).1 h.apart⟩
def thA (INT WT:TypeId)(x:ThL):List Asn:= [.own INT x.regs, .own WT x.wait]
def rowsA (INT WT:TypeId)(l:List ThL):List Asn:=l.flatMap (thA INT WT)
theorem rowsA_perm {INT WT:TypeId}{l l' :List ThL}(h:l.Perm l'):(rowsA INT WT l).Perm (rowsA INT WT l'):=by
 unfold rowsA
 induction h with
 |nil=>exact .refl _
 |cons x _ ih=>simp only [List.flatMap_cons];exact ih.append_left _
 |swap x y l=>
  simp only [List.flatMap_cons,←List.append_assoc]
  exact (List.perm_append_comm).append_right _
 |trans _ _ h1 h2=>exact h1.trans h2
theorem Sh.fold {INT WT:TypeId}{l:List ThL}{x:ThL}{L:List Asn}(h:Sh K W w (.own INT x.regs:: .own WT x.wait:: .big (rowsA INT WT l)::L)):Sh K W w (.big (rowsA INT WT (l++ [x]))::L):=by
 have h1:Sh K W w (.big (rowsA INT WT l)::(thA INT WT x++L)):=h.perm ((List.Perm.swap _ _ _).cons _|>.trans (List.Perm.swap _ _ _))
 have h2:=h1.open_
 rw [←List.append_assoc] at h2
 have e:rowsA INT WT (l++ [x])=rowsA INT WT l++thA INT WT x:=by simp [rowsA]
 rw [←e] at h2
 exact h2.close
theorem St.fold {INT WT:TypeId}{l:List ThL}{x:ThL}{L:List Asn}(h:St N K W a w F (.own INT x.regs:: .own WT x.wait:: .big (rowsA INT WT l)::L)):St N K W a w F (.big (rowsA INT WT (l++ [x]))::L):=⟨h.fr,h.sh.fold⟩
theorem Sh.openAt {INT WT:TypeId}{l:List ThL}{L:List Asn}(h:Sh K W w (.big (rowsA INT WT l)::L))(n:Nat)(hn:n<l.length):Sh K W w (.own INT (nth l n).regs:: .own WT (nth l n).wait:: .big (rowsA INT WT (l.eraseIdx n))::L):=by
 have h1:=h.open_.perm ((rowsA_perm (perm_erase l n hn)).append_right L)
 have e:rowsA INT WT (l[n]::l.eraseIdx n)= .own INT (nth l n).regs:: .own WT (nth l n).wait::rowsA INT WT (l.eraseIdx n):=by rw [nth_lt l n hn];rfl
 rw [e] at h1
 have h2:Sh K W w (rowsA INT WT (l.eraseIdx n)++(.own INT (nth l n).regs:: .own WT (nth l n).wait::L)):=h1.perm (by
  simp only [List.cons_append]
  exact ((List.perm_middle (a:=Asn.own WT (nth l n).wait) (l₁:=rowsA INT WT (l.eraseIdx n)) (l₂:=L)).symm.cons _).trans (List.perm_middle (a:=Asn.own INT (nth l n).regs) (l₁:=rowsA INT WT (l.eraseIdx n)) (l₂:=Asn.own WT (nth l n).wait::L)).symm)
 exact h2.close.perm ((List.Perm.swap _ _ _).trans ((List.Perm.swap _ _ _).cons _))
theorem Sh.closeAt {INT WT:TypeId}{l:List ThL}{x:ThL}{L:List Asn}(n:Nat)(hn:n<l.length)(h:Sh K W w (.own INT x.regs:: .own WT x.wait:: .big (rowsA INT WT (l.eraseIdx n))::L)):Sh K W w (.big (rowsA INT WT (l.set n x))::L):=by
 have h1:Sh K W w (.big (rowsA INT WT (l.eraseIdx n))::(thA INT WT x++L)):=h.perm ((List.Perm.swap _ _ _).cons _|>.trans (List.Perm.swap _ _ _))
 have h2:=h1.open_
 rw [←List.append_assoc] at h2
 have e:(rowsA INT WT (l.eraseIdx n)++thA INT WT x).Perm (rowsA INT WT (l.set n x)):=by
  refine List.perm_append_comm.trans ?_
  have:thA INT WT x++rowsA INT WT (l.eraseIdx n)=rowsA INT WT (x::l.eraseIdx n):=by simp [rowsA]
  rw [this]
  exact rowsA_perm (perm_set x l n hn).symm
 exact (h2.perm (e.append_right L)).close
theorem St.big0 (INT WT:TypeId)(h:St N K W a w F L):St N K W a w F (.big (rowsA INT WT [])::L):=
 ⟨h.fr,h.sh.push (Chg.refl _ _) ⟨fun A hA=>(by cases hA), .nil,fun A hA=>(by cases hA)⟩ (fun b hb=>(by obtain ⟨A,hA,_⟩:=hb;cases hA)) (fun b hb=>(by obtain ⟨A,hA,_⟩:=hb;cases hA)) (fun b hb=>(by obtain ⟨A,hA,_⟩:=hb;cases hA))⟩
end
structure OutL where
 st:Int
 words:Ls Int
 prints:Ls Int
instance : Inhabited OutL:=⟨⟨0,default,default⟩⟩
def OutL.cell (x:OutL):Nat→Value
 |0=> .int .i64 x.st
 |1=>x.words.v
 |_=>x.prints.v
instance : Enc OutL where
 sz:=3
 cell:=OutL.cell
 whole x:= .agg #[.int .i64 x.st,x.words.v,x.prints.v]
 agg:=true
 inner x w:=x.words.At w∧x.prints.At w
 on x b:=x.words.on b∨x.prints.on b
 one h:=by cases h
 many _ _:=rfl
 keep _ _ _ h hb:=⟨h.1.keep fun b hb' =>hb b (.inl hb'),h.2.keep fun b hb' =>hb b (.inr hb')⟩
 lt _ _ h _ hb:=hb.elim (fun hb=>h.1.lt hb) (fun hb=>h.2.lt hb)
instance : One OutL:=⟨fun x w h q hq=>by
 rcases q with _|_|q
 ·rfl
 ·exact Ls.At.one (s:=x.words) h.1
 ·exact Ls.At.one (s:=x.prints) h.2⟩
structure Outc where
 st:Int
 words:List Int
 prints:List Int
 deriving DecidableEq
instance : Inhabited Outc:=⟨⟨0, [], []⟩⟩
def OutL.out (x:OutL):Outc:=⟨x.st,x.words.l,x.prints.l⟩
structure SD where
 g:Nat
 E:TypeId
 hd:List Value
 thr:Ls ThL
 words:Ls Int
 owner:Ls Int
 prints:Ls Int
 fell:Bool
instance : Inhabited SD:=⟨⟨0,0, [],default,default,default,default,false⟩⟩
def SD.cells (x:SD):List Value:=x.hd++ [x.thr.v,x.words.v,x.owner.v,x.prints.v, .bool x.fell]
def SD.ptr (x:SD):Value:= .pointer (some ⟨x.g,0,none⟩)
instance : Enc SD where
 sz:=1
 cell x _:=x.ptr
 whole x:=x.ptr
 agg:=false
 inner x w:=Blk w x.g x.E x.cells.toArray∧x.thr.At w∧x.words.At w∧x.owner.At w∧x.prints.At w
 on x b:=b=x.g∨x.thr.on b∨x.words.on b∨x.owner.on b∨x.prints.on b
 one _:=⟨rfl,fun _=>rfl⟩
 many h:=by cases h
 keep _ _ _ h hb:=⟨(hb _ (.inl rfl)).trans h.1,h.2.1.keep fun b hb' =>hb b (.inr (.inl hb')),h.2.2.1.keep fun b hb' =>hb b (.inr (.inr (.inl hb'))),h.2.2.2.1.keep fun b hb' =>hb b (.inr (.inr (.inr (.inl hb')))),h.2.2.2.2.keep fun b hb' =>hb b (.inr (.inr (.inr (.inr hb'))))⟩
 lt _ _ h _ hb:=by
  rcases hb with rfl|hb|hb|hb|hb
  ·exact h.1.lt
  ·exact h.2.1.lt hb
  ·exact h.2.2.1.lt hb
  ·exact h.2.2.2.1.lt hb
  ·exact h.2.2.2.2.lt hb
instance : One SD:=⟨fun _ _ _ _ _=>rfl⟩
def SD.st (x:SD):MSt:=⟨x.thr.l.map ThL.th,x.words.l,x.owner.l,x.prints.l⟩
def Asn.rd1 {α:Type}[Enc α](x:α):Asn where
 fp _:=False
 rd:=Enc.on x
 ok w:=Enc.inner x w
 keep w w' h hb:=Enc.keep x w w' h fun b hb' =>hb b (.inr hb')
 lt w h b hb:=by rcases hb with hb|hb;exact hb.elim;exact Enc.lt x w h b hb
section
variable {P:Program}{N:Nat}{K:Nat→Prop}{W w:World}{a:Act}{F F' :List (Nat×Value)}{L L' :List Asn}
theorem Sh.freeze {ST TH INT WT:TypeId}{g:Nat}{hd:List Value}{vt:Value}{rows:List ThL}{words owner prints:Ls Int}{fell:Bool}{L:List Asn}
  (h:Sh K W w (.blk g ST (hd++ [vt,words.v,owner.v,prints.v, .bool fell]):: .own TH (⟨vt,rows.map ThL.toV⟩:Ls ThV):: .big (rowsA INT WT rows):: .own INT words:: .own INT owner:: .own INT prints::L)):
  Sh K W w (.rd1 (⟨g,ST,hd,⟨vt,rows⟩,words,owner,prints,fell⟩:SD)::L)∧∀b,Enc.on (⟨g,ST,hd,⟨vt,rows⟩,words,owner,prints,fell⟩:SD) b→K b∨W.heap.size≤b:=by
 have o1:=h.ok _ (List.mem_of_getElem? (i:=0) rfl)
 have o2:=h.ok _ (List.mem_of_getElem? (i:=1) rfl)
 have o3:=h.ok _ (List.mem_of_getElem? (i:=2) rfl)
 have o4:=h.ok _ (List.mem_of_getElem? (i:=3) rfl)
 have o5:=h.ok _ (List.mem_of_getElem? (i:=4) rfl)
 have o6:=h.ok _ (List.mem_of_getElem? (i:=5) rfl)
 have hrow:∀x,x∈rows→(Asn.own INT x.regs).ok w∧(Asn.own WT x.wait).ok w:=fun x hx=>
  ⟨o3.1 _ (List.mem_flatMap.2 ⟨x,hx,by simp [thA]⟩),o3.1 _ (List.mem_flatMap.2 ⟨x,hx,by simp [thA]⟩)⟩
 have hat:(⟨vt,rows⟩:Ls ThL).At w:=ThV.atL (own_at o2) rfl fun i hi=>by
  have:=hrow _ (nth_mem _ _ hi)
  exact ⟨own_at this.1,own_at this.2⟩
 have key:∀b,Enc.on (⟨g,ST,hd,⟨vt,rows⟩,words,owner,prints,fell⟩:SD) b→∃B∈ [Asn.blk g ST (hd++ [vt,words.v,owner.v,prints.v, .bool fell]), .own TH (⟨vt,rows.map ThL.toV⟩:Ls ThV), .big (rowsA INT WT rows), .own INT words, .own INT owner, .own INT prints],B.fp b:=by
  have flat:∀ {α:Type} [Enc α] [Flat α] {E:TypeId} {s:Ls α} {b:Nat},(Asn.own E s).ok w→s.on b→(Asn.own E s).fp b:=fun {α} _ _ {E} {s} {b} ho hb=>by
   rcases own_on ho hb with h|h
   ·exact h
   ·exact Flat.noRd h
  intro b hb
  rcases hb with rfl|hb|hb|hb|hb
  ·exact ⟨_,List.mem_of_getElem? (i:=0) rfl,rfl⟩
  ·rcases hb with ⟨h0,hb⟩|⟨i,hi,hb⟩
   ·exact ⟨_,List.mem_of_getElem? (i:=1) rfl,flat o2 (.inl ⟨by simpa using h0,hb⟩)⟩
   ·have hm:=nth_mem _ _ hi
    have:=hrow _ hm
    refine ⟨_,List.mem_of_getElem? (i:=2) rfl, ?_⟩
    rcases hb with hb|hb
    ·exact ⟨_,List.mem_flatMap.2 ⟨_,hm,List.mem_of_getElem? (i:=0) rfl⟩,flat this.1 hb⟩
    ·exact ⟨_,List.mem_flatMap.2 ⟨_,hm,List.mem_of_getElem? (i:=1) rfl⟩,flat this.2 hb⟩
  ·exact ⟨_,List.mem_of_getElem? (i:=3) rfl,flat o4 hb⟩
  ·exact ⟨_,List.mem_of_getElem? (i:=4) rfl,flat o5 hb⟩
  ·exact ⟨_,List.mem_of_getElem? (i:=5) rfl,flat o6 hb⟩
 constructor
 ·refine Sh.step (Lp:= [Asn.blk g ST (hd++ [vt,words.v,owner.v,prints.v, .bool fell]), .own TH (⟨vt,rows.map ThL.toV⟩:Ls ThV), .big (rowsA INT WT rows), .own INT words, .own INT owner, .own INT prints]) (Lr:=L) (L' := [.rd1 (⟨g,ST,hd,⟨vt,rows⟩,words,owner,prints,fell⟩:SD)]) h (Chg.refl _ _) ?_ ?_ ?_ ?_ (List.pairwise_singleton _ _)
  ·simpa using (show (Asn.rd1 (⟨g,ST,hd,⟨vt,rows⟩,words,owner,prints,fell⟩:SD)).ok w from ⟨o1,hat,own_at o4,own_at o5,own_at o6⟩)
  ·intro A hA b hb;simp at hA;subst hA;exact hb.elim
  ·intro A hA b hb
   simp only [List.mem_singleton] at hA
   subst hA
   obtain ⟨B,hB,hb⟩:=key b hb
   exact .inl ⟨B,hB, .inl hb⟩
  ·intro A hA b hb;simp at hA;subst hA;exact hb.elim
 ·intro b hb
  obtain ⟨B,hB,hb⟩:=key b hb
  exact h.mine B (by simp only [List.mem_cons,List.not_mem_nil,or_false] at hB⊢;rcases hB with h|h|h|h|h|h<;>simp [h]) b hb
theorem Sh.addRd (h:Sh K W w L){A:Asn}(hok:A.ok w)(hfp:∀b,¬A.fp b)(hrd:∀b,A.rd b→∃B∈L,B.rd b):Sh K W w (A::L):=
 h.push (Chg.refl _ _) hok (fun b hb=>(hfp b hb).elim) (fun b hb=> .inl (hrd b hb)) (fun b hb=>(hfp b hb).elim)
theorem St.addRd (h:St N K W a w F L){A:Asn}(hok:A.ok w)(hfp:∀b,¬A.fp b)(hrd:∀b,A.rd b→∃B∈L,B.rd b):St N K W a w F (A::L):=⟨h.fr,h.sh.addRd hok hfp hrd⟩
end
def toU (x:Int):Nat:=(x%18446744073709551616).toNat
theorem toU_lt (x:Int):toU x<18446744073709551616:=by unfold toU;omega
theorem xor_lt64 {a b:Nat}(ha:a<18446744073709551616)(hb:b<18446744073709551616):a^^^b<18446744073709551616:=Nat.xor_lt_two_pow (n:=64) (by omega) (by omega)
section
variable {P:Program}{o:Oper}{N:Nat}{K:Nat→Prop}{W w:World}{F:List (Nat×Value)}{L:List Asn}{T U D:TypeId}{x y:Operand}
theorem r_cvU {p:Int}(hs:P.underlying T=some (.int .i64))(hd:P.underlying D=some (.int .u64))(ho:o.op= .convert T D x)(hx:ev F x=some (.int .i64 p)):Rn P o N K W F L (.int .u64 ((toU p:Nat):Int)):=fun a w h=>by
 have hk:P.intKind D= .u64:=by simp [Program.intKind,hd]
 have e:=run_convert_int (P:=P) (w:=w) T D .i64 p (by rw [hs];rfl) (by rw [hk];exact hd)
 rw [hk,IntKind.wrap_u64,show p%18446744073709551616=((toU p:Nat):Int) by unfold toU;omega] at e
 unfold execOp
 simp only [ho,h.fr.ev hx,Sem.run_bind,e,Result.andThen_ok,Sem.run_pure]
theorem r_cvI {p:Nat}(hs:P.underlying T=some (.int .u64))(hd:P.underlying D=some (.int .i64))(ho:o.op= .convert T D x)(hx:ev F x=some (.int .u64 ((p:Nat):Int)))(hp:p<9223372036854775808):Rn P o N K W F L (.int .i64 ((p:Nat):Int)):=fun a w h=>by
 have hk:P.intKind D= .i64:=by simp [Program.intKind,hd]
 have e:=run_convert_int (P:=P) (w:=w) T D .u64 (p:Int) (by rw [hs];rfl) (by rw [hk];exact hd)
 rw [hk,IntWalk.i64_in _ ⟨by omega,by omega⟩] at e
 unfold execOp
 simp only [ho,h.fr.ev hx,Sem.run_bind,e,Result.andThen_ok,Sem.run_pure]
theorem r_xorU {p q:Nat}(ho:o.op= .binOp .xor T x y U)(hx:ev F x=some (.int .u64 ((p:Nat):Int)))(hy:ev F y=some (.int .u64 ((q:Nat):Int)))(hb:p<18446744073709551616∧q<18446744073709551616):Rn P o N K W F L (.int .u64 (((p^^^q:Nat)):Int)):=r_bin ho hx hy fun w=>by
 rw [binOp_xor]
 have:Op.intBits .xor .u64 (p:Int) (q:Int)=pure (.int .u64 (bits .xor .u64 p q)):=rfl
 rw [this,bits_xor_u64_nat _ _ hb.1 hb.2];rfl
theorem r_mulU {p q:Nat}(ho:o.op= .binOp .mul T x y U)(hx:ev F x=some (.int .u64 ((p:Nat):Int)))(hy:ev F y=some (.int .u64 ((q:Nat):Int))):Rn P o N K W F L (.int .u64 (((p*q%18446744073709551616:Nat)):Int)):=r_bin ho hx hy fun w=>by
 simp [go_sem,IntKind.wrap_u64]
theorem r_shrU {p k:Nat}(ho:o.op= .binOp .shr T x y U)(hx:ev F x=some (.int .u64 ((p:Nat):Int)))(hy:ev F y=some (.int .u64 ((k:Nat):Int)))(hk:k≤64):Rn P o N K W F L (.int .u64 (((p/2^k:Nat)):Int)):=r_bin ho hx hy fun w=>by
 rw [binOp_shr,shift_shr .u64 .u64 _ _ (by omega) (by show ((k:Nat):Int)≤64;omega)]
 simp
theorem r_remU {p q:Nat}(ho:o.op= .binOp .rem T x y U)(hx:ev F x=some (.int .u64 ((p:Nat):Int)))(hy:ev F y=some (.int .u64 ((q:Nat):Int)))(hq:0<q):Rn P o N K W F L (.int .u64 (((p%q:Nat)):Int)):=r_bin ho hx hy fun w=>by
 have h1:¬(q:Int)=0:=by omega
 have h0:¬q=0:=by omega
 have h2:(p:Int).tmod q=((p%q:Nat):Int):=by rw [Int.tmod_eq_emod_of_nonneg (by omega)];rfl
 simp [go_sem,h0,h1,h2]
end
section
variable {P:Program}{o:Oper}{N:Nat}{K:Nat→Prop}{W w:World}{F:List (Nat×Value)}{L:List Asn}{T U D:TypeId}{x y:Operand}
theorem r_cvUN {p:Nat}(hs:P.underlying T=some (.int .i64))(hd:P.underlying D=some (.int .u64))(ho:o.op= .convert T D x)(hx:ev F x=some (.int .i64 ((p:Nat):Int)))(hp:p<18446744073709551616):Rn P o N K W F L (.int .u64 ((p:Nat):Int)):=by
 have h:=r_cvU (P:=P) (N:=N) (K:=K) (W:=W) (L:=L) hs hd ho hx
 rwa [show toU ((p:Nat):Int)=p by unfold toU;omega] at h
theorem r_andS {p:Nat}(ho:o.op= .binOp .and T x y U)(hx:ev F x=some (.int .u64 ((p:Nat):Int)))(hy:ev F y=some (.int .u64 4294967295))(hp:p<4294967296):Rn P o N K W F L (.int .u64 ((p:Nat):Int)):=r_bin ho hx hy fun w=>by
 rw [binOp_and]
 have h1:Op.intBits .and .u64 (p:Int) 4294967295=pure (.int .u64 (bits .and .u64 p 4294967295)):=rfl
 have h2:=bits_and_u64_nat p 4294967295 (by omega) (by omega)
 have e:p&&&4294967295=p:=by rw [show (4294967295:Nat)=2^32-1 from rfl,Nat.and_two_pow_sub_one_eq_mod];exact Nat.mod_eq_of_lt hp
 rw [h1,show (4294967295:Int)=((4294967295:Nat):Int) from rfl,h2,e];rfl
theorem r_shrS {p:Nat}(ho:o.op= .binOp .shr T x y U)(hx:ev F x=some (.int .u64 ((p:Nat):Int)))(hy:ev F y=some (.int .u64 32))(hp:p<4294967296):Rn P o N K W F L (.int .u64 ((0:Nat):Int)):=by
 have h:=r_shrU (P:=P) (N:=N) (K:=K) (W:=W) (L:=L) (k:=32) ho hx hy (by decide)
 rwa [show p/2^32=0 from Nat.div_eq_of_lt hp] at h
theorem r_mulS {p q r:Nat}(ho:o.op= .binOp .mul T x y U)(hx:ev F x=some (.int .u64 ((p:Nat):Int)))(hy:ev F y=some (.int .u64 ((q:Nat):Int)))(hr:p*q=r)(hb:r<18446744073709551616):Rn P o N K W F L (.int .u64 ((r:Nat):Int)):=by
 have h:=r_mulU (P:=P) (N:=N) (K:=K) (W:=W) (L:=L) ho hx hy
 rwa [hr,Nat.mod_eq_of_lt hb] at h
theorem r_addS {p q r:Nat}(ho:o.op= .binOp .add T x y U)(hx:ev F x=some (.int .u64 ((p:Nat):Int)))(hy:ev F y=some (.int .u64 ((q:Nat):Int)))(hr:p+q=r)(hb:r<18446744073709551616):Rn P o N K W F L (.int .u64 ((r:Nat):Int)):=r_bin ho hx hy fun w=>by
 subst hr
 have:(((p:Nat):Int)+(q:Nat))%18446744073709551616=((p+q:Nat):Int):=by omega
 simp [go_sem,IntKind.wrap_u64,this]
end
set_option maxHeartbeats 16000000
theorem swapR_c (bf:FuncId)(us ws:List Value)(cf:Int→Int→Int)(Env:Asn)(D:Int→Prop)(K:Nat→Prop)(v0:Value)(l:List Int)(pa pb pn:Nat)(W:World)(hbd:bodyI Try.prog bf=true)(hcf:∀(w:World) (x y:Int),Env.ok w→D x→D y→Rets Try.prog bf (us++ [.int .i64 x, .int .i64 y]++ws) w (fun v w' =>v= .int .i64 (cf x y)∧Sh0 w w' []))(hS:Sh K W W [.own 3 (⟨v0,l⟩:Ls Int),Env])(hD:∀x∈l,D x)(hl:l.length≤1000)(h1:pa+pn≤l.length)(h2:pb+pn≤l.length):
    Rets Try.prog 110 [v0, .int .i64 ((pa:Nat):Int), .int .i64 ((pb:Nat):Int), .int .i64 ((pn:Nat):Int), .func (.func bf) us.toArray ws.toArray] W (fun v w' =>v= .tuple #[]∧∃k:List Int,k.Perm l∧Sh K W w' [.own 3 (⟨v0,k⟩:Ls Int),Env]):=by
 refine gen Try.func110 Try.ntmps110 hS rfl fun a10 h10=>gG h10<|sG (oM 1 rfl<|.nl)<|gB<|fun a13 w13 h13=>x_loop (fun m a w=>∃(q:Nat) (l1:List Int),(q≤pn)∧(l1.Perm l)∧St 38 K W a w [(0,v0),(1, .int .i64 ((pa:Nat):Int)),(2, .int .i64 ((pb:Nat):Int)),(3, .int .i64 ((pn:Nat):Int)),(10, .int .i64 ((q:Nat):Int))] [.own 3 (⟨v0,l1⟩:Ls Int),Env]∧m=pn-q) ⟨_,0,l,(by omega),(List.Perm.refl _),h13.nf ⟨rfl,rfl,rfl,rfl,rfl,trivial⟩,rfl⟩ ?_;clear h10
 clear h13
 rintro m12 a12 w12 ⟨q,l1,hq,hp1,h12,hm12⟩
 have hLl:=hp1.length_eq
 have hDl:∀x∈l1,D x:=fun x hx=>hD x (hp1.mem_iff.1 hx)
 refine gG h12<|gK fun _ k14=>sG (oM 2 rfl<|oltN _ _ rfl<|.nl)<|?_;clear h12
 refine gcd rfl (fun hb16 hp16=> ?_) fun hb16 hp16=> ?_
 ·skip
  refine gS<|hK k14<|gK fun _ k17=>gB<|gNl (aO 0 rfl) fun (hl18:l1.length≤140737488355328)=>rC [21,23] rfl<|pR [0,1,2,3,4,5,6,7,8,9,10,11,12,13,14,15,16,17,18,19,20] rfl (oM 3 rfl<|oadN _ _ om9 rfl<|oM 3 rfl<|oadN _ _ om9 rfl<|oM 3 rfl<|oadN _ _ om9 rfl<|oxN sl_23 ti_3 (aO 0 rfl) _ om9 rfl<|olE (.int .i64 (nth l1 (pb+q))) ti_3 (aO 0 rfl) om9 rfl<|oM 3 rfl<|oadN _ _ om9 rfl<|oxN sl_23 ti_3 (aO 0 rfl) _ om9 rfl<|olE (.int .i64 (nth l1 (pa+q))) ti_3 (aO 0 rfl) om9 rfl<|oxN sl_23 ti_3 (aO 0 rfl) _ om9 rfl<|.nl) rfl<|pS (fun _ _ h_=>x_ste (r:=0) (i:=pa+q) (j:=0) (x' :=(nth l1 (pb+q):Int)) h_ ti_3 rfl rfl rfl rfl rfl (show pa+q<l1.length from om9) (Nat.le_of_ble_eq_true rfl) rfl rfl rfl (by intro q hq;obtain rfl:q=0:=(by omega);rfl) (fun w h=>Flat.inner _ _) (fun b hb=>(Flat.on _ _ hb).elim)) rfl<|pR [4,5,6,7,22] rfl (oM 3 rfl<|oadN _ _ om9 rfl<|oxN sl_23 ti_3 (aO 0 rfl) _ (show pb+q<(l1.set (pa+q) (nth l1 (pb+q))).length from om9) rfl<|.nl) rfl<|pS (fun _ _ h_=>x_ste (r:=0) (i:=pb+q) (j:=0) (x' :=(nth l1 (pa+q):Int)) h_ ti_3 rfl rfl rfl rfl rfl (show pb+q<(l1.set (pa+q) (nth l1 (pb+q))).length from om9) (Nat.le_of_ble_eq_true rfl) rfl rfl rfl (by intro q hq;obtain rfl:q=0:=(by omega);rfl) (fun w h=>Flat.inner _ _) (fun b hb=>(Flat.on _ _ hb).elim)) rfl<|pE [] rfl (.nl) rfl<|hK k17<|gF [0,1,2,3,10] rfl<|gL<|gRn (oM 1 rfl<|oadN _ 1 om9 rfl<|oM 1 rfl<|.nl)<|nN<|fun a21 w21 h21=> ?_
  refine x_again ⟨_, ?_,q+1,(l1.set (pa+q) (nth l1 (pb+q))).set (pb+q) (nth l1 (pa+q)), ?_, ?_,h21.nf ⟨rfl,rfl,rfl,rfl,rfl,trivial⟩,rfl⟩
  · rw [hm12];first|omega|(simp only [lens9];omega)
  · omega
  · first|exact (swap_perm (by omega) (by omega)).trans hp1|exact (swap_permR (by omega) (by omega)).trans hp1|exact hp1
 refine gX<|fun a22 w22 h22=> ?_
 try simp only [Exit.then,Exit.inBlock,if_true]
 refine x_end0 (fn:=Try.f110) rfl h22 ?_
 exact ⟨rfl,l1,hp1,h22.sh⟩
theorem rot_c (bf:FuncId)(us ws:List Value)(cf:Int→Int→Int)(Env:Asn)(D:Int→Prop)(K:Nat→Prop)(v0:Value)(l:List Int)(pa pm pb:Nat)(W:World)(hbd:bodyI Try.prog bf=true)(hcf:∀(w:World) (x y:Int),Env.ok w→D x→D y→Rets Try.prog bf (us++ [.int .i64 x, .int .i64 y]++ws) w (fun v w' =>v= .int .i64 (cf x y)∧Sh0 w w' []))(hS:Sh K W W [.own 3 (⟨v0,l⟩:Ls Int),Env])(hD:∀x∈l,D x)(hl:l.length≤1000)(h1:pa<pm)(h2:pm<pb)(h3:pb≤l.length):
    Rets Try.prog 98 [v0, .int .i64 ((pa:Nat):Int), .int .i64 ((pm:Nat):Int), .int .i64 ((pb:Nat):Int), .func (.func bf) us.toArray ws.toArray] W (fun v w' =>v= .tuple #[]∧∃k:List Int,k.Perm l∧Sh K W w' [.own 3 (⟨v0,k⟩:Ls Int),Env]):=by
 refine gen Try.func98 Try.ntmps98 hS rfl fun a10 h10=>gG h10<|sG (oM 2 rfl<|osbN _ _ om9 rfl<|oM 1 rfl<|.nl)<|sG (oM 2 rfl<|osbN _ _ om9 rfl<|oM 1 rfl<|.nl)<|gK fun _ k13=>gB<|fun a15 w15 h15=>x_loop (fun m a w=>∃(i j:Nat) (l1:List Int),(0<i∧i≤pm-pa)∧(0<j∧j≤pb-pm)∧(l1.Perm l)∧St 58 K W a w [(0,v0),(2, .int .i64 ((pm:Nat):Int)),(4, .func (.func bf) us.toArray ws.toArray),(10, .int .i64 ((i:Nat):Int)),(11, .int .i64 ((j:Nat):Int))] [.own 3 (⟨v0,l1⟩:Ls Int),Env]∧m=i+j) ⟨_,pm-pa,pb-pm,l,(by omega),(by omega),(List.Perm.refl _),h15.nf ⟨rfl,rfl,rfl,rfl,rfl,trivial⟩,rfl⟩ ?_;clear h10
 clear h15
 rintro m14 a14 w14 ⟨i,j,l1,hi,hj,hp1,h14,hm14⟩
 have hLl:=hp1.length_eq
 refine gG h14<|gK fun _ k16=>sG (oM 2 rfl<|oneN _ _ rfl<|.nl)<|?_;clear h14
 refine gcd rfl (fun hb18 hp18=> ?_) fun hb18 hp18=> ?_
 ·skip
  refine gS<|hK k16<|gB<|sG (oM 2 rfl<|ogtN _ _ rfl<|.nl)<|gcd rfl (fun hb20 hp20=> ?_) fun hb20 hp20=> ?_
  ·skip
   refine sK fun _ k21=>gRn (oM 3 rfl<|osbN _ _ om9 rfl<|oM 3 rfl<|.nl)<|fun a25 w25 h25=> ?_
   have hp24:=h25.sh.passL (Lp:= [_,_])
   refine wl_ex (x_call h25 bd_110 rfl rfl rfl rfl rfl (swapR_c bf us ws cf Env D _ v0 l1 (pm-i) pm j _ hbd hcf hp24 (fun x hx=>hD x ((hp1).mem_iff.1 hx)) (by omega) (by omega) (by omega))) (wanted_none rfl _) ?_
   rintro a26 w26 ⟨_,⟨rfl,k26,hpk26,hs26⟩,hf26⟩
   have hpp26:=hpk26.trans hp1;have hLk26:=hpp26.length_eq;have hDk26:∀x∈k26,D x:=fun x hx=>hD x (hpp26.mem_iff.1 hx)
   have h26:St _ K W a26 w26 _ [_,_]:=⟨hf26,h25.sh.backI (Lp:= [_,_]) hs26⟩
   clear hf26 hs26
   clear h25
   refine gG h26<|nK k21<|gL<|gRn (oM 2 rfl<|osbN _ _ om9 rfl<|oM 1 rfl<|.nl)<|nN<|fun a27 w27 h27=> ?_;clear h26
   change∃_m,_m<_∧_
   have hpz:=hpp26
   refine ⟨_, ?_,i-j,j,k26, ?_, ?_, ?_,h27.nf ⟨rfl,rfl,rfl,rfl,rfl,trivial⟩,rfl⟩
   · rw [hm14];first|omega|(simp only [lens9];omega)
   · omega
   · omega
   · exact hpz
  refine sK fun _ k28=>gRn (oM 3 rfl<|osbN _ _ om9 rfl<|oM 2 rfl<|oadN _ _ om9 rfl<|oM 1 rfl<|osbN _ _ om9 rfl<|oM 2 rfl<|.nl)<|fun a32 w32 h32=> ?_
  have hp31:=h32.sh.passL (Lp:= [_,_])
  refine wl_ex (x_call h32 bd_110 rfl rfl rfl rfl rfl (swapR_c bf us ws cf Env D _ v0 l1 (pm-i) ((pm+j)-i) i _ hbd hcf hp31 (fun x hx=>hD x ((hp1).mem_iff.1 hx)) (by omega) (by omega) (by omega))) (wanted_none rfl _) ?_
  rintro a33 w33 ⟨_,⟨rfl,k33,hpk33,hs33⟩,hf33⟩
  have hpp33:=hpk33.trans hp1;have hLk33:=hpp33.length_eq;have hDk33:∀x∈k33,D x:=fun x hx=>hD x (hpp33.mem_iff.1 hx)
  have h33:St _ K W a33 w33 _ [_,_]:=⟨hf33,h32.sh.backI (Lp:= [_,_]) hs33⟩
  clear hf33 hs33
  clear h32
  refine gG h33<|nK k28<|gL<|gRn (oM 2 rfl<|osbN _ _ om9 rfl<|oM 1 rfl<|.nl)<|nN<|fun a34 w34 h34=> ?_;clear h33
  change∃_m,_m<_∧_
  have hpz:=hpp33
  refine ⟨_, ?_,i,j-i,k33, ?_, ?_, ?_,h34.nf ⟨rfl,rfl,rfl,rfl,rfl,trivial⟩,rfl⟩
  · rw [hm14];first|omega|(simp only [lens9];omega)
  · omega
  · omega
  · exact hpz
 refine gX<|hK k13<|gL<|gRn (oM 3 rfl<|osbN _ _ om9 rfl<|oM 3 rfl<|.nl)<|fun a38 w38 h38=> ?_
 have hp37:=h38.sh.passL (Lp:= [_,_])
 refine wl_ex (x_call h38 bd_110 rfl rfl rfl rfl rfl (swapR_c bf us ws cf Env D _ v0 l1 (pm-i) pm i _ hbd hcf hp37 (fun x hx=>hD x ((hp1).mem_iff.1 hx)) (by omega) (by omega) (by omega))) (wanted_none rfl _) ?_
 rintro a39 w39 ⟨_,⟨rfl,k39,hpk39,hs39⟩,hf39⟩
 have hpp39:=hpk39.trans hp1;have hLk39:=hpp39.length_eq;have hDk39:∀x∈k39,D x:=fun x hx=>hD x (hpp39.mem_iff.1 hx)
 have h39:St _ K W a39 w39 _ [_,_]:=⟨hf39,h38.sh.backI (Lp:= [_,_]) hs39⟩
 clear hf39 hs39
 clear h38
 refine gG h39<|nN<|fun a40 w40 h40=> ?_;clear h39
 try simp only [Exit.then,Exit.inBlock,if_true]
 refine x_end0 (fn:=Try.f98) rfl h40 ?_
 exact ⟨rfl,k39,hpp39,h40.sh⟩
theorem insS_c (bf:FuncId)(us ws:List Value)(cf:Int→Int→Int)(Env:Asn)(D:Int→Prop)(K:Nat→Prop)(v0:Value)(l:List Int)(pa pb:Nat)(W:World)(hbd:bodyI Try.prog bf=true)(hcf:∀(w:World) (x y:Int),Env.ok w→D x→D y→Rets Try.prog bf (us++ [.int .i64 x, .int .i64 y]++ws) w (fun v w' =>v= .int .i64 (cf x y)∧Sh0 w w' []))(hS:Sh K W W [.own 3 (⟨v0,l⟩:Ls Int),Env])(hD:∀x∈l,D x)(hl:l.length≤1000)(h1:pa≤pb)(h2:pb≤l.length):
    Rets Try.prog 91 [v0, .int .i64 ((pa:Nat):Int), .int .i64 ((pb:Nat):Int), .func (.func bf) us.toArray ws.toArray] W (fun v w' =>v= .tuple #[]∧∃k:List Int,k.Perm l∧Sh K W w' [.own 3 (⟨v0,k⟩:Ls Int),Env]):=by
 refine gen Try.func91 Try.ntmps91 hS rfl fun a10 h10=>gG h10<|sG (oM 1 rfl<|oadN _ 1 om9 rfl<|oM 1 rfl<|.nl)<|gB<|fun a13 w13 h13=>x_loop (fun m a w=>∃(i:Nat) (l1:List Int),(pa+1≤i∧(i≤pb∨i=pa+1))∧(l1.Perm l)∧St 53 K W a w [(0,v0),(1, .int .i64 ((pa:Nat):Int)),(2, .int .i64 ((pb:Nat):Int)),(3, .func (.func bf) us.toArray ws.toArray),(8, .int .i64 ((i:Nat):Int))] [.own 3 (⟨v0,l1⟩:Ls Int),Env]∧m=pb+1-i) ⟨_,pa+1,l,(by omega),(List.Perm.refl _),h13.nf ⟨rfl,rfl,rfl,rfl,rfl,trivial⟩,rfl⟩ ?_;clear h10
 clear h13
 rintro m12 a12 w12 ⟨i,l1,hi,hp1,h12,hm12⟩
 have hLl:=hp1.length_eq
 have hDl:∀x∈l1,D x:=fun x hx=>hD x (hp1.mem_iff.1 hx)
 refine gG h12<|gK fun _ k14=>sG (oM 2 rfl<|oltN _ _ rfl<|.nl)<|?_;clear h12
 refine gcd rfl (fun hb16 hp16=> ?_) fun hb16 hp16=> ?_
 ·skip
  refine gS<|hK k14<|gK fun _ k17=>gB<|sG (oM 2 rfl<|.nl)<|gB<|fun a20 w20 h20=>x_loop (fun m a w=>∃(j:Nat) (l2:List Int),(pa≤j∧j≤i)∧(l2.Perm l)∧St 53 K W a w [(0,v0),(1, .int .i64 ((pa:Nat):Int)),(2, .int .i64 ((pb:Nat):Int)),(3, .func (.func bf) us.toArray ws.toArray),(8, .int .i64 ((i:Nat):Int)),(9, .int .i64 ((j:Nat):Int))] [.own 3 (⟨v0,l2⟩:Ls Int),Env]∧m=j) ⟨_,i,l1,(by omega),(hp1),h20.nf ⟨rfl,rfl,rfl,rfl,rfl,rfl,trivial⟩,rfl⟩ ?_
  clear h20
  rintro m19 a19 w19 ⟨j,l2,hj,hp2,h19,hm19⟩
  have hLl:=hp2.length_eq
  have hDl:∀x∈l2,D x:=fun x hx=>hD x (hp2.mem_iff.1 hx)
  refine gG h19<|gK fun _ k21=>gK fun _ k22=>fun a23 w23 h23=>x_quiet (by kernel_rfl) (by kernel_rfl) h23 fun _ z24=>qQ h23.fr<|qRn (oM 2 rfl<|ogtN _ _ rfl<|oM 1 rfl<|.nl)<|?_;clear h19
  rcases dsp (pa<j) with ⟨hb25,hp25⟩|⟨hb25,hp25⟩
  ·skip
   refine qRn (oG hb25 (r_move rfl rfl) rfl<|oG hb25 (r_move rfl rfl) rfl<|oG hb25 (r_move rfl rfl) rfl<|.nl)<|?_
   have hl30:l2.length≤140737488355328:=(h23.sh.own 0 rfl).len
   refine qRn (oG hb25 (r_ixN (s:=(⟨v0,l2⟩:Ls Int)) (q:=j) sl_23 ti_3 rfl rfl rfl (fun w h=>(h.own 0 rfl)) (show j<l2.length from om9)) rfl<|oG hb25 (r_lde (s:=(⟨v0,l2⟩:Ls Int)) (i:=j) (v:= .int .i64 (nth l2 j)) ti_3 rfl rfl rfl (fun w h=>(h.own 0 rfl)) (show j<l2.length from om9) (Nat.le_of_ble_eq_true rfl) rfl) rfl<|oG hb25 (r_move rfl rfl) rfl<|oG hb25 (r_move rfl rfl) rfl<|oG hb25 (r_subN (p:=j) (q:=1) rfl rfl rfl (show 1≤j∧j<9223372036854775808 from om9)) rfl<|oG hb25 (r_ixN (s:=(⟨v0,l2⟩:Ls Int)) (q:=j-1) sl_23 ti_3 rfl rfl rfl (fun w h=>(h.own 0 rfl)) (show j-1<l2.length from om9)) rfl<|oG hb25 (r_lde (s:=(⟨v0,l2⟩:Ls Int)) (i:=j-1) (v:= .int .i64 (nth l2 (j-1))) ti_3 rfl rfl rfl (fun w h=>(h.own 0 rfl)) (show j-1<l2.length from om9) (Nat.le_of_ble_eq_true rfl) rfl) rfl<|.nl)<|qPg hb25 hbd rfl (fun w h=>(hcf _ (nth l2 j) (nth l2 (j-1)) (h.ok Env (List.mem_of_getElem? (i:=1) rfl)) (hDl _ (nth_mem _ _ (by omega))) (hDl _ (nth_mem _ _ (by omega)))))<|qRn (oG hb25 (r_lssI (p:=cf (nth l2 j) (nth l2 (j-1))) (q:=0) rfl rfl rfl) rfl<|opT hb25 rfl<|.nl)<|qN z24<|?_;clear h23
   refine hK k22<|gcd rfl (fun hb39 hp39=> ?_) fun hb39 hp39=> ?_
   ·skip
    refine gS<|hK k21<|gK fun _ k40=>gB<|rC [15,17] rfl<|pR [0,1,2,3,4,5,6,7,8,9,10,11,12,13,14] rfl (oM 4 rfl<|osbN _ 1 om9 rfl<|oM 2 rfl<|osbN _ 1 om9 rfl<|oxN sl_23 ti_3 (aO 0 rfl) _ om9 rfl<|olE (.int .i64 (nth l2 (j-1))) ti_3 (aO 0 rfl) om9 rfl<|oM 2 rfl<|oxN sl_23 ti_3 (aO 0 rfl) _ om9 rfl<|olE (.int .i64 (nth l2 j)) ti_3 (aO 0 rfl) om9 rfl<|oxN sl_23 ti_3 (aO 0 rfl) _ om9 rfl<|.nl) rfl<|pS (fun _ _ h_=>x_ste (r:=0) (i:=j) (j:=0) (x' :=(nth l2 (j-1):Int)) h_ ti_3 rfl rfl rfl rfl rfl (show j<l2.length from om9) (Nat.le_of_ble_eq_true rfl) rfl rfl rfl (by intro q hq;obtain rfl:q=0:=(by omega);rfl) (fun w h=>Flat.inner _ _) (fun b hb=>(Flat.on _ _ hb).elim)) rfl<|pR [2,3,4,16] rfl (oM 2 rfl<|osbN _ 1 om9 rfl<|oxN sl_23 ti_3 (aO 0 rfl) _ (show j-1<(l2.set j (nth l2 (j-1))).length from om9) rfl<|.nl) rfl<|pS (fun _ _ h_=>x_ste (r:=0) (i:=j-1) (j:=0) (x' :=(nth l2 j:Int)) h_ ti_3 rfl rfl rfl rfl rfl (show j-1<(l2.set j (nth l2 (j-1))).length from om9) (Nat.le_of_ble_eq_true rfl) rfl rfl rfl (by intro q hq;obtain rfl:q=0:=(by omega);rfl) (fun w h=>Flat.inner _ _) (fun b hb=>(Flat.on _ _ hb).elim)) rfl<|pE [] rfl (.nl) rfl<|hK k40<|gF [0,1,2,3,8,9] rfl<|gL<|gRn (oM 1 rfl<|osbN _ 1 om9 rfl<|oM 1 rfl<|.nl)<|nN<|fun a43 w43 h43=> ?_
    refine x_again ⟨_, ?_,j-1,(l2.set j (nth l2 (j-1))).set (j-1) (nth l2 j), ?_, ?_,h43.nf ⟨rfl,rfl,rfl,rfl,rfl,rfl,trivial⟩,rfl⟩
    · rw [hm19];first|omega|(simp only [lens9];omega)
    · omega
    · first|exact (swap_perm (by omega) (by omega)).trans hp2|exact (swap_permR (by omega) (by omega)).trans hp2|exact hp2
   refine gX<|hK k17<|gL<|gRn (oM 1 rfl<|oadN _ 1 om9 rfl<|oM 1 rfl<|.nl)<|nN<|fun a44 w44 h44=>x_again ⟨_, ?_,i+1,l2, ?_, ?_,h44.nf ⟨rfl,rfl,rfl,rfl,rfl,trivial⟩,rfl⟩
   · rw [hm12];first|omega|(simp only [lens9];omega)
   · omega
   · exact hp2
  refine qRn (oKs 12 hb25 rfl rfl<|opF hb25 rfl<|.nl)<|qN z24<|?_;clear h23
  refine hK k22<|gcF rfl rfl<|gX<|hK k17<|gL<|gRn (oM 1 rfl<|oadN _ 1 om9 rfl<|oM 1 rfl<|.nl)<|nN<|fun a46 w46 h46=>x_again ⟨_, ?_,i+1,l2, ?_, ?_,h46.nf ⟨rfl,rfl,rfl,rfl,rfl,trivial⟩,rfl⟩
  · rw [hm12];first|omega|(simp only [lens9];omega)
  · omega
  · exact hp2
 refine gX<|fun a47 w47 h47=> ?_
 try simp only [Exit.then,Exit.inBlock,if_true]
 refine x_end0 (fn:=Try.f91) rfl h47 ?_
 exact ⟨rfl,l1,hp1,h47.sh⟩
theorem sym_i (bf:FuncId)(us ws:List Value)(cf:Int→Int→Int)(Env:Asn)(D:Int→Prop)(K:Nat→Prop)(v0:Value)(l:List Int)(pa pm pb:Nat)(W:World)(hbd:bodyI Try.prog bf=true)(hcf:∀(w:World) (x y:Int),Env.ok w→D x→D y→Rets Try.prog bf (us++ [.int .i64 x, .int .i64 y]++ws) w (fun v w' =>v= .int .i64 (cf x y)∧Sh0 w w' []))(hS:Sh K W W [.own 3 (⟨v0,l⟩:Ls Int),Env])(hD:∀x∈l,D x)(hl:l.length≤1000)(ih:∀(K:Nat→Prop) (l:List Int) (a' m' b' :Nat) (W:World),b' -a' <pb-pa→Sh K W W [.own 3 (⟨v0,l⟩:Ls Int),Env]→(∀x∈l,D x)→l.length≤1000→a' <m' →m' <b' →b' ≤l.length→Rets Try.prog 92 [v0, .int .i64 ((a' :Nat):Int), .int .i64 ((m' :Nat):Int), .int .i64 ((b' :Nat):Int), .func (.func bf) us.toArray ws.toArray] W (fun v w' =>v= .tuple #[]∧∃k:List Int,k.Perm l∧Sh K W w' [.own 3 (⟨v0,k⟩:Ls Int),Env]))(h1:pa<pm)(h2:pm<pb)(h3:pb≤l.length):
    Rets Try.prog 92 [v0, .int .i64 ((pa:Nat):Int), .int .i64 ((pm:Nat):Int), .int .i64 ((pb:Nat):Int), .func (.func bf) us.toArray ws.toArray] W (fun v w' =>v= .tuple #[]∧∃k:List Int,k.Perm l∧Sh K W w' [.own 3 (⟨v0,k⟩:Ls Int),Env]):=by
 refine gen Try.func92 Try.ntmps92 hS rfl fun a10 h10=>gG h10<|gK fun _ k11=>sG (oM 2 rfl<|osbN _ _ om9 rfl<|oeqN _ 1 rfl<|.nl)<|?_;clear h10
 refine gcd rfl (fun hb13 hp13=> ?_) fun hb13 hp13=> ?_
 ·skip
  refine sG (oM 2 rfl<|.nl)<|sG (oM 2 rfl<|.nl)<|gK fun _ k16=>gB<|?_
  have hDl:=hD
  intro a18 w18 h18
  refine x_loop (fun m a w=>∃(i j:Nat),(pm≤i∧i≤j∧j≤pb)∧St 220 K W a w [(0,v0),(1, .int .i64 ((pa:Nat):Int)),(4, .func (.func bf) us.toArray ws.toArray),(10, .int .i64 ((i:Nat):Int)),(11, .int .i64 ((j:Nat):Int))] [.own 3 (⟨v0,l⟩:Ls Int),Env]∧m=j-i) ⟨_,pm,pb,(by omega),h18.nf ⟨rfl,rfl,rfl,rfl,rfl,trivial⟩,rfl⟩ ?_
  clear h18
  rintro m17 a17 w17 ⟨i,j,hij,h17,hm17⟩
  refine gG h17<|gK fun _ k19=>sG (oM 2 rfl<|oltN _ _ rfl<|.nl)<|?_;clear h17
  refine gcd rfl (fun hb21 hp21=> ?_) fun hb21 hp21=> ?_
  ·skip
   refine gS<|hK k19<|gB<|sG (oM 2 rfl<|oadN _ _ om9 rfl<|oV (r_cvUN Try.underlying3 Try.underlying121 rfl rfl (show i+j<18446744073709551616 from om9)) rfl<|oV (r_shrU (p:=i+j) (k:=1) rfl rfl rfl (by decide)) rfl<|oV (r_cvI Try.underlying121 Try.underlying3 rfl rfl (show (i+j)/2^1<9223372036854775808 from om9)) rfl<|oM 1 rfl<|.nl)<|gK fun _ k23=>fun a25 w25 h25=>x_quiet (by kernel_rfl) (by kernel_rfl) h25 fun _ z26=>qQ h25.fr<|qRn (oM 3 rfl<|.nl)<|?_
   have hl27:l.length≤140737488355328:=(h25.sh.own 0 rfl).len
   refine qRn (oxN sl_23 ti_3 (aO 0 rfl) _ om9 rfl<|olE (.int .i64 (nth l ((i+j)/2^1))) ti_3 (aO 0 rfl) om9 rfl<|oM 2 rfl<|oxN sl_23 ti_3 (aO 0 rfl) _ om9 rfl<|olE (.int .i64 (nth l pa)) ti_3 (aO 0 rfl) om9 rfl<|.nl)<|qP hbd rfl (fun w h=>(hcf _ (nth l ((i+j)/2^1)) (nth l pa) (h.ok Env (List.mem_of_getElem? (i:=1) rfl)) (hDl _ (nth_mem _ _ (by omega))) (hDl _ (nth_mem _ _ (by omega)))))<|qRn (oltI _ _ rfl<|.nl)<|qN z26<|hK k23<|?_;clear h25
   refine gcd rfl (fun hb28 hp28=> ?_) fun hb28 hp28=> ?_
   ·skip
    refine gL<|gRn (oM 1 rfl<|oadN _ 1 om9 rfl<|oM 1 rfl<|.nl)<|nN<|fun a29 w29 h29=> ?_
    change∃_m,_m<_∧_
    refine ⟨_, ?_,((i+j)/2^1)+1,j, ?_,h29.nf ⟨rfl,rfl,rfl,rfl,rfl,trivial⟩,rfl⟩
    · rw [hm17];first|omega|(simp only [lens9];omega)
    · omega
   refine gL<|gRn (oM 2 rfl<|.nl)<|nN<|fun a30 w30 h30=> ?_
   change∃_m,_m<_∧_
   refine ⟨_, ?_,i,(i+j)/2^1, ?_,h30.nf ⟨rfl,rfl,rfl,rfl,rfl,trivial⟩,rfl⟩
   · rw [hm17];first|omega|(simp only [lens9];omega)
   · omega
  refine gX<|hK k16<|gK fun _ k31=>sG (oM 2 rfl<|.nl)<|gB<|fun a34 w34 h34=>x_loop (fun m a w=>∃(k9:Nat) (l1:List Int),(pa≤k9∧(k9≤i-1∨k9=pa))∧(l1.Perm l)∧St 220 K W a w [(0,v0),(10, .int .i64 ((i:Nat):Int)),(13, .int .i64 ((k9:Nat):Int))] [.own 3 (⟨v0,l1⟩:Ls Int),Env]∧m=i-k9) ⟨_,pa,l,(by omega),(List.Perm.refl _),h34.nf ⟨rfl,rfl,rfl,trivial⟩,rfl⟩ ?_
  clear h34
  rintro m33 a33 w33 ⟨k9,l1,hk9,hp1,h33,hm33⟩
  have hLl:=hp1.length_eq
  have hDl:∀x∈l1,D x:=fun x hx=>hD x (hp1.mem_iff.1 hx)
  refine gG h33<|gK fun _ k35=>sG (oM 2 rfl<|osbN _ 1 om9 rfl<|oltN _ _ rfl<|.nl)<|?_;clear h33
  refine gcd rfl (fun hb37 hp37=> ?_) fun hb37 hp37=> ?_
  ·skip
   refine gS<|hK k35<|gK fun _ k38=>gB<|gNl (aO 0 rfl) fun (hl39:l1.length≤140737488355328)=>rC [15,17] rfl<|pR [0,1,2,3,4,5,6,7,8,9,10,11,12,13,14] rfl (oM 4 rfl<|oadN _ 1 om9 rfl<|oM 2 rfl<|oadN _ 1 om9 rfl<|oxN sl_23 ti_3 (aO 0 rfl) _ om9 rfl<|olE (.int .i64 (nth l1 (k9+1))) ti_3 (aO 0 rfl) om9 rfl<|oM 2 rfl<|oxN sl_23 ti_3 (aO 0 rfl) _ om9 rfl<|olE (.int .i64 (nth l1 k9)) ti_3 (aO 0 rfl) om9 rfl<|oxN sl_23 ti_3 (aO 0 rfl) _ om9 rfl<|.nl) rfl<|pS (fun _ _ h_=>x_ste (r:=0) (i:=k9) (j:=0) (x' :=(nth l1 (k9+1):Int)) h_ ti_3 rfl rfl rfl rfl rfl (show k9<l1.length from om9) (Nat.le_of_ble_eq_true rfl) rfl rfl rfl (by intro q hq;obtain rfl:q=0:=(by omega);rfl) (fun w h=>Flat.inner _ _) (fun b hb=>(Flat.on _ _ hb).elim)) rfl<|pR [2,3,4,16] rfl (oM 2 rfl<|oadN _ 1 om9 rfl<|oxN sl_23 ti_3 (aO 0 rfl) _ (show k9+1<(l1.set k9 (nth l1 (k9+1))).length from om9) rfl<|.nl) rfl<|pS (fun _ _ h_=>x_ste (r:=0) (i:=k9+1) (j:=0) (x' :=(nth l1 k9:Int)) h_ ti_3 rfl rfl rfl rfl rfl (show k9+1<(l1.set k9 (nth l1 (k9+1))).length from om9) (Nat.le_of_ble_eq_true rfl) rfl rfl rfl (by intro q hq;obtain rfl:q=0:=(by omega);rfl) (fun w h=>Flat.inner _ _) (fun b hb=>(Flat.on _ _ hb).elim)) rfl<|pE [] rfl (.nl) rfl<|hK k38<|gL<|gRn (oM 1 rfl<|oadN _ 1 om9 rfl<|oM 1 rfl<|.nl)<|nN<|fun a42 w42 h42=> ?_
   refine x_again ⟨_, ?_,k9+1,(l1.set k9 (nth l1 (k9+1))).set (k9+1) (nth l1 k9), ?_, ?_,h42.nf ⟨rfl,rfl,rfl,trivial⟩,rfl⟩
   · rw [hm33];first|omega|(simp only [lens9];omega)
   · omega
   · first|exact (swap_perm (by omega) (by omega)).trans hp1|exact (swap_permR (by omega) (by omega)).trans hp1|exact hp1
  refine gX<|hK k31<|gR<|uT<|fun a43 w43 h43=>x_ret0 (fn:=Try.f92) rfl h43 ?_
  exact ⟨rfl,l1,hp1,h43.sh⟩
 refine gS<|hK k11<|gK fun _ k44=>sG (oM 2 rfl<|osbN _ _ om9 rfl<|oeqN _ 1 rfl<|.nl)<|gcd rfl (fun hb46 hp46=> ?_) fun hb46 hp46=> ?_
 ·skip
  refine sG (oM 2 rfl<|.nl)<|sG (oM 2 rfl<|.nl)<|gK fun _ k49=>gB<|?_
  have hDl:=hD
  intro a51 w51 h51
  refine x_loop (fun m a w=>∃(i j:Nat),(pa≤i∧i≤j∧j≤pm)∧St 220 K W a w [(0,v0),(2, .int .i64 ((pm:Nat):Int)),(4, .func (.func bf) us.toArray ws.toArray),(14, .int .i64 ((i:Nat):Int)),(15, .int .i64 ((j:Nat):Int))] [.own 3 (⟨v0,l⟩:Ls Int),Env]∧m=j-i) ⟨_,pa,pm,(by omega),h51.nf ⟨rfl,rfl,rfl,rfl,rfl,trivial⟩,rfl⟩ ?_
  clear h51
  rintro m50 a50 w50 ⟨i,j,hij,h50,hm50⟩
  refine gG h50<|gK fun _ k52=>sG (oM 2 rfl<|oltN _ _ rfl<|.nl)<|?_;clear h50
  refine gcd rfl (fun hb54 hp54=> ?_) fun hb54 hp54=> ?_
  ·skip
   refine gS<|hK k52<|gB<|sG (oM 2 rfl<|oadN _ _ om9 rfl<|oV (r_cvUN Try.underlying3 Try.underlying121 rfl rfl (show i+j<18446744073709551616 from om9)) rfl<|oV (r_shrU (p:=i+j) (k:=1) rfl rfl rfl (by decide)) rfl<|oV (r_cvI Try.underlying121 Try.underlying3 rfl rfl (show (i+j)/2^1<9223372036854775808 from om9)) rfl<|oM 1 rfl<|.nl)<|gK fun _ k56=>fun a58 w58 h58=>x_quiet (by kernel_rfl) (by kernel_rfl) h58 fun _ z59=>qQ h58.fr<|qRn (oM 3 rfl<|.nl)<|?_
   have hl60:l.length≤140737488355328:=(h58.sh.own 0 rfl).len
   refine qRn (oxN sl_23 ti_3 (aO 0 rfl) _ om9 rfl<|olE (.int .i64 (nth l pm)) ti_3 (aO 0 rfl) om9 rfl<|oM 2 rfl<|oxN sl_23 ti_3 (aO 0 rfl) _ om9 rfl<|olE (.int .i64 (nth l ((i+j)/2^1))) ti_3 (aO 0 rfl) om9 rfl<|.nl)<|qP hbd rfl (fun w h=>(hcf _ (nth l pm) (nth l ((i+j)/2^1)) (h.ok Env (List.mem_of_getElem? (i:=1) rfl)) (hDl _ (nth_mem _ _ (by omega))) (hDl _ (nth_mem _ _ (by omega)))))<|qRn (oltI _ _ rfl<|ont rfl<|.nl)<|qN z59<|hK k56<|?_;clear h58
   refine gCb rfl (fun hb61=> ?_) fun hb61=> ?_
   ·have hp61:¬(cf (nth l pm) (nth l ((i+j)/2^1))<0):=by simpa using hb61
    refine gL<|gRn (oM 1 rfl<|oadN _ 1 om9 rfl<|oM 1 rfl<|.nl)<|nN<|fun a62 w62 h62=> ?_
    change∃_m,_m<_∧_
    refine ⟨_, ?_,((i+j)/2^1)+1,j, ?_,h62.nf ⟨rfl,rfl,rfl,rfl,rfl,trivial⟩,rfl⟩
    · rw [hm50];first|omega|(simp only [lens9];omega)
    · omega
   have hp61:cf (nth l pm) (nth l ((i+j)/2^1))<0:=by simpa using hb61
   refine gL<|gRn (oM 2 rfl<|.nl)<|nN<|fun a63 w63 h63=> ?_
   change∃_m,_m<_∧_
   refine ⟨_, ?_,i,(i+j)/2^1, ?_,h63.nf ⟨rfl,rfl,rfl,rfl,rfl,trivial⟩,rfl⟩
   · rw [hm50];first|omega|(simp only [lens9];omega)
   · omega
  refine gX<|hK k49<|gK fun _ k64=>sG (oM 2 rfl<|.nl)<|gB<|fun a67 w67 h67=>x_loop (fun m a w=>∃(k9:Nat) (l1:List Int),(k9≤pm∧i≤k9)∧(l1.Perm l)∧St 220 K W a w [(0,v0),(14, .int .i64 ((i:Nat):Int)),(17, .int .i64 ((k9:Nat):Int))] [.own 3 (⟨v0,l1⟩:Ls Int),Env]∧m=k9) ⟨_,pm,l,(by omega),(List.Perm.refl _),h67.nf ⟨rfl,rfl,rfl,trivial⟩,rfl⟩ ?_
  clear h67
  rintro m66 a66 w66 ⟨k9,l1,hk9,hp1,h66,hm66⟩
  have hLl:=hp1.length_eq
  have hDl:∀x∈l1,D x:=fun x hx=>hD x (hp1.mem_iff.1 hx)
  refine gG h66<|gK fun _ k68=>sG (oM 2 rfl<|ogtN _ _ rfl<|.nl)<|?_;clear h66
  refine gcd rfl (fun hb70 hp70=> ?_) fun hb70 hp70=> ?_
  ·skip
   refine gS<|hK k68<|gK fun _ k71=>gB<|gNl (aO 0 rfl) fun (hl72:l1.length≤140737488355328)=>rC [15,17] rfl<|pR [0,1,2,3,4,5,6,7,8,9,10,11,12,13,14] rfl (oM 4 rfl<|osbN _ 1 om9 rfl<|oM 2 rfl<|osbN _ 1 om9 rfl<|oxN sl_23 ti_3 (aO 0 rfl) _ om9 rfl<|olE (.int .i64 (nth l1 (k9-1))) ti_3 (aO 0 rfl) om9 rfl<|oM 2 rfl<|oxN sl_23 ti_3 (aO 0 rfl) _ om9 rfl<|olE (.int .i64 (nth l1 k9)) ti_3 (aO 0 rfl) om9 rfl<|oxN sl_23 ti_3 (aO 0 rfl) _ om9 rfl<|.nl) rfl<|pS (fun _ _ h_=>x_ste (r:=0) (i:=k9) (j:=0) (x' :=(nth l1 (k9-1):Int)) h_ ti_3 rfl rfl rfl rfl rfl (show k9<l1.length from om9) (Nat.le_of_ble_eq_true rfl) rfl rfl rfl (by intro q hq;obtain rfl:q=0:=(by omega);rfl) (fun w h=>Flat.inner _ _) (fun b hb=>(Flat.on _ _ hb).elim)) rfl<|pR [2,3,4,16] rfl (oM 2 rfl<|osbN _ 1 om9 rfl<|oxN sl_23 ti_3 (aO 0 rfl) _ (show k9-1<(l1.set k9 (nth l1 (k9-1))).length from om9) rfl<|.nl) rfl<|pS (fun _ _ h_=>x_ste (r:=0) (i:=k9-1) (j:=0) (x' :=(nth l1 k9:Int)) h_ ti_3 rfl rfl rfl rfl rfl (show k9-1<(l1.set k9 (nth l1 (k9-1))).length from om9) (Nat.le_of_ble_eq_true rfl) rfl rfl rfl (by intro q hq;obtain rfl:q=0:=(by omega);rfl) (fun w h=>Flat.inner _ _) (fun b hb=>(Flat.on _ _ hb).elim)) rfl<|pE [] rfl (.nl) rfl<|hK k71<|gL<|gRn (oM 1 rfl<|osbN _ 1 om9 rfl<|oM 1 rfl<|.nl)<|nN<|fun a75 w75 h75=> ?_
   refine x_again ⟨_, ?_,k9-1,(l1.set k9 (nth l1 (k9-1))).set (k9-1) (nth l1 k9), ?_, ?_,h75.nf ⟨rfl,rfl,rfl,trivial⟩,rfl⟩
   · rw [hm66];first|omega|(simp only [lens9];omega)
   · omega
   · first|exact (swap_perm (by omega) (by omega)).trans hp1|exact (swap_permR (by omega) (by omega)).trans hp1|exact hp1
  refine gX<|hK k64<|gR<|uT<|fun a76 w76 h76=>x_ret0 (fn:=Try.f92) rfl h76 ?_
  exact ⟨rfl,l1,hp1,h76.sh⟩
 refine gS<|hK k44<|sG (oM 2 rfl<|oadN _ _ om9 rfl<|oV (r_cvUN Try.underlying3 Try.underlying121 rfl rfl (show pa+pb<18446744073709551616 from om9)) rfl<|oV (r_shrU (p:=pa+pb) (k:=1) rfl rfl rfl (by decide)) rfl<|oV (r_cvI Try.underlying121 Try.underlying3 rfl rfl (show (pa+pb)/2^1<9223372036854775808 from om9)) rfl<|oM 1 rfl<|.nl)<|sG (oM 2 rfl<|oadN _ _ om9 rfl<|oM 1 rfl<|.nl)<|sG (oM 2 rfl<|.nl)<|gK fun _ k80=>sG (oM 2 rfl<|ogtN _ _ rfl<|.nl)<|gcd rfl (fun hb82 hp82=> ?_) fun hb82 hp82=> ?_
 ·skip
  refine sG (oM 2 rfl<|osbN _ _ om9 rfl<|oM 1 rfl<|.nl)<|gF [0,1,2,3,4,18,19,20] rfl<|gL<|gRn (oM 2 rfl<|.nl)<|nK k80<|sG (oM 1 rfl<|osbN _ 1 om9 rfl<|oM 1 rfl<|.nl)<|gK fun _ k85=>gB<|?_
  have hDl:=hD
  intro a87 w87 h87
  refine x_loop (fun m a w=>∃(i j:Nat),(((((pa+pb)/2^1)+pm)-pb)≤i∧i≤j∧j≤(pa+pb)/2^1)∧St 220 K W a w [(0,v0),(1, .int .i64 ((pa:Nat):Int)),(2, .int .i64 ((pm:Nat):Int)),(3, .int .i64 ((pb:Nat):Int)),(4, .func (.func bf) us.toArray ws.toArray),(18, .int .i64 (((pa+pb)/2^1:Nat):Int)),(19, .int .i64 ((((pa+pb)/2^1)+pm:Nat):Int)),(20, .int .i64 ((i:Nat):Int)),(21, .int .i64 ((j:Nat):Int)),(22, .int .i64 (((((pa+pb)/2^1)+pm)-1:Nat):Int))] [.own 3 (⟨v0,l⟩:Ls Int),Env]∧m=j-i) ⟨_,(((pa+pb)/2^1)+pm)-pb,(pa+pb)/2^1,(by omega),h87.nf ⟨rfl,rfl,rfl,rfl,rfl,rfl,rfl,rfl,rfl,rfl,trivial⟩,rfl⟩ ?_
  clear h87
  rintro m86 a86 w86 ⟨i,j,hij,h86,hm86⟩
  refine gG h86<|gK fun _ k88=>sG (oM 2 rfl<|oltN _ _ rfl<|.nl)<|?_;clear h86
  refine gcd rfl (fun hb90 hp90=> ?_) fun hb90 hp90=> ?_
  ·skip
   refine gS<|hK k88<|gB<|sG (oM 2 rfl<|oadN _ _ om9 rfl<|oV (r_cvUN Try.underlying3 Try.underlying121 rfl rfl (show i+j<18446744073709551616 from om9)) rfl<|oV (r_shrU (p:=i+j) (k:=1) rfl rfl rfl (by decide)) rfl<|oV (r_cvI Try.underlying121 Try.underlying3 rfl rfl (show (i+j)/2^1<9223372036854775808 from om9)) rfl<|oM 1 rfl<|.nl)<|gK fun _ k92=>fun a94 w94 h94=>x_quiet (by kernel_rfl) (by kernel_rfl) h94 fun _ z95=>qQ h94.fr<|qRn (oM 4 rfl<|osbN _ _ om9 rfl<|.nl)<|?_
   have hl96:l.length≤140737488355328:=(h94.sh.own 0 rfl).len
   refine qRn (oxN sl_23 ti_3 (aO 0 rfl) _ om9 rfl<|olE (.int .i64 (nth l (((((pa+pb)/2^1)+pm)-1)-((i+j)/2^1)))) ti_3 (aO 0 rfl) om9 rfl<|oM 2 rfl<|oxN sl_23 ti_3 (aO 0 rfl) _ om9 rfl<|olE (.int .i64 (nth l ((i+j)/2^1))) ti_3 (aO 0 rfl) om9 rfl<|.nl)<|qP hbd rfl (fun w h=>(hcf _ (nth l (((((pa+pb)/2^1)+pm)-1)-((i+j)/2^1))) (nth l ((i+j)/2^1)) (h.ok Env (List.mem_of_getElem? (i:=1) rfl)) (hDl _ (nth_mem _ _ (by omega))) (hDl _ (nth_mem _ _ (by omega)))))<|qRn (oltI _ _ rfl<|ont rfl<|.nl)<|qN z95<|hK k92<|?_;clear h94
   refine gCb rfl (fun hb97=> ?_) fun hb97=> ?_
   ·have hp97:¬(cf (nth l (((((pa+pb)/2^1)+pm)-1)-((i+j)/2^1))) (nth l ((i+j)/2^1))<0):=by simpa using hb97
    refine gL<|gRn (oM 1 rfl<|oadN _ 1 om9 rfl<|oM 1 rfl<|.nl)<|nN<|fun a98 w98 h98=> ?_
    change∃_m,_m<_∧_
    refine ⟨_, ?_,((i+j)/2^1)+1,j, ?_,h98.nf ⟨rfl,rfl,rfl,rfl,rfl,rfl,rfl,rfl,rfl,rfl,trivial⟩,rfl⟩
    · rw [hm86];first|omega|(simp only [lens9];omega)
    · omega
   have hp97:cf (nth l (((((pa+pb)/2^1)+pm)-1)-((i+j)/2^1))) (nth l ((i+j)/2^1))<0:=by simpa using hb97
   refine gL<|gRn (oM 2 rfl<|.nl)<|nN<|fun a99 w99 h99=> ?_
   change∃_m,_m<_∧_
   refine ⟨_, ?_,i,(i+j)/2^1, ?_,h99.nf ⟨rfl,rfl,rfl,rfl,rfl,rfl,rfl,rfl,rfl,rfl,trivial⟩,rfl⟩
   · rw [hm86];first|omega|(simp only [lens9];omega)
   · omega
  refine gX<|hK k85<|sG (oM 2 rfl<|osbN _ _ om9 rfl<|oM 1 rfl<|.nl)<|gK fun _ k101=>sK fun _ k102=>gRn (oM 2 rfl<|oltN _ _ rfl<|oM 1 rfl<|.nl)<|?_
  rcases dsp (i<pm) with ⟨hb103,hp103⟩|⟨hb103,hp103⟩
  ·skip
   refine gRn (oG hb103 (r_move rfl rfl) rfl<|oG hb103 (r_move rfl rfl) rfl<|oG hb103 (r_lssN (p:=pm) (q:=(((pa+pb)/2^1)+pm)-i) rfl rfl rfl) rfl<|opT hb103 rfl<|.nl)<|nK k102<|gcd rfl (fun hb104 hp104=> ?_) fun hb104 hp104=> ?_
   ·skip
    refine gL<|gRn (oM 5 rfl<|.nl)<|fun a108 w108 h108=> ?_
    have hp107:=h108.sh.passL (Lp:= [_,_])
    refine wl_ex (x_call h108 bd_98 rfl rfl rfl rfl rfl (rot_c bf us ws cf Env D _ v0 l i pm ((((pa+pb)/2^1)+pm)-i) _ hbd hcf hp107 (fun x hx=>hD x (((List.Perm.refl l)).mem_iff.1 hx)) (by omega) (by omega) (by omega) (by omega))) (wanted_none rfl _) ?_
    rintro a109 w109 ⟨_,⟨rfl,k109,hpk109,hs109⟩,hf109⟩
    have hpp109:=hpk109.trans (List.Perm.refl l);have hLk109:=hpp109.length_eq;have hDk109:∀x∈k109,D x:=fun x hx=>hD x (hpp109.mem_iff.1 hx)
    have h109:St _ K W a109 w109 _ [_,_]:=⟨hf109,h108.sh.backI (Lp:= [_,_]) hs109⟩
    clear hf109 hs109
    clear h108
    refine gG h109<|nK k101<|gF [0,1,3,4,18,20,24] rfl<|gK fun _ k110=>sK fun _ k111=>gRn (oM 2 rfl<|oltN _ _ rfl<|oM 1 rfl<|.nl)<|?_;clear h109
    rcases dsp (pa<i) with ⟨hb112,hp112⟩|⟨hb112,hp112⟩
    ·skip
     refine gRn (oG hb112 (r_move rfl rfl) rfl<|oG hb112 (r_move rfl rfl) rfl<|oG hb112 (r_lssN (p:=i) (q:=(pa+pb)/2^1) rfl rfl rfl) rfl<|opT hb112 rfl<|.nl)<|nK k111<|gcd rfl (fun hb113 hp113=> ?_) fun hb113 hp113=> ?_
     ·skip
      refine gL<|gRn (oM 5 rfl<|.nl)<|fun a117 w117 h117=> ?_
      have hp116:=h117.sh.passL (Lp:= [_,_])
      refine wl_ex (x_call h117 bd_92 rfl rfl rfl rfl rfl (ih _ k109 pa i ((pa+pb)/2^1) _ (by omega) hp116 (fun x hx=>hD x ((hpp109).mem_iff.1 hx)) (by omega) (by omega) (by omega) (by omega))) (wanted_none rfl _) ?_
      rintro a118 w118 ⟨_,⟨rfl,k118,hpk118,hs118⟩,hf118⟩
      have hpp118:=hpk118.trans hpp109;have hLk118:=hpp118.length_eq;have hDk118:∀x∈k118,D x:=fun x hx=>hD x (hpp118.mem_iff.1 hx)
      have h118:St _ K W a118 w118 _ [_,_]:=⟨hf118,h117.sh.backI (Lp:= [_,_]) hs118⟩
      clear hf118 hs118
      clear h117
      refine gG h118<|nK k110<|sK fun _ k119=>gRn (oM 2 rfl<|oltN _ _ rfl<|oM 1 rfl<|.nl)<|?_;clear h118
      rcases dsp ((pa+pb)/2^1<(((pa+pb)/2^1)+pm)-i) with ⟨hb120,hp120⟩|⟨hb120,hp120⟩
      ·skip
       refine gRn (oG hb120 (r_move rfl rfl) rfl<|oG hb120 (r_move rfl rfl) rfl<|oG hb120 (r_lssN (p:=(((pa+pb)/2^1)+pm)-i) (q:=pb) rfl rfl rfl) rfl<|opT hb120 rfl<|.nl)<|nK k119<|gF [0,3,4,18,24,213] rfl<|gcd rfl (fun hb121 hp121=> ?_) fun hb121 hp121=> ?_
       ·skip
        refine gL<|gRn (oM 5 rfl<|.nl)<|fun a125 w125 h125=> ?_
        have hp124:=h125.sh.passL (Lp:= [_,_])
        refine wl_ex (x_call h125 bd_92 rfl rfl rfl rfl rfl (ih _ k118 ((pa+pb)/2^1) ((((pa+pb)/2^1)+pm)-i) pb _ (by omega) hp124 (fun x hx=>hD x ((hpp118).mem_iff.1 hx)) (by omega) (by omega) (by omega) (by omega))) (wanted_none rfl _) ?_
        rintro a126 w126 ⟨_,⟨rfl,k126,hpk126,hs126⟩,hf126⟩
        have hpp126:=hpk126.trans hpp118;have hLk126:=hpp126.length_eq;have hDk126:∀x∈k126,D x:=fun x hx=>hD x (hpp126.mem_iff.1 hx)
        have h126:St _ K W a126 w126 _ [_,_]:=⟨hf126,h125.sh.backI (Lp:= [_,_]) hs126⟩
        clear hf126 hs126
        clear h125
        refine gG h126<|nN<|fun a127 w127 h127=> ?_;clear h126
        try simp only [Exit.then,Exit.inBlock,if_true]
        refine x_end0 (fn:=Try.f92) rfl h127 ?_
        exact ⟨rfl,k126,hpp126,h127.sh⟩
       refine gS<|fun a128 w128 h128=> ?_
       try simp only [Exit.then,Exit.inBlock,if_true]
       refine x_end0 (fn:=Try.f92) rfl h128 ?_
       exact ⟨rfl,k118,hpp118,h128.sh⟩
      refine gRn (oKs 3 hb120 rfl rfl<|opF hb120 rfl<|.nl)<|nK k119<|gF [0,3,4,18,24,213] rfl<|gcF rfl rfl<|gS<|fun a129 w129 h129=> ?_
      try simp only [Exit.then,Exit.inBlock,if_true]
      refine x_end0 (fn:=Try.f92) rfl h129 ?_
      exact ⟨rfl,k118,hpp118,h129.sh⟩
     refine gS<|hK k110<|sK fun _ k130=>gRn (oM 2 rfl<|oltN _ _ rfl<|oM 1 rfl<|.nl)<|?_
     rcases dsp ((pa+pb)/2^1<(((pa+pb)/2^1)+pm)-i) with ⟨hb131,hp131⟩|⟨hb131,hp131⟩
     ·skip
      refine gRn (oG hb131 (r_move rfl rfl) rfl<|oG hb131 (r_move rfl rfl) rfl<|oG hb131 (r_lssN (p:=(((pa+pb)/2^1)+pm)-i) (q:=pb) rfl rfl rfl) rfl<|opT hb131 rfl<|.nl)<|nK k130<|gcd rfl (fun hb132 hp132=> ?_) fun hb132 hp132=> ?_
      ·skip
       refine gL<|gRn (oM 5 rfl<|.nl)<|fun a136 w136 h136=> ?_
       have hp135:=h136.sh.passL (Lp:= [_,_])
       refine wl_ex (x_call h136 bd_92 rfl rfl rfl rfl rfl (ih _ k109 ((pa+pb)/2^1) ((((pa+pb)/2^1)+pm)-i) pb _ (by omega) hp135 (fun x hx=>hD x ((hpp109).mem_iff.1 hx)) (by omega) (by omega) (by omega) (by omega))) (wanted_none rfl _) ?_
       rintro a137 w137 ⟨_,⟨rfl,k137,hpk137,hs137⟩,hf137⟩
       have hpp137:=hpk137.trans hpp109;have hLk137:=hpp137.length_eq;have hDk137:∀x∈k137,D x:=fun x hx=>hD x (hpp137.mem_iff.1 hx)
       have h137:St _ K W a137 w137 _ [_,_]:=⟨hf137,h136.sh.backI (Lp:= [_,_]) hs137⟩
       clear hf137 hs137
       clear h136
       refine gG h137<|nN<|fun a138 w138 h138=> ?_;clear h137
       try simp only [Exit.then,Exit.inBlock,if_true]
       refine x_end0 (fn:=Try.f92) rfl h138 ?_
       exact ⟨rfl,k137,hpp137,h138.sh⟩
      refine gS<|fun a139 w139 h139=> ?_
      try simp only [Exit.then,Exit.inBlock,if_true]
      refine x_end0 (fn:=Try.f92) rfl h139 ?_
      exact ⟨rfl,k109,hpp109,h139.sh⟩
     refine gRn (oKs 3 hb131 rfl rfl<|opF hb131 rfl<|.nl)<|nK k130<|gcF rfl rfl<|gS<|fun a140 w140 h140=> ?_
     try simp only [Exit.then,Exit.inBlock,if_true]
     refine x_end0 (fn:=Try.f92) rfl h140 ?_
     exact ⟨rfl,k109,hpp109,h140.sh⟩
    refine gRn (oKs 3 hb112 rfl rfl<|opF hb112 rfl<|.nl)<|nK k111<|gcF rfl rfl<|gS<|hK k110<|sK fun _ k141=>gRn (oM 2 rfl<|oltN _ _ rfl<|oM 1 rfl<|.nl)<|?_
    rcases dsp ((pa+pb)/2^1<(((pa+pb)/2^1)+pm)-i) with ⟨hb142,hp142⟩|⟨hb142,hp142⟩
    ·skip
     refine gRn (oG hb142 (r_move rfl rfl) rfl<|oG hb142 (r_move rfl rfl) rfl<|oG hb142 (r_lssN (p:=(((pa+pb)/2^1)+pm)-i) (q:=pb) rfl rfl rfl) rfl<|opT hb142 rfl<|.nl)<|nK k141<|gcd rfl (fun hb143 hp143=> ?_) fun hb143 hp143=> ?_
     ·skip
      refine gL<|gRn (oM 5 rfl<|.nl)<|fun a147 w147 h147=> ?_
      have hp146:=h147.sh.passL (Lp:= [_,_])
      refine wl_ex (x_call h147 bd_92 rfl rfl rfl rfl rfl (ih _ k109 ((pa+pb)/2^1) ((((pa+pb)/2^1)+pm)-i) pb _ (by omega) hp146 (fun x hx=>hD x ((hpp109).mem_iff.1 hx)) (by omega) (by omega) (by omega) (by omega))) (wanted_none rfl _) ?_
      rintro a148 w148 ⟨_,⟨rfl,k148,hpk148,hs148⟩,hf148⟩
      have hpp148:=hpk148.trans hpp109;have hLk148:=hpp148.length_eq;have hDk148:∀x∈k148,D x:=fun x hx=>hD x (hpp148.mem_iff.1 hx)
      have h148:St _ K W a148 w148 _ [_,_]:=⟨hf148,h147.sh.backI (Lp:= [_,_]) hs148⟩
      clear hf148 hs148
      clear h147
      refine gG h148<|nN<|fun a149 w149 h149=> ?_;clear h148
      try simp only [Exit.then,Exit.inBlock,if_true]
      refine x_end0 (fn:=Try.f92) rfl h149 ?_
      exact ⟨rfl,k148,hpp148,h149.sh⟩
     refine gS<|fun a150 w150 h150=> ?_
     try simp only [Exit.then,Exit.inBlock,if_true]
     refine x_end0 (fn:=Try.f92) rfl h150 ?_
     exact ⟨rfl,k109,hpp109,h150.sh⟩
    refine gRn (oKs 3 hb142 rfl rfl<|opF hb142 rfl<|.nl)<|nK k141<|gcF rfl rfl<|gS<|fun a151 w151 h151=> ?_
    try simp only [Exit.then,Exit.inBlock,if_true]
    refine x_end0 (fn:=Try.f92) rfl h151 ?_
    exact ⟨rfl,k109,hpp109,h151.sh⟩
   refine gS<|hK k101<|gK fun _ k152=>sK fun _ k153=>gRn (oM 2 rfl<|oltN _ _ rfl<|oM 1 rfl<|.nl)<|?_
   rcases dsp (pa<i) with ⟨hb154,hp154⟩|⟨hb154,hp154⟩
   ·skip
    refine gRn (oG hb154 (r_move rfl rfl) rfl<|oG hb154 (r_move rfl rfl) rfl<|oG hb154 (r_lssN (p:=i) (q:=(pa+pb)/2^1) rfl rfl rfl) rfl<|opT hb154 rfl<|.nl)<|nK k153<|gF [0,1,3,4,18,20,24,199] rfl<|gcd rfl (fun hb155 hp155=> ?_) fun hb155 hp155=> ?_
    ·skip
     refine gL<|gRn (oM 5 rfl<|.nl)<|fun a159 w159 h159=> ?_
     have hp158:=h159.sh.passL (Lp:= [_,_])
     refine wl_ex (x_call h159 bd_92 rfl rfl rfl rfl rfl (ih _ l pa i ((pa+pb)/2^1) _ (by omega) hp158 (fun x hx=>hD x (((List.Perm.refl l)).mem_iff.1 hx)) (by omega) (by omega) (by omega) (by omega))) (wanted_none rfl _) ?_
     rintro a160 w160 ⟨_,⟨rfl,k160,hpk160,hs160⟩,hf160⟩
     have hpp160:=hpk160.trans (List.Perm.refl l);have hLk160:=hpp160.length_eq;have hDk160:∀x∈k160,D x:=fun x hx=>hD x (hpp160.mem_iff.1 hx)
     have h160:St _ K W a160 w160 _ [_,_]:=⟨hf160,h159.sh.backI (Lp:= [_,_]) hs160⟩
     clear hf160 hs160
     clear h159
     refine gG h160<|nK k152<|sK fun _ k161=>gRn (oM 2 rfl<|oltN _ _ rfl<|oM 1 rfl<|.nl)<|?_;clear h160
     rcases dsp ((pa+pb)/2^1<(((pa+pb)/2^1)+pm)-i) with ⟨hb162,hp162⟩|⟨hb162,hp162⟩
     ·skip
      refine gRn (oG hb162 (r_move rfl rfl) rfl<|oG hb162 (r_move rfl rfl) rfl<|oG hb162 (r_lssN (p:=(((pa+pb)/2^1)+pm)-i) (q:=pb) rfl rfl rfl) rfl<|opT hb162 rfl<|.nl)<|nK k161<|gcd rfl (fun hb163 hp163=> ?_) fun hb163 hp163=> ?_
      ·skip
       refine gL<|gRn (oM 5 rfl<|.nl)<|fun a167 w167 h167=> ?_
       have hp166:=h167.sh.passL (Lp:= [_,_])
       refine wl_ex (x_call h167 bd_92 rfl rfl rfl rfl rfl (ih _ k160 ((pa+pb)/2^1) ((((pa+pb)/2^1)+pm)-i) pb _ (by omega) hp166 (fun x hx=>hD x ((hpp160).mem_iff.1 hx)) (by omega) (by omega) (by omega) (by omega))) (wanted_none rfl _) ?_
       rintro a168 w168 ⟨_,⟨rfl,k168,hpk168,hs168⟩,hf168⟩
       have hpp168:=hpk168.trans hpp160;have hLk168:=hpp168.length_eq;have hDk168:∀x∈k168,D x:=fun x hx=>hD x (hpp168.mem_iff.1 hx)
       have h168:St _ K W a168 w168 _ [_,_]:=⟨hf168,h167.sh.backI (Lp:= [_,_]) hs168⟩
       clear hf168 hs168
       clear h167
       refine gG h168<|nN<|fun a169 w169 h169=> ?_;clear h168
       try simp only [Exit.then,Exit.inBlock,if_true]
       refine x_end0 (fn:=Try.f92) rfl h169 ?_
       exact ⟨rfl,k168,hpp168,h169.sh⟩
      refine gS<|fun a170 w170 h170=> ?_
      try simp only [Exit.then,Exit.inBlock,if_true]
      refine x_end0 (fn:=Try.f92) rfl h170 ?_
      exact ⟨rfl,k160,hpp160,h170.sh⟩
     refine gRn (oKs 3 hb162 rfl rfl<|opF hb162 rfl<|.nl)<|nK k161<|gcF rfl rfl<|gS<|fun a171 w171 h171=> ?_
     try simp only [Exit.then,Exit.inBlock,if_true]
     refine x_end0 (fn:=Try.f92) rfl h171 ?_
     exact ⟨rfl,k160,hpp160,h171.sh⟩
    refine gS<|hK k152<|sK fun _ k172=>gRn (oM 2 rfl<|oltN _ _ rfl<|oM 1 rfl<|.nl)<|?_
    rcases dsp ((pa+pb)/2^1<(((pa+pb)/2^1)+pm)-i) with ⟨hb173,hp173⟩|⟨hb173,hp173⟩
    ·skip
     refine gRn (oG hb173 (r_move rfl rfl) rfl<|oG hb173 (r_move rfl rfl) rfl<|oG hb173 (r_lssN (p:=(((pa+pb)/2^1)+pm)-i) (q:=pb) rfl rfl rfl) rfl<|opT hb173 rfl<|.nl)<|nK k172<|gcd rfl (fun hb174 hp174=> ?_) fun hb174 hp174=> ?_
     ·skip
      refine gL<|gRn (oM 5 rfl<|.nl)<|fun a178 w178 h178=> ?_
      have hp177:=h178.sh.passL (Lp:= [_,_])
      refine wl_ex (x_call h178 bd_92 rfl rfl rfl rfl rfl (ih _ l ((pa+pb)/2^1) ((((pa+pb)/2^1)+pm)-i) pb _ (by omega) hp177 (fun x hx=>hD x (((List.Perm.refl l)).mem_iff.1 hx)) (by omega) (by omega) (by omega) (by omega))) (wanted_none rfl _) ?_
      rintro a179 w179 ⟨_,⟨rfl,k179,hpk179,hs179⟩,hf179⟩
      have hpp179:=hpk179.trans (List.Perm.refl l);have hLk179:=hpp179.length_eq;have hDk179:∀x∈k179,D x:=fun x hx=>hD x (hpp179.mem_iff.1 hx)
      have h179:St _ K W a179 w179 _ [_,_]:=⟨hf179,h178.sh.backI (Lp:= [_,_]) hs179⟩
      clear hf179 hs179
      clear h178
      refine gG h179<|nN<|fun a180 w180 h180=> ?_;clear h179
      try simp only [Exit.then,Exit.inBlock,if_true]
      refine x_end0 (fn:=Try.f92) rfl h180 ?_
      exact ⟨rfl,k179,hpp179,h180.sh⟩
     refine gS<|fun a181 w181 h181=> ?_
     try simp only [Exit.then,Exit.inBlock,if_true]
     refine x_end0 (fn:=Try.f92) rfl h181 ?_
     exact ⟨rfl,l,(List.Perm.refl l),h181.sh⟩
    refine gRn (oKs 3 hb173 rfl rfl<|opF hb173 rfl<|.nl)<|nK k172<|gcF rfl rfl<|gS<|fun a182 w182 h182=> ?_
    try simp only [Exit.then,Exit.inBlock,if_true]
    refine x_end0 (fn:=Try.f92) rfl h182 ?_
    exact ⟨rfl,l,(List.Perm.refl l),h182.sh⟩
   refine gRn (oKs 3 hb154 rfl rfl<|opF hb154 rfl<|.nl)<|nK k153<|gF [0,1,3,4,18,20,24,199] rfl<|gcF rfl rfl<|gS<|hK k152<|sK fun _ k183=>gRn (oM 2 rfl<|oltN _ _ rfl<|oM 1 rfl<|.nl)<|?_
   rcases dsp ((pa+pb)/2^1<(((pa+pb)/2^1)+pm)-i) with ⟨hb184,hp184⟩|⟨hb184,hp184⟩
   ·skip
    refine gRn (oG hb184 (r_move rfl rfl) rfl<|oG hb184 (r_move rfl rfl) rfl<|oG hb184 (r_lssN (p:=(((pa+pb)/2^1)+pm)-i) (q:=pb) rfl rfl rfl) rfl<|opT hb184 rfl<|.nl)<|nK k183<|gcd rfl (fun hb185 hp185=> ?_) fun hb185 hp185=> ?_
    ·skip
     refine gL<|gRn (oM 5 rfl<|.nl)<|fun a189 w189 h189=> ?_
     have hp188:=h189.sh.passL (Lp:= [_,_])
     refine wl_ex (x_call h189 bd_92 rfl rfl rfl rfl rfl (ih _ l ((pa+pb)/2^1) ((((pa+pb)/2^1)+pm)-i) pb _ (by omega) hp188 (fun x hx=>hD x (((List.Perm.refl l)).mem_iff.1 hx)) (by omega) (by omega) (by omega) (by omega))) (wanted_none rfl _) ?_
     rintro a190 w190 ⟨_,⟨rfl,k190,hpk190,hs190⟩,hf190⟩
     have hpp190:=hpk190.trans (List.Perm.refl l);have hLk190:=hpp190.length_eq;have hDk190:∀x∈k190,D x:=fun x hx=>hD x (hpp190.mem_iff.1 hx)
     have h190:St _ K W a190 w190 _ [_,_]:=⟨hf190,h189.sh.backI (Lp:= [_,_]) hs190⟩
     clear hf190 hs190
     clear h189
     refine gG h190<|nN<|fun a191 w191 h191=> ?_;clear h190
     try simp only [Exit.then,Exit.inBlock,if_true]
     refine x_end0 (fn:=Try.f92) rfl h191 ?_
     exact ⟨rfl,k190,hpp190,h191.sh⟩
    refine gS<|fun a192 w192 h192=> ?_
    try simp only [Exit.then,Exit.inBlock,if_true]
    refine x_end0 (fn:=Try.f92) rfl h192 ?_
    exact ⟨rfl,l,(List.Perm.refl l),h192.sh⟩
   refine gRn (oKs 3 hb184 rfl rfl<|opF hb184 rfl<|.nl)<|nK k183<|gcF rfl rfl<|gS<|fun a193 w193 h193=> ?_
   try simp only [Exit.then,Exit.inBlock,if_true]
   refine x_end0 (fn:=Try.f92) rfl h193 ?_
   exact ⟨rfl,l,(List.Perm.refl l),h193.sh⟩
  refine gRn (oKs 3 hb103 rfl rfl<|opF hb103 rfl<|.nl)<|nK k102<|gcF rfl rfl<|gS<|hK k101<|gK fun _ k194=>sK fun _ k195=>gRn (oM 2 rfl<|oltN _ _ rfl<|oM 1 rfl<|.nl)<|?_
  rcases dsp (pa<i) with ⟨hb196,hp196⟩|⟨hb196,hp196⟩
  ·skip
   refine gRn (oG hb196 (r_move rfl rfl) rfl<|oG hb196 (r_move rfl rfl) rfl<|oG hb196 (r_lssN (p:=i) (q:=(pa+pb)/2^1) rfl rfl rfl) rfl<|opT hb196 rfl<|.nl)<|nK k195<|gF [0,1,3,4,18,20,24,199] rfl<|gcd rfl (fun hb197 hp197=> ?_) fun hb197 hp197=> ?_
   ·skip
    refine gL<|gRn (oM 5 rfl<|.nl)<|fun a201 w201 h201=> ?_
    have hp200:=h201.sh.passL (Lp:= [_,_])
    refine wl_ex (x_call h201 bd_92 rfl rfl rfl rfl rfl (ih _ l pa i ((pa+pb)/2^1) _ (by omega) hp200 (fun x hx=>hD x (((List.Perm.refl l)).mem_iff.1 hx)) (by omega) (by omega) (by omega) (by omega))) (wanted_none rfl _) ?_
    rintro a202 w202 ⟨_,⟨rfl,k202,hpk202,hs202⟩,hf202⟩
    have hpp202:=hpk202.trans (List.Perm.refl l);have hLk202:=hpp202.length_eq;have hDk202:∀x∈k202,D x:=fun x hx=>hD x (hpp202.mem_iff.1 hx)
    have h202:St _ K W a202 w202 _ [_,_]:=⟨hf202,h201.sh.backI (Lp:= [_,_]) hs202⟩
    clear hf202 hs202
    clear h201
    refine gG h202<|nK k194<|sK fun _ k203=>gRn (oM 2 rfl<|oltN _ _ rfl<|oM 1 rfl<|.nl)<|?_;clear h202
    rcases dsp ((pa+pb)/2^1<(((pa+pb)/2^1)+pm)-i) with ⟨hb204,hp204⟩|⟨hb204,hp204⟩
    ·skip
     refine gRn (oG hb204 (r_move rfl rfl) rfl<|oG hb204 (r_move rfl rfl) rfl<|oG hb204 (r_lssN (p:=(((pa+pb)/2^1)+pm)-i) (q:=pb) rfl rfl rfl) rfl<|opT hb204 rfl<|.nl)<|nK k203<|gcd rfl (fun hb205 hp205=> ?_) fun hb205 hp205=> ?_
     ·skip
      refine gL<|gRn (oM 5 rfl<|.nl)<|fun a209 w209 h209=> ?_
      have hp208:=h209.sh.passL (Lp:= [_,_])
      refine wl_ex (x_call h209 bd_92 rfl rfl rfl rfl rfl (ih _ k202 ((pa+pb)/2^1) ((((pa+pb)/2^1)+pm)-i) pb _ (by omega) hp208 (fun x hx=>hD x ((hpp202).mem_iff.1 hx)) (by omega) (by omega) (by omega) (by omega))) (wanted_none rfl _) ?_
      rintro a210 w210 ⟨_,⟨rfl,k210,hpk210,hs210⟩,hf210⟩
      have hpp210:=hpk210.trans hpp202;have hLk210:=hpp210.length_eq;have hDk210:∀x∈k210,D x:=fun x hx=>hD x (hpp210.mem_iff.1 hx)
      have h210:St _ K W a210 w210 _ [_,_]:=⟨hf210,h209.sh.backI (Lp:= [_,_]) hs210⟩
      clear hf210 hs210
      clear h209
      refine gG h210<|nN<|fun a211 w211 h211=> ?_;clear h210
      try simp only [Exit.then,Exit.inBlock,if_true]
      refine x_end0 (fn:=Try.f92) rfl h211 ?_
      exact ⟨rfl,k210,hpp210,h211.sh⟩
     refine gS<|fun a212 w212 h212=> ?_
     try simp only [Exit.then,Exit.inBlock,if_true]
     refine x_end0 (fn:=Try.f92) rfl h212 ?_
     exact ⟨rfl,k202,hpp202,h212.sh⟩
    refine gRn (oKs 3 hb204 rfl rfl<|opF hb204 rfl<|.nl)<|nK k203<|gcF rfl rfl<|gS<|fun a213 w213 h213=> ?_
    try simp only [Exit.then,Exit.inBlock,if_true]
    refine x_end0 (fn:=Try.f92) rfl h213 ?_
    exact ⟨rfl,k202,hpp202,h213.sh⟩
   refine gS<|hK k194<|sK fun _ k214=>gRn (oM 2 rfl<|oltN _ _ rfl<|oM 1 rfl<|.nl)<|?_
   rcases dsp ((pa+pb)/2^1<(((pa+pb)/2^1)+pm)-i) with ⟨hb215,hp215⟩|⟨hb215,hp215⟩
   ·skip
    refine gRn (oG hb215 (r_move rfl rfl) rfl<|oG hb215 (r_move rfl rfl) rfl<|oG hb215 (r_lssN (p:=(((pa+pb)/2^1)+pm)-i) (q:=pb) rfl rfl rfl) rfl<|opT hb215 rfl<|.nl)<|nK k214<|gcd rfl (fun hb216 hp216=> ?_) fun hb216 hp216=> ?_
    ·skip
     refine gL<|gRn (oM 5 rfl<|.nl)<|fun a220 w220 h220=> ?_
     have hp219:=h220.sh.passL (Lp:= [_,_])
     refine wl_ex (x_call h220 bd_92 rfl rfl rfl rfl rfl (ih _ l ((pa+pb)/2^1) ((((pa+pb)/2^1)+pm)-i) pb _ (by omega) hp219 (fun x hx=>hD x (((List.Perm.refl l)).mem_iff.1 hx)) (by omega) (by omega) (by omega) (by omega))) (wanted_none rfl _) ?_
     rintro a221 w221 ⟨_,⟨rfl,k221,hpk221,hs221⟩,hf221⟩
     have hpp221:=hpk221.trans (List.Perm.refl l);have hLk221:=hpp221.length_eq;have hDk221:∀x∈k221,D x:=fun x hx=>hD x (hpp221.mem_iff.1 hx)
     have h221:St _ K W a221 w221 _ [_,_]:=⟨hf221,h220.sh.backI (Lp:= [_,_]) hs221⟩
     clear hf221 hs221
     clear h220
     refine gG h221<|nN<|fun a222 w222 h222=> ?_;clear h221
     try simp only [Exit.then,Exit.inBlock,if_true]
     refine x_end0 (fn:=Try.f92) rfl h222 ?_
     exact ⟨rfl,k221,hpp221,h222.sh⟩
    refine gS<|fun a223 w223 h223=> ?_
    try simp only [Exit.then,Exit.inBlock,if_true]
    refine x_end0 (fn:=Try.f92) rfl h223 ?_
    exact ⟨rfl,l,(List.Perm.refl l),h223.sh⟩
   refine gRn (oKs 3 hb215 rfl rfl<|opF hb215 rfl<|.nl)<|nK k214<|gcF rfl rfl<|gS<|fun a224 w224 h224=> ?_
   try simp only [Exit.then,Exit.inBlock,if_true]
   refine x_end0 (fn:=Try.f92) rfl h224 ?_
   exact ⟨rfl,l,(List.Perm.refl l),h224.sh⟩
  refine gRn (oKs 3 hb196 rfl rfl<|opF hb196 rfl<|.nl)<|nK k195<|gF [0,1,3,4,18,20,24,199] rfl<|gcF rfl rfl<|gS<|hK k194<|sK fun _ k225=>gRn (oM 2 rfl<|oltN _ _ rfl<|oM 1 rfl<|.nl)<|?_
  rcases dsp ((pa+pb)/2^1<(((pa+pb)/2^1)+pm)-i) with ⟨hb226,hp226⟩|⟨hb226,hp226⟩
  ·skip
   refine gRn (oG hb226 (r_move rfl rfl) rfl<|oG hb226 (r_move rfl rfl) rfl<|oG hb226 (r_lssN (p:=(((pa+pb)/2^1)+pm)-i) (q:=pb) rfl rfl rfl) rfl<|opT hb226 rfl<|.nl)<|nK k225<|gcd rfl (fun hb227 hp227=> ?_) fun hb227 hp227=> ?_
   ·skip
    refine gL<|gRn (oM 5 rfl<|.nl)<|fun a231 w231 h231=> ?_
    have hp230:=h231.sh.passL (Lp:= [_,_])
    refine wl_ex (x_call h231 bd_92 rfl rfl rfl rfl rfl (ih _ l ((pa+pb)/2^1) ((((pa+pb)/2^1)+pm)-i) pb _ (by omega) hp230 (fun x hx=>hD x (((List.Perm.refl l)).mem_iff.1 hx)) (by omega) (by omega) (by omega) (by omega))) (wanted_none rfl _) ?_
    rintro a232 w232 ⟨_,⟨rfl,k232,hpk232,hs232⟩,hf232⟩
    have hpp232:=hpk232.trans (List.Perm.refl l);have hLk232:=hpp232.length_eq;have hDk232:∀x∈k232,D x:=fun x hx=>hD x (hpp232.mem_iff.1 hx)
    have h232:St _ K W a232 w232 _ [_,_]:=⟨hf232,h231.sh.backI (Lp:= [_,_]) hs232⟩
    clear hf232 hs232
    clear h231
    refine gG h232<|nN<|fun a233 w233 h233=> ?_;clear h232
    try simp only [Exit.then,Exit.inBlock,if_true]
    refine x_end0 (fn:=Try.f92) rfl h233 ?_
    exact ⟨rfl,k232,hpp232,h233.sh⟩
   refine gS<|fun a234 w234 h234=> ?_
   try simp only [Exit.then,Exit.inBlock,if_true]
   refine x_end0 (fn:=Try.f92) rfl h234 ?_
   exact ⟨rfl,l,(List.Perm.refl l),h234.sh⟩
  refine gRn (oKs 3 hb226 rfl rfl<|opF hb226 rfl<|.nl)<|nK k225<|gcF rfl rfl<|gS<|fun a235 w235 h235=> ?_
  try simp only [Exit.then,Exit.inBlock,if_true]
  refine x_end0 (fn:=Try.f92) rfl h235 ?_
  exact ⟨rfl,l,(List.Perm.refl l),h235.sh⟩
 refine sG (oM 2 rfl<|.nl)<|gL<|gRn (oM 2 rfl<|.nl)<|nK k80<|sG (oM 1 rfl<|osbN _ 1 om9 rfl<|oM 1 rfl<|.nl)<|gF [0,1,2,3,4,18,19,20,21,22] rfl<|gK fun _ k238=>gB<|?_
 have hDl:=hD
 intro a240 w240 h240
 refine x_loop (fun m a w=>∃(i j:Nat),(pa≤i∧i≤j∧j≤pm)∧St 220 K W a w [(0,v0),(1, .int .i64 ((pa:Nat):Int)),(2, .int .i64 ((pm:Nat):Int)),(3, .int .i64 ((pb:Nat):Int)),(4, .func (.func bf) us.toArray ws.toArray),(18, .int .i64 (((pa+pb)/2^1:Nat):Int)),(19, .int .i64 ((((pa+pb)/2^1)+pm:Nat):Int)),(20, .int .i64 ((i:Nat):Int)),(21, .int .i64 ((j:Nat):Int)),(22, .int .i64 (((((pa+pb)/2^1)+pm)-1:Nat):Int))] [.own 3 (⟨v0,l⟩:Ls Int),Env]∧m=j-i) ⟨_,pa,pm,(by omega),h240.nf ⟨rfl,rfl,rfl,rfl,rfl,rfl,rfl,rfl,rfl,rfl,trivial⟩,rfl⟩ ?_
 clear h240
 rintro m239 a239 w239 ⟨i,j,hij,h239,hm239⟩
 refine gG h239<|gK fun _ k241=>sG (oM 2 rfl<|oltN _ _ rfl<|.nl)<|?_;clear h239
 refine gcd rfl (fun hb243 hp243=> ?_) fun hb243 hp243=> ?_
 ·skip
  refine gS<|hK k241<|gB<|sG (oM 2 rfl<|oadN _ _ om9 rfl<|oV (r_cvUN Try.underlying3 Try.underlying121 rfl rfl (show i+j<18446744073709551616 from om9)) rfl<|oV (r_shrU (p:=i+j) (k:=1) rfl rfl rfl (by decide)) rfl<|oV (r_cvI Try.underlying121 Try.underlying3 rfl rfl (show (i+j)/2^1<9223372036854775808 from om9)) rfl<|oM 1 rfl<|.nl)<|gK fun _ k245=>fun a247 w247 h247=>x_quiet (by kernel_rfl) (by kernel_rfl) h247 fun _ z248=>qQ h247.fr<|qRn (oM 4 rfl<|osbN _ _ om9 rfl<|.nl)<|?_
  have hl249:l.length≤140737488355328:=(h247.sh.own 0 rfl).len
  refine qRn (oxN sl_23 ti_3 (aO 0 rfl) _ om9 rfl<|olE (.int .i64 (nth l (((((pa+pb)/2^1)+pm)-1)-((i+j)/2^1)))) ti_3 (aO 0 rfl) om9 rfl<|oM 2 rfl<|oxN sl_23 ti_3 (aO 0 rfl) _ om9 rfl<|olE (.int .i64 (nth l ((i+j)/2^1))) ti_3 (aO 0 rfl) om9 rfl<|.nl)<|qP hbd rfl (fun w h=>(hcf _ (nth l (((((pa+pb)/2^1)+pm)-1)-((i+j)/2^1))) (nth l ((i+j)/2^1)) (h.ok Env (List.mem_of_getElem? (i:=1) rfl)) (hDl _ (nth_mem _ _ (by omega))) (hDl _ (nth_mem _ _ (by omega)))))<|qRn (oltI _ _ rfl<|ont rfl<|.nl)<|qN z248<|hK k245<|?_;clear h247
  refine gCb rfl (fun hb250=> ?_) fun hb250=> ?_
  ·have hp250:¬(cf (nth l (((((pa+pb)/2^1)+pm)-1)-((i+j)/2^1))) (nth l ((i+j)/2^1))<0):=by simpa using hb250
   refine gL<|gRn (oM 1 rfl<|oadN _ 1 om9 rfl<|oM 1 rfl<|.nl)<|nN<|fun a251 w251 h251=> ?_
   change∃_m,_m<_∧_
   refine ⟨_, ?_,((i+j)/2^1)+1,j, ?_,h251.nf ⟨rfl,rfl,rfl,rfl,rfl,rfl,rfl,rfl,rfl,rfl,trivial⟩,rfl⟩
   · rw [hm239];first|omega|(simp only [lens9];omega)
   · omega
  have hp250:cf (nth l (((((pa+pb)/2^1)+pm)-1)-((i+j)/2^1))) (nth l ((i+j)/2^1))<0:=by simpa using hb250
  refine gL<|gRn (oM 2 rfl<|.nl)<|nN<|fun a252 w252 h252=> ?_
  change∃_m,_m<_∧_
  refine ⟨_, ?_,i,(i+j)/2^1, ?_,h252.nf ⟨rfl,rfl,rfl,rfl,rfl,rfl,rfl,rfl,rfl,rfl,trivial⟩,rfl⟩
  · rw [hm239];first|omega|(simp only [lens9];omega)
  · omega
 refine gX<|hK k238<|sG (oM 2 rfl<|osbN _ _ om9 rfl<|oM 1 rfl<|.nl)<|gK fun _ k254=>sK fun _ k255=>gRn (oM 2 rfl<|oltN _ _ rfl<|oM 1 rfl<|.nl)<|?_
 rcases dsp (i<pm) with ⟨hb256,hp256⟩|⟨hb256,hp256⟩
 ·skip
  refine gRn (oG hb256 (r_move rfl rfl) rfl<|oG hb256 (r_move rfl rfl) rfl<|oG hb256 (r_lssN (p:=pm) (q:=(((pa+pb)/2^1)+pm)-i) rfl rfl rfl) rfl<|opT hb256 rfl<|.nl)<|nK k255<|gcd rfl (fun hb257 hp257=> ?_) fun hb257 hp257=> ?_
  ·skip
   refine gL<|gRn (oM 5 rfl<|.nl)<|fun a261 w261 h261=> ?_
   have hp260:=h261.sh.passL (Lp:= [_,_])
   refine wl_ex (x_call h261 bd_98 rfl rfl rfl rfl rfl (rot_c bf us ws cf Env D _ v0 l i pm ((((pa+pb)/2^1)+pm)-i) _ hbd hcf hp260 (fun x hx=>hD x (((List.Perm.refl l)).mem_iff.1 hx)) (by omega) (by omega) (by omega) (by omega))) (wanted_none rfl _) ?_
   rintro a262 w262 ⟨_,⟨rfl,k262,hpk262,hs262⟩,hf262⟩
   have hpp262:=hpk262.trans (List.Perm.refl l);have hLk262:=hpp262.length_eq;have hDk262:∀x∈k262,D x:=fun x hx=>hD x (hpp262.mem_iff.1 hx)
   have h262:St _ K W a262 w262 _ [_,_]:=⟨hf262,h261.sh.backI (Lp:= [_,_]) hs262⟩
   clear hf262 hs262
   clear h261
   refine gG h262<|nK k254<|gF [0,1,3,4,18,20,24] rfl<|gK fun _ k263=>sK fun _ k264=>gRn (oM 2 rfl<|oltN _ _ rfl<|oM 1 rfl<|.nl)<|?_;clear h262
   rcases dsp (pa<i) with ⟨hb265,hp265⟩|⟨hb265,hp265⟩
   ·skip
    refine gRn (oG hb265 (r_move rfl rfl) rfl<|oG hb265 (r_move rfl rfl) rfl<|oG hb265 (r_lssN (p:=i) (q:=(pa+pb)/2^1) rfl rfl rfl) rfl<|opT hb265 rfl<|.nl)<|nK k264<|gcd rfl (fun hb266 hp266=> ?_) fun hb266 hp266=> ?_
    ·skip
     refine gL<|gRn (oM 5 rfl<|.nl)<|fun a270 w270 h270=> ?_
     have hp269:=h270.sh.passL (Lp:= [_,_])
     refine wl_ex (x_call h270 bd_92 rfl rfl rfl rfl rfl (ih _ k262 pa i ((pa+pb)/2^1) _ (by omega) hp269 (fun x hx=>hD x ((hpp262).mem_iff.1 hx)) (by omega) (by omega) (by omega) (by omega))) (wanted_none rfl _) ?_
     rintro a271 w271 ⟨_,⟨rfl,k271,hpk271,hs271⟩,hf271⟩
     have hpp271:=hpk271.trans hpp262;have hLk271:=hpp271.length_eq;have hDk271:∀x∈k271,D x:=fun x hx=>hD x (hpp271.mem_iff.1 hx)
     have h271:St _ K W a271 w271 _ [_,_]:=⟨hf271,h270.sh.backI (Lp:= [_,_]) hs271⟩
     clear hf271 hs271
     clear h270
     refine gG h271<|nK k263<|sK fun _ k272=>gRn (oM 2 rfl<|oltN _ _ rfl<|oM 1 rfl<|.nl)<|?_;clear h271
     rcases dsp ((pa+pb)/2^1<(((pa+pb)/2^1)+pm)-i) with ⟨hb273,hp273⟩|⟨hb273,hp273⟩
     ·skip
      refine gRn (oG hb273 (r_move rfl rfl) rfl<|oG hb273 (r_move rfl rfl) rfl<|oG hb273 (r_lssN (p:=(((pa+pb)/2^1)+pm)-i) (q:=pb) rfl rfl rfl) rfl<|opT hb273 rfl<|.nl)<|nK k272<|gF [0,3,4,18,24,213] rfl<|gcd rfl (fun hb274 hp274=> ?_) fun hb274 hp274=> ?_
      ·skip
       refine gL<|gRn (oM 5 rfl<|.nl)<|fun a278 w278 h278=> ?_
       have hp277:=h278.sh.passL (Lp:= [_,_])
       refine wl_ex (x_call h278 bd_92 rfl rfl rfl rfl rfl (ih _ k271 ((pa+pb)/2^1) ((((pa+pb)/2^1)+pm)-i) pb _ (by omega) hp277 (fun x hx=>hD x ((hpp271).mem_iff.1 hx)) (by omega) (by omega) (by omega) (by omega))) (wanted_none rfl _) ?_
       rintro a279 w279 ⟨_,⟨rfl,k279,hpk279,hs279⟩,hf279⟩
       have hpp279:=hpk279.trans hpp271;have hLk279:=hpp279.length_eq;have hDk279:∀x∈k279,D x:=fun x hx=>hD x (hpp279.mem_iff.1 hx)
       have h279:St _ K W a279 w279 _ [_,_]:=⟨hf279,h278.sh.backI (Lp:= [_,_]) hs279⟩
       clear hf279 hs279
       clear h278
       refine gG h279<|nN<|fun a280 w280 h280=> ?_;clear h279
       try simp only [Exit.then,Exit.inBlock,if_true]
       refine x_end0 (fn:=Try.f92) rfl h280 ?_
       exact ⟨rfl,k279,hpp279,h280.sh⟩
      refine gS<|fun a281 w281 h281=> ?_
      try simp only [Exit.then,Exit.inBlock,if_true]
      refine x_end0 (fn:=Try.f92) rfl h281 ?_
      exact ⟨rfl,k271,hpp271,h281.sh⟩
     refine gRn (oKs 3 hb273 rfl rfl<|opF hb273 rfl<|.nl)<|nK k272<|gF [0,3,4,18,24,213] rfl<|gcF rfl rfl<|gS<|fun a282 w282 h282=> ?_
     try simp only [Exit.then,Exit.inBlock,if_true]
     refine x_end0 (fn:=Try.f92) rfl h282 ?_
     exact ⟨rfl,k271,hpp271,h282.sh⟩
    refine gS<|hK k263<|sK fun _ k283=>gRn (oM 2 rfl<|oltN _ _ rfl<|oM 1 rfl<|.nl)<|?_
    rcases dsp ((pa+pb)/2^1<(((pa+pb)/2^1)+pm)-i) with ⟨hb284,hp284⟩|⟨hb284,hp284⟩
    ·skip
     refine gRn (oG hb284 (r_move rfl rfl) rfl<|oG hb284 (r_move rfl rfl) rfl<|oG hb284 (r_lssN (p:=(((pa+pb)/2^1)+pm)-i) (q:=pb) rfl rfl rfl) rfl<|opT hb284 rfl<|.nl)<|nK k283<|gcd rfl (fun hb285 hp285=> ?_) fun hb285 hp285=> ?_
     ·skip
      refine gL<|gRn (oM 5 rfl<|.nl)<|fun a289 w289 h289=> ?_
      have hp288:=h289.sh.passL (Lp:= [_,_])
      refine wl_ex (x_call h289 bd_92 rfl rfl rfl rfl rfl (ih _ k262 ((pa+pb)/2^1) ((((pa+pb)/2^1)+pm)-i) pb _ (by omega) hp288 (fun x hx=>hD x ((hpp262).mem_iff.1 hx)) (by omega) (by omega) (by omega) (by omega))) (wanted_none rfl _) ?_
      rintro a290 w290 ⟨_,⟨rfl,k290,hpk290,hs290⟩,hf290⟩
      have hpp290:=hpk290.trans hpp262;have hLk290:=hpp290.length_eq;have hDk290:∀x∈k290,D x:=fun x hx=>hD x (hpp290.mem_iff.1 hx)
      have h290:St _ K W a290 w290 _ [_,_]:=⟨hf290,h289.sh.backI (Lp:= [_,_]) hs290⟩
      clear hf290 hs290
      clear h289
      refine gG h290<|nN<|fun a291 w291 h291=> ?_;clear h290
      try simp only [Exit.then,Exit.inBlock,if_true]
      refine x_end0 (fn:=Try.f92) rfl h291 ?_
      exact ⟨rfl,k290,hpp290,h291.sh⟩
     refine gS<|fun a292 w292 h292=> ?_
     try simp only [Exit.then,Exit.inBlock,if_true]
     refine x_end0 (fn:=Try.f92) rfl h292 ?_
     exact ⟨rfl,k262,hpp262,h292.sh⟩
    refine gRn (oKs 3 hb284 rfl rfl<|opF hb284 rfl<|.nl)<|nK k283<|gcF rfl rfl<|gS<|fun a293 w293 h293=> ?_
    try simp only [Exit.then,Exit.inBlock,if_true]
    refine x_end0 (fn:=Try.f92) rfl h293 ?_
    exact ⟨rfl,k262,hpp262,h293.sh⟩
   refine gRn (oKs 3 hb265 rfl rfl<|opF hb265 rfl<|.nl)<|nK k264<|gcF rfl rfl<|gS<|hK k263<|sK fun _ k294=>gRn (oM 2 rfl<|oltN _ _ rfl<|oM 1 rfl<|.nl)<|?_
   rcases dsp ((pa+pb)/2^1<(((pa+pb)/2^1)+pm)-i) with ⟨hb295,hp295⟩|⟨hb295,hp295⟩
   ·skip
    refine gRn (oG hb295 (r_move rfl rfl) rfl<|oG hb295 (r_move rfl rfl) rfl<|oG hb295 (r_lssN (p:=(((pa+pb)/2^1)+pm)-i) (q:=pb) rfl rfl rfl) rfl<|opT hb295 rfl<|.nl)<|nK k294<|gcd rfl (fun hb296 hp296=> ?_) fun hb296 hp296=> ?_
    ·skip
     refine gL<|gRn (oM 5 rfl<|.nl)<|fun a300 w300 h300=> ?_
     have hp299:=h300.sh.passL (Lp:= [_,_])
     refine wl_ex (x_call h300 bd_92 rfl rfl rfl rfl rfl (ih _ k262 ((pa+pb)/2^1) ((((pa+pb)/2^1)+pm)-i) pb _ (by omega) hp299 (fun x hx=>hD x ((hpp262).mem_iff.1 hx)) (by omega) (by omega) (by omega) (by omega))) (wanted_none rfl _) ?_
     rintro a301 w301 ⟨_,⟨rfl,k301,hpk301,hs301⟩,hf301⟩
     have hpp301:=hpk301.trans hpp262;have hLk301:=hpp301.length_eq;have hDk301:∀x∈k301,D x:=fun x hx=>hD x (hpp301.mem_iff.1 hx)
     have h301:St _ K W a301 w301 _ [_,_]:=⟨hf301,h300.sh.backI (Lp:= [_,_]) hs301⟩
     clear hf301 hs301
     clear h300
     refine gG h301<|nN<|fun a302 w302 h302=> ?_;clear h301
     try simp only [Exit.then,Exit.inBlock,if_true]
     refine x_end0 (fn:=Try.f92) rfl h302 ?_
     exact ⟨rfl,k301,hpp301,h302.sh⟩
    refine gS<|fun a303 w303 h303=> ?_
    try simp only [Exit.then,Exit.inBlock,if_true]
    refine x_end0 (fn:=Try.f92) rfl h303 ?_
    exact ⟨rfl,k262,hpp262,h303.sh⟩
   refine gRn (oKs 3 hb295 rfl rfl<|opF hb295 rfl<|.nl)<|nK k294<|gcF rfl rfl<|gS<|fun a304 w304 h304=> ?_
   try simp only [Exit.then,Exit.inBlock,if_true]
   refine x_end0 (fn:=Try.f92) rfl h304 ?_
   exact ⟨rfl,k262,hpp262,h304.sh⟩
  refine gS<|hK k254<|gK fun _ k305=>sK fun _ k306=>gRn (oM 2 rfl<|oltN _ _ rfl<|oM 1 rfl<|.nl)<|?_
  rcases dsp (pa<i) with ⟨hb307,hp307⟩|⟨hb307,hp307⟩
  ·skip
   refine gRn (oG hb307 (r_move rfl rfl) rfl<|oG hb307 (r_move rfl rfl) rfl<|oG hb307 (r_lssN (p:=i) (q:=(pa+pb)/2^1) rfl rfl rfl) rfl<|opT hb307 rfl<|.nl)<|nK k306<|gF [0,1,3,4,18,20,24,199] rfl<|gcd rfl (fun hb308 hp308=> ?_) fun hb308 hp308=> ?_
   ·skip
    refine gL<|gRn (oM 5 rfl<|.nl)<|fun a312 w312 h312=> ?_
    have hp311:=h312.sh.passL (Lp:= [_,_])
    refine wl_ex (x_call h312 bd_92 rfl rfl rfl rfl rfl (ih _ l pa i ((pa+pb)/2^1) _ (by omega) hp311 (fun x hx=>hD x (((List.Perm.refl l)).mem_iff.1 hx)) (by omega) (by omega) (by omega) (by omega))) (wanted_none rfl _) ?_
    rintro a313 w313 ⟨_,⟨rfl,k313,hpk313,hs313⟩,hf313⟩
    have hpp313:=hpk313.trans (List.Perm.refl l);have hLk313:=hpp313.length_eq;have hDk313:∀x∈k313,D x:=fun x hx=>hD x (hpp313.mem_iff.1 hx)
    have h313:St _ K W a313 w313 _ [_,_]:=⟨hf313,h312.sh.backI (Lp:= [_,_]) hs313⟩
    clear hf313 hs313
    clear h312
    refine gG h313<|nK k305<|sK fun _ k314=>gRn (oM 2 rfl<|oltN _ _ rfl<|oM 1 rfl<|.nl)<|?_;clear h313
    rcases dsp ((pa+pb)/2^1<(((pa+pb)/2^1)+pm)-i) with ⟨hb315,hp315⟩|⟨hb315,hp315⟩
    ·skip
     refine gRn (oG hb315 (r_move rfl rfl) rfl<|oG hb315 (r_move rfl rfl) rfl<|oG hb315 (r_lssN (p:=(((pa+pb)/2^1)+pm)-i) (q:=pb) rfl rfl rfl) rfl<|opT hb315 rfl<|.nl)<|nK k314<|gcd rfl (fun hb316 hp316=> ?_) fun hb316 hp316=> ?_
     ·skip
      refine gL<|gRn (oM 5 rfl<|.nl)<|fun a320 w320 h320=> ?_
      have hp319:=h320.sh.passL (Lp:= [_,_])
      refine wl_ex (x_call h320 bd_92 rfl rfl rfl rfl rfl (ih _ k313 ((pa+pb)/2^1) ((((pa+pb)/2^1)+pm)-i) pb _ (by omega) hp319 (fun x hx=>hD x ((hpp313).mem_iff.1 hx)) (by omega) (by omega) (by omega) (by omega))) (wanted_none rfl _) ?_
      rintro a321 w321 ⟨_,⟨rfl,k321,hpk321,hs321⟩,hf321⟩
      have hpp321:=hpk321.trans hpp313;have hLk321:=hpp321.length_eq;have hDk321:∀x∈k321,D x:=fun x hx=>hD x (hpp321.mem_iff.1 hx)
      have h321:St _ K W a321 w321 _ [_,_]:=⟨hf321,h320.sh.backI (Lp:= [_,_]) hs321⟩
      clear hf321 hs321
      clear h320
      refine gG h321<|nN<|fun a322 w322 h322=> ?_;clear h321
      try simp only [Exit.then,Exit.inBlock,if_true]
      refine x_end0 (fn:=Try.f92) rfl h322 ?_
      exact ⟨rfl,k321,hpp321,h322.sh⟩
     refine gS<|fun a323 w323 h323=> ?_
     try simp only [Exit.then,Exit.inBlock,if_true]
     refine x_end0 (fn:=Try.f92) rfl h323 ?_
     exact ⟨rfl,k313,hpp313,h323.sh⟩
    refine gRn (oKs 3 hb315 rfl rfl<|opF hb315 rfl<|.nl)<|nK k314<|gcF rfl rfl<|gS<|fun a324 w324 h324=> ?_
    try simp only [Exit.then,Exit.inBlock,if_true]
    refine x_end0 (fn:=Try.f92) rfl h324 ?_
    exact ⟨rfl,k313,hpp313,h324.sh⟩
   refine gS<|hK k305<|sK fun _ k325=>gRn (oM 2 rfl<|oltN _ _ rfl<|oM 1 rfl<|.nl)<|?_
   rcases dsp ((pa+pb)/2^1<(((pa+pb)/2^1)+pm)-i) with ⟨hb326,hp326⟩|⟨hb326,hp326⟩
   ·skip
    refine gRn (oG hb326 (r_move rfl rfl) rfl<|oG hb326 (r_move rfl rfl) rfl<|oG hb326 (r_lssN (p:=(((pa+pb)/2^1)+pm)-i) (q:=pb) rfl rfl rfl) rfl<|opT hb326 rfl<|.nl)<|nK k325<|gcd rfl (fun hb327 hp327=> ?_) fun hb327 hp327=> ?_
    ·skip
     refine gL<|gRn (oM 5 rfl<|.nl)<|fun a331 w331 h331=> ?_
     have hp330:=h331.sh.passL (Lp:= [_,_])
     refine wl_ex (x_call h331 bd_92 rfl rfl rfl rfl rfl (ih _ l ((pa+pb)/2^1) ((((pa+pb)/2^1)+pm)-i) pb _ (by omega) hp330 (fun x hx=>hD x (((List.Perm.refl l)).mem_iff.1 hx)) (by omega) (by omega) (by omega) (by omega))) (wanted_none rfl _) ?_
     rintro a332 w332 ⟨_,⟨rfl,k332,hpk332,hs332⟩,hf332⟩
     have hpp332:=hpk332.trans (List.Perm.refl l);have hLk332:=hpp332.length_eq;have hDk332:∀x∈k332,D x:=fun x hx=>hD x (hpp332.mem_iff.1 hx)
     have h332:St _ K W a332 w332 _ [_,_]:=⟨hf332,h331.sh.backI (Lp:= [_,_]) hs332⟩
     clear hf332 hs332
     clear h331
     refine gG h332<|nN<|fun a333 w333 h333=> ?_;clear h332
     try simp only [Exit.then,Exit.inBlock,if_true]
     refine x_end0 (fn:=Try.f92) rfl h333 ?_
     exact ⟨rfl,k332,hpp332,h333.sh⟩
    refine gS<|fun a334 w334 h334=> ?_
    try simp only [Exit.then,Exit.inBlock,if_true]
    refine x_end0 (fn:=Try.f92) rfl h334 ?_
    exact ⟨rfl,l,(List.Perm.refl l),h334.sh⟩
   refine gRn (oKs 3 hb326 rfl rfl<|opF hb326 rfl<|.nl)<|nK k325<|gcF rfl rfl<|gS<|fun a335 w335 h335=> ?_
   try simp only [Exit.then,Exit.inBlock,if_true]
   refine x_end0 (fn:=Try.f92) rfl h335 ?_
   exact ⟨rfl,l,(List.Perm.refl l),h335.sh⟩
  refine gRn (oKs 3 hb307 rfl rfl<|opF hb307 rfl<|.nl)<|nK k306<|gF [0,1,3,4,18,20,24,199] rfl<|gcF rfl rfl<|gS<|hK k305<|sK fun _ k336=>gRn (oM 2 rfl<|oltN _ _ rfl<|oM 1 rfl<|.nl)<|?_
  rcases dsp ((pa+pb)/2^1<(((pa+pb)/2^1)+pm)-i) with ⟨hb337,hp337⟩|⟨hb337,hp337⟩
  ·skip
   refine gRn (oG hb337 (r_move rfl rfl) rfl<|oG hb337 (r_move rfl rfl) rfl<|oG hb337 (r_lssN (p:=(((pa+pb)/2^1)+pm)-i) (q:=pb) rfl rfl rfl) rfl<|opT hb337 rfl<|.nl)<|nK k336<|gcd rfl (fun hb338 hp338=> ?_) fun hb338 hp338=> ?_
   ·skip
    refine gL<|gRn (oM 5 rfl<|.nl)<|fun a342 w342 h342=> ?_
    have hp341:=h342.sh.passL (Lp:= [_,_])
    refine wl_ex (x_call h342 bd_92 rfl rfl rfl rfl rfl (ih _ l ((pa+pb)/2^1) ((((pa+pb)/2^1)+pm)-i) pb _ (by omega) hp341 (fun x hx=>hD x (((List.Perm.refl l)).mem_iff.1 hx)) (by omega) (by omega) (by omega) (by omega))) (wanted_none rfl _) ?_
    rintro a343 w343 ⟨_,⟨rfl,k343,hpk343,hs343⟩,hf343⟩
    have hpp343:=hpk343.trans (List.Perm.refl l);have hLk343:=hpp343.length_eq;have hDk343:∀x∈k343,D x:=fun x hx=>hD x (hpp343.mem_iff.1 hx)
    have h343:St _ K W a343 w343 _ [_,_]:=⟨hf343,h342.sh.backI (Lp:= [_,_]) hs343⟩
    clear hf343 hs343
    clear h342
    refine gG h343<|nN<|fun a344 w344 h344=> ?_;clear h343
    try simp only [Exit.then,Exit.inBlock,if_true]
    refine x_end0 (fn:=Try.f92) rfl h344 ?_
    exact ⟨rfl,k343,hpp343,h344.sh⟩
   refine gS<|fun a345 w345 h345=> ?_
   try simp only [Exit.then,Exit.inBlock,if_true]
   refine x_end0 (fn:=Try.f92) rfl h345 ?_
   exact ⟨rfl,l,(List.Perm.refl l),h345.sh⟩
  refine gRn (oKs 3 hb337 rfl rfl<|opF hb337 rfl<|.nl)<|nK k336<|gcF rfl rfl<|gS<|fun a346 w346 h346=> ?_
  try simp only [Exit.then,Exit.inBlock,if_true]
  refine x_end0 (fn:=Try.f92) rfl h346 ?_
  exact ⟨rfl,l,(List.Perm.refl l),h346.sh⟩
 refine gRn (oKs 3 hb256 rfl rfl<|opF hb256 rfl<|.nl)<|nK k255<|gcF rfl rfl<|gS<|hK k254<|gK fun _ k347=>sK fun _ k348=>gRn (oM 2 rfl<|oltN _ _ rfl<|oM 1 rfl<|.nl)<|?_
 rcases dsp (pa<i) with ⟨hb349,hp349⟩|⟨hb349,hp349⟩
 ·skip
  refine gRn (oG hb349 (r_move rfl rfl) rfl<|oG hb349 (r_move rfl rfl) rfl<|oG hb349 (r_lssN (p:=i) (q:=(pa+pb)/2^1) rfl rfl rfl) rfl<|opT hb349 rfl<|.nl)<|nK k348<|gF [0,1,3,4,18,20,24,199] rfl<|gcd rfl (fun hb350 hp350=> ?_) fun hb350 hp350=> ?_
  ·skip
   refine gL<|gRn (oM 5 rfl<|.nl)<|fun a354 w354 h354=> ?_
   have hp353:=h354.sh.passL (Lp:= [_,_])
   refine wl_ex (x_call h354 bd_92 rfl rfl rfl rfl rfl (ih _ l pa i ((pa+pb)/2^1) _ (by omega) hp353 (fun x hx=>hD x (((List.Perm.refl l)).mem_iff.1 hx)) (by omega) (by omega) (by omega) (by omega))) (wanted_none rfl _) ?_
   rintro a355 w355 ⟨_,⟨rfl,k355,hpk355,hs355⟩,hf355⟩
   have hpp355:=hpk355.trans (List.Perm.refl l);have hLk355:=hpp355.length_eq;have hDk355:∀x∈k355,D x:=fun x hx=>hD x (hpp355.mem_iff.1 hx)
   have h355:St _ K W a355 w355 _ [_,_]:=⟨hf355,h354.sh.backI (Lp:= [_,_]) hs355⟩
   clear hf355 hs355
   clear h354
   refine gG h355<|nK k347<|sK fun _ k356=>gRn (oM 2 rfl<|oltN _ _ rfl<|oM 1 rfl<|.nl)<|?_;clear h355
   rcases dsp ((pa+pb)/2^1<(((pa+pb)/2^1)+pm)-i) with ⟨hb357,hp357⟩|⟨hb357,hp357⟩
   ·skip
    refine gRn (oG hb357 (r_move rfl rfl) rfl<|oG hb357 (r_move rfl rfl) rfl<|oG hb357 (r_lssN (p:=(((pa+pb)/2^1)+pm)-i) (q:=pb) rfl rfl rfl) rfl<|opT hb357 rfl<|.nl)<|nK k356<|gcd rfl (fun hb358 hp358=> ?_) fun hb358 hp358=> ?_
    ·skip
     refine gL<|gRn (oM 5 rfl<|.nl)<|fun a362 w362 h362=> ?_
     have hp361:=h362.sh.passL (Lp:= [_,_])
     refine wl_ex (x_call h362 bd_92 rfl rfl rfl rfl rfl (ih _ k355 ((pa+pb)/2^1) ((((pa+pb)/2^1)+pm)-i) pb _ (by omega) hp361 (fun x hx=>hD x ((hpp355).mem_iff.1 hx)) (by omega) (by omega) (by omega) (by omega))) (wanted_none rfl _) ?_
     rintro a363 w363 ⟨_,⟨rfl,k363,hpk363,hs363⟩,hf363⟩
     have hpp363:=hpk363.trans hpp355;have hLk363:=hpp363.length_eq;have hDk363:∀x∈k363,D x:=fun x hx=>hD x (hpp363.mem_iff.1 hx)
     have h363:St _ K W a363 w363 _ [_,_]:=⟨hf363,h362.sh.backI (Lp:= [_,_]) hs363⟩
     clear hf363 hs363
     clear h362
     refine gG h363<|nN<|fun a364 w364 h364=> ?_;clear h363
     try simp only [Exit.then,Exit.inBlock,if_true]
     refine x_end0 (fn:=Try.f92) rfl h364 ?_
     exact ⟨rfl,k363,hpp363,h364.sh⟩
    refine gS<|fun a365 w365 h365=> ?_
    try simp only [Exit.then,Exit.inBlock,if_true]
    refine x_end0 (fn:=Try.f92) rfl h365 ?_
    exact ⟨rfl,k355,hpp355,h365.sh⟩
   refine gRn (oKs 3 hb357 rfl rfl<|opF hb357 rfl<|.nl)<|nK k356<|gcF rfl rfl<|gS<|fun a366 w366 h366=> ?_
   try simp only [Exit.then,Exit.inBlock,if_true]
   refine x_end0 (fn:=Try.f92) rfl h366 ?_
   exact ⟨rfl,k355,hpp355,h366.sh⟩
  refine gS<|hK k347<|sK fun _ k367=>gRn (oM 2 rfl<|oltN _ _ rfl<|oM 1 rfl<|.nl)<|?_
  rcases dsp ((pa+pb)/2^1<(((pa+pb)/2^1)+pm)-i) with ⟨hb368,hp368⟩|⟨hb368,hp368⟩
  ·skip
   refine gRn (oG hb368 (r_move rfl rfl) rfl<|oG hb368 (r_move rfl rfl) rfl<|oG hb368 (r_lssN (p:=(((pa+pb)/2^1)+pm)-i) (q:=pb) rfl rfl rfl) rfl<|opT hb368 rfl<|.nl)<|nK k367<|gcd rfl (fun hb369 hp369=> ?_) fun hb369 hp369=> ?_
   ·skip
    refine gL<|gRn (oM 5 rfl<|.nl)<|fun a373 w373 h373=> ?_
    have hp372:=h373.sh.passL (Lp:= [_,_])
    refine wl_ex (x_call h373 bd_92 rfl rfl rfl rfl rfl (ih _ l ((pa+pb)/2^1) ((((pa+pb)/2^1)+pm)-i) pb _ (by omega) hp372 (fun x hx=>hD x (((List.Perm.refl l)).mem_iff.1 hx)) (by omega) (by omega) (by omega) (by omega))) (wanted_none rfl _) ?_
    rintro a374 w374 ⟨_,⟨rfl,k374,hpk374,hs374⟩,hf374⟩
    have hpp374:=hpk374.trans (List.Perm.refl l);have hLk374:=hpp374.length_eq;have hDk374:∀x∈k374,D x:=fun x hx=>hD x (hpp374.mem_iff.1 hx)
    have h374:St _ K W a374 w374 _ [_,_]:=⟨hf374,h373.sh.backI (Lp:= [_,_]) hs374⟩
    clear hf374 hs374
    clear h373
    refine gG h374<|nN<|fun a375 w375 h375=> ?_;clear h374
    try simp only [Exit.then,Exit.inBlock,if_true]
    refine x_end0 (fn:=Try.f92) rfl h375 ?_
    exact ⟨rfl,k374,hpp374,h375.sh⟩
   refine gS<|fun a376 w376 h376=> ?_
   try simp only [Exit.then,Exit.inBlock,if_true]
   refine x_end0 (fn:=Try.f92) rfl h376 ?_
   exact ⟨rfl,l,(List.Perm.refl l),h376.sh⟩
  refine gRn (oKs 3 hb368 rfl rfl<|opF hb368 rfl<|.nl)<|nK k367<|gcF rfl rfl<|gS<|fun a377 w377 h377=> ?_
  try simp only [Exit.then,Exit.inBlock,if_true]
  refine x_end0 (fn:=Try.f92) rfl h377 ?_
  exact ⟨rfl,l,(List.Perm.refl l),h377.sh⟩
 refine gRn (oKs 3 hb349 rfl rfl<|opF hb349 rfl<|.nl)<|nK k348<|gF [0,1,3,4,18,20,24,199] rfl<|gcF rfl rfl<|gS<|hK k347<|sK fun _ k378=>gRn (oM 2 rfl<|oltN _ _ rfl<|oM 1 rfl<|.nl)<|?_
 rcases dsp ((pa+pb)/2^1<(((pa+pb)/2^1)+pm)-i) with ⟨hb379,hp379⟩|⟨hb379,hp379⟩
 ·skip
  refine gRn (oG hb379 (r_move rfl rfl) rfl<|oG hb379 (r_move rfl rfl) rfl<|oG hb379 (r_lssN (p:=(((pa+pb)/2^1)+pm)-i) (q:=pb) rfl rfl rfl) rfl<|opT hb379 rfl<|.nl)<|nK k378<|gcd rfl (fun hb380 hp380=> ?_) fun hb380 hp380=> ?_
  ·skip
   refine gL<|gRn (oM 5 rfl<|.nl)<|fun a384 w384 h384=> ?_
   have hp383:=h384.sh.passL (Lp:= [_,_])
   refine wl_ex (x_call h384 bd_92 rfl rfl rfl rfl rfl (ih _ l ((pa+pb)/2^1) ((((pa+pb)/2^1)+pm)-i) pb _ (by omega) hp383 (fun x hx=>hD x (((List.Perm.refl l)).mem_iff.1 hx)) (by omega) (by omega) (by omega) (by omega))) (wanted_none rfl _) ?_
   rintro a385 w385 ⟨_,⟨rfl,k385,hpk385,hs385⟩,hf385⟩
   have hpp385:=hpk385.trans (List.Perm.refl l);have hLk385:=hpp385.length_eq;have hDk385:∀x∈k385,D x:=fun x hx=>hD x (hpp385.mem_iff.1 hx)
   have h385:St _ K W a385 w385 _ [_,_]:=⟨hf385,h384.sh.backI (Lp:= [_,_]) hs385⟩
   clear hf385 hs385
   clear h384
   refine gG h385<|nN<|fun a386 w386 h386=> ?_;clear h385
   try simp only [Exit.then,Exit.inBlock,if_true]
   refine x_end0 (fn:=Try.f92) rfl h386 ?_
   exact ⟨rfl,k385,hpp385,h386.sh⟩
  refine gS<|fun a387 w387 h387=> ?_
  try simp only [Exit.then,Exit.inBlock,if_true]
  refine x_end0 (fn:=Try.f92) rfl h387 ?_
  exact ⟨rfl,l,(List.Perm.refl l),h387.sh⟩
 refine gRn (oKs 3 hb379 rfl rfl<|opF hb379 rfl<|.nl)<|nK k378<|gcF rfl rfl<|gS<|fun a388 w388 h388=> ?_
 try simp only [Exit.then,Exit.inBlock,if_true]
 refine x_end0 (fn:=Try.f92) rfl h388 ?_
 exact ⟨rfl,l,(List.Perm.refl l),h388.sh⟩
theorem sym_c (bf:FuncId)(us ws:List Value)(cf:Int→Int→Int)(Env:Asn)(D:Int→Prop)(hbd:bodyI Try.prog bf=true)(hcf:∀(w:World) (x y:Int),Env.ok w→D x→D y→Rets Try.prog bf (us++ [.int .i64 x, .int .i64 y]++ws) w (fun v w' =>v= .int .i64 (cf x y)∧Sh0 w w' [])):∀(n:Nat) (K:Nat→Prop) (v0:Value) (l:List Int) (pa pm pb:Nat) (W:World),pb-pa<n→Sh K W W [.own 3 (⟨v0,l⟩:Ls Int),Env]→(∀x∈l,D x)→l.length≤1000→pa<pm→pm<pb→pb≤l.length→Rets Try.prog 92 [v0, .int .i64 ((pa:Nat):Int), .int .i64 ((pm:Nat):Int), .int .i64 ((pb:Nat):Int), .func (.func bf) us.toArray ws.toArray] W (fun v w' =>v= .tuple #[]∧∃k:List Int,k.Perm l∧Sh K W w' [.own 3 (⟨v0,k⟩:Ls Int),Env])
 |0,_,_,_,_,_,_,_,hn,_,_,_,_,_,_=>absurd hn (Nat.not_lt_zero _)
 |n+1,K,v0,l,pa,pm,pb,W,hn,hS,hD,hl,h1,h2,h3=>sym_i bf us ws cf Env D K v0 l pa pm pb W hbd hcf hS hD hl (fun K l a' m' b' W h4=>sym_c bf us ws cf Env D hbd hcf n K v0 l a' m' b' W (by omega)) h1 h2 h3
theorem stab_c (bf:FuncId)(us ws:List Value)(cf:Int→Int→Int)(Env:Asn)(D:Int→Prop)(K:Nat→Prop)(v0:Value)(l:List Int)(pn:Nat)(W:World)(hbd:bodyI Try.prog bf=true)(hcf:∀(w:World) (x y:Int),Env.ok w→D x→D y→Rets Try.prog bf (us++ [.int .i64 x, .int .i64 y]++ws) w (fun v w' =>v= .int .i64 (cf x y)∧Sh0 w w' []))(hS:Sh K W W [.own 3 (⟨v0,l⟩:Ls Int),Env])(hD:∀x∈l,D x)(hl:l.length≤1000)(h1:pn≤l.length):
    Rets Try.prog 66 [v0, .int .i64 ((pn:Nat):Int), .func (.func bf) us.toArray ws.toArray] W (fun v w' =>v= .tuple #[]∧∃k:List Int,k.Perm l∧Sh K W w' [.own 3 (⟨v0,k⟩:Ls Int),Env]):=by
 refine gen Try.func66 Try.ntmps66 hS rfl fun a10 h10=>gG h10<|sG (oM 1 rfl<|.nl)<|sG (oM 3 rfl<|.nl)<|gK fun _ k13=>gB<|fun a15 w15 h15=>x_loop (fun m a w=>∃(ga gb:Nat) (l1:List Int),(gb=ga+20∧ga≤pn)∧(l1.Perm l)∧St 63 K W a w [(0,v0),(1, .int .i64 ((pn:Nat):Int)),(2, .func (.func bf) us.toArray ws.toArray),(6, .int .i64 20),(7, .int .i64 ((ga:Nat):Int)),(8, .int .i64 ((gb:Nat):Int))] [.own 3 (⟨v0,l1⟩:Ls Int),Env]∧m=pn-ga) ⟨_,0,20,l,(by omega),(List.Perm.refl _),h15.nf ⟨rfl,rfl,rfl,rfl,rfl,rfl,trivial⟩,rfl⟩ ?_;clear h10
 clear h15
 rintro m14 a14 w14 ⟨ga,gb,l1,hab,hp1,h14,hm14⟩
 have hLl:=hp1.length_eq
 refine gG h14<|gK fun _ k16=>sG (oM 2 rfl<|oleN _ _ rfl<|.nl)<|?_;clear h14
 refine gcd rfl (fun hb18 hp18=> ?_) fun hb18 hp18=> ?_
 ·skip
  refine gS<|hK k16<|gB<|sK fun _ k19=>gRn (oM 4 rfl<|.nl)<|fun a23 w23 h23=> ?_
  have hp22:=h23.sh.passL (Lp:= [_,_])
  refine wl_ex (x_call h23 bd_91 rfl rfl rfl rfl rfl (insS_c bf us ws cf Env D _ v0 l1 ga gb _ hbd hcf hp22 (fun x hx=>hD x ((hp1).mem_iff.1 hx)) (by omega) (by omega) (by omega))) (wanted_none rfl _) ?_
  rintro a24 w24 ⟨_,⟨rfl,k24,hpk24,hs24⟩,hf24⟩
  have hpp24:=hpk24.trans hp1;have hLk24:=hpp24.length_eq;have hDk24:∀x∈k24,D x:=fun x hx=>hD x (hpp24.mem_iff.1 hx)
  have h24:St _ K W a24 w24 _ [_,_]:=⟨hf24,h23.sh.backI (Lp:= [_,_]) hs24⟩
  clear hf24 hs24
  clear h23
  refine gG h24<|nK k19<|sG (oM 2 rfl<|.nl)<|gL<|gRn (oM 2 rfl<|oadN _ 20 om9 rfl<|oM 1 rfl<|.nl)<|nN<|fun a26 w26 h26=> ?_;clear h24
  change∃_m,_m<_∧_
  have hpz:=hpp24
  refine ⟨_, ?_,gb,gb+20,k24, ?_, ?_,h26.nf ⟨rfl,rfl,rfl,rfl,rfl,rfl,trivial⟩,rfl⟩
  · rw [hm14];first|omega|(simp only [lens9];omega)
  · omega
  · exact hpz
 refine gX<|hK k13<|sK fun _ k27=>gRn (oM 4 rfl<|.nl)<|fun a31 w31 h31=> ?_
 have hp30:=h31.sh.passL (Lp:= [_,_])
 refine wl_ex (x_call h31 bd_91 rfl rfl rfl rfl rfl (insS_c bf us ws cf Env D _ v0 l1 ga pn _ hbd hcf hp30 (fun x hx=>hD x ((hp1).mem_iff.1 hx)) (by omega) (by omega) (by omega))) (wanted_none rfl _) ?_
 rintro a32 w32 ⟨_,⟨rfl,k32,hpk32,hs32⟩,hf32⟩
 have hpp32:=hpk32.trans hp1;have hLk32:=hpp32.length_eq;have hDk32:∀x∈k32,D x:=fun x hx=>hD x (hpp32.mem_iff.1 hx)
 have h32:St _ K W a32 w32 _ [_,_]:=⟨hf32,h31.sh.backI (Lp:= [_,_]) hs32⟩
 clear hf32 hs32
 clear h31
 refine gG h32<|nK k27<|gB<|fun a34 w34 h34=>x_loop (fun m a w=>∃(bs:Nat) (l2:List Int),(20≤bs∧bs≤2000)∧(l2.Perm l)∧St 63 K W a w [(0,v0),(1, .int .i64 ((pn:Nat):Int)),(2, .func (.func bf) us.toArray ws.toArray),(6, .int .i64 ((bs:Nat):Int))] [.own 3 (⟨v0,l2⟩:Ls Int),Env]∧m=pn-bs) ⟨_,20,k32,(by omega),(hpp32),h34.nf ⟨rfl,rfl,rfl,rfl,trivial⟩,rfl⟩ ?_;clear h32
 clear h34
 rintro m33 a33 w33 ⟨bs,l2,hbs,hp2,h33,hm33⟩
 have hLl2:=hp2.length_eq
 refine gG h33<|gK fun _ k35=>sG (oM 2 rfl<|oltN _ _ rfl<|.nl)<|?_;clear h33
 refine gcd rfl (fun hb37 hp37=> ?_) fun hb37 hp37=> ?_
 ·skip
  refine gS<|hK k35<|gB<|sG (oM 1 rfl<|omlN 2 _ om9 rfl<|oM 2 rfl<|.nl)<|gK fun _ k39=>gB<|fun a41 w41 h41=>x_loop (fun m a w=>∃(gc gd:Nat) (l3:List Int),(gd=gc+2*bs∧gc≤pn)∧(l3.Perm l)∧St 63 K W a w [(0,v0),(1, .int .i64 ((pn:Nat):Int)),(2, .func (.func bf) us.toArray ws.toArray),(6, .int .i64 ((bs:Nat):Int)),(7, .int .i64 ((gc:Nat):Int)),(8, .int .i64 ((gd:Nat):Int))] [.own 3 (⟨v0,l3⟩:Ls Int),Env]∧m=pn-gc) ⟨_,0,2*bs,l2,(by omega),(hp2),h41.nf ⟨rfl,rfl,rfl,rfl,rfl,rfl,trivial⟩,rfl⟩ ?_
  clear h41
  rintro m40 a40 w40 ⟨gc,gd,l3,hcd,hp3,h40,hm40⟩
  have hLl3:=hp3.length_eq
  refine gG h40<|gK fun _ k42=>sG (oM 2 rfl<|oleN _ _ rfl<|.nl)<|?_;clear h40
  refine gcd rfl (fun hb44 hp44=> ?_) fun hb44 hp44=> ?_
  ·skip
   refine gS<|hK k42<|gB<|sK fun _ k45=>gRn (oM 4 rfl<|oadN _ _ om9 rfl<|oM 2 rfl<|.nl)<|fun a49 w49 h49=> ?_
   have hp48:=h49.sh.passL (Lp:= [_,_])
   refine wl_ex (x_call h49 bd_92 rfl rfl rfl rfl rfl (sym_c bf us ws cf Env D hbd hcf 2000 _ v0 l3 gc (gc+bs) gd _ (by omega) hp48 (fun x hx=>hD x ((hp3).mem_iff.1 hx)) (by omega) (by omega) (by omega) (by omega))) (wanted_none rfl _) ?_
   rintro a50 w50 ⟨_,⟨rfl,k50,hpk50,hs50⟩,hf50⟩
   have hpp50:=hpk50.trans hp3;have hLk50:=hpp50.length_eq;have hDk50:∀x∈k50,D x:=fun x hx=>hD x (hpp50.mem_iff.1 hx)
   have h50:St _ K W a50 w50 _ [_,_]:=⟨hf50,h49.sh.backI (Lp:= [_,_]) hs50⟩
   clear hf50 hs50
   clear h49
   refine gG h50<|nK k45<|sG (oM 2 rfl<|.nl)<|gL<|gRn (oM 2 rfl<|omlN 2 _ om9 rfl<|oadN _ _ om9 rfl<|oM 1 rfl<|.nl)<|nN<|fun a52 w52 h52=> ?_;clear h50
   change∃_m,_m<_∧_
   have hpz:=hpp50
   refine ⟨_, ?_,gd,gd+(2*bs),k50, ?_, ?_,h52.nf ⟨rfl,rfl,rfl,rfl,rfl,rfl,trivial⟩,rfl⟩
   · rw [hm40];first|omega|(simp only [lens9];omega)
   · omega
   · exact hpz
  refine gX<|hK k39<|gK fun _ k53=>sG (oM 2 rfl<|oadN _ _ om9 rfl<|oM 1 rfl<|.nl)<|sG (oM 2 rfl<|oltN _ _ rfl<|.nl)<|gcd rfl (fun hb56 hp56=> ?_) fun hb56 hp56=> ?_
  ·skip
   refine gL<|gRn (oM 5 rfl<|.nl)<|fun a60 w60 h60=> ?_
   have hp59:=h60.sh.passL (Lp:= [_,_])
   refine wl_ex (x_call h60 bd_92 rfl rfl rfl rfl rfl (sym_c bf us ws cf Env D hbd hcf 2000 _ v0 l3 gc (gc+bs) pn _ (by omega) hp59 (fun x hx=>hD x ((hp3).mem_iff.1 hx)) (by omega) (by omega) (by omega) (by omega))) (wanted_none rfl _) ?_
   rintro a61 w61 ⟨_,⟨rfl,k61,hpk61,hs61⟩,hf61⟩
   have hpp61:=hpk61.trans hp3;have hLk61:=hpp61.length_eq;have hDk61:∀x∈k61,D x:=fun x hx=>hD x (hpp61.mem_iff.1 hx)
   have h61:St _ K W a61 w61 _ [_,_]:=⟨hf61,h60.sh.backI (Lp:= [_,_]) hs61⟩
   clear hf61 hs61
   clear h60
   refine gG h61<|nK k53<|gL<|gRn (oM 1 rfl<|omlN _ 2 om9 rfl<|oM 1 rfl<|.nl)<|nN<|fun a62 w62 h62=> ?_;clear h61
   change∃_m,_m<_∧_
   have hpz:=hpp61
   refine ⟨_, ?_,bs*2,k61, ?_, ?_,h62.nf ⟨rfl,rfl,rfl,rfl,trivial⟩,rfl⟩
   · rw [hm33];first|omega|(simp only [lens9];omega)
   · omega
   · exact hpz
  refine gS<|hK k53<|gL<|gRn (oM 1 rfl<|omlN _ 2 om9 rfl<|oM 1 rfl<|.nl)<|nN<|fun a63 w63 h63=> ?_
  change∃_m,_m<_∧_
  have hpz:=hp3
  refine ⟨_, ?_,bs*2,l3, ?_, ?_,h63.nf ⟨rfl,rfl,rfl,rfl,trivial⟩,rfl⟩
  · rw [hm33];first|omega|(simp only [lens9];omega)
  · omega
  · exact hpz
 refine gX<|fun a64 w64 h64=> ?_
 try simp only [Exit.then,Exit.inBlock,if_true]
 refine x_end0 (fn:=Try.f66) rfl h64 ?_
 exact ⟨rfl,l2,hp2,h64.sh⟩
theorem stabF_c (bf:FuncId)(us ws:List Value)(cf:Int→Int→Int)(Env:Asn)(D:Int→Prop)(K:Nat→Prop)(v0:Value)(l:List Int)(W:World)(hbd:bodyI Try.prog bf=true)(hcf:∀(w:World) (x y:Int),Env.ok w→D x→D y→Rets Try.prog bf (us++ [.int .i64 x, .int .i64 y]++ws) w (fun v w' =>v= .int .i64 (cf x y)∧Sh0 w w' []))(hS:Sh K W W [.own 3 (⟨v0,l⟩:Ls Int),Env])(hD:∀x∈l,D x)(hl:l.length≤1000):
    Rets Try.prog 31 [v0, .func (.func bf) us.toArray ws.toArray] W (fun v w' =>v= .tuple #[]∧∃k:List Int,k.Perm l∧Sh K W w' [.own 3 (⟨v0,k⟩:Ls Int),Env]):=by
 refine gen Try.func31 Try.ntmps31 hS rfl fun a10 h10=>gG h10<|gL<|gNl (aO 0 rfl) fun (hl11:l.length≤140737488355328)=>gRn (oM 2 rfl<|oln (n:=l.length) sl_23 (aO 0 rfl) rfl<|oM 1 rfl<|.nl)<|fun a15 w15 h15=> ?_;clear h10
 have hp14:=h15.sh.passL (Lp:= [_,_])
 refine wl_ex (x_call h15 bd_66 rfl rfl rfl rfl rfl (stab_c bf us ws cf Env D _ v0 l l.length _ hbd hcf hp14 (fun x hx=>hD x (((List.Perm.refl l)).mem_iff.1 hx)) (by omega) (by omega))) (wanted_none rfl _) ?_
 rintro a16 w16 ⟨_,⟨rfl,k16,hpk16,hs16⟩,hf16⟩
 have hpp16:=hpk16.trans (List.Perm.refl l);have hLk16:=hpp16.length_eq;have hDk16:∀x∈k16,D x:=fun x hx=>hD x (hpp16.mem_iff.1 hx)
 have h16:St _ K W a16 w16 _ [_,_]:=⟨hf16,h15.sh.backI (Lp:= [_,_]) hs16⟩
 clear hf16 hs16
 clear h15
 refine gG h16<|nN<|fun a17 w17 h17=> ?_;clear h16
 try simp only [Exit.then,Exit.inBlock,if_true]
 refine x_end0 (fn:=Try.f31) rfl h17 ?_
 exact ⟨rfl,k16,hpp16,h17.sh⟩
section
variable {α:Type}[Enc α]{s:Ls α}{w:World}
theorem nth_take0 {β:Type}[Inhabited β]{l:List β}{i j:Nat}(h:i<j):nth (l.take j) i=nth l i:=by
 simp only [nth,List.getD,List.getElem?_take,if_pos h]
theorem nth_drop0 {β:Type}[Inhabited β]{l:List β}{i k:Nat} :nth (l.drop k) i=nth l (k+i):=by
 simp only [nth,List.getD,List.getElem?_drop]
theorem take_at (h:s.At w){j:Nat}(hj:j≤s.l.length):(⟨vtake s.v j,s.l.take j⟩:Ls α).At w:=by
 obtain ⟨A,cap,hv,h⟩:=h
 have hl:(s.l.take j).length=j:=by rw [List.length_take];omega
 refine ⟨A,cap,by show vtake s.v j=_;rw [hv,hl];rfl, ?_⟩
 have hle:s.l.length≤cap:=h.le
 have hln:s.l.length≤140737488355328:=h.len
 refine ⟨by show (s.l.take j).length≤cap;omega,h.max,by show (s.l.take j).length≤_;omega,fun h0=>h.some (by simp only at h0;show 0<s.l.length;omega),fun h0=>h.lt' (by simp only at h0;show 0<s.l.length;omega),fun i q hi hq=> ?_,fun i hi=> ?_⟩
 ·simp only at hi
  rw [show nth (s.l.take j) i=nth s.l i from nth_take0 (by omega)]
  exact h.cell i q (by show i<s.l.length;omega) hq
 ·simp only at hi
  rw [show nth (s.l.take j) i=nth s.l i from nth_take0 (by omega)]
  exact h.inner i (by show i<s.l.length;omega)
theorem drop_at (h:s.At w){k:Nat}(hk:k≤s.l.length):(⟨vdrop s.v (Enc.sz α) k,s.l.drop k⟩:Ls α).At w:=by
 obtain ⟨A,cap,hv,h⟩:=h
 have hl:(s.l.drop k).length=s.l.length-k:=List.length_drop
 have hle:s.l.length≤cap:=h.le
 have hln:s.l.length≤140737488355328:=h.len
 have hmx:cap≤maxLen:=h.max
 refine ⟨if cap=k then A else A.map (·.add (k*Enc.sz α)),cap-k,by show vdrop s.v _ k=_;rw [hv,hl];rfl, ?_⟩
 have key:0<(s.l.drop k).length→∃a,A=some a∧a.spot=none∧¬cap=k:=fun h0=>by
  obtain ⟨a,h1,h2⟩:=h.some (by show 0<s.l.length;omega)
  exact ⟨a,h1,h2,by omega⟩
 refine ⟨by show (s.l.drop k).length≤cap-k;omega,by show cap-k≤maxLen;omega,by show (s.l.drop k).length≤_;omega,fun h0=> ?_,fun h0=> ?_,fun i q hi hq=> ?_,fun i hi=> ?_⟩
 ·obtain ⟨a,rfl,h2,h3⟩:=key h0
  exact ⟨a.add (k*Enc.sz α),by simp only [if_neg h3,Option.map_some],by obtain ⟨b,o,sp⟩:=a;simp only at h2;subst h2;simp [Addr.add_lit]⟩
 ·obtain ⟨a,rfl,h2,h3⟩:=key h0
  have:=h.lt' (by show 0<s.l.length;simp only at h0;omega)
  obtain ⟨b,o,sp⟩:=a
  simp only at h2;subst h2
  simp only [if_neg h3,Option.map_some,Option.getD_some,Addr.add_lit] at this⊢
  exact this
 ·have h0:0<(s.l.drop k).length:=by simp only at hi;omega
  obtain ⟨a,rfl,h2,h3⟩:=key h0
  simp only at hi
  have:=h.cell (k+i) q (by show k+i<s.l.length;omega) hq
  rw [show nth (s.l.drop k) i=nth s.l (k+i) from nth_drop0]
  obtain ⟨b,o,sp⟩:=a
  simp only at h2;subst h2
  rw [←this]
  congr 1
  simp only [Sl.adr,if_neg h3,Option.map_some,Option.getD_some,Addr.add_lit,Addr.mk.injEq,true_and,and_true]
  rw [Nat.add_mul];omega
 ·simp only at hi
  rw [show nth (s.l.drop k) i=nth s.l (k+i) from nth_drop0]
  exact h.inner (k+i) (by show k+i<s.l.length;omega)
theorem take_in {j b q:Nat}(hq:q<(s.l.take j).length)(hb:Enc.on (nth (s.l.take j) q) b):∃i,i<s.l.length∧Enc.on (nth s.l i) b:=by
 rw [List.length_take] at hq
 rw [nth_take0 (by omega)] at hb
 exact ⟨q,by omega,hb⟩
theorem drop_in {k b q:Nat}(hq:q<(s.l.drop k).length)(hb:Enc.on (nth (s.l.drop k) q) b):∃i,i<s.l.length∧Enc.on (nth s.l i) b:=by
 rw [List.length_drop] at hq
 rw [nth_drop0] at hb
 exact ⟨k+q,by omega,hb⟩
theorem take_on (h:s.At w){j b:Nat}(hb:(⟨vtake s.v j,s.l.take j⟩:Ls α).on b):s.on b:=by
 obtain ⟨A,cap,hv,_⟩:=h
 rcases hb with ⟨h0,hb⟩|⟨i,hi,hb⟩
 ·simp only [List.length_take] at h0
  refine .inl ⟨by omega, ?_⟩
  rw [←hb,hv];rfl
 ·exact .inr (take_in hi hb)
theorem drop_on (h:s.At w){k n b:Nat}(hb:(⟨vdrop s.v n k,s.l.drop k⟩:Ls α).on b):s.on b:=by
 obtain ⟨A,cap,hv,h⟩:=h
 rcases hb with ⟨h0,hb⟩|⟨i,hi,hb⟩
 ·simp only [List.length_drop] at h0
  have hle:s.l.length≤cap:=h.le
  refine .inl ⟨by omega, ?_⟩
  obtain ⟨a,h1,h2⟩:=h.some (by show 0<s.l.length;omega)
  simp only at h1
  rw [←hb,hv,h1]
  obtain ⟨b,o,sp⟩:=a
  simp only at h2;subst h2
  simp only [vdrop,vblk,if_neg (show¬cap=k by omega),Option.map_some,Option.getD_some,Addr.add_lit]
 ·exact .inr (drop_in hi hb)
end
section
variable {P:Program}{o:Oper}{N:Nat}{K:Nat→Prop}{W w:World}{a:Act}{F:List (Nat×Value)}{L:List Asn}{α:Type}[Enc α]
theorem r_slH0 {T e:TypeId}{g:Bool}{n by_:Nat}{z:List Value}{x y:Operand}{s:Ls α}{j:Nat}(hT:slI P T=some e)(he:tyI P e=some (g,n,by_,z))(ho:o.op= .slice T x none (some y) none)(hx:ev F x=some s.v)(hy:ev F y=some (.int .i64 (j:Int)))
  (hat:∀w,Sh K W w L→s.At w) (hj:j≤s.l.length):Rn P o N K W F L (vtake s.v j):=fun a w h=>by
 obtain ⟨A,cap,hv,hA⟩:=hat w h.sh
 have hle:=hA.le
 simp only at hle
 obtain ⟨i,d,zv,hi,hd,_,rfl,_⟩:=tyI_parts he
 have hu:=slI_parts hT
 have hel:P.elem T=e:=by simp [Program.elem,hu]
 have hu' :P.underlying T=some (.slice (P.elem T)):=by rw [hel];exact hu
 have e1:=run_sliceAt_slice (P:=P) w T (.slice A s.l.length cap) none (some (.int .i64 (j:Int))) none hu'
 have e2:=run_slice_h (P:=P) w T A s.l.length cap hu' .i64 (j:Int) (by omega) (by omega)
 rw [hel,run_sizeOf hi,Result.andThen_ok] at e2
 rw [e2] at e1
 have hs:(if cap=0 then A else A.map (·.add (0*i.size)))=A:=by
  by_cases hc:cap=0
  ·rw [if_pos hc]
  ·rw [if_neg hc]
   obtain ⟨_,_,hA1⟩:True∧True∧True:=⟨trivial,trivial,trivial⟩
   cases A with
   |none=>rfl
   |some a=>obtain ⟨b,o,sp⟩:=a;cases sp<;>simp [Addr.add]
 unfold execOp
 simp only [ho,h.fr.ev hx,h.fr.ev hy,Option.map_some,Option.map_none,hv,Sem.run_bind,e1,Result.andThen_ok,Sem.run_pure,sliced,vtake]
 simp only [Nat.zero_mul] at hs
 simp [hs]
end
def arI (P:Program)(T:TypeId):Option (Nat×TypeId):=match P.underlying T with
 |some (.array n e)=>some (n,e)
 |_=>none
theorem arI_parts {P:Program}{T e:TypeId}{n:Nat}(h:arI P T=some (n,e)):P.underlying T=some (.array n e):=by
 unfold arI at h
 split at h
 ·rename_i hu;cases h;exact hu
 ·cases h
theorem splice_bool {l:List Bool}{q:Nat}{b:Bool}(h:q<l.length):splice (l.map Value.bool) q [.bool b]=(l.set q b).map Value.bool:=by
 unfold splice
 rw [List.set_eq_take_append_cons_drop,if_pos h]
 simp
theorem nth_bool {l:List Bool}{q:Nat}(h:q<l.length):(l.map Value.bool)[q]? =some (.bool (nth l q)):=by
 rw [List.getElem?_map,List.getElem?_eq_getElem h,nth_lt _ _ h];rfl
section
variable {P:Program}{o:Oper}{N:Nat}{K:Nat→Prop}{W w:World}{a:Act}{F:List (Nat×Value)}{L:List Asn}
theorem r_ixAr {T e:TypeId}{gg:Bool}{m by_:Nat}{z:List Value}{x y:Operand}{n g q:Nat}(hT:arI P T=some (n,e))(he:tyI P e=some (gg,m,by_,z))(hm:m=1)(ho:o.op= .indexAddr T x y)(hx:ev F x=some (.pointer (some ⟨g,0,none⟩)))(hy:ev F y=some (.int .i64 (q:Int)))(hq:q<n):Rn P o N K W F L (.pointer (some ⟨g,q,none⟩)):=fun a w h=>by
 obtain ⟨i,d,zv,hi,hd,_,rfl,_⟩:=tyI_parts he
 have hu:=arI_parts hT
 have hel:P.elem T=e:=by simp [Program.elem,hu]
 have hal:P.arrayLen T=n:=by simp [Program.arrayLen,hu]
 have hu' :P.underlying T=some (.array (P.arrayLen T) (P.elem T)):=by rw [hel,hal];exact hu
 have e1:=run_indexAt_array (P:=P) (w:=w) T ⟨g,0,none⟩ .i64 (q:Int) hu'
 rw [if_pos ⟨by omega,by rw [hal];omega⟩,hel,run_sizeOf hi,Result.andThen_ok,hm] at e1
 unfold execOp
 simp only [ho,h.fr.ev hx,h.fr.ev hy,Sem.run_bind,e1,Result.andThen_ok,Sem.run_pure]
 simp [Addr.add_lit]
theorem run_part1 {e:TypeId}{n by_:Nat}{z:List Value}{cs:Array Value}{q:Nat}{v:Value}(he:tyI P e=some (false,n,by_,z))(hv:cs[q]? =some v)(w:World):(part e cs q).run P w= .ok v w:=by
 obtain ⟨i,d,zv,hi,hd,hg,_⟩:=tyI_parts he
 unfold part
 rw [Sem.run_bind,run_isAgg hd,hg,Result.andThen_ok]
 simp only [Bool.false_eq_true,if_false,hv,Sem.run_pure]
theorem r_ixV {T e:TypeId}{by_:Nat}{z:List Value}{x y:Operand}{n q:Nat}{cs:List Value}{v:Value}(hT:arI P T=some (n,e))(he:tyI P e=some (false,1,by_,z))(ho:o.op= .index T x y)(hx:ev F x=some (.agg cs.toArray))(hy:ev F y=some (.int .i64 (q:Int)))(hq:q<n)(hv:cs[q]? =some v):Rn P o N K W F L v:=fun a w h=>by
 obtain ⟨i,d,zv,hi,hd,_,hs,_⟩:=tyI_parts he
 have hu:=arI_parts hT
 have e1:(Instr.index T (.agg cs.toArray) (.int .i64 (q:Int))).run P w= .ok v w:=by
  unfold Instr.index
  have h2:(0:Int)≤(q:Int)∧(q:Int)<(n:Int):=by omega
  simp only [asIntOf,Sem.run_bind,Sem.run_pure,Result.andThen_ok,run_underlying hu,if_pos h2,run_sizeOf hi,hs,Int.toNat_natCast,Nat.mul_one]
  exact run_part1 he (by simpa using hv) w
 unfold execOp
 simp only [ho,h.fr.ev hx,h.fr.ev hy,Sem.run_bind,e1,Result.andThen_ok,Sem.run_pure]
theorem forIn_eqArr {e:TypeId}{by_ d:Nat}{z:List Value}{n:Nat}{l m:List Bool}(he:tyI P e=some (false,1,by_,z))(hb:P.underlying e=some .bool)(hl:l.length=n)(hm:m.length=n)(w:World):∀c k,k+c=n→
  Sem.run P (forIn (List.range' k c) ((none,()):Option Bool×Unit) fun i _=>do
   let x ←part e (l.map Value.bool).toArray (i*1)
   let y ←part e (m.map Value.bool).toArray (i*1)
   let b ←Op.equalIn (d+1) e x y
   if (!b)=true then pure (ForInStep.done (some false,())) else pure (ForInStep.yield (none,()))) w= .ok (if l.drop k=m.drop k then (none,()) else (some false,())) w
 |0,k,h=>by
  rw [show List.range' k 0= [] from rfl,List.forIn_nil,Sem.run_pure,if_pos (by rw [List.drop_of_length_le (by omega),List.drop_of_length_le (by omega)])]
 |c+1,k,h=>by
  have e1:l.drop k=nth l k::l.drop (k+1):=by rw [List.drop_eq_getElem_cons (by omega),nth_lt _ _ (by omega)]
  have e2:m.drop k=nth m k::m.drop (k+1):=by rw [List.drop_eq_getElem_cons (by omega),nth_lt _ _ (by omega)]
  have p1:=run_part1 (P:=P) (q:=k*1) he (v:= .bool (nth l k)) (by rw [Nat.mul_one,List.getElem?_toArray];exact nth_bool (l:=l) (q:=k) (by omega)) w
  have p2:=run_part1 (P:=P) (q:=k*1) he (v:= .bool (nth m k)) (by rw [Nat.mul_one,List.getElem?_toArray];exact nth_bool (l:=m) (q:=k) (by omega)) w
  rw [List.range'_succ,List.forIn_cons]
  simp only [Sem.run_bind,p1,p2,Result.andThen_ok,run_equalIn_bool' w d e _ _ hb]
  by_cases hk:nth l k=nth m k
  ·have:(!(nth l k==nth m k))=false:=by rw [hk];simp
   simp only [this,Bool.false_eq_true,if_false,Sem.run_pure,Result.andThen_ok]
   rw [forIn_eqArr he hb hl hm w c (k+1) (by omega),e1,e2]
   congr 1
   by_cases h2:l.drop (k+1)=m.drop (k+1)
   ·rw [if_pos h2,if_pos (by rw [hk,h2])]
   ·rw [if_neg h2,if_neg (fun h3=>h2 (List.cons.inj h3).2)]
  ·have:(!(nth l k==nth m k))=true:=by simpa using hk
   simp only [this,if_true,Sem.run_pure,Result.andThen_ok]
   rw [e1,e2,if_neg (fun h3=>hk (List.cons.inj h3).1)]
theorem run_eqArr {T e:TypeId}{by_ d:Nat}{z:List Value}{n:Nat}{l m:List Bool}(hT:arI P T=some (n,e))(he:tyI P e=some (false,1,by_,z))(hb:P.underlying e=some .bool)(hl:l.length=n)(hm:m.length=n)(w:World):
  (Op.equalIn (d+1+1) T (.agg (l.map Value.bool).toArray) (.agg (m.map Value.bool).toArray)).run P w= .ok (decide (l=m)) w:=by
 obtain ⟨i,dd,zv,hi,hd,_,hs,_⟩:=tyI_parts he
 have hu:=arI_parts hT
 rw [Op.equalIn]
 simp only [Sem.run_bind,run_underlying hu,Result.andThen_ok,run_sizeOf hi,hs]
 rw [Std.Legacy.Range.forIn_eq_forIn_range']
 have hk:=forIn_eqArr (P:=P) (d:=d) he hb hl hm w n 0 (by omega)
 rw [show List.range' [:n].start [:n].size [:n].step=List.range' 0 n by simp [Std.Legacy.Range.size],hk]
 simp only [List.drop_zero,Result.andThen_ok]
 by_cases h:l=m
 ·rw [if_pos h,decide_eq_true h];rfl
 ·rw [if_neg h,decide_eq_false h];rfl
theorem r_neqAr {T U e:TypeId}{by_:Nat}{z:List Value}{n:Nat}{x y:Operand}{l m:List Bool}(hT:arI P T=some (n,e))(he:tyI P e=some (false,1,by_,z))(hb:P.underlying e=some .bool)(hgt:P.eqGuardType P.depth T=false)(ho:o.op= .binOp .neq T x y U)
  (hx:ev F x=some (.agg (l.map Value.bool).toArray)) (hy:ev F y=some (.agg (m.map Value.bool).toArray)) (hl:l.length=n) (hm:m.length=n):Rn P o N K W F L (.bool (decide (l≠m))):=fun a w h=>by
 have e1:=run_eqGuard_agg (P:=P) (w:=w) .neq T x y (l.map Value.bool).toArray (m.map Value.bool).toArray hgt
 have e2:=run_neq_struct (P:=P) (w:=w) T (l.map Value.bool).toArray (m.map Value.bool).toArray
 rw [run_eqArr (d:=9998) hT he hb hl hm w,Result.andThen_ok] at e2
 unfold execOp
 simp only [ho,h.fr.ev hx,h.fr.ev hy,Sem.run_bind,e1,e2,Result.andThen_ok,Sem.run_pure]
 congr 2
 by_cases hh:l=m
 ·simp [hh]
 ·simp [hh]
structure BArr where
 l:List Bool
instance : Inhabited BArr:=⟨⟨List.replicate 200 false⟩⟩
instance : Enc BArr where
 sz:=200
 cell x j:= .bool (nth x.l j)
 whole x:= .agg ((List.range 200).map fun j=> .bool (nth x.l j)).toArray
 agg:=true
 inner x _:=x.l.length=200
 on _ _:=False
 one h:=by cases h
 many _ _:=rfl
 keep _ _ _ h _:=h
 lt _ _ _ _ hb:=hb.elim
theorem barr_whole {l:List Bool}(h:l.length=200):(List.range 200).map (fun j=>Value.bool (nth l j))=l.map Value.bool:=by
 refine List.ext_getElem? fun i=> ?_
 by_cases hi:i<200
 ·rw [nth_bool (by omega),List.getElem?_map,List.getElem?_range hi];rfl
 ·rw [List.getElem?_eq_none (by simp;omega),List.getElem?_eq_none (by simp;omega)]
theorem x_allocAr {d:Nat}{T:TypeId}{g:Bool}{n by_ k:Nat}{z:List Value}(h:St N K W a w F L)(hT:tyI P T=some (g,n,by_,z))(hz:z=(List.replicate k false).map Value.bool)(ho:o.op= .alloc T)(hd:o.dst=some d)(hdN:Nat.blt d N=true):
  Ex P o a w (fun a' w' =>∃b:Nat,St N K W a' w' ((d, .pointer (some ⟨b,0,none⟩))::F) (.blk b T ((List.replicate k false).map Value.bool)::L)):=by
 subst hz;exact x_alloc h hT ho hd hdN
theorem x_stAr {T:TypeId}{gg:Bool}{by_:Nat}{z:List Value}{x y:Operand}{g q i:Nat}{E:TypeId}{l:List Bool}{b:Bool}(h:St N K W a w F L)(hT:tyI P T=some (gg,1,by_,z))(ho:o.op= .store T x y)(hd:o.dst=none)
  (hx:ev F x=some (.pointer (some ⟨g,q,none⟩))) (hy:ev F y=some (.bool b)) (hi:L[i]? =some (.blk g E (l.map Value.bool))) (hq:q<l.length):
  Ex P o a w (fun a' w' =>St N K W a' w' F (L.set i (.blk g E ((l.set q b).map Value.bool)))):=
 x_stb h hT ho hd hx hy hi (vs:= [.bool b]) rfl rfl rfl (by rw [List.length_map];omega) (splice_bool hq)
theorem r_ldAr {T:TypeId}{n by_:Nat}{z:List Value}{x:Operand}{g q i:Nat}{E:TypeId}{l:List Bool}(hT:tyI P T=some (false,n,by_,z))(ho:o.op= .load T x)(hx:ev F x=some (.pointer (some ⟨g,q,none⟩)))(hi:L[i]? =some (.blk g E (l.map Value.bool)))(hq:q<l.length):Rn P o N K W F L (.bool (nth l q)):=
 r_ldb hT ho hx hi (nth_bool hq)
theorem r_ldwAr {T:TypeId}{n by_:Nat}{z:List Value}{x:Operand}{g i:Nat}{E:TypeId}{l:List Bool}(hT:tyI P T=some (true,n,by_,z))(ho:o.op= .load T x)(hx:ev F x=some (.pointer (some ⟨g,0,none⟩)))(hi:L[i]? =some (.blk g E (l.map Value.bool)))(hl:l.length=n):Rn P o N K W F L (.agg (l.map Value.bool).toArray):=
 r_ldbw hT ho hx hi (by rw [List.drop_zero,List.take_of_length_le (by rw [List.length_map];omega)]) (by rw [List.length_map];exact hl)
theorem x_boxAr {d:Nat}{T:TypeId}{x:Operand}{l:List Bool}(h:St N K W a w F L)(ho:o.op= .box T x)(hx:ev F x=some (.agg (l.map Value.bool).toArray))(hd:o.dst=some d)(hdN:Nat.blt d N=true):
  Ex P o a w (fun a' w' =>∃b:Nat,St N K W a' w' ((d, .pointer (some ⟨b,0,none⟩))::F) (.blk b T (l.map Value.bool)::L)):=
 x_box h ho hx rfl hd hdN
theorem r_ldewAr {T:TypeId}{n by_:Nat}{z:List Value}{x:Operand}{i:Nat}{s:Ls BArr}(hT:tyI P T=some (true,200,by_,z))(ho:o.op= .load T x)(hx:ev F x=some (.pointer (some (padr s.v 200 i 0))))(hat:∀w,Sh K W w L→s.At w)(hi:i<s.l.length):Rn P o N K W F L (.agg ((nth s.l i).l.map Value.bool).toArray):=fun a w h=>by
 have h1:(nth s.l i).l.length=200:=(hat w h.sh).inner i hi
 have h2:=r_ldew (N:=N) (vs:=(nth s.l i).l.map Value.bool) hT ho hx rfl hat hi (by decide) (by rw [←barr_whole h1];rfl)
 exact h2 a w h
end
def Asn.iter (g:Nat)(s:ByteArray)(pos:Nat):Asn where
 fp b:=b=g
 rd _:=False
 ok w:=w.heap[g]? =some (.stringIter s pos)
 keep w w' h hb:=(hb g (.inl rfl)).trans h
 lt w h b hb:=by
  rcases hb with rfl|hb
  ·exact (Array.getElem?_eq_some_iff.1 h).1
  ·exact hb.elim
section
variable {P:Program}{o:Oper}{N:Nat}{K:Nat→Prop}{W w:World}{a:Act}{F:List (Nat×Value)}{L:List Asn}
theorem x_range {d:Nat}{T:TypeId}{x:Operand}{s:ByteArray}(h:St N K W a w F L)(hu:P.underlying T=some .string)(ho:o.op= .range T x)(hx:ev F x=some (.string s))(hd:o.dst=some d)(hdN:Nat.blt d N=true):
  Ex P o a w (fun a' w' =>∃g:Nat,St N K W a' w' ((d, .pointer (some ⟨g,0,none⟩))::F) (.iter g s 0::L)):=by
 refine Ex.of_run (v:= .pointer (some ⟨w.heap.size,0,none⟩)) (w' :=w.iter s 0) ?_ ⟨w.heap.size, ?_⟩
 ·unfold execOp
  simp only [ho,h.fr.ev hx,Sem.run_bind,run_range_string w T s hu,Result.andThen_ok,Sem.run_pure]
 ·rw [hd]
  exact ⟨h.fr.put d (by simpa [Nat.blt_eq] using hdN) _,h.sh.push (Chg.alloc _ w _) (World.iter_heap w s 0) (fun b hb=>by rw [show b=w.heap.size from hb];exact Nat.le_refl _) (fun b hb=>hb.elim) (fun b _ hb=>hb)⟩
theorem x_next {d:Nat}{x:Operand}{s:ByteArray}{g pos i:Nat}(h:St N K W a w F L)(ho:o.op= .next x true)(hx:ev F x=some (.pointer (some ⟨g,0,none⟩)))(hi:L[i]? =some (.iter g s pos))(hp:pos<s.size)(ha:(s[pos]'hp).toNat<128)(hd:o.dst=some d)(hdN:Nat.blt d N=true):
  Ex P o a w (fun a' w' =>St N K W a' w' ((d, .tuple #[.bool true, .int .i64 (pos:Int), .int .i32 ((s[pos]'hp).toNat:Int)])::F) (L.set i (.iter g s (pos+1)))):=by
 have hg:w.heap[g]? =some (.stringIter s pos):=h.sh.ok _ (List.mem_of_getElem? hi)
 have hlt:g<w.heap.size:=(Array.getElem?_eq_some_iff.1 hg).1
 refine Ex.of_run (v:= .tuple #[.bool true, .int .i64 (pos:Int), .int .i32 ((s[pos]'hp).toNat:Int)]) (w' := { w with heap:=w.heap.setIfInBounds g (.stringIter s (pos+1)) }) ?_ ?_
 ·unfold execOp
  simp [ho,h.fr.ev hx,Instr.next,getObj,setObj,Sem.run,hg,hp,decode_ascii s pos hp ha,goInt,Result.andThen]
 ·rw [hd]
  refine ⟨h.fr.put d (by simpa [Nat.blt_eq] using hdN) _,h.sh.put hi ⟨rfl,rfl,rfl,by simp,fun b hb hne=> ?_⟩ ?_ (fun b hb=> .inl hb) (fun b hb=>hb.elim) (fun b _ hb=>hb)⟩
  ·show (w.heap.setIfInBounds g _)[b]? =_
   rw [Array.getElem?_setIfInBounds_ne (fun e=>hne e.symm)]
  ·show (w.heap.setIfInBounds g _)[g]? =_
   rw [Array.getElem?_setIfInBounds_self_of_lt hlt]
theorem r_nextEnd {x:Operand}{s:ByteArray}{g pos i:Nat}(ho:o.op= .next x true)(hx:ev F x=some (.pointer (some ⟨g,0,none⟩)))(hi:L[i]? =some (.iter g s pos))(hp:¬pos<s.size):Rn P o N K W F L (.tuple #[.bool false]):=fun a w h=>by
 have hg:w.heap[g]? =some (.stringIter s pos):=h.sh.ok _ (List.mem_of_getElem? hi)
 unfold execOp
 simp [ho,h.fr.ev hx,Instr.next,getObj,Sem.run,hg,hp,Result.andThen]
end
structure RV where
 v:Value
instance : Inhabited RV:=⟨⟨.slice none 0 0⟩⟩
instance : Enc RV where
 sz:=1
 cell x _:=x.v
 whole x:=x.v
 agg:=false
 inner _ _:=True
 on _ _:=False
 one _:=⟨rfl,fun _=>rfl⟩
 many h:=by cases h
 keep _ _ _ h _:=h
 lt _ _ _ _ h:=h.elim
instance : Flat RV:=⟨fun _ _ h=>h,fun _ _=>trivial⟩
def Asn.hold {α:Type}[Enc α](s:Ls α):Asn where
 fp:=s.on
 rd _:=False
 ok w:=s.At w
 keep w w' h hb:=h.keep fun b hb' =>hb b (.inl hb')
 lt w h b hb:=hb.elim (fun hb=>h.lt hb) fun hb=>hb.elim
section
variable {α:Type}
def rvs (M:List (Ls α)):List RV:=M.map fun s=>⟨s.v⟩
def matX (R:Ls α→Asn)(E:TypeId)(v:Value)(M:List (Ls α)):List Asn:= .own E (⟨v,rvs M⟩:Ls RV)::M.map R
theorem rvs_len (M:List (Ls α)):(rvs M).length=M.length:=List.length_map _
theorem nth_rvs (M:List (Ls α))(i:Nat):(nth (rvs M) i).v=(nth M i).v:=by
 rcases Nat.lt_or_ge i M.length with h|h
 ·rw [nth_lt _ _ h,nth_lt _ _ (show i<(rvs M).length by rw [rvs_len];exact h)]
  simp [rvs]
 ·have h1:nth M i=default:=by simp [nth,List.getD,h]
  have h2:nth (rvs M) i=default:=by simp [nth,List.getD,rvs_len,h]
  rw [h1,h2];rfl
theorem rvs_set (M:List (Ls α))(i:Nat)(s:Ls α):(rvs M).set i ⟨s.v⟩=rvs (M.set i s):=by simp [rvs,List.map_set]
theorem rvs_set_same (M:List (Ls α))(i:Nat)(l:List α)(hi:i<M.length):rvs (M.set i ⟨(nth M i).v,l⟩)=rvs M:=by
 rw [←rvs_set]
 apply List.ext_getElem?
 intro k
 rw [List.getElem?_set]
 split
 ·rename_i h
  subst h
  rw [if_pos (by rw [rvs_len];exact hi),List.getElem?_eq_getElem (by rw [rvs_len];exact hi)]
  simp [rvs,nth_lt _ _ hi]
 ·rfl
end
section
variable {α:Type}[Enc α]
theorem encL_rvs (M:List (Ls α)):encL (rvs M)=encL M:=by
 have:∀s:Ls α,cellsOf (⟨s.v⟩:RV)=cellsOf s:=fun s=>rfl
 induction M with
 |nil=>rfl
 |cons s M ih=>
  have h1:encL (rvs (s::M))=cellsOf (⟨s.v⟩:RV)++encL (rvs M):=by simp [encL,rvs]
  have h2:encL (s::M)=cellsOf s++encL M:=by simp [encL]
  rw [h1,h2,ih,this]
end
section
variable {K:Nat→Prop}{W w:World}{L:List Asn}{α:Type}{R:Ls α→Asn}{E:TypeId}{v:Value}{M:List (Ls α)}
theorem Sh.matAt (h:Sh K W w L)(i:Nat)(hi:L[i]? =some (.big (matX R E v M))):(⟨v,rvs M⟩:Ls RV).At w:=
 own_at (E:=E) ((h.ok _ (List.mem_of_getElem? hi)).1 _ (List.mem_cons_self ..))
end
section
variable {P:Program}{o:Oper}{N:Nat}{K:Nat→Prop}{W w:World}{a:Act}{F:List (Nat×Value)}{L:List Asn}{α:Type}[Enc α]{R:Ls α→Asn}{E IE:TypeId}{v:Value}{M:List (Ls α)}
theorem Sh.matRow (h:Sh K W w L)(i:Nat)(hi:L[i]? =some (.big (matX (.own IE) E v M)))(j:Nat)(hj:j<M.length):(nth M j).At w:=
 own_at (E:=IE) ((h.ok _ (List.mem_of_getElem? hi)).1 _ (List.mem_cons_of_mem _ (List.mem_map.2 ⟨_,nth_mem _ _ hj,rfl⟩)))
theorem Sh.nils (n:Nat)(h:Sh K W w L):Sh K W w (List.replicate n (.own IE (⟨.slice none 0 0, []⟩:Ls α))++L):=by
 induction n with
 |zero=>exact h
 |succ n ih=>rw [List.replicate_succ];exact ih.nil IE
theorem Sh.tail {A:Asn}(h:Sh K W w (A::L)):Sh K W w L:=
 ⟨h.chg,fun B hB=>h.ok B (List.mem_cons_of_mem _ hB),fun B hB=>h.mine B (List.mem_cons_of_mem _ hB),fun B hB=>h.self B (List.mem_cons_of_mem _ hB),(List.pairwise_cons.1 h.apart).2⟩
theorem Sh.toHold [Flat α]{s:Ls α}(h:Sh K W w (.own E s::L)):Sh K W w (.hold s::L):=by
 have hok:=h.ok _ (List.mem_cons_self ..)
 have h2:=h.put (i:=0) (A' := .hold s) rfl (Chg.refl _ _) (own_at hok) (fun b hb=> .inl ((own_on hok hb).elim id fun h9=>Flat.noRd h9)) (fun b hb=>hb.elim) (fun b _ hb=>hb)
 exact h2
theorem Sh.nilsH [Flat α](h:Sh K W w L)(n:Nat):Sh K W w (List.replicate n (.hold (⟨.slice none 0 0, []⟩:Ls α))++L):=by
 induction n with
 |zero=>exact h
 |succ n ih=>rw [List.replicate_succ];exact (ih.nil 0).toHold
theorem Sh.matMk {n:Nat}(h:Sh K W w (.own E (⟨v,List.replicate n ⟨.slice none 0 0⟩⟩:Ls RV)::L)):Sh K W w (.big (matX (.own IE) E v (List.replicate n (⟨.slice none 0 0, []⟩:Ls α)))::L):=by
 refine Sh.close ?_
 have h2:=(h.nils (α:=α) (IE:=IE) n)
 have e:rvs (List.replicate n (⟨.slice none 0 0, []⟩:Ls α))=List.replicate n ⟨.slice none 0 0⟩:=by simp [rvs]
 unfold matX
 rw [e,List.map_replicate]
 exact h2.perm List.perm_middle
theorem Sh.matMkH [Flat α]{n:Nat}(h:Sh K W w (.own E (⟨v,List.replicate n ⟨.slice none 0 0⟩⟩:Ls RV)::L)):Sh K W w (.big (matX .hold E v (List.replicate n (⟨.slice none 0 0, []⟩:Ls α)))::L):=by
 refine Sh.close ?_
 have h2:=Sh.nilsH (α:=α) h n
 have e:rvs (List.replicate n (⟨.slice none 0 0, []⟩:Ls α))=List.replicate n ⟨.slice none 0 0⟩:=by simp [rvs]
 unfold matX
 rw [e,List.map_replicate]
 exact h2.perm List.perm_middle
theorem x_makeMat {d:Nat}{T e:TypeId}{gg:Bool}{by_ n:Nat}{x y:Operand}(h:St N K W a w F L)(hT:slI P T=some e)(he:tyI P e=some (gg,1,by_, [.slice none 0 0]))(ho:o.op= .makeSlice T x y)(hx:ev F x=some (.int .i64 (n:Int)))(hy:ev F y=some (.int .i64 (n:Int)))
  (hn:by_*n≤140737488355328∧n≤140737488355328) (hd:o.dst=some d) (hdN:Nat.blt d N=true) (IE:TypeId) (α:Type) [Enc α]:
  Ex P o a w (fun a' w' =>∃v:Value,St N K W a' w' ((d,v)::F) (.big (matX (.own IE) e v (List.replicate n (⟨.slice none 0 0, []⟩:Ls α)))::L)):=
 (x_make (⟨.slice none 0 0⟩:RV) h hT he ho hx hy rfl rfl hn (fun _=>trivial) (fun _ h=>h) hd hdN).mono fun a' w' ⟨v,h⟩=>⟨v,h.fr,h.sh.matMk⟩
theorem x_makeMatH {d:Nat}{T e:TypeId}{gg:Bool}{by_ n:Nat}{x y:Operand}(h:St N K W a w F L)(hT:slI P T=some e)(he:tyI P e=some (gg,1,by_, [.slice none 0 0]))(ho:o.op= .makeSlice T x y)(hx:ev F x=some (.int .i64 (n:Int)))(hy:ev F y=some (.int .i64 (n:Int)))
  (hn:by_*n≤140737488355328∧n≤140737488355328) (hd:o.dst=some d) (hdN:Nat.blt d N=true) (α:Type) [Enc α] [Flat α]:
  Ex P o a w (fun a' w' =>∃v:Value,St N K W a' w' ((d,v)::F) (.big (matX .hold e v (List.replicate n (⟨.slice none 0 0, []⟩:Ls α)))::L)):=
 (x_make (⟨.slice none 0 0⟩:RV) h hT he ho hx hy rfl rfl hn (fun _=>trivial) (fun _ h=>h) hd hdN).mono fun a' w' ⟨v,h⟩=>⟨v,h.fr,h.sh.matMkH⟩
theorem x_stMat {T:TypeId}{gg:Bool}{by_ i:Nat}{z:List Value}{x y:Operand}{s:Ls α}(h:St N K W a w F (.big (matX R E v M)::R s::L))(hT:tyI P T=some (gg,1,by_,z))(ho:o.op= .store T x y)(hd:o.dst=none)
  (hx:ev F x=some (.pointer (some (padr v 1 i 0)))) (hy:ev F y=some s.v) (hi:i<M.length) (hat:s.At w):
  Ex P o a w (fun a' w' =>St N K W a' w' F (.big (matX R E v (M.set i s))::L)):=by
 have h1:St N K W a w F (.own E (⟨v,rvs M⟩:Ls RV)::(M.map R++(R s::L))):=⟨h.fr,h.sh.open_⟩
 refine (x_ste (s:=(⟨v,rvs M⟩:Ls RV)) (r:=0) (i:=i) (j:=0) (x' :=⟨s.v⟩) h1 hT ho hd hx rfl rfl (by rw [rvs_len];exact hi) (by decide) hy (cells_oneL hat.one) hat.one (fun q hq=> ?_) (fun _ _=>trivial) (fun b hb=>hb.elim)).mono fun a' w' h2=>⟨h2.fr, ?_⟩
 ·obtain rfl:q=0:=by omega
  rfl
 ·have h3:Sh K W w' (.own E (⟨v,rvs (M.set i s)⟩:Ls RV)::(M.map R++(R s::L))):=by
   rw [←rvs_set];exact h2.sh
  have h4:Sh K W w' (R M[i]::(.own E (⟨v,rvs (M.set i s)⟩:Ls RV)::((M.eraseIdx i).map R++(R s::L)))):=h3.perm (by
   refine List.Perm.trans ((List.Perm.append_right _ ((perm_erase M i hi).map R)).cons _) ?_
   exact List.Perm.swap _ _ _)
  refine Sh.close (h4.tail.perm ?_)
  refine List.Perm.cons _ ?_
  refine List.perm_middle.trans ?_
  have:=((perm_set s M i hi).map R).symm
  exact this.append_right L
theorem x_stMatE [Flat α]{T:TypeId}{gg:Bool}{by_ i q:Nat}{z:List Value}{x y:Operand}{x' :α}{u:Value}(h:St N K W a w F (.big (matX (.own IE) E v M)::L))(hT:tyI P T=some (gg,1,by_,z))(ho:o.op= .store T x y)(hd:o.dst=none)
  (hx:ev F x=some (.pointer (some (padr (nth M i).v 1 q 0)))) (hsz:Enc.sz α=1) (hi:i<M.length) (hq:q<(nth M i).l.length) (hy:ev F y=some u) (hv:u.cells.toList= [u]) (h1:u.oneCell' =true) (hc:Enc.cell x' 0=u):
  Ex P o a w (fun a' w' =>St N K W a' w' F (.big (matX (.own IE) E v (M.set i ⟨(nth M i).v,(nth M i).l.set q x'⟩))::L)):=by
 have h2:St N K W a w F (.own IE (nth M i)::(.own E (⟨v,rvs M⟩:Ls RV)::((M.eraseIdx i).map (.own IE)++L))):=⟨h.fr,h.sh.open_.perm (by
  rw [nth_lt _ _ hi]
  refine List.Perm.trans ((List.Perm.append_right _ ((perm_erase M i hi).map (Asn.own IE))).cons _) ?_
  exact List.Perm.swap _ _ _)⟩
 refine (x_ste (s:=nth M i) (r:=0) (i:=q) (j:=0) (x' :=x') h2 hT ho hd hx hsz rfl hq (by decide) hy hv h1 (fun p hp=> ?_) (fun _ _=>Flat.inner _ _) (fun b hb=>(Flat.on _ _ hb).elim)).mono fun a' w' h3=>⟨h3.fr,Sh.close (h3.sh.perm ?_)⟩
 ·obtain rfl:p=0:=by omega
  exact hc
 ·unfold matX
  rw [rvs_set_same _ _ _ hi]
  show List.Perm (Asn.own IE (⟨(nth M i).v,(nth M i).l.set q x'⟩:Ls α)::Asn.own E _::_) _
  refine (List.Perm.swap _ _ _).trans (List.Perm.cons _ ?_)
  have:=((perm_set (⟨(nth M i).v,(nth M i).l.set q x'⟩:Ls α) M i hi).map (Asn.own IE)).symm
  exact this.append_right L
theorem Sh.matDeep (h:Sh K W w (.big (matX R E v M)::L))(hR:∀s w,(R s).ok w→s.At w∧∀b,s.on b→(R s).fp b):Sh K W w (.deep E (⟨v,M⟩:Ls (Ls α))::L):=by
 obtain ⟨hok,hap,hse⟩:=h.ok _ (List.mem_cons_self ..)
 have h0:=hok _ (List.mem_cons_self ..)
 obtain ⟨hown,hlen,_⟩:=h0
 have hm:∀i,i<M.length→R (nth M i)∈M.map R:=fun i hi=>List.mem_map.2 ⟨_,nth_mem _ _ hi,rfl⟩
 have hr:∀i,i<M.length→(nth M i).At w∧∀b,(nth M i).on b→(R (nth M i)).fp b:=fun i hi=>hR _ w (hok _ (List.mem_cons_of_mem _ (hm i hi)))
 have h2:=h.put (i:=0) (A' := .deep E (⟨v,M⟩:Ls (Ls α))) rfl (Chg.refl _ _) ⟨by
   rw [encL_rvs] at hown
   have:(rvs M).length=M.length:=rvs_len M
   simp only [this] at hown
   exact hown,by rw [←rvs_len];exact hlen,fun i hi=>(hr i hi).1,fun b hb ⟨i,hi,hb2⟩=> ?_⟩ (fun b hb=> .inl ?_) (fun b hb=>hb.elim) (fun b _ hb=>hb)
 ·exact h2
 ·have:=(List.pairwise_cons.1 hap).1 _ (hm i hi) b
  exact (this.1 hb).1 ((hr i hi).2 b hb2)
 ·rcases hb with hb|⟨i,hi,hb⟩
  ·exact ⟨_,List.mem_cons_self ..,hb⟩
  ·exact ⟨_,List.mem_cons_of_mem _ (hm i hi),(hr i hi).2 b hb⟩
theorem hold_mat (s:Ls α)(w:World)(h:(Asn.hold s).ok w):s.At w∧∀b,s.on b→(Asn.hold s).fp b:=⟨h,fun _ hb=>hb⟩
theorem own_mat [Flat α](s:Ls α)(w:World)(h:(Asn.own E s).ok w):s.At w∧∀b,s.on b→(Asn.own E s).fp b:=⟨own_at h,fun b hb=>(own_on h hb).elim id fun h9=>Flat.noRd h9⟩
end
section
variable {P:Program}{o:Oper}{N:Nat}{K:Nat→Prop}{W w:World}{a:Act}{F:List (Nat×Value)}{L:List Asn}
theorem r_ixArE {T e:TypeId}{gg:Bool}{m by_:Nat}{z:List Value}{x y:Operand}{n i q:Nat}{v:Value}(hT:arI P T=some (n,e))(he:tyI P e=some (gg,m,by_,z))(hm:m=1)(ho:o.op= .indexAddr T x y)(hx:ev F x=some (.pointer (some (padr v n i 0))))(hy:ev F y=some (.int .i64 (q:Int)))(hq:q<n):Rn P o N K W F L (.pointer (some (padr v n i q))):=fun a w h=>by
 obtain ⟨ti,d,zv,hi,hd,_,rfl,_⟩:=tyI_parts he
 have hu:=arI_parts hT
 have hel:P.elem T=e:=by simp [Program.elem,hu]
 have hal:P.arrayLen T=n:=by simp [Program.arrayLen,hu]
 have hu' :P.underlying T=some (.array (P.arrayLen T) (P.elem T)):=by rw [hel,hal];exact hu
 have e1:=run_indexAt_array (P:=P) (w:=w) T (padr v n i 0) .i64 (q:Int) hu'
 rw [if_pos ⟨by omega,by rw [hal];omega⟩,hel,run_sizeOf hi,Result.andThen_ok,hm] at e1
 unfold execOp
 simp only [ho,h.fr.ev hx,h.fr.ev hy,Sem.run_bind,e1,Result.andThen_ok,Sem.run_pure]
 simp [padr_add]
theorem r_ixArI {T e:TypeId}{gg:Bool}{m by_:Nat}{z:List Value}{x y:Operand}{n g:Nat}{q:Int}(hT:arI P T=some (n,e))(he:tyI P e=some (gg,m,by_,z))(hm:m=1)(ho:o.op= .indexAddr T x y)(hx:ev F x=some (.pointer (some ⟨g,0,none⟩)))(hy:ev F y=some (.int .i64 q))(hq:0≤q∧q<n):Rn P o N K W F L (.pointer (some ⟨g,q.toNat,none⟩)):=
 r_ixAr (q:=q.toNat) hT he hm ho hx (by rw [Int.toNat_of_nonneg hq.1];exact hy) (by omega)
theorem r_ixArEI {T e:TypeId}{gg:Bool}{m by_:Nat}{z:List Value}{x y:Operand}{n i:Nat}{q:Int}{v:Value}(hT:arI P T=some (n,e))(he:tyI P e=some (gg,m,by_,z))(hm:m=1)(ho:o.op= .indexAddr T x y)(hx:ev F x=some (.pointer (some (padr v n i 0))))(hy:ev F y=some (.int .i64 q))(hq:0≤q∧q<n):Rn P o N K W F L (.pointer (some (padr v n i q.toNat))):=
 r_ixArE (q:=q.toNat) hT he hm ho hx (by rw [Int.toNat_of_nonneg hq.1];exact hy) (by omega)
theorem x_steAr {T:TypeId}{gg:Bool}{by_:Nat}{z:List Value}{x y:Operand}{i j r:Nat}{E:TypeId}{s:Ls BArr}{b:Bool}(h:St N K W a w F L)(hT:tyI P T=some (gg,1,by_,z))(ho:o.op= .store T x y)(hd:o.dst=none)
  (hx:ev F x=some (.pointer (some (padr s.v 200 i j)))) (hr:L[r]? =some (.own E s)) (hi:i<s.l.length) (hj:j<200) (hy:ev F y=some (.bool b)):
  Ex P o a w (fun a' w' =>St N K W a' w' F (L.set r (.own E ⟨s.v,s.l.set i ⟨(nth s.l i).l.set j b⟩⟩))):=by
 have hin:Enc.inner (nth s.l i) w:=(own_at (h.sh.ok _ (List.mem_of_getElem? hr))).inner i hi
 have hin' :(nth s.l i).l.length=200:=hin
 refine x_ste (x' :=⟨(nth s.l i).l.set j b⟩) h hT ho hd hx rfl hr hi hj hy rfl rfl (fun q hq=> ?_) (fun w' h' => ?_) (fun b hb=>hb.elim)
 ·show Value.bool (nth ((nth s.l i).l.set j b) q)=_
  rw [nth_set]
  by_cases hjq:j=q
  ·rw [if_pos ⟨hjq,by omega⟩,if_pos hjq.symm]
  ·rw [if_neg (fun h=>hjq h.1),if_neg (fun h=>hjq h.symm)];rfl
 ·show ((nth s.l i).l.set j b).length=200
  rw [List.length_set];exact hin'
theorem x_stewAr {T:TypeId}{gg:Bool}{by_:Nat}{z:List Value}{x y:Operand}{i r:Nat}{E:TypeId}{s:Ls BArr}{l:List Bool}(h:St N K W a w F L)(hT:tyI P T=some (gg,200,by_,z))(ho:o.op= .store T x y)(hd:o.dst=none)
  (hx:ev F x=some (.pointer (some (padr s.v 200 i 0)))) (hr:L[r]? =some (.own E s)) (hi:i<s.l.length) (hl:l.length=200) (hy:ev F y=some (.agg (l.map Value.bool).toArray)):
  Ex P o a w (fun a' w' =>St N K W a' w' F (L.set r (.own E ⟨s.v,s.l.set i ⟨l⟩⟩))):=by
 obtain ⟨ti,e,zv,hti,he,_,hs,_⟩:=tyI_parts hT
 have hok:=h.sh.ok _ (List.mem_of_getElem? hr)
 obtain ⟨hown,hlen,hinn⟩:=hok
 rcases hown.2 with ⟨_,h0⟩|⟨g,cap,cur,hsv,hb0,hg,hn,hm,hcs,htk⟩
 ·omega
 have hsz:Enc.sz BArr=200:=rfl
 rw [hsz] at hcs htk
 have hp:padr s.v 200 i 0=⟨g,i*200,none⟩:=by rw [hsv];simp [padr,vblk,voff]
 have hvl:(l.map Value.bool).length=200:=by rw [List.length_map];exact hl
 have hB:Blk w g E cur:=hg
 have h200:i*200+200≤cur.size:=by rw [hcs];have:=Nat.mul_le_mul_right 200 (show i+1≤cap by omega);omega
 have hrun:=run_storeCells_at P g (i*200) E (l.map Value.bool) 0 cur w hB (by simp;omega) (fun u hu=>by
  obtain ⟨b,_,rfl⟩:=List.mem_map.1 hu;rfl)
 have hcur:(splice cur.toList (i*200) (l.map Value.bool)).take (s.l.length*200)=encL (s.l.set i ⟨l⟩):=by
  have e1:encL (s.l.set i ⟨l⟩)=splice (encL s.l) (i*200) (l.map Value.bool):=by
   have h2:∀(m:List BArr) (i:Nat),i<m.length→encL (m.set i ⟨l⟩)=splice (encL m) (i*200) (l.map Value.bool):=by
    intro m
    induction m with
    |nil=>intro i hi;simp at hi
    |cons y m ih=>
     intro i hi
     have hy:∀(z:BArr) (m:List BArr),encL (z::m)=cellsOf z++encL m:=fun z m=>by simp [encL]
     have hc:∀z:BArr,(cellsOf z).length=200:=fun z=>length_cellsOf z
     cases i with
     |zero=>
      rw [List.set_cons_zero,hy,hy]
      have:cellsOf (⟨l⟩:BArr)=l.map Value.bool:=barr_whole hl
      rw [this]
      simp [splice,hvl,List.drop_append,hc]
     |succ i=>
      rw [List.set_cons_succ,hy,hy,ih i (by simpa using hi)]
      have e3:(i+1)*200=200+i*200:=by omega
      simp only [splice,e3,List.take_append,List.drop_append,hc,hvl]
      rw [List.take_of_length_le (l:=cellsOf y) (by rw [hc];omega),List.drop_of_length_le (l:=cellsOf y) (by rw [hc];omega)]
      have e4:200+i*200-200=i*200:=by omega
      have e5:200+i*200+200-200=i*200+200:=by omega
      rw [e4,e5]
      simp
   exact h2 s.l i hi
  rw [e1,←htk]
  have hlt:i*200+200≤s.l.length*200:=by have:=Nat.mul_le_mul_right 200 (show i+1≤s.l.length by omega);omega
  have hcl:cur.toList.length=cap*200:=by simpa using hcs
  have hle:s.l.length*200≤cap*200:=Nat.mul_le_mul_right 200 hn
  simp only [splice,hvl]
  apply List.ext_getElem?
  intro k
  simp only [List.getElem?_take,List.getElem?_append,List.getElem?_drop,List.length_take,List.length_append,List.length_map,hl,List.length_drop,hcl]
  have e6:min (i*200) (cap*200)=i*200:=by omega
  have e7:min (i*200) (min (s.l.length*200) (cap*200))=i*200:=by omega
  simp only [e6,e7]
  repeat' split
  all_goals first|rfl|(exfalso;omega)|(congr 1;omega)
 refine Ex.of_skip (w' :=w.setRow g (splice cur.toList (i*200) (l.map Value.bool)).toArray) ?_ ?_
 ·unfold execOp
  have hsz2:(Value.agg (l.map Value.bool).toArray).cells.size=ti.size:=by simp [Value.cells,hl,hs]
  have hce:(Value.agg (l.map Value.bool).toArray).cells.toList=l.map Value.bool:=by simp [Value.cells]
  simp only [ho,h.fr.ev hx,h.fr.ev hy,Instr.storeAt,Instr.sureAddr,storeVar,Sem.run_bind,Sem.run_pure,Result.andThen_ok,run_sizeOf hti]
  simp only [hsz2,ne_eq,not_true_eq_false,if_false,hce,Nat.add_zero,hp] at hrun⊢
  rw [hrun]
  simp [splice]
 ·rw [hd]
  have hfp:(Asn.own E s).fp g:=by show s.v.ownBlock=some g;rw [hsv];rfl
  refine ⟨h.fr,h.sh.put hr ⟨rfl,rfl,rfl,by simp [World.setRow],fun b hb hne=>setRow_other w g b _ (fun e=>hne (by rw [e];exact hfp))⟩ ⟨⟨?_, .inr ⟨g,cap,_, ?_,hb0,setRow_heap w g _ _ E (0,0) hB,by simpa using hn,hm, ?_, ?_⟩⟩,by simpa using hlen,fun q hq=> ?_⟩ (fun b hb=> .inl hb) (fun b hb=> ?_) (fun b hb hb' => ?_)⟩
  ·rw [length_encL]
  ·show s.v=_
   rw [hsv,List.length_set]
  ·rw [hsz]
   have hcl:cur.toList.length=cap*200:=by simpa using hcs
   simp only [splice,List.size_toArray,List.length_append,List.length_take,List.length_drop,hvl,hcl]
   omega
  ·show List.take ((s.l.set i ⟨l⟩).length*Enc.sz BArr) _=_
   rw [List.length_set,hsz];exact hcur
  ·show Enc.inner (nth (s.l.set i ⟨l⟩) q) _
   rw [nth_set]
   split
   ·exact hl
   ·exact hinn q (by simpa using hq)
  ·obtain ⟨q,_,hb⟩:=hb;exact hb.elim
  ·obtain ⟨q,_,hb'⟩:=hb';exact hb'.elim
theorem x_makeAr {d:Nat}{T e:TypeId}{gg:Bool}{by_ n:Nat}{z:List Value}{x y:Operand}(h:St N K W a w F L)(hT:slI P T=some e)(he:tyI P e=some (gg,200,by_,z))(hz:z=(List.replicate 200 false).map Value.bool)(ho:o.op= .makeSlice T x y)(hx:ev F x=some (.int .i64 (n:Int)))(hy:ev F y=some (.int .i64 (n:Int)))
  (hn:by_*n≤140737488355328∧n≤140737488355328) (hd:o.dst=some d) (hdN:Nat.blt d N=true):
  Ex P o a w (fun a' w' =>∃v:Value,St N K W a' w' ((d,v)::F) (.own e (⟨v,List.replicate n ⟨List.replicate 200 false⟩⟩:Ls BArr)::L)):=
 x_make (⟨List.replicate 200 false⟩:BArr) h hT he ho hx hy (by rw [hz];exact (barr_whole List.length_replicate).symm) rfl hn (fun _=>List.length_replicate) (fun _ h=>h) hd hdN
theorem ev_nat {x:Operand}{z:Int}(h0:0≤z)(h:ev F x=some (.int .i64 z)):ev F x=some (.int .i64 ((z.toNat:Nat):Int)):=by rw [Int.toNat_of_nonneg h0];exact h
theorem St.cg {F' :List (Nat×Value)}(h:St N K W a w F L)(e:F=F'):St N K W a w F' L:=e▸h
end
def vclip (v:Value):Value:=match v with
 | .slice A n _=> .slice A n n
 |v=>v
section
variable {P:Program}{o:Oper}{N:Nat}{K:Nat→Prop}{W w:World}{a:Act}{F:List (Nat×Value)}{L:List Asn}{α:Type}[Enc α]
theorem clip_at {s:Ls α}(h:s.At w):(⟨vclip s.v,s.l⟩:Ls α).At w:=by
 obtain ⟨A,cap,hv,hA⟩:=h
 exact ⟨A,s.l.length,by rw [hv];rfl,⟨Nat.le_refl _,Nat.le_trans hA.le hA.max,hA.len,hA.some,hA.lt',hA.cell,hA.inner⟩⟩
theorem clip_on {s:Ls α}(h:s.At w)(b:Nat):(⟨vclip s.v,s.l⟩:Ls α).on b↔s.on b:=by
 obtain ⟨A,cap,hv,_⟩:=h
 unfold Ls.on
 rw [hv]
 rfl
theorem Sh.toHoldClip [Flat α]{E:TypeId}{s:Ls α}(h:Sh K W w (.own E s::L)):Sh K W w (.hold (⟨vclip s.v,s.l⟩:Ls α)::L):=by
 have hok:=h.ok _ (List.mem_cons_self ..)
 have hat:=own_at hok
 have h2:=h.put (i:=0) (A' := .hold (⟨vclip s.v,s.l⟩:Ls α)) rfl (Chg.refl _ _) (clip_at hat) (fun b hb=> .inl ((own_on hok ((clip_on hat b).1 hb)).elim id fun h9=>Flat.noRd h9)) (fun b hb=>hb.elim) (fun b _ hb=>hb)
 exact h2
theorem r_slClip {T e:TypeId}{g:Bool}{n by_:Nat}{z:List Value}{x y y2:Operand}{s:Ls α}(hT:slI P T=some e)(he:tyI P e=some (g,n,by_,z))(ho:o.op= .slice T x none (some y) (some y2))(hx:ev F x=some s.v)(hy:ev F y=some (.int .i64 (s.l.length:Int)))(hy2:ev F y2=some (.int .i64 (s.l.length:Int)))
  (hat:∀w,Sh K W w L→s.At w):Rn P o N K W F L (vclip s.v):=fun a w h=>by
 obtain ⟨A,cap,hv,hA⟩:=hat w h.sh
 have hle:=hA.le
 simp only at hle
 obtain ⟨i,d,zv,hi,hd,_,rfl,_⟩:=tyI_parts he
 have hu:=slI_parts hT
 have hel:P.elem T=e:=by simp [Program.elem,hu]
 have hu' :P.underlying T=some (.slice (P.elem T)):=by rw [hel];exact hu
 have e1:=run_sliceAt_slice (P:=P) w T (.slice A s.l.length cap) none (some (.int .i64 (s.l.length:Int))) (some (.int .i64 (s.l.length:Int))) hu'
 have e2:=run_slice_hm (P:=P) w T A s.l.length cap hu' .i64 .i64 (s.l.length:Int) (s.l.length:Int) (by omega) (by omega) (by omega)
 rw [hel,run_sizeOf hi,Result.andThen_ok] at e2
 rw [e2] at e1
 unfold execOp
 simp only [ho,h.fr.ev hx,h.fr.ev hy,h.fr.ev hy2,Option.map_some,Option.map_none,hv,Sem.run_bind,e1,Result.andThen_ok,Sem.run_pure,sliced,vclip]
 have hs2:A.map (·.add 0)=A:=by
  cases A with
  |none=>rfl
  |some a=>obtain ⟨b,o,sp⟩:=a;cases sp<;>simp [Addr.add]
 simp [hs2]
end
def Asn.shp (g:Nat):Asn where
 fp b:=b=g
 rd _:=False
 ok w:=MapI w g shapesL
 keep w w' h hb:=h.of_block (hb g (.inl rfl))
 lt w h b hb:=by rcases hb with rfl|hb;exact h.lt;exact hb.elim
theorem shapes_c (W:World):Rets Try.prog 54 [] W (fun v w' =>∃g:Nat,v= .map (some g)∧Sh0 W w' [.shp g]):=
 Calls.mono (shapes_any W) fun e w' ⟨g,hg,he,hM,hb⟩=>⟨_,he,g,rfl,Chg.below hb,fun A hA=>(by rw [List.mem_singleton] at hA;subst hA;exact hM),fun A hA b hb=>(by rw [List.mem_singleton] at hA;subst hA;exact .inr (by rw [show b=g from hb];exact hg)),fun A hA b hb hr=>(by rw [List.mem_singleton] at hA;subst hA;exact hr),List.pairwise_singleton _ _⟩
section
variable {o:Oper}{N:Nat}{K:Nat→Prop}{W w:World}{a:Act}{F:List (Nat×Value)}{L:List Asn}
theorem r_lookShp {x y:Operand}{g i:Nat}{op:Int}(ho:o.op= .lookup 108 x y false)(hx:ev F x=some (.map (some g)))(hy:ev F y=some (.int .i64 op))(hi:L[i]? =some (.shp g)):Rn Try.prog o N K W F L (.agg #[.string (nameB op), .string (kindsB op)]):=fun a w h=>by
 have e1:=shapes_lookup1 w g op (h.sh.ok _ (List.mem_of_getElem? hi))
 unfold execOp
 simp only [ho,h.fr.ev hx,h.fr.ev hy,Sem.run_bind,e1,Result.andThen_ok,Sem.run_pure]
theorem r_fieldK {x:Operand}{s t:ByteArray}(ho:o.op= .field 106 x 1)(hx:ev F x=some (.agg #[.string s, .string t])):Rn Try.prog o N K W F L (.string t):=fun a w h=>by
 have hfd:(Instr.field 106 (.agg #[.string s, .string t]) 1).run Try.prog w= .ok (.string t) w:=by kernel_rfl
 unfold execOp
 simp only [ho,h.fr.ev hx,Sem.run_bind,hfd,Result.andThen_ok,Sem.run_pure]
end
theorem own_blk {α:Type}[Enc α]{w:World}{E:TypeId}{v:Value}{l:List α}(h0:0<l.length)(h:w.ownsRow 0 E (Enc.sz α) v l.length (encL l)):v.ownBlock=some (vblk v):=by
 rcases h.2 with ⟨_,hn⟩|⟨g,cap,cur,hv,_⟩
 ·omega
 ·rw [hv];rfl
theorem nth_app_ge {α:Type}[Inhabited α](l m:List α)(i:Nat)(h:l.length≤i):nth (l++m) i=nth m (i-l.length):=by simp only [nth,List.getD,List.getElem?_append_right h]
theorem nth_replicate {α:Type}[Inhabited α](n:Nat)(x:α)(i:Nat)(h:i<n):nth (List.replicate n x) i=x:=by simp [nth,h]
theorem nth_app_lt {α:Type}[Inhabited α](l m:List α)(i:Nat)(h:i<l.length):nth (l++m) i=nth l i:=by simp [nth,List.getElem?_append_left h]
def becL (B:Nat→Ins→List Ins)(code:List Ins):List (List Ins):=(List.range code.length).map fun i=>B i (nth code i)
theorem becL_len (B:Nat→Ins→List Ins)(code:List Ins):(becL B code).length=code.length:=by simp [becL]
theorem becL_nth (B:Nat→Ins→List Ins)(code:List Ins)(i:Nat)(h:i<code.length):nth (becL B code) i=B i (nth code i):=by simp [becL,nth,h]
def fixMv (become:List (List Ins))(code:List Ins)(i:Nat)(x:Ins):Ins:=
 if x.op=14∧((nth code i).op=14∨(nth code i).op=15) then { x with a:=placeL become x.a.toNat }
 else if x.op=15∧(nth code i).op=15 then { x with b:=placeL become x.b.toNat } else x
def outUpto (B:Nat→Ins→List Ins)(code:List Ins)(k:Nat):List Ins:=(List.range k).flatMap fun i=>B i (nth code i)
def fromUpto (B:Nat→Ins→List Ins)(code:List Ins)(k:Nat):List Int:=(List.range k).flatMap fun i=>List.replicate (B i (nth code i)).length (i:Int)
theorem outUpto_succ (B:Nat→Ins→List Ins)(code:List Ins)(k:Nat):outUpto B code (k+1)=outUpto B code k++B k (nth code k):=by simp [outUpto,List.range_succ]
theorem fromUpto_succ (B:Nat→Ins→List Ins)(code:List Ins)(k:Nat):fromUpto B code (k+1)=fromUpto B code k++List.replicate (B k (nth code k)).length (k:Int):=by simp [fromUpto,List.range_succ]
theorem fromUpto_len (B:Nat→Ins→List Ins)(code:List Ins)(k:Nat):(fromUpto B code k).length=(outUpto B code k).length:=by
 induction k with
 |zero=>rfl
 |succ k ih=>rw [fromUpto_succ,outUpto_succ];simp [ih]
theorem fromUpto_at (B:Nat→Ins→List Ins)(code:List Ins)(k q:Nat)(h:q<(fromUpto B code k).length):0≤nth (fromUpto B code k) q∧(nth (fromUpto B code k) q).toNat<k∧∃j,j<(B (nth (fromUpto B code k) q).toNat (nth code (nth (fromUpto B code k) q).toNat)).length∧nth (outUpto B code k) q=nth (B (nth (fromUpto B code k) q).toNat (nth code (nth (fromUpto B code k) q).toNat)) j:=by
 induction k with
 |zero=>simp [fromUpto] at h
 |succ k ih=>
  rw [fromUpto_succ] at h⊢
  by_cases hq:q<(fromUpto B code k).length
  ·obtain ⟨h1,h2,j,h3,h4⟩:=ih hq
   rw [nth_app_lt _ _ _ hq]
   refine ⟨h1,by omega,j,h3, ?_⟩
   rw [outUpto_succ,nth_app_lt _ _ _ (by rw [←fromUpto_len];exact hq)]
   exact h4
  ·rw [List.length_append,List.length_replicate] at h
   have hn:nth (fromUpto B code k++List.replicate (B k (nth code k)).length (k:Int)) q=(k:Int):=by
    have hq2:q-(fromUpto B code k).length<(B k (nth code k)).length:=by omega
    rw [nth_app_ge _ _ _ (by omega),nth_replicate _ _ _ hq2]
   rw [hn]
   refine ⟨by omega,by omega,q-(fromUpto B code k).length,by simp;omega, ?_⟩
   rw [outUpto_succ]
   simp only [nth,List.getD,List.getElem?_append_right (show (outUpto B code k).length≤q by rw [←fromUpto_len];omega),fromUpto_len]
   rfl
theorem placeL_out (B:Nat→Ins→List Ins)(code:List Ins)(k:Nat)(h:k≤code.length):(outUpto B code k).length=placeL (becL B code) k:=by
 induction k with
 |zero=>rfl
 |succ k ih=>
  rw [outUpto_succ,placeL_succ _ _ (by rw [becL_len];omega),becL_nth _ _ _ (by omega),List.length_append,ih (by omega)]
def movedL (B:Nat→Ins→List Ins)(code:List Ins):List Ins:=(List.range code.length).flatMap fun i=>(B i (nth code i)).map (fixMv (becL B code) code i)
theorem movedL_of (B:Nat→Ins→List Ins)(code:List Ins)(ou:List Ins)(hl:ou.length=(outUpto B code code.length).length)
  (h:∀q,q<ou.length→nth ou q=fixMv (becL B code) code (nth (fromUpto B code code.length) q).toNat (nth (outUpto B code code.length) q)):ou=movedL B code:=by
 have key:∀k,(List.range k).flatMap (fun i=>(B i (nth code i)).map (fixMv (becL B code) code i))=(List.range (outUpto B code k).length).map fun q=>fixMv (becL B code) code (nth (fromUpto B code k) q).toNat (nth (outUpto B code k) q):=by
  intro k
  induction k with
  |zero=>rfl
  |succ k ih=>
   rw [List.range_succ,List.flatMap_append,ih]
   apply ext_nth
   ·simp [outUpto_succ]
   ·intro q hq
    have hql:q<(outUpto B code k).length+(B k (nth code k)).length:=by simpa using hq
    have hq2:q<(outUpto B code (k+1)).length:=by rw [outUpto_succ];simpa using hql
    have e2:nth ((List.range (outUpto B code (k+1)).length).map fun q=>fixMv (becL B code) code (nth (fromUpto B code (k+1)) q).toNat (nth (outUpto B code (k+1)) q)) q=fixMv (becL B code) code (nth (fromUpto B code (k+1)) q).toNat (nth (outUpto B code (k+1)) q):=by simp [nth,hq2]
    rw [e2,fromUpto_succ,outUpto_succ]
    by_cases h1:q<(outUpto B code k).length
    ·rw [nth_app_lt _ _ _ (by simpa using h1),nth_app_lt _ _ _ (by rw [fromUpto_len];exact h1),nth_app_lt _ _ _ h1]
     simp [nth,h1]
    ·have h3:q-(outUpto B code k).length<(B k (nth code k)).length:=by omega
     have e3:nth (fromUpto B code k++List.replicate (B k (nth code k)).length (k:Int)) q=(k:Int):=by
      rw [nth_app_ge _ _ _ (by rw [fromUpto_len];omega),fromUpto_len,nth_replicate _ _ _ h3]
     have e4:nth (outUpto B code k++B k (nth code k)) q=nth (B k (nth code k)) (q-(outUpto B code k).length):=by
      simp only [nth,List.getD,List.getElem?_append_right (show (outUpto B code k).length≤q by omega)]
     rw [e3,e4]
     rw [nth_app_ge _ _ _ (by simp;omega)]
     simp only [List.flatMap_cons,List.flatMap_nil,List.append_nil,List.length_map,List.length_range]
     rw [nth_map' _ _ _ h3]
     simp
 unfold movedL
 rw [key]
 apply ext_nth
 ·simpa using hl
 ·intro q hq
  rw [h q hq]
  have:q<(outUpto B code code.length).length:=by omega
  simp [nth,this]
def BecB (B:Nat→Ins→List Ins)(code:List Ins):Prop:=∀i,i<code.length→∀k,k<(B i (nth code i)).length→
 ((nth (B i (nth code i)) k).op≠14∨((nth code i).op≠14∧(nth code i).op≠15)∨(0≤(nth (B i (nth code i)) k).a∧(nth (B i (nth code i)) k).a≤code.length))∧
 ((nth (B i (nth code i)) k).op≠15∨(nth code i).op≠15∨(0≤(nth (B i (nth code i)) k).b∧(nth (B i (nth code i)) k).b≤code.length))
theorem cloneI_c (x:Ls Int)(W:World)(hx:x.At W)(hl:x.l.length≤100000):
    Rets Try.prog 38 [x.v] W (fun v w' =>∃s:Ls Int,v=s.v∧Sh0 W w' [.own 3 (⟨s.v,x.l⟩:Ls Int)]):=by
 refine gen Try.func38 Try.ntmps38 (Sh0.ext1 hx:Sh (fun _=>False) W W [.at_ x]) rfl fun a10 h10=>gG h10<|sG (oM 1 rfl<|.nl)<|gK fun _ k12=>sG (oM 1 rfl<|oV (r_eqnil (s:=x) sl_23 rfl rfl rfl (fun w h=>(h.at 0 rfl))) rfl<|.nl)<|?_;clear h10
 refine gCb rfl (fun hb14=> ?_) fun hb14=> ?_
 ·skip
  refine sG (oM 1 rfl<|.nl)<|gR<|uT<|fun a16 w16 h16=>x_ret1 (fn:=Try.f38) (t:=2) rfl h16 rfl<|⟨⟨.slice none 0 0, []⟩,rfl, ?_⟩
  rw [nilB_nil hx (by assumption)]
  exact (h16.sh.nil (α:=Int) 3).sel (L' := [_]) [0] rfl
 refine gS<|hK k12<|sK fun _ k17=>gE1 (fun _ _ h_=>x_lit0 (α:=Int) h_ sl_23 ti_3 rfl rfl rfl) rfl fun v18=>gRn (oM 1 rfl<|.nl)<|gE1 (fun _ _ h_=>x_app (r:=0) (rm:=1) (s:=(⟨v18, []⟩:Ls Int)) (m:=x) h_ sl_23 ti_3 rfl rfl rfl rfl rfl rfl rfl (fun w h=>(h.at 1 rfl)) (fun b hb=> .inr hb) (fun q hq b hb=> .inr ⟨q,hq,hb⟩) rfl rfl rfl inferInstance (show (([]).length+x.l.length)*8≤140737488355328∧([]).length+x.l.length≤140737488355328 from om9) rfl rfl) rfl fun v19=>gRn (oM 1 rfl<|.nl)<|nK k17<|gR<|fun a20 w20 h20=>x_ret1 (fn:=Try.f38) (t:=2) rfl h20 rfl<|⟨⟨v19, []⟩,rfl, ?_⟩
 exact (h20.sh.sel [0] rfl)
theorem moved_c (code:Ls Ins)(bf:FuncId)(us ws:List Value)(B:Nat→Ins→List Ins)(Env:Asn)(W:World)(hc:code.At W)(hcl:code.l.length≤5000)(hbd:bodyI Try.prog bf=true)(hEf:∀b,¬Env.fp b)(hEo:Env.ok W)(hbec:∀(w:World) (i:Nat),Env.ok w→i<code.l.length→Rets Try.prog bf (us++ [.int .i64 (i:Int), .agg #[.int .i64 (nth code.l i).op, .int .i64 (nth code.l i).a, .int .i64 (nth code.l i).b, .int .i64 (nth code.l i).c]]++ws) w (fun v w' =>∃s:Ls Ins,v=s.v∧Sh0 w w' [.own 47 (⟨s.v,B i (nth code.l i)⟩:Ls Ins)]))(hB8:∀i,i<code.l.length→(B i (nth code.l i)).length≤8)(hbok:BecB B code.l):
    Rets Try.prog 39 [code.v, .func (.func bf) us.toArray ws.toArray] W (fun v w' =>∃s:Ls Ins,v=s.v∧s.l=movedL B code.l∧Sh0 W w' [.own 47 s]):=by
 refine gen Try.func39 Try.ntmps39 (Sh0.ext (by intro A hA;simp at hA;rcases hA with rfl|rfl;exact hc;exact hEo) (by intro A hA b hb;simp at hA;rcases hA with rfl|rfl;exact hb;exact hEf b hb):Sh (fun _=>False) W W [.at_ code,Env]) rfl fun a10 h10=>gG h10<|sG (oM 1 rfl<|.nl)<|sG (oM 1 rfl<|.nl)<|sK fun _ k13=>gNl (aA 0 rfl) fun hl14=>gRn (oM 1 rfl<|oln sl_45 (aA 0 rfl) rfl<|oadN _ 1 om9 rfl<|.nl)<|gE1 (fun _ _ h_=>x_make (n:=code.l.length+1) (0:Int) h_ sl_23 ti_3 rfl rfl rfl rfl rfl (show 8*(code.l.length+1)≤140737488355328∧code.l.length+1≤140737488355328 from om9) (fun w=>Flat.inner _ _) (fun b=>Flat.on _ _) rfl rfl) rfl fun v15=>gRn (oM 1 rfl<|.nl)<|nK k13<|sK fun _ k16=>gE1 (fun _ _ h_=>x_lit0 (α:=Int) h_ sl_23 ti_3 rfl rfl rfl) rfl fun v17=>gRn (oM 1 rfl<|.nl)<|nK k16<|gK fun _ k18=>sG (oM 1 rfl<|oln sl_45 (aA 2 rfl) rfl<|oM 1 rfl<|.nl)<|gB<|fun a22 w22 h22=> ?_;clear h10
 have h21:=h22.nil (α:=Ins) 47
 clear h22
 refine x_loop (fun m a w=>∃(k:Nat) (out:List Ins) (vo:Value) (fr:List Int) (vf:Value) (pl:List Int),(k≤code.l.length)∧(out=outUpto B code.l k)∧(fr=fromUpto B code.l k)∧(pl.length=code.l.length+1)∧(∀j,j<k→nth pl j=(placeL (becL B code.l) j:Int))∧(out.length≤8*k)∧(fr.length=out.length)∧St 115 (fun _=>False) W a w [(0,code.v),(1, .func (.func bf) us.toArray ws.toArray),(5,vo),(6,v15),(7,vf),(18,code.v),(19, .int .i64 ((code.l.length:Nat):Int)),(20, .int .i64 ((k:Nat):Int))] [.own 3 (⟨vf,fr⟩:Ls Int), .own 3 (⟨v15,pl⟩:Ls Int), .at_ code,Env, .own 47 (⟨vo,out⟩:Ls Ins)]∧m=code.l.length-k) ⟨_,0, [],(.slice none 0 0), [],v17,List.replicate (code.l.length+1) 0,(by omega),(rfl),(rfl),(by simp),(fun j hj=>absurd hj (by omega)),(by simp),(by simp),h21.nrm ⟨rfl,rfl,rfl,rfl,rfl,rfl,rfl,rfl,trivial⟩ [1,2,3,4,0] rfl,rfl⟩ ?_
 clear h21
 rintro m20 a20 w20 ⟨k,out,vo,fr,vf,pl,hk,hout,hfr,hpl,hplv,ho8,hf8,h20,hm20⟩
 refine gG h20<|sG (oltN _ _ rfl<|.nl)<|gK fun _ k24=>gcd rfl (fun hb25 hp25=> ?_) fun hb25 hp25=> ?_;clear h20
 ·skip
  refine gS<|hK k24<|gK fun _ k26=>gB<|sK fun _ k27=>gRn (oM 1 rfl<|oxN sl_45 ti_47 (aA 2 rfl) _ om9 rfl<|olw2 [.int .i64 ((nth code.l k).op), .int .i64 ((nth code.l k).a), .int .i64 ((nth code.l k).b), .int .i64 ((nth code.l k).c)] ti_47 (aA 2 rfl) om9 rfl<|.nl)<|gal ti_47 rfl fun b28=>gRn (oM 1 rfl<|.nl)<|gsw 0 ti_47 rfl rfl rfl<|nK k27<|sK fun _ k30=>gNl (aO 5 rfl) fun (hl31:out.length≤140737488355328)=>gNl (aO 2 rfl) fun (hl32:pl.length≤140737488355328)=>gRn (oM 3 rfl<|oln (n:=out.length) sl_45 (aO 5 rfl) rfl<|oxN sl_23 ti_3 (aO 2 rfl) _ om9 rfl<|.nl)<|gte 2 (((out.length:Nat):Int):Int) ti_3 om9 rfl rfl<|nK k30<|gK fun _ k34=>sK fun _ k35=>gRn (oM 2 rfl<|olw 0 ti_47 rfl rfl<|.nl)<|gC (fun _ _ h_=>xCl h_ hbd rfl (hbec _ k (h_.sh.ok Env (List.mem_of_getElem? (i:=4) rfl)) (by omega))) rfl<|?_
  rintro _ _ w36 ⟨s36,rfl,hs36⟩
  refine gWk hs36 rfl<|gU<|gNl (aO 0 rfl) fun (hl37:(B k (nth code.l k)).length≤140737488355328)=>gRn (oln (n:=(B k (nth code.l k)).length) sl_45 (aO 0 rfl) rfl<|oM 1 rfl<|.nl)<|nK k35<|gB<|fun a39 w39 h39=> ?_;clear hs36
  refine x_loop (fun m a w=>∃(q:Nat) (fr2:List Int) (vf2:Value),(q≤(B k (nth code.l k)).length)∧(fr2=fr++List.replicate q (k:Int))∧(fr2.length=fr.length+q)∧St 115 (fun _=>False) W a w [(0,code.v),(1, .func (.func bf) us.toArray ws.toArray),(5,vo),(6,v15),(7,vf2),(8, .int .i64 ((k:Nat):Int)),(9, .pointer (some ⟨b28,0,none⟩)),(18,code.v),(19, .int .i64 ((code.l.length:Nat):Int)),(20, .int .i64 ((k:Nat):Int)),(34, .int .i64 (((B k (nth code.l k)).length:Nat):Int)),(35, .int .i64 ((q:Nat):Int))] [.blk b28 47 [.int .i64 ((nth code.l k).op), .int .i64 ((nth code.l k).a), .int .i64 ((nth code.l k).b), .int .i64 ((nth code.l k).c)], .own 3 (⟨vf2,fr2⟩:Ls Int), .own 3 (⟨v15,pl.set k ((out.length:Nat):Int)⟩:Ls Int), .at_ code,Env, .own 47 (⟨vo,out⟩:Ls Ins)]∧m=(B k (nth code.l k)).length-q) ⟨_,0,fr,vf,(by omega),(by simp),(by simp),h39.nrm ⟨rfl,rfl,rfl,rfl,rfl,rfl,rfl,rfl,rfl,rfl,rfl,rfl,trivial⟩ [1,2,3,4,5,6] rfl,rfl⟩ ?_
  clear h39
  rintro m38 a38 w38 ⟨q,fr2,vf2,hq,hfr2,hq2,h38,hm38⟩
  have h8k:=hB8 k (by omega)
  refine gG h38<|sG (oltN _ _ rfl<|.nl)<|gK fun _ k41=>gcd rfl (fun hb42 hp42=> ?_) fun hb42 hp42=> ?_;clear h38
  ·skip
   refine gS<|hK k41<|gK fun _ k43=>gB<|gL<|gRn (oM 2 rfl<|.nl)<|gE1 (fun _ _ h_=>x_lit (n:=1) (cs:= [.int .i64 ((k:Nat):Int)]) ([((k:Nat):Int)]:List Int) h_ sl_23 ti_3 rfl rfl rfl (by decide) rfl (by kernel_rfl) rfl (fun q hq w h=>Flat.inner _ _) (fun q hq b hb=>(Flat.on _ _ hb).elim) rfl rfl) rfl fun v44=>gE1 (fun _ _ h_=>x_app (r:=2) (rm:=0) (s:=(⟨vf2,fr2⟩:Ls Int)) (m:=(⟨v44, [((k:Nat):Int)]⟩:Ls Int)) h_ sl_23 ti_3 rfl rfl rfl rfl rfl rfl rfl (fun w h=>(h.own 0 rfl)) (fun b hb=>own_on (h_.sh.ok _ (List.mem_of_getElem? (i:=0) rfl)) hb) (fun q hq b hb=>⟨q,hq,hb⟩) rfl rfl rfl inferInstance (show (fr2.length+([((k:Nat):Int)]).length)*8≤140737488355328∧fr2.length+([((k:Nat):Int)]).length≤140737488355328 from om9) rfl rfl) rfl fun v45=>gRn (oM 1 rfl<|.nl)<|nK k43<|gL<|gRn (oadN _ 1 om9 rfl<|oM 1 rfl<|.nl)<|nN<|fun a46 w46 h46=>x_again ⟨_, ?_,q+1,fr2++([((k:Nat):Int)]),v45, ?_, ?_, ?_,h46.nrm ⟨rfl,rfl,rfl,rfl,rfl,rfl,rfl,rfl,rfl,rfl,rfl,rfl,trivial⟩ [1,2,3,4,5,6] rfl,rfl⟩
   · rw [hm38];first|omega|(simp only [lens9];omega)
   · omega
   · rw [hfr2,List.append_assoc,List.replicate_succ']
   · simp;omega
  refine gX<|hK k34<|gL<|gRn (oM 3 rfl<|olw 0 ti_47 rfl rfl<|.nl)<|gC (fun _ _ h_=>xCl h_ hbd rfl (hbec _ k (h_.sh.ok Env (List.mem_of_getElem? (i:=4) rfl)) (by omega))) rfl<|?_
  rintro _ _ w47 ⟨s47,rfl,hs47⟩
  refine gWk hs47 rfl<|gU<|gE1 (fun _ _ h_=>x_app (r:=6) (rm:=0) (s:=(⟨vo,out⟩:Ls Ins)) (m:=(⟨s47.v,B k (nth code.l k)⟩:Ls Ins)) h_ sl_45 ti_47 rfl rfl rfl rfl rfl rfl rfl (fun w h=>(h.own 0 rfl)) (fun b hb=>own_on (h_.sh.ok _ (List.mem_of_getElem? (i:=0) rfl)) hb) (fun q hq b hb=>⟨q,hq,hb⟩) rfl rfl rfl inferInstance (show (out.length+(B k (nth code.l k)).length)*32≤140737488355328∧out.length+(B k (nth code.l k)).length≤140737488355328 from om9) rfl rfl) rfl fun v48=>gRn (oM 1 rfl<|.nl)<|nK k26<|gL<|gRn (oadN _ 1 om9 rfl<|oM 1 rfl<|.nl)<|nN<|fun a49 w49 h49=> ?_;clear hs47
  refine x_again ⟨_, ?_,k+1,out++(B k (nth code.l k)),v48,fr2,vf2,pl.set k ((out.length:Nat):Int), ?_, ?_, ?_, ?_, ?_, ?_, ?_,h49.nrm ⟨rfl,rfl,rfl,rfl,rfl,rfl,rfl,rfl,trivial⟩ [2,3,4,5,6] rfl,rfl⟩
  · rw [hm20];first|omega|(simp only [lens9];omega)
  · omega
  · rw [outUpto_succ,hout]
  · rw [fromUpto_succ,←hfr,hfr2,show q=(B k (nth code.l k)).length by omega]
  · simpa using hpl
  · intro j hj;rw [nth_set];split;(rename_i hh;obtain ⟨rfl,_⟩:=hh;rw [hout,placeL_out _ _ _ (by omega)]);exact hplv j (by omega)
  · have:=hB8 k (by omega);simp;omega
  · rw [hfr2];simp;omega
 refine gX<|hK k18<|sK fun _ k50=>gNl (aO 4 rfl) fun (hl51:out.length≤140737488355328)=>gNl (aO 1 rfl) fun (hl52:pl.length≤140737488355328)=>gRn (oM 2 rfl<|oln sl_45 (aA 2 rfl) rfl<|oM 1 rfl<|oln (n:=out.length) sl_45 (aO 4 rfl) rfl<|oxN sl_23 ti_3 (aO 1 rfl) _ om9 rfl<|.nl)<|gte 1 (((out.length:Nat):Int):Int) ti_3 om9 rfl rfl<|nK k50<|?_
 have hkk:k=code.l.length:=by omega
 have hplw:∀j,j≤code.l.length→nth (pl.set code.l.length (out.length:Int)) j=(placeL (becL B code.l) j:Int):=by
  intro j hj;rw [nth_set];split;(rename_i hh;obtain ⟨rfl,_⟩:=hh;rw [hout,hkk,placeL_out _ _ _ (by omega)]);exact hplv j (by omega)
 have hpm0:(pl.set code.l.length (out.length:Int)).length=code.l.length+1:=by simpa using hpl
 generalize hpg:pl.set code.l.length (out.length:Int)=pm at*
 rw [hkk] at hout hfr
 have hat:=fun q (hq:q<fr.length)=>fromUpto_at B code.l code.l.length q (by rw [←hfr];exact hq)
 rw [←hfr,←hout] at hat
 clear hplv hpg hpl
 refine gK fun _ k54=>sG (oM 1 rfl<|oln (n:=out.length) sl_45 (aO 4 rfl) rfl<|oM 1 rfl<|.nl)<|gB<|fun a57 w57 h57=>x_loop (fun m a w=>∃(k3:Nat) (ou:List Ins),(k3≤out.length)∧(ou.length=out.length)∧(∀j,j<k3→nth ou j=fixMv (becL B code.l) code.l (nth fr j).toNat (nth out j))∧(∀j,k3≤j→nth ou j=nth out j)∧St 115 (fun _=>False) W a w [(0,code.v),(5,vo),(6,v15),(7,vf),(56, .int .i64 ((out.length:Nat):Int)),(57, .int .i64 ((k3:Nat):Int))] [.own 3 (⟨vf,fr⟩:Ls Int), .own 3 (⟨v15,pm⟩:Ls Int), .at_ code,Env, .own 47 (⟨vo,ou⟩:Ls Ins)]∧m=out.length-k3) ⟨_,0,out,(by omega),(rfl),(fun j hj=>absurd hj (by omega)),(fun j hj=>rfl),h57.nf ⟨rfl,rfl,rfl,rfl,rfl,rfl,trivial⟩,rfl⟩ ?_
 clear h57
 rintro m56 a56 w56 ⟨k3,ou,hk3,hol,hdone,hrest,h56,hm56⟩
 refine gG h56<|sG (oltN _ _ rfl<|.nl)<|gK fun _ k59=>gcd rfl (fun hb60 hp60=> ?_) fun hb60 hp60=> ?_;clear h56
 ·skip
  refine gS<|hK k59<|gK fun _ k61=>gB<|sG (oM 2 rfl<|.nl)<|?_
  have hr3:=hrest k3 (by omega)
  obtain ⟨hf0,hf1,jj,hj1,hj2⟩:=hat k3 (by omega)
  have hbk:=hbok _ hf1 jj hj1
  rw [←hj2,←hr3] at hbk
  refine sK fun _ k63=>gNl (aO 0 rfl) fun (hl64:fr.length≤140737488355328)=>gRn (oM 3 rfl<|oxN sl_23 ti_3 (aO 0 rfl) _ om9 rfl<|olE (.int .i64 (nth fr k3)) ti_3 (aO 0 rfl) om9 rfl<|oxI sl_45 ti_47 (aA 2 rfl) om9 rfl<|ofE fl_47_0 rfl<|olI ti_3 (aA 2 rfl) om9 rfl<|oM 1 rfl<|.nl)<|nK k63<|sK fun _ k65=>gNl (aO 4 rfl) fun (hl66:ou.length≤140737488355328)=>gRn (oM 2 rfl<|oxN sl_45 ti_47 (aO 4 rfl) _ om9 rfl<|oM 1 rfl<|.nl)<|nK k65<|sK fun _ k67=>gRn (oM 1 rfl<|onl rfl<|ofE fl_47_0 rfl<|olE (.int .i64 ((nth ou k3).op)) ti_3 (aO 4 rfl) om9 rfl<|oeqI _ _ rfl<|oM 1 rfl<|.nl)<|?_
  rcases dsp ((nth ou k3).op=14) with ⟨hb68,hp68⟩|⟨hb68,hp68⟩
  ·skip
   refine gRn (oG hb68 (r_move rfl rfl) rfl<|oG hb68 (r_eqlI (p:=(nth code.l ((nth fr k3).toNat)).op) (q:=14) rfl rfl rfl) rfl<|oG hb68 (r_move rfl rfl) rfl<|.nl)<|?_
   rcases dsp ((nth code.l ((nth fr k3).toNat)).op=14) with ⟨hb69,hp69⟩|⟨hb69,hp69⟩
   ·skip
    refine gRn (oKs 2 hb69 rfl rfl<|oG hb68 (r_pickT rfl rfl hb69 rfl) rfl<|opT hb68 rfl<|.nl)<|nK k67<|gF [0,5,6,7,11,12,56,57,83] rfl<|gcT rfl rfl<|gL<|gNl (aO 1 rfl) fun (hl70:pm.length≤140737488355328)=>gRn (oM 3 rfl<|onl rfl<|ofE fl_47_1 rfl<|olE (.int .i64 ((nth ou k3).a)) ti_3 (aO 4 rfl) om9 rfl<|oxI sl_23 ti_3 (aO 1 rfl) om9 rfl<|olE (.int .i64 (nth pm (((nth ou k3).a).toNat))) ti_3 (aO 1 rfl) om9 rfl<|onl rfl<|ofE fl_47_1 rfl<|.nl)<|gte 4 ({ nth ou k3 with a:=nth pm (((nth ou k3).a).toNat) } :Ins) ti_3 om9 rfl rfl<|nK k61<|gL<|gRn (oadN _ 1 om9 rfl<|oM 1 rfl<|.nl)<|nN<|fun a72 w72 h72=>x_again ⟨_, ?_,k3+1,ou.set k3 ({ nth ou k3 with a:=nth pm (((nth ou k3).a).toNat) }), ?_, ?_, ?_, ?_,h72.nf ⟨rfl,rfl,rfl,rfl,rfl,rfl,trivial⟩,rfl⟩
    · rw [hm56];first|omega|(simp only [lens9];omega)
    · omega
    · first|simpa using hol|exact hol
    · intro j hj;rcases Nat.lt_or_ge j k3 with h|h;(first|(rw [nth_set,if_neg (by omega)];exact hdone j h)|exact hdone j h);obtain rfl:j=k3:=(by omega);have hr:=hrest j (by omega);have hr1:=congrArg Ins.op hr;have hr2:=congrArg Ins.a hr;have hr4:=congrArg Ins.b hr;(try (rw [nth_set,if_pos ⟨rfl,by omega⟩]));rw [hr];unfold fixMv;(repeat' split)<;>first|(exfalso;omega)|rfl|(rw [hplw _ (by omega)])
    · intro j hj;first|(rw [nth_set,if_neg (by omega)];exact hrest j (by omega))|exact hrest j (by omega)
   refine gRn (oG hb69 (r_move rfl rfl) rfl<|oG hb69 (r_eqlI (p:=(nth code.l ((nth fr k3).toNat)).op) (q:=15) rfl rfl rfl) rfl<|oG hb68 (r_pickF rfl rfl hb69 rfl) rfl<|opT hb68 rfl<|.nl)<|nK k67<|gF [0,5,6,7,11,12,56,57,83] rfl<|gcd rfl (fun hb73 hp73=> ?_) fun hb73 hp73=> ?_
   ·skip
    refine gL<|gNl (aO 1 rfl) fun (hl74:pm.length≤140737488355328)=>gRn (oM 3 rfl<|onl rfl<|ofE fl_47_1 rfl<|olE (.int .i64 ((nth ou k3).a)) ti_3 (aO 4 rfl) om9 rfl<|oxI sl_23 ti_3 (aO 1 rfl) om9 rfl<|olE (.int .i64 (nth pm (((nth ou k3).a).toNat))) ti_3 (aO 1 rfl) om9 rfl<|onl rfl<|ofE fl_47_1 rfl<|.nl)<|gte 4 ({ nth ou k3 with a:=nth pm (((nth ou k3).a).toNat) } :Ins) ti_3 om9 rfl rfl<|nK k61<|gL<|gRn (oadN _ 1 om9 rfl<|oM 1 rfl<|.nl)<|nN<|fun a76 w76 h76=>x_again ⟨_, ?_,k3+1,ou.set k3 ({ nth ou k3 with a:=nth pm (((nth ou k3).a).toNat) }), ?_, ?_, ?_, ?_,h76.nf ⟨rfl,rfl,rfl,rfl,rfl,rfl,trivial⟩,rfl⟩
    · rw [hm56];first|omega|(simp only [lens9];omega)
    · omega
    · first|simpa using hol|exact hol
    · intro j hj;rcases Nat.lt_or_ge j k3 with h|h;(first|(rw [nth_set,if_neg (by omega)];exact hdone j h)|exact hdone j h);obtain rfl:j=k3:=(by omega);have hr:=hrest j (by omega);have hr1:=congrArg Ins.op hr;have hr2:=congrArg Ins.a hr;have hr4:=congrArg Ins.b hr;(try (rw [nth_set,if_pos ⟨rfl,by omega⟩]));rw [hr];unfold fixMv;(repeat' split)<;>first|(exfalso;omega)|rfl|(rw [hplw _ (by omega)])
    · intro j hj;first|(rw [nth_set,if_neg (by omega)];exact hrest j (by omega))|exact hrest j (by omega)
   refine sG (oM 1 rfl<|onl rfl<|ofE fl_47_0 rfl<|olE (.int .i64 ((nth ou k3).op)) ti_3 (aO 4 rfl) om9 rfl<|oeqI _ _ rfl<|oM 1 rfl<|oKs 2 (decide_eq_false (by omega)) rfl rfl<|opF (decide_eq_false (by omega)) rfl<|.nl)<|gcF rfl rfl<|gS<|hK k61<|gL<|gRn (oadN _ 1 om9 rfl<|oM 1 rfl<|.nl)<|nN<|fun a78 w78 h78=>x_again ⟨_, ?_,k3+1,ou, ?_, ?_, ?_, ?_,h78.nf ⟨rfl,rfl,rfl,rfl,rfl,rfl,trivial⟩,rfl⟩
   · rw [hm56];first|omega|(simp only [lens9];omega)
   · omega
   · first|simpa using hol|exact hol
   · intro j hj;rcases Nat.lt_or_ge j k3 with h|h;(first|(rw [nth_set,if_neg (by omega)];exact hdone j h)|exact hdone j h);obtain rfl:j=k3:=(by omega);have hr:=hrest j (by omega);have hr1:=congrArg Ins.op hr;have hr2:=congrArg Ins.a hr;have hr4:=congrArg Ins.b hr;(try (rw [nth_set,if_pos ⟨rfl,by omega⟩]));rw [hr];unfold fixMv;(repeat' split)<;>first|(exfalso;omega)|rfl|(rw [hplw _ (by omega)])
   · intro j hj;first|(rw [nth_set,if_neg (by omega)];exact hrest j (by omega))|exact hrest j (by omega)
  refine gRn (oKs 3 hb68 rfl rfl<|oK2 rfl<|oK2 rfl<|oK hb68 rfl<|opF hb68 rfl<|.nl)<|nK k67<|gF [0,5,6,7,11,12,56,57,83] rfl<|gcF rfl rfl<|sK fun _ k79=>gRn (oM 1 rfl<|onl rfl<|ofE fl_47_0 rfl<|olE (.int .i64 ((nth ou k3).op)) ti_3 (aO 4 rfl) om9 rfl<|oeqI _ _ rfl<|oM 1 rfl<|.nl)<|?_
  rcases dsp ((nth ou k3).op=15) with ⟨hb80,hp80⟩|⟨hb80,hp80⟩
  ·skip
   refine gRn (oG hb80 (r_move rfl rfl) rfl<|oG hb80 (r_eqlI (p:=(nth code.l ((nth fr k3).toNat)).op) (q:=15) rfl rfl rfl) rfl<|opT hb80 rfl<|.nl)<|nK k79<|gcd rfl (fun hb81 hp81=> ?_) fun hb81 hp81=> ?_
   ·skip
    refine gL<|gNl (aO 1 rfl) fun (hl82:pm.length≤140737488355328)=>gRn (oM 3 rfl<|onl rfl<|ofE fl_47_2 rfl<|olE (.int .i64 ((nth ou k3).b)) ti_3 (aO 4 rfl) om9 rfl<|oxI sl_23 ti_3 (aO 1 rfl) om9 rfl<|olE (.int .i64 (nth pm (((nth ou k3).b).toNat))) ti_3 (aO 1 rfl) om9 rfl<|onl rfl<|ofE fl_47_2 rfl<|.nl)<|gte 4 ({ nth ou k3 with b:=nth pm (((nth ou k3).b).toNat) } :Ins) ti_3 om9 rfl rfl<|nK k61<|gL<|gRn (oadN _ 1 om9 rfl<|oM 1 rfl<|.nl)<|nN<|fun a84 w84 h84=>x_again ⟨_, ?_,k3+1,ou.set k3 ({ nth ou k3 with b:=nth pm (((nth ou k3).b).toNat) }), ?_, ?_, ?_, ?_,h84.nf ⟨rfl,rfl,rfl,rfl,rfl,rfl,trivial⟩,rfl⟩
    · rw [hm56];first|omega|(simp only [lens9];omega)
    · omega
    · first|simpa using hol|exact hol
    · intro j hj;rcases Nat.lt_or_ge j k3 with h|h;(first|(rw [nth_set,if_neg (by omega)];exact hdone j h)|exact hdone j h);obtain rfl:j=k3:=(by omega);have hr:=hrest j (by omega);have hr1:=congrArg Ins.op hr;have hr2:=congrArg Ins.a hr;have hr4:=congrArg Ins.b hr;(try (rw [nth_set,if_pos ⟨rfl,by omega⟩]));rw [hr];unfold fixMv;(repeat' split)<;>first|(exfalso;omega)|rfl|(rw [hplw _ (by omega)])
    · intro j hj;first|(rw [nth_set,if_neg (by omega)];exact hrest j (by omega))|exact hrest j (by omega)
   refine gS<|hK k61<|gL<|gRn (oadN _ 1 om9 rfl<|oM 1 rfl<|.nl)<|nN<|fun a85 w85 h85=>x_again ⟨_, ?_,k3+1,ou, ?_, ?_, ?_, ?_,h85.nf ⟨rfl,rfl,rfl,rfl,rfl,rfl,trivial⟩,rfl⟩
   · rw [hm56];first|omega|(simp only [lens9];omega)
   · omega
   · first|simpa using hol|exact hol
   · intro j hj;rcases Nat.lt_or_ge j k3 with h|h;(first|(rw [nth_set,if_neg (by omega)];exact hdone j h)|exact hdone j h);obtain rfl:j=k3:=(by omega);have hr:=hrest j (by omega);have hr1:=congrArg Ins.op hr;have hr2:=congrArg Ins.a hr;have hr4:=congrArg Ins.b hr;(try (rw [nth_set,if_pos ⟨rfl,by omega⟩]));rw [hr];unfold fixMv;(repeat' split)<;>first|(exfalso;omega)|rfl|(rw [hplw _ (by omega)])
   · intro j hj;first|(rw [nth_set,if_neg (by omega)];exact hrest j (by omega))|exact hrest j (by omega)
  refine gRn (oKs 2 hb80 rfl rfl<|opF hb80 rfl<|.nl)<|nK k79<|gcF rfl rfl<|gS<|hK k61<|gL<|gRn (oadN _ 1 om9 rfl<|oM 1 rfl<|.nl)<|nN<|fun a86 w86 h86=>x_again ⟨_, ?_,k3+1,ou, ?_, ?_, ?_, ?_,h86.nf ⟨rfl,rfl,rfl,rfl,rfl,rfl,trivial⟩,rfl⟩
  · rw [hm56];first|omega|(simp only [lens9];omega)
  · omega
  · first|simpa using hol|exact hol
  · intro j hj;rcases Nat.lt_or_ge j k3 with h|h;(first|(rw [nth_set,if_neg (by omega)];exact hdone j h)|exact hdone j h);obtain rfl:j=k3:=(by omega);have hr:=hrest j (by omega);have hr1:=congrArg Ins.op hr;have hr2:=congrArg Ins.a hr;have hr4:=congrArg Ins.b hr;(try (rw [nth_set,if_pos ⟨rfl,by omega⟩]));rw [hr];unfold fixMv;(repeat' split)<;>first|(exfalso;omega)|rfl|(rw [hplw _ (by omega)])
  · intro j hj;first|(rw [nth_set,if_neg (by omega)];exact hrest j (by omega))|exact hrest j (by omega)
 refine gX<|hK k54<|sG (oM 2 rfl<|.nl)<|gR<|fun a88 w88 h88=>x_ret1 (fn:=Try.f39) (t:=4) rfl h88 rfl<|⟨⟨vo,ou⟩,rfl, ?_,(h88.sh.sel [4] rfl)⟩
 refine movedL_of B code.l ou (by rw [←hout];exact hol) fun q hq=> ?_
 rw [←hfr,←hout];exact hdone q (by omega)
theorem moved_put (B:Nat→Ins→List Ins)(code:List Ins)(h:∀i,i<code.length→∀x∈B i (nth code i),x.op=15→(nth code i).op≠17):movedL B code=putL (becL B code) code:=by
 unfold movedL putL putUpto
 simp only [List.flatMap]
 congr 1
 apply List.map_congr_left
 intro i hi
 have hi' :i<code.length:=by simpa using hi
 rw [becL_nth _ _ _ hi']
 apply List.map_congr_left
 intro x hx
 unfold fixMv fixIns
 have:=h i hi' x hx
 split
 ·rfl
 ·split
  ·rfl
  ·rw [if_neg (fun hh=>this hh.1 hh.2)]
theorem ok_thread {code:Ls (Ls Ins)}{words:Ls Int}{locks regs:Int}(h:OkPg (pgOf code words locks regs))(t:Nat)(ht:t<code.l.length):(nth code.l t).l.length≤400∧JumpsOK (nth code.l t).l:=by
 have e:nth (pgOf code words locks regs).code t=(nth code.l t).l:=nth_map' _ _ _ ht
 have ht' :t<(pgOf code words locks regs).code.length:=by simpa [pgOf] using ht
 refine ⟨by rw [←e];exact h.len t ht',fun i hi=> ?_⟩
 have hi2:=h.ins t i ht' (by rw [e];exact hi)
 rw [e] at hi2
 have hw:wrap64 (((nth code.l t).l.length:Int)+1)=((nth code.l t).l.length:Int)+1:=by
  have hlen:=h.len t ht'
  rw [e] at hlen
  exact IntWalk.wrap64_in _ ⟨by omega,by omega⟩
 refine ⟨fun h14=> ?_,fun h15=> ?_⟩
 ·have h0:=hi2.n0
  unfold okNumG at h0
  rw [h14] at h0
  have hk:kindsB 14=⟨#[99]⟩:=by unfold kindsB;simp
  rw [hk] at h0
  simp only [show (0:Nat)<(⟨#[99]⟩:ByteArray).size from by decide,dif_pos] at h0
  have:fitsG (pgOf code words locks regs) (nth code.l t).l.length 99 (nth (nth code.l t).l i).a=true:=h0
  unfold fitsG at this
  simp only [Int.reduceEq,if_false,if_true,hw,Bool.and_eq_true,decide_eq_true_eq] at this
  omega
 ·have h0:=hi2.n1
  unfold okNumG at h0
  rw [h15] at h0
  have hk:kindsB 15=⟨#[114,99]⟩:=by unfold kindsB;simp
  rw [hk] at h0
  simp only [show (1:Nat)<(⟨#[114,99]⟩:ByteArray).size from by decide,dif_pos] at h0
  have:fitsG (pgOf code words locks regs) (nth code.l t).l.length 99 (nth (nth code.l t).l i).b=true:=h0
  unfold fitsG at this
  simp only [Int.reduceEq,if_false,if_true,hw,Bool.and_eq_true,decide_eq_true_eq] at this
  omega
theorem ok_len {code:Ls (Ls Ins)}{words:Ls Int}{locks regs:Int}(h:OkPg (pgOf code words locks regs)):1≤code.l.length∧code.l.length≤4∧words.l.length≤64∧0≤locks∧locks≤4∧1≤regs∧regs≤200:=by
 have h1:=h.code
 have h2:=h.words
 have h3:=h.locks
 have h4:=h.regs
 simp only [pgOf,List.length_map] at h1 h2 h3 h4
 omega
theorem nil_at {α:Type}[Enc α](w:World):(⟨.slice none 0 0, []⟩:Ls α).At w:=(((Sh0.start w).nil (α:=α) 0).own 0 rfl)
theorem Sh.nilAt {α:Type}[Enc α]{K:Nat→Prop}{W w:World}{L:List Asn}(h:Sh K W w L):(⟨.slice none 0 0, []⟩:Ls α).At w:=nil_at w
def nextsL (code:List Ins)(i:Nat):List Int:=if (nth code i).op=14 then [(nth code i).a] else if (nth code i).op=15 then [((i+1:Nat):Int),(nth code i).b] else [((i+1:Nat):Int)]
theorem nexts_c (x:Ls Ins)(i:Nat)(W:World)(hx:x.At W)(hi:i<x.l.length)(hl:x.l.length≤100000):
    Rets Try.prog 62 [x.v, .int .i64 ((i:Nat):Int)] W (fun v w' =>∃s:Ls Int,v=s.v∧Sh0 W w' [.own 3 (⟨s.v,nextsL x.l i⟩:Ls Int)]):=by
 refine gen Try.func62 Try.ntmps62 (Sh0.ext1 hx:Sh (fun _=>False) W W [.at_ x]) rfl fun a10 h10=>gG h10<|sG (oM 1 rfl<|.nl)<|gK fun _ k12=>sK fun _ k13=>gNl (aA 0 rfl) fun hl14=>gRn (oM 2 rfl<|oxN sl_45 ti_47 (aA 0 rfl) _ om9 rfl<|olw2 [.int .i64 ((nth x.l i).op), .int .i64 ((nth x.l i).a), .int .i64 ((nth x.l i).b), .int .i64 ((nth x.l i).c)] ti_47 (aA 0 rfl) om9 rfl<|.nl)<|gal ti_47 rfl fun b15=>gsw 0 ti_47 rfl rfl rfl<|nK k13<|sG (ofB fl_47_0 rfl<|olB 0 ti_3 rfl rfl<|.nl)<|gB<|sG (oeqI _ _ rfl<|oM 1 rfl<|.nl)<|?_;clear h10
 refine gcd rfl (fun hb19 hp19=> ?_) fun hb19 hp19=> ?_
 ·skip
  refine sK fun _ k20=>gRn (ofB fl_47_1 rfl<|olB 0 ti_3 rfl rfl<|.nl)<|gE1 (fun _ _ h_=>x_lit (n:=1) (cs:= [.int .i64 ((nth x.l i).a)]) ([(nth x.l i).a]:List Int) h_ sl_23 ti_3 rfl rfl rfl (by decide) rfl (by kernel_rfl) rfl (fun q hq w h=>Flat.inner _ _) (fun q hq b hb=>(Flat.on _ _ hb).elim) rfl rfl) rfl fun v21=>gRn (oM 1 rfl<|.nl)<|nK k20<|gR<|uB<|uT<|fun a22 w22 h22=>x_ret1 (fn:=Try.f62) (t:=4) rfl h22 rfl<|⟨⟨v21, []⟩,rfl, ?_⟩
  rw [show nextsL x.l i= [(nth x.l i).a] from by unfold nextsL;(repeat' split)<;>first|rfl|(exfalso;omega)]
  exact (h22.sh.sel [0] rfl)
 refine sG (oeqI _ _ rfl<|oM 1 rfl<|.nl)<|gcd rfl (fun hb24 hp24=> ?_) fun hb24 hp24=> ?_
 ·skip
  refine sK fun _ k25=>gRn (oM 1 rfl<|oadN _ 1 om9 rfl<|ofB fl_47_2 rfl<|olB 0 ti_3 rfl rfl<|.nl)<|gE1 (fun _ _ h_=>x_lit (n:=2) (cs:= [.int .i64 ((i+1:Nat):Int), .int .i64 ((nth x.l i).b)]) ([((i+1:Nat):Int),(nth x.l i).b]:List Int) h_ sl_23 ti_3 rfl rfl rfl (by decide) rfl (by kernel_rfl) rfl (fun q hq w h=>Flat.inner _ _) (fun q hq b hb=>(Flat.on _ _ hb).elim) rfl rfl) rfl fun v26=>gRn (oM 1 rfl<|.nl)<|nK k25<|gR<|uB<|uT<|fun a27 w27 h27=>x_ret1 (fn:=Try.f62) (t:=4) rfl h27 rfl<|⟨⟨v26, []⟩,rfl, ?_⟩
  rw [show nextsL x.l i= [((i+1:Nat):Int),(nth x.l i).b] from by unfold nextsL;(repeat' split)<;>first|rfl|(exfalso;omega)]
  exact (h27.sh.sel [0] rfl)
 refine gS<|hK k12<|sK fun _ k28=>gRn (oM 1 rfl<|oadN _ 1 om9 rfl<|.nl)<|gE1 (fun _ _ h_=>x_lit (n:=1) (cs:= [.int .i64 ((i+1:Nat):Int)]) ([((i+1:Nat):Int)]:List Int) h_ sl_23 ti_3 rfl rfl rfl (by decide) rfl (by kernel_rfl) rfl (fun q hq w h=>Flat.inner _ _) (fun q hq b hb=>(Flat.on _ _ hb).elim) rfl rfl) rfl fun v29=>gRn (oM 1 rfl<|.nl)<|nK k28<|gR<|fun a30 w30 h30=>x_ret1 (fn:=Try.f62) (t:=4) rfl h30 rfl<|⟨⟨v29, []⟩,rfl, ?_⟩
 rw [show nextsL x.l i= [((i+1:Nat):Int)] from by unfold nextsL;(repeat' split)<;>first|rfl|(exfalso;omega)]
 exact (h30.sh.sel [0] rfl)
theorem rNexts_c (x:Ls Ins)(i:Nat)(W:World)(hx:x.At W)(hi:i<x.l.length)(hl:x.l.length≤100000):
    Rets Try.prog 53 [x.v, .int .i64 ((i:Nat):Int)] W (fun v w' =>∃s:Ls Int,v=s.v∧Sh0 W w' [.own 3 (⟨s.v,nextsL x.l i⟩:Ls Int)]):=by
 refine gen Try.func53 Try.ntmps53 (Sh0.ext1 hx:Sh (fun _=>False) W W [.at_ x]) rfl fun a10 h10=>gG h10<|sG (oM 1 rfl<|.nl)<|sK fun _ k12=>gNl (aA 0 rfl) fun hl13=>gRn (oM 2 rfl<|oxN sl_45 ti_47 (aA 0 rfl) _ om9 rfl<|olw2 [.int .i64 ((nth x.l i).op), .int .i64 ((nth x.l i).a), .int .i64 ((nth x.l i).b), .int .i64 ((nth x.l i).c)] ti_47 (aA 0 rfl) om9 rfl<|.nl)<|gal ti_47 rfl fun b14=>gsw 0 ti_47 rfl rfl rfl<|nK k12<|gK fun _ k16=>sG (ofB fl_47_0 rfl<|olB 0 ti_3 rfl rfl<|oeqI _ _ rfl<|.nl)<|?_;clear h10
 refine gcd rfl (fun hb18 hp18=> ?_) fun hb18 hp18=> ?_
 ·skip
  refine sK fun _ k19=>gRn (ofB fl_47_1 rfl<|olB 0 ti_3 rfl rfl<|.nl)<|gE1 (fun _ _ h_=>x_lit (n:=1) (cs:= [.int .i64 ((nth x.l i).a)]) ([(nth x.l i).a]:List Int) h_ sl_23 ti_3 rfl rfl rfl (by decide) rfl (by kernel_rfl) rfl (fun q hq w h=>Flat.inner _ _) (fun q hq b hb=>(Flat.on _ _ hb).elim) rfl rfl) rfl fun v20=>gRn (oM 1 rfl<|.nl)<|nK k19<|gR<|uT<|fun a21 w21 h21=>x_ret1 (fn:=Try.f53) (t:=4) rfl h21 rfl<|⟨⟨v20, []⟩,rfl, ?_⟩
  rw [show nextsL x.l i= [(nth x.l i).a] from by unfold nextsL;(repeat' split)<;>first|rfl|(exfalso;omega)]
  exact (h21.sh.sel [0] rfl)
 refine gS<|hK k16<|gK fun _ k22=>sG (ofB fl_47_0 rfl<|olB 0 ti_3 rfl rfl<|oeqI _ _ rfl<|.nl)<|gcd rfl (fun hb24 hp24=> ?_) fun hb24 hp24=> ?_
 ·skip
  refine sK fun _ k25=>gRn (oM 1 rfl<|oadN _ 1 om9 rfl<|ofB fl_47_2 rfl<|olB 0 ti_3 rfl rfl<|.nl)<|gE1 (fun _ _ h_=>x_lit (n:=2) (cs:= [.int .i64 ((i+1:Nat):Int), .int .i64 ((nth x.l i).b)]) ([((i+1:Nat):Int),(nth x.l i).b]:List Int) h_ sl_23 ti_3 rfl rfl rfl (by decide) rfl (by kernel_rfl) rfl (fun q hq w h=>Flat.inner _ _) (fun q hq b hb=>(Flat.on _ _ hb).elim) rfl rfl) rfl fun v26=>gRn (oM 1 rfl<|.nl)<|nK k25<|gR<|uT<|fun a27 w27 h27=>x_ret1 (fn:=Try.f53) (t:=4) rfl h27 rfl<|⟨⟨v26, []⟩,rfl, ?_⟩
  rw [show nextsL x.l i= [((i+1:Nat):Int),(nth x.l i).b] from by unfold nextsL;(repeat' split)<;>first|rfl|(exfalso;omega)]
  exact (h27.sh.sel [0] rfl)
 refine gS<|hK k22<|sK fun _ k28=>gRn (oM 1 rfl<|oadN _ 1 om9 rfl<|.nl)<|gE1 (fun _ _ h_=>x_lit (n:=1) (cs:= [.int .i64 ((i+1:Nat):Int)]) ([((i+1:Nat):Int)]:List Int) h_ sl_23 ti_3 rfl rfl rfl (by decide) rfl (by kernel_rfl) rfl (fun q hq w h=>Flat.inner _ _) (fun q hq b hb=>(Flat.on _ _ hb).elim) rfl rfl) rfl fun v29=>gRn (oM 1 rfl<|.nl)<|nK k28<|gR<|fun a30 w30 h30=>x_ret1 (fn:=Try.f53) (t:=4) rfl h30 rfl<|⟨⟨v29, []⟩,rfl, ?_⟩
 rw [show nextsL x.l i= [((i+1:Nat):Int)] from by unfold nextsL;(repeat' split)<;>first|rfl|(exfalso;omega)]
 exact (h30.sh.sel [0] rfl)
theorem ar_119 :arI Try.prog 119=some (200,4):=by kernel_rfl
def listB (l:List Bool):List Int:=((List.range l.length).filter fun i=>nth l i).map fun (i:Nat)=>(i:Int)
def listTo (l:List Bool)(n:Nat):List Int:=((List.range n).filter fun i=>nth l i).map fun (i:Nat)=>(i:Int)
theorem listTo_succ (l:List Bool)(n:Nat):listTo l (n+1)=listTo l n++if nth l n=true then [(n:Int)] else []:=by
 unfold listTo
 rw [List.range_succ,List.filter_append,List.map_append]
 congr 1
 simp only [List.filter_cons,List.filter_nil]
 split<;>rfl
theorem list_c (l:List Bool)(W:World)(hl:l.length=200):
    Rets Try.prog 64 [.agg (l.map Value.bool).toArray] W (fun v w' =>∃s:Ls Int,v=s.v∧s.l=listB l∧Sh0 W w' [.own 3 s]):=by
 refine gen Try.func64 Try.ntmps64 (Sh0.start W:Sh (fun _=>False) W W []) rfl fun a10 h10=>gG h10<|sK fun _ k11=>gE1 (fun _ _ h_=>x_boxAr (l:=l) h_ rfl rfl rfl rfl) rfl fun b12=>gRn (oM 1 rfl<|.nl)<|nK k11<|sG (oM 1 rfl<|.nl)<|gK fun _ k14=>sG (oV (r_ldwAr (i:=0) (l:=l) ti_119 rfl rfl rfl (by first|assumption|(simp only [lens9];done)|(simp only [lens9];first|assumption|omega)|rfl)) rfl<|oM 1 rfl<|.nl)<|gB<|fun a18 w18 h18=> ?_;clear h10
 have h17:=h18.nil (α:=Int) 3
 clear h18
 refine x_loop (fun m a w=>∃(i:Nat) (ol:List Int) (vo:Value),(i≤200)∧(ol=listTo l i)∧(ol.length≤i)∧St 18 (fun _=>False) W a w [(3,vo),(6, .agg (l.map Value.bool).toArray),(7, .int .i64 ((i:Nat):Int))] [.blk b12 119 (l.map Value.bool), .own 3 (⟨vo,ol⟩:Ls Int)]∧m=200-i) ⟨_,0, [],(.slice none 0 0),(by omega),(rfl),(Nat.le_refl _),h17.nrm ⟨rfl,rfl,rfl,trivial⟩ [1,0] rfl,rfl⟩ ?_
 clear h17
 rintro m16 a16 w16 ⟨i,ol,vo,hi,hol,hoi,h16,hm16⟩
 refine gG h16<|sG (oltN _ 200 rfl<|.nl)<|gK fun _ k20=>gcd rfl (fun hb21 hp21=> ?_) fun hb21 hp21=> ?_;clear h16
 ·skip
  refine gS<|hK k20<|gK fun _ k22=>gB<|sG (oM 1 rfl<|oV (r_ixV (cs:=l.map Value.bool) (q:=i) ar_119 ti_4 rfl rfl rfl (show i<200 from om9) (nth_bool (by rw [show l.length=200 from (by first|assumption|(simp only [lens9];done)|(simp only [lens9];first|assumption|omega)|rfl)];omega))) rfl<|oM 2 rfl<|.nl)<|sG (oM 1 rfl<|.nl)<|gCb rfl (fun hb25=> ?_) fun hb25=> ?_
  ·skip
   refine gL<|gRn (oM 2 rfl<|.nl)<|gE1 (fun _ _ h_=>x_lit (n:=1) (cs:= [.int .i64 ((i:Nat):Int)]) ([((i:Nat):Int)]:List Int) h_ sl_23 ti_3 rfl rfl rfl (by decide) rfl (by kernel_rfl) rfl (fun q hq w h=>Flat.inner _ _) (fun q hq b hb=>(Flat.on _ _ hb).elim) rfl rfl) rfl fun v26=>gE1 (fun _ _ h_=>x_app (r:=2) (rm:=0) (s:=(⟨vo,ol⟩:Ls Int)) (m:=(⟨v26, [((i:Nat):Int)]⟩:Ls Int)) h_ sl_23 ti_3 rfl rfl rfl rfl rfl rfl rfl (fun w h=>(h.own 0 rfl)) (fun b hb=>own_on (h_.sh.ok _ (List.mem_of_getElem? (i:=0) rfl)) hb) (fun q hq b hb=>⟨q,hq,hb⟩) rfl rfl rfl inferInstance (show (ol.length+([((i:Nat):Int)]).length)*8≤140737488355328∧ol.length+([((i:Nat):Int)]).length≤140737488355328 from om9) rfl rfl) rfl fun v27=>gRn (oM 1 rfl<|.nl)<|nK k22<|gL<|gRn (oadN _ 1 om9 rfl<|oM 1 rfl<|.nl)<|nN<|fun a28 w28 h28=>x_again ⟨_, ?_,i+1,ol++([((i:Nat):Int)]),v27, ?_, ?_, ?_,h28.nrm ⟨rfl,rfl,rfl,trivial⟩ [1,2] rfl,rfl⟩
   · rw [hm16];first|omega|(simp only [lens9];omega)
   · omega
   · rw [listTo_succ,←hol];first|rw [if_pos (by assumption)]|rw [if_neg (by first|assumption|simp_all),List.append_nil]
   · first|omega|(simp;omega)
  refine gS<|hK k22<|gL<|gRn (oadN _ 1 om9 rfl<|oM 1 rfl<|.nl)<|nN<|fun a29 w29 h29=>x_again ⟨_, ?_,i+1,ol,vo, ?_, ?_, ?_,h29.nf ⟨rfl,rfl,rfl,trivial⟩,rfl⟩
  · rw [hm16];first|omega|(simp only [lens9];omega)
  · omega
  · rw [listTo_succ,←hol];first|rw [if_pos (by assumption)]|rw [if_neg (by first|assumption|simp_all),List.append_nil]
  · first|omega|(simp;omega)
 refine gX<|hK k14<|sG (oM 2 rfl<|.nl)<|gR<|fun a31 w31 h31=>x_ret1 (fn:=Try.f64) (t:=2) rfl h31 rfl<|⟨⟨vo,ol⟩,rfl, ?_,(h31.sh.sel [1] rfl)⟩
 show ol=_
 rw [hol,listB];unfold listTo;rw [show i=l.length by omega]
def wrG (x:Ins):Int:=if x.op=13 then x.b else if x.op≤8∨x.op=10 then x.a else-1
theorem writes_c (x:Ins)(W:World)(hop:1≤x.op):
    Rets Try.prog 61 [.agg #[.int .i64 x.op, .int .i64 x.a, .int .i64 x.b, .int .i64 x.c]] W (fun v w' =>v= .int .i64 (wrG x)∧Sh0 W w' []):=by
 refine gen Try.func61 Try.ntmps61 (Sh0.start W:Sh (fun _=>False) W W []) rfl fun a10 h10=>gG h10<|sK fun _ k11=>gbx rfl rfl fun b12=>gRn (oM 1 rfl<|.nl)<|nK k11<|gK fun _ k13=>gB<|sG (ofB fl_47_0 rfl<|olB 0 ti_3 rfl rfl<|oeqI _ _ rfl<|oM 1 rfl<|.nl)<|?_;clear h10
 refine gcd rfl (fun hb15 hp15=> ?_) fun hb15 hp15=> ?_
 ·skip
  refine sG (ofB fl_47_2 rfl<|olB 0 ti_3 rfl rfl<|oM 1 rfl<|.nl)<|gR<|uB<|uT<|fun a17 w17 h17=>x_ret1 (fn:=Try.f61) (t:=2) rfl h17 rfl<|⟨?_,(h17.sh.sel [] rfl)⟩
  congr 1
  unfold wrG
  (repeat' split)<;>first|rfl|(exfalso;omega)|omega
 refine sK fun _ k18=>gRn (ofB fl_47_0 rfl<|olB 0 ti_3 rfl rfl<|oleI _ _ rfl<|oM 1 rfl<|.nl)<|?_
 rcases dsp (x.op≤8) with ⟨hb19,hp19⟩|⟨hb19,hp19⟩
 ·skip
  refine gRn (oKs 3 hb19 rfl rfl<|opT hb19 rfl<|oM 1 rfl<|.nl)<|nK k18<|gcT rfl rfl<|sG (ofB fl_47_1 rfl<|olB 0 ti_3 rfl rfl<|oM 1 rfl<|.nl)<|gR<|uB<|uT<|fun a21 w21 h21=>x_ret1 (fn:=Try.f61) (t:=2) rfl h21 rfl<|⟨?_,(h21.sh.sel [] rfl)⟩
  congr 1
  unfold wrG
  (repeat' split)<;>first|rfl|(exfalso;omega)|omega
 refine gRn (oG hb19 (r_fieldB (r:=0) fl_47_0 rfl rfl rfl) rfl<|oG hb19 (r_ldb (i:=0) ti_3 rfl rfl rfl rfl) rfl<|oG hb19 (r_eqlI (p:=x.op) (q:=10) rfl rfl rfl) rfl<|opF hb19 rfl<|oM 1 rfl<|.nl)<|nK k18<|gcd rfl (fun hb22 hp22=> ?_) fun hb22 hp22=> ?_
 ·skip
  refine sG (ofB fl_47_1 rfl<|olB 0 ti_3 rfl rfl<|oM 1 rfl<|.nl)<|gR<|uB<|uT<|fun a24 w24 h24=>x_ret1 (fn:=Try.f61) (t:=2) rfl h24 rfl<|⟨?_,(h24.sh.sel [] rfl)⟩
  congr 1
  unfold wrG
  (repeat' split)<;>first|rfl|(exfalso;omega)|omega
 refine gS<|hK k13<|sG (oM 1 rfl<|.nl)<|gR<|fun a26 w26 h26=>x_ret1 (fn:=Try.f61) (t:=2) rfl h26 rfl<|⟨?_,(h26.sh.sel [] rfl)⟩
 congr 1
 unfold wrG
 (repeat' split)<;>first|rfl|(exfalso;omega)|omega
theorem rWrites_c (x:Ins)(W:World)(hop:1≤x.op):
    Rets Try.prog 68 [.agg #[.int .i64 x.op, .int .i64 x.a, .int .i64 x.b, .int .i64 x.c]] W (fun v w' =>v= .int .i64 (wrG x)∧Sh0 W w' []):=by
 refine gen Try.func68 Try.ntmps68 (Sh0.start W:Sh (fun _=>False) W W []) rfl fun a10 h10=>gG h10<|sK fun _ k11=>gbx rfl rfl fun b12=>gRn (oM 1 rfl<|.nl)<|nK k11<|gK fun _ k13=>sG (ofB fl_47_0 rfl<|olB 0 ti_3 rfl rfl<|.nl)<|gB<|gK fun _ k15=>sG (oeqI _ _ rfl<|oM 1 rfl<|.nl)<|?_;clear h10
 refine gcd rfl (fun hb17 hp17=> ?_) fun hb17 hp17=> ?_
 ·skip
  refine gS<|hK k15<|gcT rfl hb17<|sG (ofB fl_47_1 rfl<|olB 0 ti_3 rfl rfl<|oM 1 rfl<|.nl)<|gR<|uB<|uT<|fun a19 w19 h19=>x_ret1 (fn:=Try.f68) (t:=2) rfl h19 rfl<|⟨?_,(h19.sh.sel [] rfl)⟩
  congr 1
  unfold wrG
  (repeat' split)<;>first|rfl|(exfalso;omega)|omega
 refine sG (oeqI _ _ rfl<|oM 1 rfl<|.nl)<|gcd rfl (fun hb21 hp21=> ?_) fun hb21 hp21=> ?_
 ·skip
  refine gS<|hK k15<|gcT rfl hb21<|sG (ofB fl_47_1 rfl<|olB 0 ti_3 rfl rfl<|oM 1 rfl<|.nl)<|gR<|uB<|uT<|fun a23 w23 h23=>x_ret1 (fn:=Try.f68) (t:=2) rfl h23 rfl<|⟨?_,(h23.sh.sel [] rfl)⟩
  congr 1
  unfold wrG
  (repeat' split)<;>first|rfl|(exfalso;omega)|omega
 refine sG (oeqI _ _ rfl<|oM 1 rfl<|.nl)<|gcd rfl (fun hb25 hp25=> ?_) fun hb25 hp25=> ?_
 ·skip
  refine gS<|hK k15<|gcT rfl hb25<|sG (ofB fl_47_1 rfl<|olB 0 ti_3 rfl rfl<|oM 1 rfl<|.nl)<|gR<|uB<|uT<|fun a27 w27 h27=>x_ret1 (fn:=Try.f68) (t:=2) rfl h27 rfl<|⟨?_,(h27.sh.sel [] rfl)⟩
  congr 1
  unfold wrG
  (repeat' split)<;>first|rfl|(exfalso;omega)|omega
 refine sG (oeqI _ _ rfl<|oM 1 rfl<|.nl)<|gcd rfl (fun hb29 hp29=> ?_) fun hb29 hp29=> ?_
 ·skip
  refine gS<|hK k15<|gcT rfl hb29<|sG (ofB fl_47_1 rfl<|olB 0 ti_3 rfl rfl<|oM 1 rfl<|.nl)<|gR<|uB<|uT<|fun a31 w31 h31=>x_ret1 (fn:=Try.f68) (t:=2) rfl h31 rfl<|⟨?_,(h31.sh.sel [] rfl)⟩
  congr 1
  unfold wrG
  (repeat' split)<;>first|rfl|(exfalso;omega)|omega
 refine sG (oeqI _ _ rfl<|oM 1 rfl<|.nl)<|gcd rfl (fun hb33 hp33=> ?_) fun hb33 hp33=> ?_
 ·skip
  refine gS<|hK k15<|gcT rfl hb33<|sG (ofB fl_47_1 rfl<|olB 0 ti_3 rfl rfl<|oM 1 rfl<|.nl)<|gR<|uB<|uT<|fun a35 w35 h35=>x_ret1 (fn:=Try.f68) (t:=2) rfl h35 rfl<|⟨?_,(h35.sh.sel [] rfl)⟩
  congr 1
  unfold wrG
  (repeat' split)<;>first|rfl|(exfalso;omega)|omega
 refine sG (oeqI _ _ rfl<|oM 1 rfl<|.nl)<|gcd rfl (fun hb37 hp37=> ?_) fun hb37 hp37=> ?_
 ·skip
  refine gS<|hK k15<|gcT rfl hb37<|sG (ofB fl_47_1 rfl<|olB 0 ti_3 rfl rfl<|oM 1 rfl<|.nl)<|gR<|uB<|uT<|fun a39 w39 h39=>x_ret1 (fn:=Try.f68) (t:=2) rfl h39 rfl<|⟨?_,(h39.sh.sel [] rfl)⟩
  congr 1
  unfold wrG
  (repeat' split)<;>first|rfl|(exfalso;omega)|omega
 refine sG (oeqI _ _ rfl<|oM 1 rfl<|.nl)<|gcd rfl (fun hb41 hp41=> ?_) fun hb41 hp41=> ?_
 ·skip
  refine gS<|hK k15<|gcT rfl hb41<|sG (ofB fl_47_1 rfl<|olB 0 ti_3 rfl rfl<|oM 1 rfl<|.nl)<|gR<|uB<|uT<|fun a43 w43 h43=>x_ret1 (fn:=Try.f68) (t:=2) rfl h43 rfl<|⟨?_,(h43.sh.sel [] rfl)⟩
  congr 1
  unfold wrG
  (repeat' split)<;>first|rfl|(exfalso;omega)|omega
 refine sG (oeqI _ _ rfl<|oM 1 rfl<|.nl)<|gcd rfl (fun hb45 hp45=> ?_) fun hb45 hp45=> ?_
 ·skip
  refine gS<|hK k15<|gcT rfl hb45<|sG (ofB fl_47_1 rfl<|olB 0 ti_3 rfl rfl<|oM 1 rfl<|.nl)<|gR<|uB<|uT<|fun a47 w47 h47=>x_ret1 (fn:=Try.f68) (t:=2) rfl h47 rfl<|⟨?_,(h47.sh.sel [] rfl)⟩
  congr 1
  unfold wrG
  (repeat' split)<;>first|rfl|(exfalso;omega)|omega
 refine gL<|gRn (oeqI _ _ rfl<|oM 1 rfl<|.nl)<|nK k15<|gcd rfl (fun hb48 hp48=> ?_) fun hb48 hp48=> ?_
 ·skip
  refine sG (ofB fl_47_1 rfl<|olB 0 ti_3 rfl rfl<|oM 1 rfl<|.nl)<|gR<|uB<|uT<|fun a50 w50 h50=>x_ret1 (fn:=Try.f68) (t:=2) rfl h50 rfl<|⟨?_,(h50.sh.sel [] rfl)⟩
  congr 1
  unfold wrG
  (repeat' split)<;>first|rfl|(exfalso;omega)|omega
 refine sG (oeqI _ _ rfl<|oM 1 rfl<|.nl)<|gcd rfl (fun hb52 hp52=> ?_) fun hb52 hp52=> ?_
 ·skip
  refine sG (ofB fl_47_2 rfl<|olB 0 ti_3 rfl rfl<|oM 1 rfl<|.nl)<|gR<|uB<|uT<|fun a54 w54 h54=>x_ret1 (fn:=Try.f68) (t:=2) rfl h54 rfl<|⟨?_,(h54.sh.sel [] rfl)⟩
  congr 1
  unfold wrG
  (repeat' split)<;>first|rfl|(exfalso;omega)|omega
 refine gS<|hK k13<|sG (oM 1 rfl<|.nl)<|gR<|fun a56 w56 h56=>x_ret1 (fn:=Try.f68) (t:=2) rfl h56 rfl<|⟨?_,(h56.sh.sel [] rfl)⟩
 congr 1
 unfold wrG
 (repeat' split)<;>first|rfl|(exfalso;omega)|omega
def rdG (x:Ins):List Int:=
 if x.op=2∨x.op=9∨x.op=10 then [x.b]
 else if (3≤x.op∧x.op≤7)∨x.op=13 then [x.b,x.c]
 else if x.op=11 then [x.a,x.b]
 else if x.op=15∨x.op=16 then [x.a]
 else []
theorem rdG_len (x:Ins):(rdG x).length≤2:=by unfold rdG;(repeat' split)<;>simp
inductive LiveI (code:List Ins)(r:Nat):Nat→Prop
 |read (i:Nat):i<code.length→(r:Int)∈rdG (nth code i)→LiveI code r i
 |pass (i:Nat) (y:Int):i<code.length→wrG (nth code i)≠(r:Int)→y∈nextsL code i→LiveI code r y.toNat→LiveI code r i
theorem liveF_ex (code:List Ins):∃f:Nat→Nat→Bool,∀r j,(f r j=true↔LiveI code r j):=
 ⟨fun r j=> @decide _ (Classical.propDecidable (LiveI code r j)),fun r j=> @decide_eq_true_iff _ (Classical.propDecidable _)⟩
def needB (g:Nat→Bool)(code:List Ins)(i r:Nat):Bool:=
 ((rdG (nth code i)).any fun v=>decide (v=(r:Int)))||(decide (wrG (nth code i)≠(r:Int))&&(nextsL code i).any fun y=>g y.toNat)
theorem need_live {g:Nat→Bool}{code:List Ins}{i r:Nat}(hi:i<code.length)(hg:∀j,g j=true→LiveI code r j)(h:needB g code i r=true):LiveI code r i:=by
 unfold needB at h
 rcases (Bool.or_eq_true _ _).mp h with h|h
 ·obtain ⟨v,hv,e⟩:=List.any_eq_true.1 h
  have e:=of_decide_eq_true e
  subst e
  exact .read i hi hv
 ·obtain ⟨h1,h2⟩:=(Bool.and_eq_true _ _).mp h
  obtain ⟨y,hy,e⟩:=List.any_eq_true.1 h2
  exact .pass i y hi (of_decide_eq_true h1) hy (hg _ e)
theorem need_mono {g g' :Nat→Bool}{code:List Ins}{i r:Nat}(hg:∀j,g j=true→g' j=true)(h:needB g code i r=true):needB g' code i r=true:=by
 unfold needB at h⊢
 rcases (Bool.or_eq_true _ _).mp h with h|h
 ·rw [h,Bool.true_or]
 ·obtain ⟨h1,h2⟩:=(Bool.and_eq_true _ _).mp h
  obtain ⟨y,hy,e⟩:=List.any_eq_true.1 h2
  rw [h1,Bool.true_and,List.any_eq_true.2 ⟨y,hy,hg _ e⟩,Bool.or_true]
theorem live_all {g:Nat→Bool}{code:List Ins}{r:Nat}(hs:∀j,g j=true→LiveI code r j)(hc:∀i,i<code.length→needB g code i r=true→g i=true)(j:Nat):g j=true↔LiveI code r j:=by
 refine ⟨hs j,fun h=> ?_⟩
 induction h with
 |read i hi hr=>
  refine hc i hi ?_
  unfold needB
  rw [List.any_eq_true.2 ⟨_,hr,decide_eq_true rfl⟩,Bool.true_or]
 |pass i y hi hw hy _ ih=>
  refine hc i hi ?_
  unfold needB
  rw [decide_eq_true hw,List.any_eq_true.2 ⟨y,hy,ih⟩,Bool.true_and,Bool.or_true]
theorem any_step {β:Type}[Inhabited β]{l:List β}{p:β→Bool}{k:Nat}(hk:k<l.length):(l.take (k+1)).any p=((l.take k).any p||p (nth l k)):=by
 rw [List.take_add_one,List.any_append,List.getElem?_eq_getElem hk,nth_lt _ _ hk]
 simp
theorem any_zero {β:Type}{l:List β}{p:β→Bool} :(l.take 0).any p=false:=by simp
theorem any_all {β:Type}{l:List β}{p:β→Bool}{k:Nat}(hk:l.length≤k):(l.take k).any p=l.any p:=by rw [List.take_of_length_le hk]
theorem nextsV_ok {code:List Ins}(hj:JumpsOK code){k:Nat}(hk:k<code.length){y:Int}(hy:y∈nextsL code k):0≤y∧y≤code.length:=by
 have:=hj k hk
 unfold nextsL at hy
 split at hy
 ·rename_i h;obtain rfl:y=_:=by simpa using hy
  exact this.1 h
 ·split at hy
  ·rename_i h
   rcases (by simpa using hy:y=_∨y=_) with rfl|rfl
   ·omega
   ·exact this.2 h
  ·obtain rfl:y=_:=by simpa using hy
   omega
theorem nextsV_len (code:List Ins)(k:Nat):(nextsL code k).length≤2:=by
 unfold nextsL
 split
 ·simp
 ·split<;>simp
def cntV (l:List Bool):Nat:=l.countP id
theorem cntV_le (l:List Bool):cntV l≤l.length:=List.countP_le_length
theorem cntV_lt :∀ {l m:List Bool},l.length=m.length→(∀r,nth l r=true→nth m r=true)→cntV l≤cntV m∧(l≠m→cntV l<cntV m)
 | [], [],_,_=>⟨Nat.le_refl _,fun h=>absurd rfl h⟩
 | [],_::_,h,_=>by simp at h
 |_::_, [],h,_=>by simp at h
 |b::l,c::m,hl,h=>by
  have ih:=cntV_lt (l:=l) (m:=m) (by simpa using hl) fun r hr=>h (r+1) (by simpa [nth] using hr)
  have h0:b=true→c=true:=fun hb=>h 0 hb
  have e:∀(b:Bool) (l:List Bool),cntV (b::l)=cntV l+if b=true then 1 else 0:=fun b l=>by simp [cntV,List.countP_cons]
  rw [e,e]
  cases b with
  |true=>
   have hc:=h0 rfl
   subst hc
   refine ⟨by have:=ih.1;omega,fun hn=> ?_⟩
   have:=ih.2 (fun e=>hn (by rw [e]))
   omega
  |false=>
   cases c with
   |true=>exact ⟨by have:=ih.1;simp;omega,fun _=>by have:=ih.1;simp;omega⟩
   |false=>
    refine ⟨by have:=ih.1;omega,fun hn=> ?_⟩
    have:=ih.2 (fun e=>hn (by rw [e]))
    omega
theorem zerosV (n j:Nat):nth (List.replicate n false) j=false:=by
 rcases Nat.lt_or_ge j n with h|h
 ·exact nth_replicate _ _ _ h
 ·simp [nth,List.getD,h]
theorem set_true_ge {l:List Bool}{k r:Nat}(h:nth l r=true):nth (l.set k true) r=true:=by
 rw [nth_set]
 split
 ·rfl
 ·exact h
theorem cntV_set {l:List Bool}{k:Nat}(hk:k<l.length)(h:nth l k=false):cntV l<cntV (l.set k true):=by
 refine (cntV_lt (by simp) fun r hr=>set_true_ge hr).2 fun e=> ?_
 have:nth (l.set k true) k=true:=by rw [nth_set,if_pos ⟨rfl,hk⟩]
 rw [←e,h] at this
 cases this
structure VI (code:List Ins)(r:Nat)(l:List Bool):Prop where
 l1:l.length=code.length+1
 s1:∀j,nth l j=true→LiveI code r j
theorem VI.start (code:List Ins)(r:Nat):VI code r (List.replicate (code.length+1) false):=⟨by simp,fun j hj=>by rw [zerosV] at hj;cases hj⟩
theorem VI.set {code:List Ins}{r k:Nat}{l:List Bool}(h:VI code r l)(hk:k<code.length)(hn:needB (nth l) code k r=true):VI code r (l.set k true):=by
 refine ⟨by simpa using h.l1,fun j hj=> ?_⟩
 rw [nth_set] at hj
 split at hj
 ·rename_i hh;obtain ⟨rfl,_⟩:=hh
  exact need_live hk h.s1 hn
 ·exact h.s1 j hj
theorem VI.fin {code:List Ins}{r:Nat}{l:List Bool}(h:VI code r l)(hc:∀i,i<code.length→needB (nth l) code i r=true→nth l i=true):∀j,nth l j=true↔LiveI code r j:=live_all h.s1 hc
def ClV (code:List Ins)(r:Nat)(l:List Bool)(i:Nat):Prop:=needB (nth l) code i r=true→nth l i=true
theorem vr_same {α:Type}{C:α→Nat→Prop}{l l2:α}{ag2:Bool}{j n:Nat}(h20:ag2=false→l2=l∧∀i,j+1≤i→i<n→C l2 i)(hs:C l2 j):ag2=false→l2=l∧∀i,j≤i→i<n→C l2 i:=by
 intro h
 obtain ⟨e,hc⟩:=h20 h
 refine ⟨e,fun i h1 h2=> ?_⟩
 rcases Nat.lt_or_ge j i with h9|h9
 ·exact hc i h9 h2
 ·obtain rfl:i=j:=by omega
  exact hs
theorem vr_down {ag ag2:Bool}{α:Type}{C:Prop}{l l2:α}{c c2 n:Nat}(h:ag=true)(h0:c2≤n)(h20:ag2=false→l2=l∧C)(he:l2=l→c2=c)(h21:ag2=true→c<c2):
  (bif ag2 then 1 else 0)+2*(n-c2)<(bif ag then 1 else 0)+2*(n-c):=by
 subst h
 cases ag2 with
 |false=>
  have:=he (h20 rfl).1
  subst this
  simp only [cond_true,cond_false]
  omega
 |true=>
  have:=h21 rfl
  simp only [cond_true]
  omega
theorem vr_le {ag2:Bool}{α:Type}{C:Prop}{l l2:α}{c c2:Nat}(h20:ag2=false→l2=l∧C)(he:l2=l→c2=c)(h21:ag2=true→c<c2):c≤c2:=by
 cases ag2 with
 |false=>rw [he (h20 rfl).1];exact Nat.le_refl _
 |true=>exact Nat.le_of_lt (h21 rfl)
def cntA (a:List BArr):Nat:=(a.map fun x=>cntV x.l).sum
theorem cntA_set :∀ {a:List BArr} {k:Nat} {x:BArr},k<a.length→cntA (a.set k x)+cntV (nth a k).l=cntA a+cntV x.l
 | [],_,_,h=>by simp at h
 |y::a,0,x,_=>by simp [cntA,nth];omega
 |y::a,k+1,x,h=>by
  have ih:=cntA_set (a:=a) (k:=k) (x:=x) (by simpa using h)
  simp only [cntA,List.set_cons_succ,List.map_cons,List.sum_cons] at ih⊢
  have e:nth (y::a) (k+1)=nth a k:=by simp [nth]
  rw [e]
  omega
theorem cntA_le :∀ {a:List BArr},(∀j,j<a.length→(nth a j).l.length=200)→cntA a≤200*a.length
 | [],_=>by simp [cntA]
 |y::a,h=>by
  have ih:=cntA_le (a:=a) fun j hj=>by have:=h (j+1) (by simpa using hj);simpa [nth] using this
  have h0:=h 0 (by simp)
  have h1:cntV y.l≤200:=by
   have:y.l.length=200:=h0
   rw [←this];exact cntV_le _
  simp only [cntA,List.map_cons,List.sum_cons,List.length_cons] at ih⊢
  omega
def col (a:List BArr)(r:Nat):Nat→Bool:=fun j=>nth (nth a j).l r
structure AI (code:List Ins)(a:List BArr):Prop where
 l1:a.length=code.length+1
 l2:∀j,j<a.length→(nth a j).l.length=200
 s1:∀r j,col a r j=true→LiveI code r j
 pf:∀r j,j<code.length→col a r j=true→needB (col a r) code j r=true
theorem col_zero (n r j:Nat):col (List.replicate n ⟨List.replicate 200 false⟩) r j=false:=by
 unfold col
 rcases Nat.lt_or_ge j n with h|h
 ·have:nth (List.replicate n (⟨List.replicate 200 false⟩:BArr)) j=⟨List.replicate 200 false⟩:=by simp [nth,h]
  rw [this];exact zerosV _ _
 ·have:nth (List.replicate n (⟨List.replicate 200 false⟩:BArr)) j=default:=by simp [nth,List.getD,h]
  rw [this];exact zerosV _ _
theorem AI.start (code:List Ins):AI code (List.replicate (code.length+1) ⟨List.replicate 200 false⟩):=by
 refine ⟨by simp,fun j hj=> ?_,fun r j hj=>(by rw [col_zero] at hj;cases hj),fun r j _ hj=>(by rw [col_zero] at hj;cases hj)⟩
 have h:j<code.length+1:=by simpa using hj
 have:nth (List.replicate (code.length+1) (⟨List.replicate 200 false⟩:BArr)) j=⟨List.replicate 200 false⟩:=by simp [nth,h]
 rw [this];exact List.length_replicate
theorem col_set {a:List BArr}{k r j:Nat}{x:BArr}(hk:k<a.length):col (a.set k x) r j=if k=j then nth x.l r else col a r j:=by
 unfold col
 rw [nth_set]
 by_cases h:k=j
 ·rw [if_pos ⟨h,hk⟩,if_pos h]
 ·rw [if_neg (fun e=>h e.1),if_neg h]
theorem nth_out {l:List Bool}{r:Nat}(h:l.length≤r):nth l r=false:=by simp [nth,List.getD,h]
section
variable {code:List Ins}{a:List BArr}{k:Nat}{nw:List Bool}
def NowIs (code:List Ins)(a:List BArr)(k:Nat)(nw:List Bool):Prop:=∀r,r<200→nth nw r=needB (col a r) code k r
theorem AI.up (h:AI code a)(hk:k<code.length)(hl:nw.length=200)(hn:NowIs code a k nw)(r:Nat):nth (nth a k).l r=true→nth nw r=true:=by
 intro hr
 have h200:(nth a k).l.length=200:=h.l2 k (by rw [h.l1];omega)
 have hr2:r<200:=by
  rcases Nat.lt_or_ge r 200 with h9|h9
  ·exact h9
  ·rw [nth_out (by omega)] at hr;cases hr
 rw [hn r hr2]
 exact h.pf r k hk hr
theorem AI.set (h:AI code a)(hk:k<code.length)(hl:nw.length=200)(hn:NowIs code a k nw):AI code (a.set k ⟨nw⟩):=by
 have hka:k<a.length:=by rw [h.l1];omega
 have hup:∀r j,col a r j=true→col (a.set k ⟨nw⟩) r j=true:=fun r j hj=>by
  rw [col_set hka]
  split
  ·rename_i e;subst e;exact h.up hk hl hn r hj
  ·exact hj
 have hnd:∀r,nth nw r=true→needB (col a r) code k r=true:=fun r hr=>by
  rcases Nat.lt_or_ge r 200 with h9|h9
  ·rw [←hn r h9];exact hr
  ·rw [nth_out (by omega)] at hr;cases hr
 refine ⟨by simpa using h.l1,fun j hj=> ?_,fun r j hj=> ?_,fun r j hjl hj=> ?_⟩
 ·rw [nth_set]
  split
  ·exact hl
  ·exact h.l2 j (by simpa using hj)
 ·rw [col_set hka] at hj
  split at hj
  ·rename_i e;subst e
   exact need_live hk (h.s1 r) (hnd r hj)
  ·exact h.s1 r j hj
 ·rw [col_set hka] at hj
  split at hj
  ·rename_i e;subst e
   exact need_mono (hup r) (hnd r hj)
  ·exact need_mono (hup r) (h.pf r j hjl hj)
theorem AI.grow (h:AI code a)(hk:k<code.length)(hl:nw.length=200)(hn:NowIs code a k nw)(hne:nw≠(nth a k).l):cntA a<cntA (a.set k ⟨nw⟩):=by
 have hka:k<a.length:=by rw [h.l1];omega
 have h1:cntA (a.set k ⟨nw⟩)+cntV (nth a k).l=cntA a+cntV nw:=cntA_set hka
 have h2:=(cntV_lt (by rw [hl];exact h.l2 k hka) (h.up hk hl hn)).2 (fun e=>hne e.symm)
 omega
def ClA (code:List Ins)(a:List BArr)(i:Nat):Prop:=∀r,r<200→needB (col a r) code i r=true→col a r i=true
theorem clA_same (hn:NowIs code a k nw)(he:nw=(nth a k).l):ClA code a k:=fun r hr h=>by
 have:=hn r hr
 rw [h,he] at this
 exact this
theorem AI.fin (h:AI code a)(hc:∀i,i<code.length→ClA code a i)(r j:Nat)(hr:r<200):col a r j=true↔LiveI code r j:=live_all (h.s1 r) (fun i hi=>hc i hi r hr) j
end
theorem nth_mapR {β:Type}[Inhabited β]{f:Nat→β}{n i:Nat}(h:i<n):nth ((List.range n).map f) i=f i:=by simp [nth,h]
theorem listB_range (f:Nat→Bool)(n:Nat):listB ((List.range n).map f)=((List.range n).filter f).map fun (i:Nat)=>(i:Int):=by
 unfold listB
 rw [List.length_map,List.length_range]
 congr 1
 apply List.filter_congr
 intro i hi
 exact nth_mapR (by simpa using hi)
theorem filter_cut (f:Nat→Bool)(n m:Nat)(h:n≤m)(hf:∀r,n≤r→f r=false):(List.range m).filter f=(List.range n).filter f:=by
 obtain ⟨d,rfl⟩:=Nat.exists_eq_add_of_le h
 rw [List.range_add,List.filter_append]
 have:List.filter f ((List.range d).map (n+ ·))= []:=by
  rw [List.filter_eq_nil_iff]
  intro r hr
  obtain ⟨q,_,rfl⟩:=List.mem_map.1 hr
  rw [hf _ (by omega)]
  decide
 rw [this,List.append_nil]
theorem listB_cut {f:Nat→Bool}{n m:Nat}(h:n≤m)(hf:∀r,n≤r→f r=false):listB ((List.range m).map f)=listB ((List.range n).map f):=by
 rw [listB_range,listB_range,filter_cut f n m h hf]
theorem eq_mapR {f:Nat→Bool}{l:List Bool}{n:Nat}(hl:l.length=n)(h:∀i,i<n→nth l i=f i):l=(List.range n).map f:=by
 apply List.ext_getElem (by simp [hl])
 intro i h1 h2
 have:=h i (by omega)
 rw [nth_lt _ _ h1] at this
 simpa using this
def clE (w:Int)(f:Nat→Nat→Bool)(td a b:Nat):Bool:=decide (a≠b)&&((decide (w=(b:Int))&&f a td)||(decide (w=(a:Int))&&f b td))
def clTo (code:List Ins)(f:Nat→Nat→Bool)(k a b:Nat):Bool:=(List.range k).any fun i=>(nextsL code i).any fun y=>clE (wrG (nth code i)) f y.toNat a b
theorem clTo_succ (code:List Ins)(f:Nat→Nat→Bool)(k a b:Nat):clTo code f (k+1) a b=(clTo code f k a b||(nextsL code k).any fun y=>clE (wrG (nth code k)) f y.toNat a b):=by
 unfold clTo
 rw [List.range_succ,List.any_append]
 simp
theorem clE_neg {w:Int}{f:Nat→Nat→Bool}{td a b:Nat}(h:w<0):clE w f td a b=false:=by
 unfold clE
 have h1:decide (w=(b:Int))=false:=decide_eq_false (by omega)
 have h2:decide (w=(a:Int))=false:=decide_eq_false (by omega)
 rw [h1,h2];simp
theorem clTo_skip {code:List Ins}{f:Nat→Nat→Bool}{k a b:Nat}(h:wrG (nth code k)<0):clTo code f (k+1) a b=clTo code f k a b:=by
 rw [clTo_succ]
 have:((nextsL code k).any fun y=>clE (wrG (nth code k)) f y.toNat a b)=false:=by
  rw [List.any_eq_false]
  intro y _
  rw [clE_neg h];decide
 rw [this,Bool.or_false]
theorem clE_symm (w:Int)(f:Nat→Nat→Bool)(td a b:Nat):clE w f td a b=clE w f td b a:=by
 unfold clE
 rw [show decide (a≠b)=decide (b≠a) by rw [decide_eq_decide];exact ⟨fun h e=>h e.symm,fun h e=>h e.symm⟩,Bool.or_comm]
theorem clTo_symm (code:List Ins)(f:Nat→Nat→Bool)(k a b:Nat):clTo code f k a b=clTo code f k b a:=by
 unfold clTo
 congr 1
 funext i
 congr 1
 funext y
 exact clE_symm _ _ _ _ _
theorem clTo_self (code:List Ins)(f:Nat→Nat→Bool)(k a:Nat):clTo code f k a a=false:=by
 unfold clTo
 rw [List.any_eq_false]
 intro i _
 have:((nextsL code i).any fun y=>clE (wrG (nth code i)) f y.toNat a a)=false:=by
  rw [List.any_eq_false]
  intro y _
  unfold clE
  simp
 rw [this];decide
def clJ (w:Int)(f:Nat→Nat→Bool)(td j a b:Nat):Bool:=decide (a≠b)&&((decide (w=(b:Int))&&(decide (a<j)&&f a td))||(decide (w=(a:Int))&&(decide (b<j)&&f b td)))
theorem clJ_zero (w:Int)(f:Nat→Nat→Bool)(td a b:Nat):clJ w f td 0 a b=false:=by unfold clJ;simp
theorem clJ_all {w:Int}{f:Nat→Nat→Bool}{td j a b:Nat}(ha:a<j)(hb:b<j):clJ w f td j a b=clE w f td a b:=by
 unfold clJ clE
 rw [decide_eq_true ha,decide_eq_true hb,Bool.true_and,Bool.true_and]
theorem clJ_skip {w:Int}{f:Nat→Nat→Bool}{td j a b:Nat}(h:w<0∨f j td=false∨(j:Int)=w):clJ w f td (j+1) a b=clJ w f td j a b:=by
 unfold clJ
 by_cases hab:a=b
 ·rw [decide_eq_false (not_not_intro hab),Bool.false_and,Bool.false_and]
 rw [decide_eq_true hab,Bool.true_and,Bool.true_and]
 have key:∀c d:Nat,c≠d→(decide (w=(d:Int))&&(decide (c<j+1)&&f c td))=(decide (w=(d:Int))&&(decide (c<j)&&f c td)):=by
  intro c d hcd
  by_cases hw:w=(d:Int)
  ·by_cases hc:c=j
   ·subst hc
    rcases h with h|h|h
    ·omega
    ·rw [h];simp
    ·omega
   ·have:decide (c<j+1)=decide (c<j):=by rw [decide_eq_decide];omega
    rw [this]
  ·rw [decide_eq_false hw,Bool.false_and,Bool.false_and]
 rw [key a b hab,key b a (fun e=>hab e.symm)]
theorem clJ_step {w:Int}{f:Nat→Nat→Bool}{td j a b wn:Nat}(hw:w=(wn:Int))(hf:f j td=true)(hne:j≠wn):clJ w f td (j+1) a b=if (a=j∧b=wn)∨(a=wn∧b=j) then true else clJ w f td j a b:=by
 subst hw
 split
 ·rename_i h
  unfold clJ
  rcases h with ⟨rfl,rfl⟩|⟨rfl,rfl⟩
  ·rw [decide_eq_true hne,decide_eq_true rfl,hf,decide_eq_true (show a<a+1 by omega)];simp
  ·rw [decide_eq_true (Ne.symm hne),decide_eq_true (show ((a:Nat):Int)=(a:Int) from rfl),hf,decide_eq_true (show b<b+1 by omega)];simp
 ·rename_i h
  unfold clJ
  by_cases hab:a=b
  ·rw [decide_eq_false (not_not_intro hab),Bool.false_and,Bool.false_and]
  rw [decide_eq_true hab,Bool.true_and,Bool.true_and]
  have key:∀c d:Nat,¬(c=j∧d=wn)→(decide ((wn:Int)=(d:Int))&&(decide (c<j+1)&&f c td))=(decide ((wn:Int)=(d:Int))&&(decide (c<j)&&f c td)):=by
   intro c d hcd
   by_cases hd:(wn:Int)=(d:Int)
   ·have:decide (c<j+1)=decide (c<j):=by rw [decide_eq_decide];omega
    rw [this]
   ·rw [decide_eq_false hd,Bool.false_and,Bool.false_and]
  rw [key a b (fun e=>h (.inl e)),key b a (fun e=>h (.inr ⟨e.2,e.1⟩))]
def get2 {β:Type}[Inhabited β](g:β→List Bool)(M:List β)(a b:Nat):Bool:=nth (g (nth M a)) b
theorem get2_set {β:Type}[Inhabited β]{g:β→List Bool}{M:List β}{i q a b:Nat}{x:β}(hi:i<M.length)(hx:g x=(g (nth M i)).set q true)(hq:q<(g (nth M i)).length):
  get2 g (M.set i x) a b=if a=i∧b=q then true else get2 g M a b:=by
 unfold get2
 have ns:nth (M.set i x) a=if i=a∧i<M.length then x else nth M a:=by
  simp only [nth,List.getD_eq_getElem?_getD,List.getElem?_set]
  by_cases h:i=a
  ·subst h
   rw [if_pos rfl,if_pos hi,if_pos ⟨rfl,hi⟩];rfl
  ·rw [if_neg h,if_neg (fun e=>h e.1)]
 rw [ns]
 by_cases ha:i=a
 ·subst ha
  rw [if_pos ⟨rfl,hi⟩,hx,nth_set]
  by_cases hb:q=b
  ·rw [if_pos ⟨hb,hq⟩,if_pos ⟨rfl,hb.symm⟩]
  ·rw [if_neg (fun e=>hb e.1),if_neg (fun e=>hb e.2.symm)]
 ·rw [if_neg (fun e=>ha e.1),if_neg (fun e=>ha e.1.symm)]
theorem get2_two {β:Type}[Inhabited β]{g:β→List Bool}{M M1 M2:List β}{i q:Nat}(h1:∀a b,get2 g M1 a b=if a=i∧b=q then true else get2 g M a b)(h2:∀a b,get2 g M2 a b=if a=q∧b=i then true else get2 g M1 a b)(a b:Nat):
  get2 g M2 a b=if (a=i∧b=q)∨(a=q∧b=i) then true else get2 g M a b:=by
 rw [h2,h1]
 by_cases e2:a=q∧b=i
 ·rw [if_pos e2,if_pos (.inr e2)]
 ·rw [if_neg e2]
  by_cases e1:a=i∧b=q
  ·rw [if_pos e1,if_pos (.inl e1)]
  ·rw [if_neg e1,if_neg (fun e=>e.elim e1 e2)]
theorem cl_upd {β:Type}[Inhabited β]{g:β→List Bool}{M M1 M2:List β}{r wn A B td:Nat}{w:Int}{f:Nat→Nat→Bool}{pv:Nat→Nat→Bool}
  (h1:∀a b,get2 g M1 a b=if a=r∧b=wn then true else get2 g M a b) (h2:∀a b,get2 g M2 a b=if a=wn∧b=r then true else get2 g M1 a b)
  (hM:∀a b,a<A→b<B→get2 g M a b=(pv a b||clJ w f td r a b)) (hw:w=(wn:Int)) (hf:f r td=true) (hne:r≠wn) (a b:Nat) (ha:a<A) (hb:b<B):get2 g M2 a b=(pv a b||clJ w f td (r+1) a b):=by
 rw [get2_two h1 h2,clJ_step hw hf hne]
 split
 ·rw [Bool.or_true]
 ·exact hM a b ha hb
def OkV (code:List Ins)(regs:Int):Prop:=∀i,i<code.length→(1≤(nth code i).op∧(nth code i).op≤18)∧((nth code i).op≤8∨(nth code i).op=10→0≤(nth code i).a)∧(-1≤wrG (nth code i)∧wrG (nth code i)<regs)∧∀v∈rdG (nth code i),0≤v∧v<regs
theorem live_lt {code:List Ins}{regs:Int}(h:OkV code regs){r j:Nat}(hl:LiveI code r j):(r:Int)<regs:=by
 induction hl with
 |read i hi hr=>exact ((h i hi).2.2.2 _ hr).2
 |pass i y hi hw hy _ ih=>exact ih
theorem rowsV {β γ:Type}[Inhabited γ][Inhabited β]{M:List β}{g:β→γ}{m:Nat}{h:Nat→γ}(e:M.map g=(List.range m).map h):M.length=m∧∀a,a<m→g (nth M a)=h a:=by
 have hl:M.length=m:=by have:=congrArg List.length e;simpa using this
 refine ⟨hl,fun a ha=> ?_⟩
 have h1:(M.map g)[a]? =((List.range m).map h)[a]? :=by rw [e]
 rw [List.getElem?_map,List.getElem?_map,List.getElem?_eq_getElem (by omega),List.getElem?_range ha] at h1
 rw [nth_lt _ _ (by omega)]
 simpa using h1
theorem need_more {R W T t ib:Bool}(h:ib=(R||(W&&T)))(hW:W=true):(ib=true→true=(R||(W&&(T||t))))∧(ib=false→t=(R||(W&&(T||t)))):=by
 subst hW;subst h
 cases R<;>cases T<;>cases t<;>simp
theorem need_end {R W T T2 ib:Bool}(h:ib=(R||(W&&T)))(hE:W=false∨T=T2):ib=(R||(W&&T2)):=by
 rcases hE with rfl|rfl
 ·rw [h,Bool.false_and,Bool.false_and]
 ·exact h
theorem rv_fin {code:List Ins}{r:Nat}{l:List Bool}{f:Nat→Nat→Bool}(hf:∀r j,(f r j=true↔LiveI code r j))(h:VI code r l)(hc:∀i,i<code.length→ClV code r l i):l=(List.range (code.length+1)).map (f r):=
 eq_mapR h.l1 fun i _=>Bool.eq_iff_iff.2 ((h.fin hc i).trans (hf r i).symm)
def liveA (f:Nat→Nat→Bool)(n:Nat):List BArr:=(List.range (n+1)).map fun j=>⟨(List.range 200).map fun r=>f r j⟩
theorem ra_fin {code:List Ins}{a:List BArr}{f:Nat→Nat→Bool}(hf:∀r j,(f r j=true↔LiveI code r j))(h:AI code a)(hc:∀i,i<code.length→ClA code a i):a=liveA f code.length:=by
 apply List.ext_getElem (by simp [liveA,h.l1])
 intro j h1 h2
 have h3:=h.l2 j h1
 rw [nth_lt _ _ h1] at h3
 have e:a[j].l=(List.range 200).map fun r=>f r j:=eq_mapR h3 fun r hr=>by
  have:=Bool.eq_iff_iff.2 ((h.fin hc r j hr).trans (hf r j).symm)
  rw [←this];unfold col;rw [nth_lt _ _ h1]
 have e2:(liveA f code.length)[j]=⟨(List.range 200).map fun r=>f r j⟩:=by simp [liveA]
 rw [e2,←e]
theorem or_step {nw nw2 A:List Bool}{r:Nat}{v:Bool}(hl:nw2.length=200)(hr:r<200)(h:∀b,b<200→nth nw2 b=(nth nw b||(decide (b<r)&&nth A b)))(hv:v=(nth nw2 r||nth A r)):
  ∀b,b<200→nth (nw2.set r v) b=(nth nw b||(decide (b<r+1)&&nth A b)):=by
 intro b hb
 rw [nth_set]
 by_cases hrb:r=b
 ·subst hrb
  rw [if_pos ⟨rfl,by omega⟩,hv,h r hr,decide_eq_false (by omega),decide_eq_true (by omega)]
  simp
 ·rw [if_neg (fun e=>hrb e.1),h b hb,show decide (b<r+1)=decide (b<r) by rw [decide_eq_decide];omega]
theorem or_zero {nw A:List Bool} :∀b,b<200→nth nw b=(nth nw b||(decide (b<0)&&nth A b)):=fun b _=>by simp
theorem or_end {nw nw2:List Bool}{a:List BArr}{l:List Int}{q r:Nat}(hq:q<l.length)(hr:¬r<200)(hn:∀b,b<200→nth nw b=(l.take q).any fun y=>col a b y.toNat)(h:∀b,b<200→nth nw2 b=(nth nw b||(decide (b<r)&&nth (nth a (nth l q).toNat).l b))):
  ∀b,b<200→nth nw2 b=(l.take (q+1)).any fun y=>col a b y.toNat:=by
 intro b hb
 rw [h b hb,hn b hb,any_step hq,decide_eq_true (by omega),Bool.true_and]
 rfl
theorem wr_off {nw:List Bool}{w:Int}{T:Nat→Bool}(hl:nw.length=200)(h:∀b,b<200→nth nw b=T b)(hw:0≤w):∀b,b<200→nth (nw.set w.toNat false) b=((decide (w≠(b:Int))&&T b)||false):=by
 intro b hb
 rw [nth_set,Bool.or_false]
 by_cases hwb:w.toNat=b
 ·rw [if_pos ⟨hwb,by omega⟩,decide_eq_false (by omega),Bool.false_and]
 ·rw [if_neg (fun e=>hwb e.1),h b hb,decide_eq_true (by omega),Bool.true_and]
theorem wr_none {nw:List Bool}{w:Int}{T:Nat→Bool}(h:∀b,b<200→nth nw b=T b)(hw:¬0≤w):∀b,b<200→nth nw b=((decide (w≠(b:Int))&&T b)||false):=by
 intro b hb
 rw [h b hb,decide_eq_true (by omega),Bool.true_and,Bool.or_false]
theorem rd_step {nw:List Bool}{l:List Int}{q:Nat}{T:Nat→Bool}(hl:nw.length=200)(hq:q<l.length)(hy:0≤nth l q)(h:∀b,b<200→nth nw b=(T b||(l.take q).any fun v=>decide (v=(b:Int)))):
  ∀b,b<200→nth (nw.set (nth l q).toNat true) b=(T b||(l.take (q+1)).any fun v=>decide (v=(b:Int))):=by
 intro b hb
 rw [nth_set,any_step hq]
 by_cases hwb:(nth l q).toNat=b
 ·rw [if_pos ⟨hwb,by omega⟩,decide_eq_true (show nth l q=(b:Int) by omega)];simp
 ·rw [if_neg (fun e=>hwb e.1),h b hb,decide_eq_false (show¬nth l q=(b:Int) by omega),Bool.or_false]
theorem now_is {code:List Ins}{a:List BArr}{k:Nat}{nw:List Bool}{q:Nat}(hq:(rdG (nth code k)).length≤q)(h:∀b,b<200→nth nw b=((decide (wrG (nth code k)≠(b:Int))&&(nextsL code k).any fun y=>col a b y.toNat)||((rdG (nth code k)).take q).any fun v=>decide (v=(b:Int)))):NowIs code a k nw:=by
 intro b hb
 rw [h b hb,any_all hq,Bool.or_comm]
 rfl
end Go.Proofs.Ytmbfcgpneflbmaa
