/- Sets of strings, as maps from strings to booleans, as resources; arrays of bytes. It imports nothing of the dump. -/
import Derived.Test.YtmjkobhkkjgplaaGreatDoorS31
import Derived.Test.YtmjkobhkkjgplaaGreatDoorS15
namespace Go.Proofs.YtmjkobhkkjgplaaGreatDoor
open Go.RowKit
set_option linter.unusedSimpArgs false
set_option linter.unusedVariables false
instance : DecidableEq ByteArray:=fun a b=>decidable_of_iff (a.data=b.data) ⟨fun h=>by cases a;cases b;simp only at h;rw [h],fun h=>by rw [h]⟩
def keysS (l:List ByteArray):List (Value×Value):=l.map fun s=>(.string s, .bool true)
def MapStr (w:World) (g:Nat) (l:List ByteArray):Prop:=∃es clock,w.heap[g]? =some (.map es clock)∧pairsOf es=keysS l
theorem MapStr.of_block {w w' :World} {g:Nat} {l:List ByteArray} (h:MapStr w g l) (hb:w'.heap[g]? =w.heap[g]?):MapStr w' g l:=by
 obtain ⟨es,c,h1,h2⟩:=h
 exact ⟨es,c,hb.trans h1,h2⟩
theorem MapStr.lt {w:World} {g:Nat} {l:List ByteArray} (h:MapStr w g l):g<w.heap.size:=by
 obtain ⟨es,c,h1,_⟩:=h
 exact (Array.getElem?_eq_some_iff.1 h1).1
def Asn.strO (g:Nat) (l:List ByteArray):Asn where
 fp b:=g=b
 rd _:=False
 ok w:=MapStr w g l
 keep w w' h hb:=h.of_block (hb g (.inl rfl))
 lt w h b hb:=by
  rcases hb with rfl|hb
  ·exact h.lt
  ·exact hb.elim
theorem beq_str (a b:ByteArray):(a==b)=decide (a=b):=by
 obtain ⟨x⟩:=a
 obtain ⟨y⟩:=b
 show (x==y)=_
 by_cases h:x=y
 ·subst h;simp
 ·have h2:(⟨x⟩:ByteArray)≠⟨y⟩:=fun e=>h (congrArg ByteArray.data e)
  rw [decide_eq_false h2]
  simpa using h
instance : LawfulBEq ByteArray where
 eq_of_beq h:=by rw [beq_str] at h;exact of_decide_eq_true h
 rfl {a} :=by rw [beq_str];exact decide_eq_true rfl
def atS (k:ByteArray):List ByteArray→Nat→Option (Nat×Value)
 | [],_=>none
 |j::r,i=>if k=j then some (i, .bool true) else atS k r (i+1)
theorem atS_spec (k:ByteArray):∀(l:List ByteArray) (i:Nat),(∃j,atS k l i=some (i+j, .bool true)∧l[j]? =some k)∨(atS k l i=none∧k∉l)
 | [],i=> .inr ⟨rfl,by simp⟩
 |x::r,i=>by
  unfold atS
  by_cases h:k=x
  ·subst h;exact .inl ⟨0,by rw [if_pos rfl];rfl,rfl⟩
  ·rw [if_neg h]
   rcases atS_spec k r (i+1) with ⟨j,h1,h2⟩|⟨h1,h2⟩
   ·exact .inl ⟨j+1,by rw [h1,show i+1+j=i+(j+1) by omega],by simpa using h2⟩
   ·exact .inr ⟨h1,by simp [h,h2]⟩
theorem findNow_str (k:ByteArray):∀(es:List MapEntry) (l:List ByteArray) (i:Nat),(es.map fun e=>(e.key,e.val))=keysS l→Instr.findNow .string (.string k) es i=some (atS k l i)
 | [], [],_,_=>rfl
 | [],_::_,_,h=>by simp [keysS] at h
 |_::_, [],_,h=>by simp [keysS] at h
 |e::es,j::l,i,h=>by
  simp only [keysS,List.map_cons,List.cons.injEq,Prod.mk.injEq] at h
  obtain ⟨⟨hk,hv⟩,hr⟩:=h
  have ih:=findNow_str k es l (i+1) hr
  simp only [Instr.findNow,hk,Instr.sameNow]
  unfold atS
  rw [beq_str]
  by_cases hkj:k=j
  ·simp [hkj,hv]
  ·simp [hkj,ih]
structure MapTStr (P:Program) (T kT eT:TypeId):Prop where
 map:P.underlying T=some (.map kT eT)
 str:P.underlying kT=some .string
 zero:∀w,(zeroValue eT).run P w= .ok (.bool false) w
section
variable {P:Program} {o:Oper} {N:Nat} {K:Nat→Prop} {W w:World} {a:Act} {F:List (Nat×Value)} {L:List Asn} {T kT eT:TypeId} {l:List ByteArray} {k:ByteArray} {g:Nat}
theorem run_findKey_str (hK:P.underlying kT=some .string) {es:Array MapEntry} (h:pairsOf es=keysS l):(Instr.findKey kT (.string k) es.toList).run P w= .ok (atS k l 0) w:=by
 simp [Instr.findKey,run_underlying hK,findNow_str k es.toList l 0 h]
theorem run_checkKey_str (b:Bool) (n:Nat) (hK:P.underlying kT=some .string):(Instr.checkKey b (n+1) kT (.string k)).run P w= .ok () w:=by
 simp [Instr.checkKey,run_underlying hK]
theorem run_lookStr (hT:MapTStr P T kT eT) (h:MapStr w g l):(Instr.lookup T (.map (some g)) (.string k) false).run P w= .ok (.bool (decide (k∈l))) w:=by
 obtain ⟨es,c,h1,h2⟩:=h
 have e0:(getObj g).run P w= .ok (.map es c) w:=by simp [getObj,Sem.run,h1]
 have e1:=run_findKey_str (P:=P) (w:=w) (k:=k) hT.str h2
 have e2:=run_checkKey_str (P:=P) (w:=w) (k:=k) es.isEmpty 9999 hT.str
 rcases atS_spec k l 0 with ⟨j,h3,h4⟩|⟨h3,h4⟩
 ·rw [decide_eq_true (List.mem_of_getElem? h4)]
  rw [h3] at e1
  simp [Instr.lookup,run_underlying hT.map,e0,e1,e2]
 ·rw [decide_eq_false h4]
  rw [h3] at e1
  simp [Instr.lookup,run_underlying hT.map,e0,e1,e2,hT.zero]
theorem r_lookStr {x y:Operand} {i:Nat} (hT:MapTStr P T kT eT) (ho:o.op= .lookup T x y false) (hx:ev F x=some (.map (some g))) (hy:ev F y=some (.string k)) (hi:L[i]? =some (.strO g l)):Rn P o N K W F L (.bool (decide (k∈l))):=fun a w h=>by
 have key:=run_lookStr (k:=k) hT (h.sh.ok _ (List.mem_of_getElem? hi))
 unfold execOp
 simp only [ho,h.fr.ev hx,h.fr.ev hy,Sem.run_bind,key,Result.andThen_ok,Sem.run_pure]
theorem x_makeStr {d:Nat} (h:St N K W a w F L) (ho:o.op= .makeMap T none) (hd:o.dst=some d) (hdN:Nat.blt d N=true):Ex P o a w (fun a' w' =>∃g:Nat,St N K W a' w' ((d, .map (some g))::F) (.strO g []::L)):=by
 have hrun:(Instr.makeMap T none).run P w= .ok (.map (some w.heap.size)) (w.alloc (.map #[] 0)):=run_makeMap T w
 refine Ex.of_run (v:= .map (some w.heap.size)) (w' :=w.alloc (.map #[] 0)) ?_ ⟨w.heap.size, ?_⟩
 ·unfold execOp
  simp only [ho,Option.map_none,Sem.run_bind,hrun,Result.andThen_ok,Sem.run_pure]
 ·rw [hd]
  have h1:Sh K W (w.alloc (.map #[] 0)) (.strO w.heap.size []::L):=
   h.sh.push (Chg.alloc _ w _) ⟨#[],0,Go.heap_alloc_new w _,rfl⟩ (fun b hb=>by rw [←(show w.heap.size=b from hb)];exact Nat.le_refl _) (fun b hb=>hb.elim) (fun b _ hb=>hb)
  exact ⟨h.fr.put d (by simpa [Nat.blt_eq] using hdN) _,h1⟩
theorem x_updStrG {x y z:Operand} {i:Nat} (h:St N K W a w F L) (hT:MapTStr P T kT eT) (ho:o.op= .mapUpdate T x y z∨o.op= .insert T x y z) (hd:o.dst=none) (hx:ev F x=some (.map (some g))) (hy:ev F y=some (.string k)) (hz:ev F z=some (.bool true)) (hi:L[i]? =some (.strO g l)) (hk:k∉l):
  Ex P o a w (fun a' w' =>St N K W a' w' F (L.set i (.strO g (l++ [k])))):=by
 obtain ⟨es,c,h1,h2⟩:MapStr w g l:=h.sh.ok _ (List.mem_of_getElem? hi)
 have hlt:g<w.heap.size:=(Array.getElem?_eq_some_iff.1 h1).1
 have e0:(getObj g).run P w= .ok (.map es c) w:=by simp [getObj,Sem.run,h1]
 have e1:=run_findKey_str (P:=P) (w:=w) (k:=k) hT.str h2
 have e2:=run_checkKey_str (P:=P) (w:=w) (k:=k) false 9999 hT.str
 have e3:atS k l 0=none:=by
  rcases atS_spec k l 0 with ⟨j,_,h4⟩|⟨h3,_⟩
  ·exact absurd (List.mem_of_getElem? h4) hk
  ·exact h3
 rw [e3] at e1
 have hrun:(Instr.mapUpdate T (.map (some g)) (.string k) (.bool true)).run P w= .ok () (World.setMap w g (es.push { key:= .string k,val:= .bool true,born:=c }) (c+1)):=by
  simp [Instr.mapUpdate,run_underlying hT.map,e0,e1,e2,setObj,Sem.run,h1,World.setMap]
 refine Ex.of_skip (w' :=World.setMap w g (es.push { key:= .string k,val:= .bool true,born:=c }) (c+1)) ?_ ?_
 ·unfold execOp
  rcases ho with ho|ho<;>simp only [ho,h.fr.ev hx,h.fr.ev hy,h.fr.ev hz,Sem.run_bind,hrun,Result.andThen_ok,Sem.run_pure]
 ·rw [hd]
  have hg:w.grownBy (World.setMap w g (es.push { key:= .string k,val:= .bool true,born:=c }) (c+1)) (some g):=⟨rfl,rfl,rfl,by simp [World.setMap],fun j hj hne=>by
   have:g≠j:=fun e=>hne (by rw [e])
   simp [World.setMap,Array.getElem?_setIfInBounds,this]⟩
  refine ⟨h.fr,h.sh.put hi (Chg.grown hg (fun b hb=>Option.some.inj hb)) ⟨es.push { key:= .string k,val:= .bool true,born:=c },c+1,by simp [World.setMap,hlt], ?_⟩ (fun b hb=> .inl hb) (fun b hb=>hb.elim) (fun b _ hb=>hb)⟩
  simp [pairsOf,keysS] at h2⊢
  exact h2
theorem x_updStr {x y z:Operand} {i:Nat} (h:St N K W a w F L) (hT:MapTStr P T kT eT) (ho:o.op= .mapUpdate T x y z) (hd:o.dst=none) (hx:ev F x=some (.map (some g))) (hy:ev F y=some (.string k)) (hz:ev F z=some (.bool true)) (hi:L[i]? =some (.strO g l)) (hk:k∉l):
  Ex P o a w (fun a' w' =>St N K W a' w' F (L.set i (.strO g (l++ [k])))):=x_updStrG h hT (.inl ho) hd hx hy hz hi hk
theorem x_updStrI {x y z:Operand} {i:Nat} (h:St N K W a w F L) (hT:MapTStr P T kT eT) (ho:o.op= .insert T x y z) (hd:o.dst=none) (hx:ev F x=some (.map (some g))) (hy:ev F y=some (.string k)) (hz:ev F z=some (.bool true)) (hi:L[i]? =some (.strO g l)) (hk:k∉l):
  Ex P o a w (fun a' w' =>St N K W a' w' F (L.set i (.strO g (l++ [k])))):=x_updStrG h hT (.inr ho) hd hx hy hz hi hk
theorem r_lenStrO {x:Operand} {i:Nat} (hT:MapTStr P T kT eT) (ho:o.op= .call ⟨.builtin .len, #[x], #[T]⟩) (hx:ev F x=some (.map (some g))) (hi:L[i]? =some (.strO g l)):Rn P o N K W F L (.int .i64 ((l.length:Nat):Int)):=fun a w h=>by
 obtain ⟨es,c,h1,h2⟩:MapStr w g l:=h.sh.ok _ (List.mem_of_getElem? hi)
 have hl:es.size=l.length:=by
  have:=congrArg List.length h2
  simpa [pairsOf,keysS] using this
 have e0:(getObj g).run P w= .ok (.map es c) w:=by simp [getObj,Sem.run,h1]
 have key:∀ty,(Builtin.len_ #[T] ty #[.map (some g)]).run P w= .ok (.int .i64 ((l.length:Nat):Int)) w:=fun ty=>by
  simp [Builtin.len_,run_underlying hT.map,goInt,e0,hl]
 unfold execOp
 simp [ho,resolve,invoke,builtin,h.fr.ev hx,key]
end
end Go.Proofs.YtmjkobhkkjgplaaGreatDoor
