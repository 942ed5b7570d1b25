/- Laws for rows of a call's own: make, literals, stores, append; calls; how code goes on. It imports nothing of the dump. -/
import Derived.Test.YtmjkobhkkjgplaaGreatDoorBase
import Derived.Great.BuildSlice
section
section
namespace Go.Proofs.YtmjkobhkkjgplaaGreatDoor
open Go.RowKit
set_option linter.unusedSimpArgs false
set_option linter.unusedVariables false
structure Asn where
 fp:Nat→Prop
 rd:Nat→Prop
 ok:World→Prop
 keep:∀w w',ok w→(∀b,fp b∨rd b→w'.heap[b]? =w.heap[b]?)→ok w'
 lt:∀w,ok w→∀b,fp b∨rd b→b<w.heap.size
structure Chg (X:Nat→Prop) (w w' :World):Prop where
 os:w'.os=w.os
 tape:w'.tape=w.tape
 output:w'.output=w.output
 size:w.heap.size≤w'.heap.size
 same:∀b,b<w.heap.size→¬X b→w'.heap[b]? =w.heap[b]?
theorem Chg.refl (X:Nat→Prop) (w:World):Chg X w w:=⟨rfl,rfl,rfl,Nat.le_refl _,fun _ _ _=>rfl⟩
theorem Chg.drew (X:Nat→Prop) (w:World):Chg X w w.drew:=⟨rfl,rfl,rfl,Nat.le_refl _,fun _ _ _=>rfl⟩
theorem Chg.alloc (X:Nat→Prop) (w:World) (o:Obj):Chg X w (w.alloc o):=⟨rfl,rfl,rfl,by simp,fun b hb _=>Below.heap_alloc w o b hb⟩
theorem Chg.setCell {X:Nat→Prop} (w:World) (p:Addr) (hp:X p.block) (v:Value):Chg X w (w.setCell p v):=
 ⟨rfl,rfl,rfl,by simp,fun b hb hx=>Below.heap_setCell w p v b (fun e=>hx (e▸hp))⟩
theorem Chg.below {w w' :World} (h:Below w.heap.size w w'):Chg (fun _=>False) w w' :=⟨h.os,h.tape,h.output,h.size,fun b hb _=>h.block b hb⟩
theorem Chg.to_below {w w' :World} (h:Chg (fun _=>False) w w'):Below w.heap.size w w' :=⟨h.os,h.tape,h.output,h.size,fun b hb=>h.same b hb (fun h=>h)⟩
theorem Chg.grown {X:Nat→Prop} {w w' :World} {row:Option Nat} (h:w.grownBy w' row) (hr:∀k,row=some k→X k):Chg X w w' :=
 ⟨h.os,h.tape,h.output,h.size,fun b hb hx=>h.block b hb (fun e=>hx (hr b e.symm))⟩
theorem Chg.mono {X Y:Nat→Prop} {w w' :World} (h:Chg X w w') (hxy:∀b,X b→Y b):Chg Y w w' :=⟨h.os,h.tape,h.output,h.size,fun b hb hy=>h.same b hb fun hx=>hy (hxy b hx)⟩
theorem Chg.trans {K X:Nat→Prop} {W w w' :World} (h:Chg K W w) (h' :Chg X w w') (hx:∀b,X b→K b∨W.heap.size≤b):Chg K W w' :=
 ⟨h'.os.trans h.os,h'.tape.trans h.tape,h'.output.trans h.output,Nat.le_trans h.size h'.size,fun b hb hk=>
  (h'.same b (Nat.lt_of_lt_of_le hb h.size) (fun hxb=>(hx b hxb).elim hk (fun hle=>by omega))).trans (h.same b hb hk)⟩
def Asn.Apart (A B:Asn):Prop:=∀b,(A.fp b→¬B.fp b∧¬B.rd b)∧(B.fp b→¬A.rd b)
theorem Asn.Apart.symm {A B:Asn} (h:A.Apart B):B.Apart A:=fun b=>⟨fun hb=>⟨fun ha=>((h b).1 ha).1 hb,(h b).2 hb⟩,fun ha=>((h b).1 ha).2⟩
theorem apart_of_mem :∀ {L:List Asn},L.Pairwise Asn.Apart→∀ {A B:Asn},A∈L→B∈L→A=B∨A.Apart B
 | [],_,_,_,hA,_=>by cases hA
 |C::L,h,A,B,hA,hB=>by
  obtain ⟨h1,h2⟩:=List.pairwise_cons.1 h
  rcases List.mem_cons.1 hA with rfl|hA'
  ·rcases List.mem_cons.1 hB with rfl|hB'
   ·exact .inl rfl
   ·exact .inr (h1 _ hB')
  ·rcases List.mem_cons.1 hB with rfl|hB'
   ·exact .inr (h1 _ hA').symm
   ·exact apart_of_mem h2 hA' hB'
theorem perm_erase {α:Type} :∀(l:List α) (i:Nat) (h:i<l.length),l.Perm (l[i]::l.eraseIdx i)
 |a::l,0,_=>List.Perm.refl _
 |a::l,i+1,h=>by
  have ih:=perm_erase l i (by simpa using h)
  simp only [List.getElem_cons_succ,List.eraseIdx_cons_succ]
  exact (ih.cons a).trans (List.Perm.swap _ _ _)
theorem perm_set {α:Type} (x:α):∀(l:List α) (i:Nat) (h:i<l.length),(l.set i x).Perm (x::l.eraseIdx i)
 |a::l,0,_=>List.Perm.refl _
 |a::l,i+1,h=>by
  have ih:=perm_set x l i (by simpa using h)
  simp only [List.set_cons_succ,List.eraseIdx_cons_succ]
  exact (ih.cons a).trans (List.Perm.swap _ _ _)
structure Sh (K:Nat→Prop) (W w:World) (L:List Asn):Prop where
 chg:Chg K W w
 ok:∀A∈L,A.ok w
 mine:∀A∈L,∀b,A.fp b→K b∨W.heap.size≤b
 self:∀A∈L,∀b,A.fp b→¬A.rd b
 apart:L.Pairwise Asn.Apart
abbrev Sh0 :=Sh (fun _=>False)
section
variable {K:Nat→Prop} {W w w' :World} {L:List Asn}
theorem Sh.lt (h:Sh K W w L) {A:Asn} (hA:A∈L) {b:Nat} (hb:A.fp b∨A.rd b):b<w.heap.size:=A.lt w (h.ok A hA) b hb
theorem Sh.step {Lp Lr L' :List Asn} (h:Sh K W w (Lp++Lr)) (hc:Chg (fun b=>∃A∈Lp,A.fp b) w w')
  (hok:∀A∈L',A.ok w')
  (hfp:∀A∈L',∀b,A.fp b→(∃B∈Lp,B.fp b)∨w.heap.size≤b)
  (hrd:∀A∈L',∀b,A.rd b→(∃B∈Lp,B.fp b∨B.rd b)∨(∃B∈Lr,B.rd b)∨w.heap.size≤b)
  (hself:∀A∈L',∀b,A.fp b→¬A.rd b) (hap:L'.Pairwise Asn.Apart):Sh K W w' (L' ++Lr):=by
 have hpr:∀A∈Lp,∀B∈Lr,A.Apart B:=fun A hA B hB=>(List.pairwise_append.1 h.apart).2.2 A hA B hB
 have hrr:Lr.Pairwise Asn.Apart:=(List.pairwise_append.1 h.apart).2.1
 have hrest:∀B∈Lr,∀b,B.fp b∨B.rd b→¬∃A∈Lp,A.fp b:=by
  rintro B hB b hb ⟨A,hA,hAb⟩
  have:=hpr A hA B hB b
  exact hb.elim (this.1 hAb).1 (this.1 hAb).2
 refine ⟨h.chg.trans hc ?_, ?_, ?_, ?_, ?_⟩
 ·rintro b ⟨A,hA,hb⟩
  exact h.mine A (List.mem_append.2 (.inl hA)) b hb
 ·intro A hA
  rcases List.mem_append.1 hA with hA|hA
  ·exact hok A hA
  ·exact A.keep w w' (h.ok A (List.mem_append.2 (.inr hA))) fun b hb=>hc.same b (h.lt (List.mem_append.2 (.inr hA)) hb) (hrest A hA b hb)
 ·intro A hA b hb
  rcases List.mem_append.1 hA with hA|hA
  ·rcases hfp A hA b hb with ⟨B,hB,hBb⟩|hle
   ·exact h.mine B (List.mem_append.2 (.inl hB)) b hBb
   ·exact .inr (Nat.le_trans h.chg.size hle)
  ·exact h.mine A (List.mem_append.2 (.inr hA)) b hb
 ·intro A hA
  rcases List.mem_append.1 hA with hA|hA
  ·exact hself A hA
  ·exact h.self A (List.mem_append.2 (.inr hA))
 ·refine List.pairwise_append.2 ⟨hap,hrr,fun A hA B hB b=>⟨fun ha=> ?_,fun hb ha=> ?_⟩⟩
  ·rcases hfp A hA b ha with ⟨C,hC,hCb⟩|hle
   ·exact (hpr C hC B hB b).1 hCb
   ·exact ⟨fun hb=>by have:=h.lt (List.mem_append.2 (.inr hB)) (.inl hb);omega,fun hb=>by have:=h.lt (List.mem_append.2 (.inr hB)) (.inr hb);omega⟩
  ·rcases hrd A hA b ha with ⟨C,hC,hCb⟩|⟨C,hC,hCb⟩|hle
   ·exact hCb.elim (fun hCb=>((hpr C hC B hB b).1 hCb).1 hb) ((hpr C hC B hB b).2 hb)
   ·by_cases hcb:C=B
    ·subst hcb
     exact h.self C (List.mem_append.2 (.inr hC)) b hb hCb
    ·rcases apart_of_mem hrr hC hB with e|hap
     ·exact hcb e
     ·exact (hap b).2 hb hCb
   ·have:=h.lt (List.mem_append.2 (.inr hB)) (.inl hb);omega
theorem Sh.drew (h:Sh K W w L):Sh K W w.drew L:=by
 have:=Sh.step (Lp:= []) (Lr:=L) (L' := []) (w' :=w.drew) h (Chg.drew _ w) (by simp) (by simp) (by simp) (by simp) .nil
 simpa using this
def selOK (L:List Asn):List Nat→List Asn→Prop
 | [], []=>True
 |i::is,A::r=>L[i]? =some A∧selOK L is r
 |_,_=>False
theorem selOK.len :∀ {is:List Nat} {L' :List Asn},selOK L is L' →is.length=L'.length
 | [], [],_=>rfl
 |_::is,_::r,h=>by simp [selOK.len (is:=is) (L' :=r) h.2]
 | [],_::_,h=>h.elim
 |_::_, [],h=>h.elim
theorem selOK_at {L:List Asn} :∀ {is:List Nat} {L' :List Asn},selOK L is L' →∀(k:Nat) (A:Asn),L'[k]? =some A→∃i:Nat,is[k]? =some i∧L[i]? =some A
 | [], [],_,k,A,hk=>by simp at hk
 |i::is,B::r,h,0,A,hk=>⟨i,rfl,by simpa using hk▸h.1⟩
 |i::is,B::r,h,k+1,A,hk=>by
  obtain ⟨j,h1,h2⟩:=selOK_at (is:=is) (L' :=r) h.2 k A (by simpa using hk)
  exact ⟨j,by simpa using h1,h2⟩
 | [],_::_,h,_,_,_=>h.elim
 |_::_, [],h,_,_,_=>h.elim
def nodB :List Nat→Bool
 | []=>true
 |i::r=> !(r.contains i)&&nodB r
def selL9 (L:List Asn):List Nat→Option (List Asn)
 | []=>some []
 |i::r=>match L[i]?,selL9 L r with
  |some A,some l=>some (A::l)
  |_,_=>none
def selB (L:List Asn) (is:List Nat):Option (List Asn):=match nodB is with
 |true=>selL9 L is
 |false=>none
theorem nodB_ok :∀ {is:List Nat},nodB is=true→is.Nodup
 | [],_=>List.nodup_nil
 |i::r,h=>by
  simp only [nodB,Bool.and_eq_true,Bool.not_eq_true'] at h
  refine List.nodup_cons.2 ⟨fun hi=> ?_,nodB_ok h.2⟩
  have:=h.1
  rw [List.contains_iff_mem.2 hi] at this
  cases this
theorem selL9_ok {L:List Asn} :∀ {is:List Nat} {L' :List Asn},selL9 L is=some L' →selOK L is L'
 | [],L',h=>by cases h;trivial
 |i::r,L',h=>by
  unfold selL9 at h
  split at h
  ·rename_i A l h1 h2
   cases h
   exact ⟨h1,selL9_ok h2⟩
  ·cases h
theorem Sh.sel {L' :List Asn} (h:Sh K W w L) (is:List Nat) (hsel:selB L is=some L'):Sh K W w L' :=by
 obtain ⟨hnd,hs⟩:is.Nodup∧selOK L is L' :=by
  unfold selB at hsel
  split at hsel
  ·rename_i hn;exact ⟨nodB_ok hn,selL9_ok hsel⟩
  ·cases hsel
 have hm:∀A∈L',A∈L:=by
  intro A hA
  obtain ⟨k,hk⟩:=List.getElem?_of_mem hA
  obtain ⟨i,_,hi⟩:=selOK_at hs k A hk
  exact List.mem_of_getElem? hi
 refine ⟨h.chg,fun A hA=>h.ok A (hm A hA),fun A hA=>h.mine A (hm A hA),fun A hA=>h.self A (hm A hA), ?_⟩
 rw [List.pairwise_iff_getElem]
 intro p q hp hq hpq
 obtain ⟨i,hi1,hi2⟩:=selOK_at hs p _ (List.getElem?_eq_getElem hp)
 obtain ⟨j,hj1,hj2⟩:=selOK_at hs q _ (List.getElem?_eq_getElem hq)
 have hij:i≠j:=by
  intro e
  subst e
  obtain ⟨hpi,e1⟩:=List.getElem?_eq_some_iff.1 hi1
  obtain ⟨hqi,e2⟩:=List.getElem?_eq_some_iff.1 hj1
  exact List.pairwise_iff_getElem.1 hnd p q hpi hqi hpq (e1.trans e2.symm)
 obtain ⟨li,e1⟩:=List.getElem?_eq_some_iff.1 hi2
 obtain ⟨lj,e2⟩:=List.getElem?_eq_some_iff.1 hj2
 have hpw:=List.pairwise_iff_getElem.1 h.apart
 rw [←e1,←e2]
 rcases Nat.lt_or_gt_of_ne hij with hlt|hgt
 ·exact hpw i j li lj hlt
 ·exact (hpw j i lj li hgt).symm
theorem Sh.push (h:Sh K W w L) {A:Asn} (hc:Chg (fun _=>False) w w') (hok:A.ok w') (hfp:∀b,A.fp b→w.heap.size≤b) (hrd:∀b,A.rd b→(∃B∈L,B.rd b)∨w.heap.size≤b) (hself:∀b,A.fp b→¬A.rd b):Sh K W w' (A::L):=
 Sh.step (Lp:= []) (Lr:=L) (L' := [A]) h (hc.mono fun _ h=>h.elim) (by simpa using hok) (by simpa using fun b hb=>hfp b hb) (by simpa using fun b hb=>hrd b hb) (by simpa using hself) (List.pairwise_singleton _ _)
theorem Sh.put (h:Sh K W w L) {i:Nat} {A A' :Asn} (hi:L[i]? =some A) (hc:Chg A.fp w w') (hok:A'.ok w') (hfp:∀b,A'.fp b→A.fp b∨w.heap.size≤b)
  (hrd:∀b,A'.rd b→A.fp b∨A.rd b∨(∃B∈L,B.rd b)∨w.heap.size≤b) (hself:∀b,A'.fp b→¬A'.rd b):Sh K W w' (L.set i A'):=by
 obtain ⟨hlt,rfl⟩:=List.getElem?_eq_some_iff.1 hi
 have h1:Sh K W w ([L[i]]++L.eraseIdx i):=by
  refine ⟨h.chg,fun A hA=>h.ok A ?_,fun A hA=>h.mine A ?_,fun A hA=>h.self A ?_, ?_⟩
  ·simp only [List.singleton_append,List.mem_cons] at hA;exact hA.elim (fun e=>e▸List.getElem_mem _) List.mem_of_mem_eraseIdx
  ·simp only [List.singleton_append,List.mem_cons] at hA;exact hA.elim (fun e=>e▸List.getElem_mem _) List.mem_of_mem_eraseIdx
  ·simp only [List.singleton_append,List.mem_cons] at hA;exact hA.elim (fun e=>e▸List.getElem_mem _) List.mem_of_mem_eraseIdx
  ·refine (List.Perm.pairwise_iff (fun {x y} hxy=>hxy.symm) ?_).1 h.apart
   exact perm_erase L i hlt
 have h2:=Sh.step (L' := [A']) h1 (hc.mono fun b hb=>⟨_,by simp,hb⟩) (by simpa using hok) (by simpa using hfp) (by
  intro A hA b hb
  simp only [List.mem_singleton] at hA
  subst hA
  rcases hrd b hb with hb|hb|⟨B,hB,hb⟩|hb
  ·exact .inl ⟨_,by simp, .inl hb⟩
  ·exact .inl ⟨_,by simp, .inr hb⟩
  ·by_cases e:B=L[i]
   ·subst e;exact .inl ⟨_,by simp, .inr hb⟩
   ·refine .inr (.inl ⟨B, ?_,hb⟩)
    have:=(perm_erase L i hlt).mem_iff.1 hB
    simpa [e] using this
  ·exact .inr (.inr hb)) (by simpa using hself) (List.pairwise_singleton _ _)
 refine ⟨h2.chg,fun A hA=>h2.ok A ?_,fun A hA=>h2.mine A ?_,fun A hA=>h2.self A ?_, ?_⟩
 all_goals try (have hp:=perm_set A' L i hlt;exact hp.mem_iff.1 hA)
 exact (List.Perm.pairwise_iff (fun {x y} hxy=>hxy.symm) (perm_set A' L i hlt).symm).1 h2.apart
end
def vblk (v:Value):Nat:=match v with| .slice A _ _=>(A.getD default).block|_=>0
def voff (v:Value):Nat:=match v with| .slice A _ _=>(A.getD default).off|_=>0
def padr (v:Value) (sz i j:Nat):Addr:=⟨vblk v,voff v+i*sz+j,none⟩
theorem padr_add (v:Value) (sz i j k:Nat):(padr v sz i j).add k=padr v sz i (j+k):=by
 simp [padr,Addr.add_lit,Nat.add_assoc]
structure Ls (α:Type) where
 v:Value
 l:List α
instance {α:Type} :Inhabited (Ls α):=⟨⟨.slice none 0 0, []⟩⟩
section
variable {α:Type} [Enc α]
def Ls.At (s:Ls α) (w:World):Prop:=∃A cap,s.v= .slice A s.l.length cap∧(⟨A,cap,s.l⟩:Sl α).At w
def Ls.on (s:Ls α) (b:Nat):Prop:=(0<s.l.length∧vblk s.v=b)∨∃i,i<s.l.length∧Enc.on (nth s.l i) b
theorem Ls.on_iff {s:Ls α} {A:Option Addr} {cap:Nat} (h:s.v= .slice A s.l.length cap) (b:Nat):s.on b↔(⟨A,cap,s.l⟩:Sl α).on b:=by
 unfold Ls.on Sl.on
 rw [h]
 rfl
theorem Ls.At.keep {s:Ls α} {w w' :World} (h:s.At w) (hb:∀b,s.on b→w'.heap[b]? =w.heap[b]?):s.At w' :=by
 obtain ⟨A,cap,hv,h⟩:=h
 exact ⟨A,cap,hv,h.keep fun b hb' =>hb b ((Ls.on_iff hv b).2 hb')⟩
theorem Ls.At.lt {s:Ls α} {w:World} (h:s.At w) {b:Nat} (hb:s.on b):b<w.heap.size:=by
 obtain ⟨A,cap,hv,h⟩:=h
 exact h.lt ((Ls.on_iff hv b).1 hb)
theorem Ls.At.len {s:Ls α} {w:World} (h:s.At w):s.l.length≤140737488355328:=by
 obtain ⟨A,cap,hv,h⟩:=h
 exact h.len
theorem Ls.At.cell {s:Ls α} {w:World} (h:s.At w) (i j:Nat) (hi:i<s.l.length) (hj:j<Enc.sz α):w.cell? (padr s.v (Enc.sz α) i j)=some (Enc.cell (nth s.l i) j):=by
 obtain ⟨A,cap,hv,h⟩:=h
 rw [hv]
 exact h.cell i j hi hj
theorem Ls.At.form {s:Ls α} {w:World} (h:s.At w):∃A n c,s.v= .slice A n c:=by
 obtain ⟨A,cap,hv,h⟩:=h
 exact ⟨_,_,_,hv⟩
theorem Ls.At.inner {s:Ls α} {w:World} (h:s.At w) (i:Nat) (hi:i<s.l.length):Enc.inner (nth s.l i) w:=by
 obtain ⟨A,cap,hv,h⟩:=h
 exact h.inner i hi
instance : Enc (Ls α) where
 sz:=1
 cell s _:=s.v
 whole s:=s.v
 agg:=false
 inner s w:=s.At w
 on s b:=s.on b
 one _:=⟨rfl,fun _=>rfl⟩
 many h:=by cases h
 keep _ _ _ h hb:=h.keep hb
 lt _ _ h _ hb:=h.lt hb
end
theorem Ls.At.nth {α:Type} [Enc α] {s:Ls (Ls α)} {w:World} (h:s.At w) (i:Nat) (hi:i<s.l.length):(nth s.l i).At w:=h.inner i hi
def Asn.blk (g:Nat) (E:TypeId) (cs:List Value):Asn where
 fp b:=b=g
 rd _:=False
 ok w:=Blk w g E cs.toArray
 keep w w' h hb:=(hb g (.inl rfl)).trans h
 lt w h b hb:=by rcases hb with rfl|hb;exact h.lt;exact hb.elim
def Asn.at_ {α:Type} [Enc α] (s:Ls α):Asn where
 fp _:=False
 rd:=s.on
 ok w:=s.At w
 keep w w' h hb:=h.keep fun b hb' =>hb b (.inr hb')
 lt w h b hb:=by rcases hb with hb|hb;exact hb.elim;exact h.lt hb
def Asn.own {α:Type} [Enc α] (E:TypeId) (s:Ls α):Asn where
 fp b:=s.v.ownBlock=some b
 rd b:=∃i,i<s.l.length∧Enc.on (nth s.l i) b
 ok w:=w.ownsRow 0 E (Enc.sz α) s.v s.l.length (encL s.l)∧s.l.length≤140737488355328∧∀i,i<s.l.length→Enc.inner (nth s.l i) w
 keep w w' h hb:=by
  obtain ⟨h1,h2,h3⟩:=h
  refine ⟨⟨h1.1, ?_⟩,h2,fun i hi=>Enc.keep _ w w' (h3 i hi) fun b hb' =>hb b (.inr ⟨i,hi,hb'⟩)⟩
  rcases h1.2 with hn|⟨g,cap,cur,hv,h0,hg,hr⟩
  ·exact .inl hn
  ·exact .inr ⟨g,cap,cur,hv,h0,(hb g (.inl (by rw [hv];rfl))).trans hg,hr⟩
 lt w h b hb:=by
  obtain ⟨h1,h2,h3⟩:=h
  rcases hb with hb|⟨i,hi,hb⟩
  ·exact (h1.lt b hb).2
  ·exact Enc.lt _ w (h3 i hi) b hb
section
variable {K:Nat→Prop} {W w w' :World} {L:List Asn} {α:Type} [Enc α]
theorem Sh.at (h:Sh K W w L) (i:Nat) {s:Ls α} (hi:L[i]? =some (.at_ s)):s.At w:=h.ok _ (List.mem_of_getElem? hi)
theorem Sh.blk (h:Sh K W w L) (i:Nat) {g:Nat} {E:TypeId} {cs:List Value} (hi:L[i]? =some (.blk g E cs)):Blk w g E cs.toArray:=h.ok _ (List.mem_of_getElem? hi)
theorem own_at {E:TypeId} {s:Ls α} (h:(Asn.own E s).ok w):s.At w:=by
 obtain ⟨h1,h2,h3⟩:=h
 obtain ⟨t,e,hv,hat,_⟩:=Sl.of_own h1 h2 h3
 obtain ⟨A,cap,l⟩:=t
 subst e
 exact ⟨A,cap,hv,hat⟩
theorem Sh.own (h:Sh K W w L) (i:Nat) {E:TypeId} {s:Ls α} (hi:L[i]? =some (.own E s)):s.At w:=own_at (h.ok _ (List.mem_of_getElem? hi))
theorem own_on {E:TypeId} {s:Ls α} (h:(Asn.own E s).ok w) {b:Nat} (hb:s.on b):(Asn.own E s).fp b∨(Asn.own E s).rd b:=by
 rcases hb with ⟨h0,rfl⟩|hb
 ·left
  rcases h.1.2 with ⟨hv,hn⟩|⟨g,cap,cur,hv,_⟩
  ·omega
  ·show s.v.ownBlock=_
   rw [hv];rfl
 ·exact .inr hb
theorem Sh.share (h:Sh K W w L) (i:Nat) {E:TypeId} {s:Ls α} (hi:L[i]? =some (.own E s)):Sh K W w (L.set i (.at_ s)):=
 h.put hi (Chg.refl _ _) (h.own i hi) (fun b hb=>hb.elim) (fun b hb=>(own_on (h.ok _ (List.mem_of_getElem? hi)) hb).elim .inl (fun h=> .inr (.inl h))) (fun b hb=>hb.elim)
end
end Go.Proofs.YtmjkobhkkjgplaaGreatDoor
end
namespace Go.Proofs.YtmjkobhkkjgplaaGreatDoor
open Go.RowKit
set_option linter.unusedSimpArgs false
set_option linter.unusedVariables false
def lk :List (Nat×Value)→Nat→Option Value
 | [],_=>none
 |(t,v)::r,u=>bif Nat.beq t u then some v else lk r u
def ev (F:List (Nat×Value)):Operand→Option Value
 | .tmp t=>lk F t
 | .const v=>some v
 | .global g=>some (.pointer (some ⟨g,0,none⟩))
 | .func f=>some (.func (.func f) #[] #[])
def evs (F:List (Nat×Value)):List Operand→Option (List Value)
 | []=>some []
 |x::r=>match ev F x with
  |some v=>match evs F r with
   |some vs=>some (v::vs)
   |none=>none
  |none=>none
structure Fr (N:Nat) (a:Act) (F:List (Nat×Value)):Prop where
 size:a.tmps.size=N
 defers:a.defers= []
 at_:∀t v,lk F t=some v→a.tmps[t]? =some v
theorem Fr.ev {N:Nat} {a:Act} {F:List (Nat×Value)} (h:Fr N a F) {x:Operand} {v:Value} (hx:ev F x=some v):a.eval x=v:=by
 cases x with
 |tmp t=>
  have:=h.at_ t v hx
  simp [Act.eval,Array.getD_eq_getD_getElem?,this]
 |const c=>simpa [Go.Proofs.YtmjkobhkkjgplaaGreatDoor.ev,Act.eval] using hx
 |global g=>simpa [Go.Proofs.YtmjkobhkkjgplaaGreatDoor.ev,Act.eval] using hx
 |func f=>simpa [Go.Proofs.YtmjkobhkkjgplaaGreatDoor.ev,Act.eval] using hx
theorem Fr.evs {N:Nat} {a:Act} {F:List (Nat×Value)} (h:Fr N a F):∀ {xs:List Operand} {vs:List Value},evs F xs=some vs→xs.map a.eval=vs
 | [],vs,hx=>by simp [Go.Proofs.YtmjkobhkkjgplaaGreatDoor.evs] at hx;simp [hx]
 |x::r,vs,hx=>by
  unfold Go.Proofs.YtmjkobhkkjgplaaGreatDoor.evs at hx
  split at hx
  ·rename_i v hv
   split at hx
   ·rename_i us hu
    simp only [Option.some.injEq] at hx
    subst hx
    simp [h.ev hv,h.evs hu]
   ·cases hx
  ·cases hx
theorem beq_no {d t:Nat} (h:d≠t):Nat.beq d t=false:=by
 cases hb:Nat.beq d t
 ·rfl
 ·exact absurd (Nat.eq_of_beq_eq_true hb) h
theorem lk_cons (d:Nat) (v:Value) (F:List (Nat×Value)) (t:Nat):lk ((d,v)::F) t=if d=t then some v else lk F t:=by
 show (bif Nat.beq d t then some v else lk F t)=_
 by_cases h:d=t
 ·subst h;simp
 ·simp [h,beq_no h]
theorem Fr.put {N:Nat} {a:Act} {F:List (Nat×Value)} (h:Fr N a F) (d:Nat) (hd:d<N) (v:Value):Fr N (a.put (some d) v) ((d,v)::F):=by
 refine ⟨by simp [Act.put,h.size],h.defers,fun t u htu=> ?_⟩
 rw [lk_cons] at htu
 simp only [Act.put,Array.getElem?_setIfInBounds]
 by_cases e:d=t
 ·subst e;simp at htu;simp [htu,h.size,hd]
 ·simp [e] at htu⊢;exact h.at_ t u htu
def rm (d:Nat):List (Nat×Value)→List (Nat×Value)
 | []=> []
 |(t,v)::r=>bif Nat.beq d t then rm d r else (t,v)::rm d r
theorem lk_rm (d:Nat):∀(F:List (Nat×Value)) (t:Nat) (v:Value),lk (rm d F) t=some v→d≠t∧lk F t=some v
 | [],t,v,h=>by simp [rm,lk] at h
 |(u,x)::r,t,v,h=>by
  unfold rm at h
  by_cases e:d=u
  ·subst e
   have e1:Nat.beq d d=true:=by simp
   rw [e1,cond_true] at h
   obtain ⟨h1,h2⟩:=lk_rm d r t v h
   exact ⟨h1,by rw [lk_cons,if_neg h1];exact h2⟩
  ·have e1:Nat.beq d u=false:=beq_no e
   rw [e1,cond_false,lk_cons] at h
   by_cases e2:u=t
   ·subst e2
    rw [if_pos rfl] at h
    exact ⟨e,by rw [lk_cons,if_pos rfl];exact h⟩
   ·rw [if_neg e2] at h
    obtain ⟨h1,h2⟩:=lk_rm d r t v h
    exact ⟨h1,by rw [lk_cons,if_neg e2];exact h2⟩
theorem Fr.skip {N:Nat} {a:Act} {F:List (Nat×Value)} (h:Fr N a F) (d:Nat):Fr N (a.put (some d) undef) (rm d F):=by
 refine ⟨by simp [Act.put,h.size],h.defers,fun t u htu=> ?_⟩
 obtain ⟨h1,h2⟩:=lk_rm d F t u htu
 simp only [Act.put,Array.getElem?_setIfInBounds,if_neg h1]
 exact h.at_ t u h2
def frOK (F:List (Nat×Value)):List (Nat×Value)→Prop
 | []=>True
 |(t,v)::r=>lk F t=some v∧frOK F r
theorem Fr.sub {N:Nat} {a:Act} {F F' :List (Nat×Value)} (h:Fr N a F) (hs:frOK F F'):Fr N a F' :=by
 refine ⟨h.size,h.defers,fun t v htv=>h.at_ t v ?_⟩
 induction F' with
 |nil=>simp [lk] at htv
 |cons x r ih=>
  obtain ⟨u,z⟩:=x
  rw [lk_cons] at htv
  by_cases e:u=t
  ·subst e;simp at htv;subst htv;exact hs.1
  ·simp [e] at htv;exact ih hs.2 htv
theorem Fr.same {N:Nat} {a:Act} {F:List (Nat×Value)} (h:Fr N a F) {d:Nat} {v v' :Value} (hd:lk F d=some v) (e:v=v'):Fr N a ((d,v')::F):=by
 subst e
 refine ⟨h.size,h.defers,fun t u htu=> ?_⟩
 rw [lk_cons] at htu
 by_cases e:d=t
 ·subst e;simp at htu;subst htu;exact h.at_ _ _ hd
 ·rw [if_neg e] at htu;exact h.at_ t u htu
structure St (N:Nat) (K:Nat→Prop) (W:World) (a:Act) (w:World) (F:List (Nat×Value)) (L:List Asn):Prop where
 fr:Fr N a F
 sh:Sh K W w L
section
variable {P:Program} {N:Nat} {K:Nat→Prop} {W w:World} {a:Act} {F F' :List (Nat×Value)} {L L' :List Asn} {o:Oper} {ops:Array Oper} {rest:List Oper} {Q:Exit→Act→World→Prop}
theorem St.sub (h:St N K W a w F L) (hs:frOK F F'):St N K W a w F' L:=⟨h.fr.sub hs,h.sh⟩
theorem St.sel (h:St N K W a w F L) (is:List Nat) (hs:selB L is=some L'):St N K W a w F L' :=⟨h.fr,h.sh.sel is hs⟩
theorem St.nrm (h:St N K W a w F L) (hs:frOK F F') (is:List Nat) (hl:selB L is=some L'):St N K W a w F' L' :=⟨h.fr.sub hs,h.sh.sel is hl⟩
theorem St.nf (h:St N K W a w F L) (hs:frOK F F'):St N K W a w F' L:=⟨h.fr.sub hs,h.sh⟩
theorem St.same {d:Nat} {v v' :Value} (h:St N K W a w F L) (hd:lk F d=some v) (e:v=v'):St N K W a w ((d,v')::F) L:=⟨h.fr.same hd e,h.sh⟩
theorem St.drew (h:St N K W a w F L):St N K W a w.drew F L:=⟨h.fr,h.sh.drew⟩
def Ex (P:Program) (o:Oper) (a:Act) (w:World) (R:Act→World→Prop):Prop:=∀(next:Act→World→Prop) (Q:Exit→Act→World→Prop),(∀a' w',R a' w' →next a' w')→o.wp P a w next Q
def Rn (P:Program) (o:Oper) (N:Nat) (K:Nat→Prop) (W:World) (F:List (Nat×Value)) (L:List Asn) (v:Value):Prop:=∀a w,St N K W a w F L→(execOp a.eval o).run P w= .ok (.value v) w
theorem Ex.of_run {R:Act→World→Prop} {v:Value} {w' :World} (hr:(execOp a.eval o).run P w= .ok (.value v) w') (h:R (a.put o.dst v) w'):Ex P o a w R:=by
 intro next Q hn
 unfold Oper.wp
 rw [hr]
 exact hn _ _ h
theorem Ex.of_skip {R:Act→World→Prop} {w' :World} (hr:(execOp a.eval o).run P w= .ok .skip w') (h:R (a.put o.dst undef) w'):Ex P o a w R:=by
 intro next Q hn
 unfold Oper.wp
 rw [hr]
 exact hn _ _ h
theorem Ex.mono {R R' :Act→World→Prop} (h:Ex P o a w R) (hr:∀a' w',R a' w' →R' a' w'):Ex P o a w R' :=fun next Q hn=>h next Q fun a' w' x=>hn a' w' (hr a' w' x)
theorem wanted_none (hg:o.guard=none) (y:Nat→Option Bool):Region.wanted o y=true:=by simp [Region.wanted,hg]
theorem yielded_of {a:Act} {t j:Nat} {oj:Oper} {b:Bool} (h:Fr N a F) (hj:ops[j]? =some oj) (hd:oj.dst=some t) (hv:lk F t=some (.bool b)):yielded ops a.tmps j=some b:=by
 unfold yielded
 simp [hj,hd,h.at_ t _ hv]
theorem wanted_yes {a:Act} {t j:Nat} {oj:Oper} {b want:Bool} (h:Fr N a F) (hg:o.guard=some (j,want)) (hj:ops[j]? =some oj) (hd:oj.dst=some t) (hv:lk F t=some (.bool b)) (hb:b=want):Region.wanted o (yielded ops a.tmps)=true:=by
 simp [Region.wanted,hg,yielded_of h hj hd hv,hb]
theorem wanted_no {a:Act} {t j:Nat} {oj:Oper} {b want:Bool} (h:Fr N a F) (hg:o.guard=some (j,want)) (hj:ops[j]? =some oj) (hd:oj.dst=some t) (hv:lk F t=some (.bool b)) (hb:b= !want):Region.wanted o (yielded ops a.tmps)=false:=by
 rw [Region.wanted,hg]
 show (yielded ops a.tmps j==some want)=false
 rw [yielded_of h hj hd hv,hb]
 cases want<;>rfl
theorem wl_val {d:Nat} {v:Value} (h:St N K W a w F L) (hr:Rn P o N K W F L v) (hw:Region.wanted o (yielded ops a.tmps)=true) (hd:o.dst=some d) (hdN:Nat.blt d N=true)
  (k:∀a',St N K W a' w ((d,v)::F) L→wpList P ops Q rest a' w):wpList P ops Q (o::rest) a w:=by
 unfold wpList
 rw [if_pos hw]
 left
 unfold Oper.wp
 rw [hr a w h]
 exact k _ ⟨by rw [hd];exact h.fr.put d (by simpa [Nat.blt_eq] using hdN) v,h.sh⟩
def okg (o:Oper) (d N:Nat):Bool:=o.guard.isNone&&Nat.blt d N
theorem wv {d:Nat} {v:Value} (h:St N K W a w F L) (hr:Rn P o N K W F L v) (hd:o.dst=some d) (hc:okg o d N=true)
  (k:∀a',St N K W a' w ((d,v)::F) L→wpList P ops Q rest a' w):wpList P ops Q (o::rest) a w:=by
 simp only [okg,Bool.and_eq_true,Option.isNone_iff_eq_none] at hc
 exact wl_val h hr (wanted_none hc.1 _) hd hc.2 k
theorem gl {l:List Oper} (h:St N K W a w F L) (k:∀a,St N K W a w F L→wpList P ops Q l a w):wpList P ops Q l a w:=k a h
def mvN (N:Nat):Nat→List Oper→List (Nat×Value)→Option (List Oper×List (Nat×Value))
 |0,l,F=>some (l,F)
 |_+1, [],_=>none
 |n+1,o::l,F=>match o.guard,o.dst,o.op with
  |none,some d, .move x=>match ev F x with
   |some v=>bif Nat.blt d N then mvN N n l ((d,v)::F) else none
   |none=>none
  |none,some d, .assign x=>match ev F x with
   |some v=>bif Nat.blt d N then mvN N n l ((d,v)::F) else none
   |none=>none
  |_,_,_=>none
theorem wl_ex {R:Act→World→Prop} (hx:Ex P o a w R) (hw:Region.wanted o (yielded ops a.tmps)=true) (k:∀a' w',R a' w' →wpList P ops Q rest a' w'):wpList P ops Q (o::rest) a w:=by
 unfold wpList
 rw [if_pos hw]
 exact .inl (hx _ _ k)
theorem wl_skip {d:Nat} (h:St N K W a w F L) (hw:Region.wanted o (yielded ops a.tmps)=false) (hd:o.dst=some d) (hdN:Nat.blt d N=true) (k:∀a',St N K W a' w ((d,undef)::F) L→wpList P ops Q rest a' w):wpList P ops Q (o::rest) a w:=by
 unfold wpList
 rw [if_neg (by simp [hw])]
 exact k _ ⟨by rw [hd];exact h.fr.put d (by simpa [Nat.blt_eq] using hdN) undef,h.sh⟩
theorem wq_val {d:Nat} {v:Value} {Q:Act→Prop} (h:Fr N a F) (hr:Rn P o N K W F L v) (hw:Region.wanted o (yielded ops a.tmps)=true) (hd:o.dst=some d) (hdN:Nat.blt d N=true)
  (k:∀a',Fr N a' ((d,v)::F)→wpQuiet P ops (fun w=>Sh K W w L) Q rest a'):wpQuiet P ops (fun w=>Sh K W w L) Q (o::rest) a:=by
 unfold wpQuiet
 rw [if_pos hw]
 refine ⟨v,fun w hw=> ?_,k _ (by rw [hd];exact h.put d (by simpa [Nat.blt_eq] using hdN) v)⟩
 unfold Oper.quietAt
 rw [hr a w ⟨h,hw⟩]
 exact ⟨rfl,rfl⟩
theorem ql {Q:Act→Prop} {l:List Oper} (h:Fr N a F) (k:∀a,Fr N a F→wpQuiet P ops (fun w=>Sh K W w L) Q l a):wpQuiet P ops (fun w=>Sh K W w L) Q l a:=k a h
theorem wq_skip {d:Nat} {Q:Act→Prop} (h:Fr N a F) (hw:Region.wanted o (yielded ops a.tmps)=false) (hd:o.dst=some d) (hdN:Nat.blt d N=true)
  (k:∀a',Fr N a' ((d,undef)::F)→wpQuiet P ops (fun w=>Sh K W w L) Q rest a'):wpQuiet P ops (fun w=>Sh K W w L) Q (o::rest) a:=by
 unfold wpQuiet
 rw [if_neg (by simp [hw])]
 exact k _ (by rw [hd];exact h.put d (by simpa [Nat.blt_eq] using hdN) undef)
theorem x_quiet {id:Nat} {l:List Oper} (hm:P.follows .mixedOrders=true) (hB:Region.lexB .any l.toArray=true) (h:St N K W a w F L)
  (k:∀Z:Act→Prop,(∀a',(∀w',Sh K W w' L→Q .normal a' w')→Z a')→wpQuiet P l.toArray (fun w' =>Sh K W w' L) Z l a):(Code.region id l.toArray true).wp P Q a w:=by
 refine wp_region_quiet (C:=fun w' =>Sh K W w' L) hm hB h.sh.drew ?_
 simpa using k (fun a' =>∀w',Sh K W w' L→Q .normal a' w') (fun _ h=>h)
theorem Rn.of {v:Value} (h:∀a w,St N K W a w F L→(execOp a.eval o).run P w= .ok (.value v) w):Rn P o N K W F L v:=h
theorem r_move {x:Operand} {v:Value} (ho:o.op= .move x) (hx:ev F x=some v):Rn P o N K W F L v:=fun a w h=>by unfold execOp;simp [ho,h.fr.ev hx]
theorem r_assign {x:Operand} {v:Value} (ho:o.op= .assign x) (hx:ev F x=some v):Rn P o N K W F L v:=fun a w h=>by unfold execOp;simp [ho,h.fr.ev hx]
theorem r_pickT {c x y:Operand} {b:Bool} {u:Value} (ho:o.op= .pick c x y) (hc:ev F c=some (.bool b)) (hb:b=true) (hx:ev F x=some u):Rn P o N K W F L u:=fun a w h=>by
 unfold execOp;simp [ho,h.fr.ev hc,h.fr.ev hx,asBool,hb]
theorem r_pickF {c x y:Operand} {b:Bool} {u:Value} (ho:o.op= .pick c x y) (hc:ev F c=some (.bool b)) (hb:b=false) (hy:ev F y=some u):Rn P o N K W F L u:=fun a w h=>by
 unfold execOp;simp [ho,h.fr.ev hc,h.fr.ev hy,asBool,hb]
theorem r_not {T:TypeId} {x:Operand} {b:Bool} (ho:o.op= .unOp .not T x) (hx:ev F x=some (.bool b)):Rn P o N K W F L (.bool (!b)):=fun a w h=>by
 unfold execOp;simp [ho,h.fr.ev hx,Op.unary]
theorem r_extract {x:Operand} {i:Nat} {vs:Array Value} {v:Value} (ho:o.op= .extract x i) (hx:ev F x=some (.tuple vs)) (hv:vs[i]? =some v):Rn P o N K W F L v:=fun a w h=>by
 unfold execOp;simp [ho,h.fr.ev hx,Instr.extract,hv]
theorem r_nil {x:Operand} {p:Addr} (ho:o.op= .nilCheck x) (hx:ev F x=some (.pointer (some p))):Rn P o N K W F L (.pointer (some p)):=fun a w h=>by
 unfold execOp;simp [ho,h.fr.ev hx]
theorem r_makeFunc {fn:Fn} {xs ys:List Operand} {us vs:List Value} (ho:o.op= .makeFunc fn xs.toArray ys.toArray) (hx:evs F xs=some us) (hy:evs F ys=some vs):Rn P o N K W F L (.func fn us.toArray vs.toArray):=fun a w h=>by
 unfold execOp;simp [ho,h.fr.evs hx,h.fr.evs hy,Instr.makeFunc]
section
variable {T U:TypeId} {x y:Operand}
theorem r_bin {op:BinOp} {k:IntKind} {p q:Int} {v:Value} (ho:o.op= .binOp op T x y U) (hx:ev F x=some (.int k p)) (hy:ev F y=some (.int k q)) (hv:∀w,(binOp op T (.int k p) (.int k q)).run P w= .ok v w):Rn P o N K W F L v:=fun a w h=>by
 unfold execOp;simp only [ho,h.fr.ev hx,h.fr.ev hy,eqGuard_at_int,Sem.run_bind,Sem.run_pure,Result.andThen_ok,hv]
theorem r_addW {p q:Int} (ho:o.op= .binOp .add T x y U) (hx:ev F x=some (.int .i64 p)) (hy:ev F y=some (.int .i64 q)):Rn P o N K W F L (.int .i64 (wrap64 (p+q))):=r_bin ho hx hy fun w=>by simp [go_sem];exact IntWalk.i64_left _
theorem r_subW {p q:Int} (ho:o.op= .binOp .sub T x y U) (hx:ev F x=some (.int .i64 p)) (hy:ev F y=some (.int .i64 q)):Rn P o N K W F L (.int .i64 (wrap64 (p-q))):=r_bin ho hx hy fun w=>by simp [go_sem];exact IntWalk.i64_left _
theorem r_mulW {p q:Int} (ho:o.op= .binOp .mul T x y U) (hx:ev F x=some (.int .i64 p)) (hy:ev F y=some (.int .i64 q)):Rn P o N K W F L (.int .i64 (wrap64 (p*q))):=r_bin ho hx hy fun w=>by simp [go_sem];exact IntWalk.i64_left _
theorem r_addI {p q:Int} (ho:o.op= .binOp .add T x y U) (hx:ev F x=some (.int .i64 p)) (hy:ev F y=some (.int .i64 q)) (hb: -9223372036854775808≤p+q∧p+q<9223372036854775808):Rn P o N K W F L (.int .i64 (p+q)):=by
 have:=r_addW (P:=P) (N:=N) (K:=K) (W:=W) (L:=L) ho hx hy;rwa [IntWalk.wrap64_in _ ⟨by omega,by omega⟩] at this
theorem r_subI {p q:Int} (ho:o.op= .binOp .sub T x y U) (hx:ev F x=some (.int .i64 p)) (hy:ev F y=some (.int .i64 q)) (hb: -9223372036854775808≤p-q∧p-q<9223372036854775808):Rn P o N K W F L (.int .i64 (p-q)):=by
 have:=r_subW (P:=P) (N:=N) (K:=K) (W:=W) (L:=L) ho hx hy;rwa [IntWalk.wrap64_in _ ⟨by omega,by omega⟩] at this
theorem r_mulI {p q:Int} (ho:o.op= .binOp .mul T x y U) (hx:ev F x=some (.int .i64 p)) (hy:ev F y=some (.int .i64 q)) (hb: -9223372036854775808≤p*q∧p*q<9223372036854775808):Rn P o N K W F L (.int .i64 (p*q)):=by
 have:=r_mulW (P:=P) (N:=N) (K:=K) (W:=W) (L:=L) ho hx hy;rwa [IntWalk.wrap64_in _ ⟨by omega,by omega⟩] at this
theorem r_addN {p q:Nat} (ho:o.op= .binOp .add T x y U) (hx:ev F x=some (.int .i64 (p:Int))) (hy:ev F y=some (.int .i64 (q:Int))) (hb:p+q<9223372036854775808):Rn P o N K W F L (.int .i64 ((p+q:Nat):Int)):=by
 rw [Int.natCast_add];exact r_addI ho hx hy (by omega)
theorem r_subN {p q:Nat} (ho:o.op= .binOp .sub T x y U) (hx:ev F x=some (.int .i64 (p:Int))) (hy:ev F y=some (.int .i64 (q:Int))) (hb:q≤p∧p<9223372036854775808):Rn P o N K W F L (.int .i64 ((p-q:Nat):Int)):=by
 rw [Int.natCast_sub hb.1];exact r_subI ho hx hy (by omega)
theorem r_mulN {p q:Nat} (ho:o.op= .binOp .mul T x y U) (hx:ev F x=some (.int .i64 (p:Int))) (hy:ev F y=some (.int .i64 (q:Int))) (hb:p*q<9223372036854775808):Rn P o N K W F L (.int .i64 ((p*q:Nat):Int)):=by
 rw [Int.natCast_mul];exact r_mulI ho hx hy ⟨by rw [←Int.natCast_mul];omega,by rw [←Int.natCast_mul];omega⟩
theorem r_quoN {p q:Nat} (ho:o.op= .binOp .quo T x y U) (hx:ev F x=some (.int .i64 (p:Int))) (hy:ev F y=some (.int .i64 (q:Int))) (hb:0<q∧p<9223372036854775808):Rn P o N K W F L (.int .i64 ((p/q:Nat):Int)):=r_bin ho hx hy fun w=>by
 have h1:¬(q:Int)=0:=by omega
 have h0:¬q=0:=by omega
 have h2:(p:Int).tdiv q=((p/q:Nat):Int):=by rw [Int.tdiv_eq_ediv_of_nonneg (by omega)];rfl
 have h3:IntKind.i64.wrap ((p/q:Nat):Int)=((p/q:Nat):Int):=by
  have:p/q≤p:=Nat.div_le_self _ _
  generalize p/q=z at this
  exact IntWalk.i64_in _ ⟨by omega,by omega⟩
 simp [go_sem,h0,h1,h2];first|exact h3|(simp at h3;omega)
theorem r_remN {p q:Nat} (ho:o.op= .binOp .rem T x y U) (hx:ev F x=some (.int .i64 (p:Int))) (hy:ev F y=some (.int .i64 (q:Int))) (hb:0<q∧p<9223372036854775808):Rn P o N K W F L (.int .i64 ((p%q:Nat):Int)):=r_bin ho hx hy fun w=>by
 have h1:¬(q:Int)=0:=by omega
 have h0:¬q=0:=by omega
 have h2:(p:Int).tmod q=((p%q:Nat):Int):=by rw [Int.tmod_eq_emod_of_nonneg (by omega)];rfl
 simp [go_sem,h0,h1,h2];try rfl
theorem r_lssI {k:IntKind} {p q:Int} (ho:o.op= .binOp .lss T x y U) (hx:ev F x=some (.int k p)) (hy:ev F y=some (.int k q)):Rn P o N K W F L (.bool (decide (p<q))):=r_bin ho hx hy fun w=>by simp [go_sem]
theorem r_gtrI {k:IntKind} {p q:Int} (ho:o.op= .binOp .gtr T x y U) (hx:ev F x=some (.int k p)) (hy:ev F y=some (.int k q)):Rn P o N K W F L (.bool (decide (q<p))):=r_bin ho hx hy fun w=>by simp [go_sem]
theorem r_geqI {k:IntKind} {p q:Int} (ho:o.op= .binOp .geq T x y U) (hx:ev F x=some (.int k p)) (hy:ev F y=some (.int k q)):Rn P o N K W F L (.bool (decide (q≤p))):=r_bin ho hx hy fun w=>by simp [go_sem]
theorem r_eqlI {k:IntKind} {p q:Int} (ho:o.op= .binOp .eql T x y U) (hx:ev F x=some (.int k p)) (hy:ev F y=some (.int k q)):Rn P o N K W F L (.bool (decide (p=q))):=r_bin ho hx hy fun w=>by simp [go_sem];rfl
theorem r_neqI {k:IntKind} {p q:Int} (ho:o.op= .binOp .neq T x y U) (hx:ev F x=some (.int k p)) (hy:ev F y=some (.int k q)):Rn P o N K W F L (.bool (decide (p≠q))):=r_bin ho hx hy fun w=>by
 simp [go_sem,bne];rfl
theorem r_lssN {k:IntKind} {p q:Nat} (ho:o.op= .binOp .lss T x y U) (hx:ev F x=some (.int k (p:Int))) (hy:ev F y=some (.int k (q:Int))):Rn P o N K W F L (.bool (decide (p<q))):=by
 have:=r_lssI (P:=P) (N:=N) (K:=K) (W:=W) (L:=L) ho hx hy;simpa using this
theorem r_gtrN {k:IntKind} {p q:Nat} (ho:o.op= .binOp .gtr T x y U) (hx:ev F x=some (.int k (p:Int))) (hy:ev F y=some (.int k (q:Int))):Rn P o N K W F L (.bool (decide (q<p))):=by
 have:=r_gtrI (P:=P) (N:=N) (K:=K) (W:=W) (L:=L) ho hx hy;simpa using this
theorem r_geqN {k:IntKind} {p q:Nat} (ho:o.op= .binOp .geq T x y U) (hx:ev F x=some (.int k (p:Int))) (hy:ev F y=some (.int k (q:Int))):Rn P o N K W F L (.bool (decide (q≤p))):=by
 have:=r_geqI (P:=P) (N:=N) (K:=K) (W:=W) (L:=L) ho hx hy;simpa using this
theorem r_eqlN {k:IntKind} {p q:Nat} (ho:o.op= .binOp .eql T x y U) (hx:ev F x=some (.int k (p:Int))) (hy:ev F y=some (.int k (q:Int))):Rn P o N K W F L (.bool (decide (p=q))):=by
 have:=r_eqlI (P:=P) (N:=N) (K:=K) (W:=W) (L:=L) ho hx hy
 have e:decide ((p:Int)=(q:Int))=decide (p=q):=by simp;omega
 rwa [e] at this
theorem r_neqN {k:IntKind} {p q:Nat} (ho:o.op= .binOp .neq T x y U) (hx:ev F x=some (.int k (p:Int))) (hy:ev F y=some (.int k (q:Int))):Rn P o N K W F L (.bool (decide (p≠q))):=by
 have:=r_neqI (P:=P) (N:=N) (K:=K) (W:=W) (L:=L) ho hx hy
 have e:decide ((p:Int)≠(q:Int))=decide (p≠q):=by simp;omega
 rwa [e] at this
end
end
end Go.Proofs.YtmjkobhkkjgplaaGreatDoor
end
section
namespace Go.Proofs.YtmjkobhkkjgplaaGreatDoor
open Go.RowKit
set_option linter.unusedSimpArgs false
set_option linter.unusedVariables false
def aggD :TypeDesc→Bool
 | .struct _| .array _ _=>true
 |_=>false
def tyI (P:Program) (T:TypeId):Option (Bool×Nat×Nat×List Value):=match P.info? T,P.underlying T with
 |some i,some d=>match i.zero with
  |some z=>some (aggD d,i.size,i.bytes,z.cells.toList)
  |none=>none
 |_,_=>none
def slI (P:Program) (T:TypeId):Option TypeId:=match P.underlying T with
 |some (.slice e)=>some e
 |_=>none
def flI (P:Program) (T:TypeId) (f:Nat):Option Nat:=match P.underlying T with
 |some (.struct fs)=>match fs[f]? with
  |some fd=>match P.info? fd.type with
   |some i=>if i.size=0 then none else some fd.offset
   |none=>none
  |none=>none
 |_=>none
def bodyI (P:Program) (f:FuncId):Bool:=match P.funcs[f]? with
 |some fn=> !(fn.name== "runtime.NumGoroutine")&&fn.body.isSome
 |none=>false
section
variable {P:Program} {N:Nat} {K:Nat→Prop} {W w:World} {a:Act} {F F' :List (Nat×Value)} {L L' :List Asn} {o:Oper} {ops:Array Oper} {rest:List Oper} {Q:Exit→Act→World→Prop}
theorem tyI_parts {T:TypeId} {g:Bool} {n by_:Nat} {z:List Value} (h:tyI P T=some (g,n,by_,z)):
  ∃i d zv,P.info? T=some i∧P.underlying T=some d∧aggD d=g∧i.size=n∧i.bytes=by_∧i.zero=some zv∧zv.cells.toList=z:=by
 unfold tyI at h
 split at h
 ·rename_i i d h1 h2
  split at h
  ·rename_i zv hz
   simp only [Option.some.injEq,Prod.mk.injEq] at h
   exact ⟨i,d,zv,h1,h2,h.1,h.2.1,h.2.2.1,hz,h.2.2.2⟩
  ·cases h
 ·cases h
theorem slI_parts {T e:TypeId} (h:slI P T=some e):P.underlying T=some (.slice e):=by
 unfold slI at h
 split at h
 ·simp at h;subst h;assumption
 ·cases h
theorem run_sizeOf {T:TypeId} {i:TypeInfo} (h:P.info? T=some i) (w:World):(sizeOf T).run P w= .ok i.size w:=by simp [sizeOf,typeInfo,h]
theorem run_zero {T:TypeId} {i:TypeInfo} {z:Value} (h:P.info? T=some i) (hz:i.zero=some z) (w:World):(zeroValue T).run P w= .ok z w:=by simp [zeroValue,typeInfo,h,hz]
theorem run_isAgg {T:TypeId} {d:TypeDesc} (h:P.underlying T=some d) (w:World):(isAgg T).run P w= .ok (aggD d) w:=by
 unfold isAgg
 rw [Sem.run_bind,run_underlying h]
 cases d<;>rfl
theorem run_fieldAt {T:TypeId} {f k:Nat} {p:Addr} (h:flI P T f=some k) (w:World):(Instr.fieldAt T (.pointer (some p)) f).run P w= .ok (.pointer (some (p.add k))) w:=by
 unfold flI at h
 split at h
 ·rename_i fs hfs
  split at h
  ·rename_i fd hfd
   split at h
   ·rename_i i hi
    split at h
    ·cases h
    ·rename_i hne
     simp only [Option.some.injEq] at h
     subst h
     simp [Instr.fieldAt,run_underlying hfs,hfd,Instr.sureAddr,fieldPlace,run_sizeOf hi,hne]
   ·cases h
  ·cases h
 ·cases h
theorem r_fieldB {T:TypeId} {x:Operand} {f k g q r:Nat} (hT:flI P T f=some k) (ho:o.op= .fieldAddr T x f) (hx:ev F x=some (.pointer (some ⟨g,q,none⟩))) (hr:q+k=r):Rn P o N K W F L (.pointer (some ⟨g,r,none⟩)):=fun a w h=>by
 subst hr
 unfold execOp;simp only [ho,h.fr.ev hx,Sem.run_bind,run_fieldAt hT,Addr.add_lit,Result.andThen_ok,Sem.run_pure]
theorem r_fieldE {T:TypeId} {x:Operand} {f k sz i j r:Nat} {v:Value} (hT:flI P T f=some k) (ho:o.op= .fieldAddr T x f) (hx:ev F x=some (.pointer (some (padr v sz i j)))) (hr:j+k=r):Rn P o N K W F L (.pointer (some (padr v sz i r))):=fun a w h=>by
 subst hr
 unfold execOp;simp only [ho,h.fr.ev hx,Sem.run_bind,run_fieldAt hT,padr_add,Result.andThen_ok,Sem.run_pure]
section
variable {α:Type} [Enc α]
theorem run_index {T e:TypeId} {g:Bool} {n by_:Nat} {z:List Value} {s:Ls α} {kd:IntKind} {q:Int} (hT:slI P T=some e) (he:tyI P e=some (g,n,by_,z)) (hat:s.At w) (h0:0≤q) (h1:q<s.l.length):
  (Instr.indexAt T s.v (.int kd q)).run P w= .ok (.pointer (some (padr s.v n q.toNat 0))) w:=by
 obtain ⟨i,d,zv,hi,hd,_,rfl,_⟩:=tyI_parts he
 obtain ⟨A,cap,hv,hA⟩:=hat
 obtain ⟨b,hb,hs⟩:=hA.some (show 0<s.l.length by omega)
 have hu:=slI_parts hT
 have hel:P.elem T=e:=by simp [Program.elem,hu]
 simp only at hb
 subst hb
 rw [hv,run_indexAt_slice (h:=by rw [hel];exact hu),if_pos ⟨h0,h1⟩,hel,run_sizeOf hi]
 obtain ⟨blk,off,sp⟩:=b
 simp only at hs
 subst hs
 simp [Result.andThen_ok,padr,vblk,voff,Addr.add_lit]
theorem r_ixI {T e:TypeId} {g:Bool} {n by_:Nat} {z:List Value} {s:Ls α} {kd:IntKind} {q:Int} {x y:Operand} (hT:slI P T=some e) (he:tyI P e=some (g,n,by_,z)) (ho:o.op= .indexAddr T x y) (hx:ev F x=some s.v) (hy:ev F y=some (.int kd q)) (hat:∀w,Sh K W w L→s.At w)
  (hb:0≤q∧q<s.l.length):Rn P o N K W F L (.pointer (some (padr s.v n q.toNat 0))):=fun a w h=>by
 unfold execOp;simp only [ho,h.fr.ev hx,h.fr.ev hy,Sem.run_bind,run_index hT he (hat w h.sh) hb.1 hb.2,Result.andThen_ok,Sem.run_pure]
theorem r_ixN {T e:TypeId} {g:Bool} {n by_:Nat} {z:List Value} {s:Ls α} {kd:IntKind} {q:Nat} {x y:Operand} (hT:slI P T=some e) (he:tyI P e=some (g,n,by_,z)) (ho:o.op= .indexAddr T x y) (hx:ev F x=some s.v) (hy:ev F y=some (.int kd (q:Int))) (hat:∀w,Sh K W w L→s.At w)
  (hb:q<s.l.length):Rn P o N K W F L (.pointer (some (padr s.v n q 0))):=by
 simpa using r_ixI (P:=P) (N:=N) (K:=K) (W:=W) (L:=L) hT he ho hx hy hat ⟨by omega,by omega⟩
theorem r_len {T e:TypeId} {s:Ls α} {x:Operand} {n:Nat} (hT:slI P T=some e) (ho:o.op= .call ⟨.builtin .len, #[x], #[T]⟩) (hx:ev F x=some s.v) (hat:∀w,Sh K W w L→s.At w) (hn:s.l.length=n):Rn P o N K W F L (.int .i64 (n:Int)):=fun a w h=>by
 subst hn
 obtain ⟨A,cap,hv,_⟩:=hat w h.sh
 have hu:=slI_parts hT
 have hel:P.elem T=e:=by simp [Program.elem,hu]
 unfold execOp
 have e1:=h.fr.ev hx
 rw [hv] at e1
 simp [ho,resolve,invoke,builtin,e1,run_len_slice _ _ _ _ _ _ (show P.underlying T=some (.slice (P.elem T)) by rw [hel];exact hu),goInt]
theorem run_load1 {T:TypeId} {n by_:Nat} {z:List Value} {p:Addr} {v:Value} (hT:tyI P T=some (false,n,by_,z)) (hc:w.cell? p=some v):(Instr.loadAt T (.pointer (some p))).run P w= .ok v w:=by
 obtain ⟨i,d,zv,hi,hd,hg,_⟩:=tyI_parts hT
 simp [Instr.loadAt,Instr.sureAddr,loadVar,run_isAgg hd,hg,hc]
theorem run_loadN {T:TypeId} {n by_:Nat} {z:List Value} {p:Addr} {vs:List Value} (hT:tyI P T=some (true,n,by_,z)) (hn:vs.length=n) (hc:∀(j:Nat) (v:Value),vs[j]? =some v→w.cell? (p.add j)=some v):(Instr.loadAt T (.pointer (some p))).run P w= .ok (.agg vs.toArray) w:=by
 obtain ⟨i,d,zv,hi,hd,hg,hs,_⟩:=tyI_parts hT
 subst hn
 simp [Instr.loadAt,Instr.sureAddr,loadVar,run_isAgg hd,hg,run_sizeOf hi,hs,run_loadCells_list (P:=P) w p vs hc]
theorem r_ldb {T:TypeId} {n by_:Nat} {z:List Value} {x:Operand} {g q i:Nat} {E:TypeId} {cs:List Value} {v:Value} (hT:tyI P T=some (false,n,by_,z)) (ho:o.op= .load T x) (hx:ev F x=some (.pointer (some ⟨g,q,none⟩)))
  (hi:L[i]? =some (.blk g E cs)) (hv:cs[q]? =some v):Rn P o N K W F L v:=fun a w h=>by
 have hc:w.cell? ⟨g,q,none⟩=some v:=by rw [(h.sh.blk i hi).cell q];simpa using hv
 unfold execOp;simp only [ho,h.fr.ev hx,Sem.run_bind,run_load1 hT hc,Result.andThen_ok,Sem.run_pure]
theorem r_ldbw {T:TypeId} {n by_:Nat} {z:List Value} {x:Operand} {g q i:Nat} {E:TypeId} {cs vs:List Value} (hT:tyI P T=some (true,n,by_,z)) (ho:o.op= .load T x) (hx:ev F x=some (.pointer (some ⟨g,q,none⟩)))
  (hi:L[i]? =some (.blk g E cs)) (hv:(cs.drop q).take n=vs) (hn:vs.length=n):Rn P o N K W F L (.agg vs.toArray):=fun a w h=>by
 have hc:∀(j:Nat) (v:Value),vs[j]? =some v→w.cell? ((⟨g,q,none⟩:Addr).add j)=some v:=by
  intro j v hj
  rw [Addr.add_lit,(h.sh.blk i hi).cell (q+j)]
  rw [←hv,List.getElem?_take] at hj
  split at hj
  ·rw [List.getElem?_drop] at hj;simpa using hj
  ·cases hj
 unfold execOp;simp only [ho,h.fr.ev hx,Sem.run_bind,run_loadN hT hn hc,Result.andThen_ok,Sem.run_pure]
theorem r_lde {T:TypeId} {n by_:Nat} {z:List Value} {x:Operand} {i j sz:Nat} {s:Ls α} {v:Value} (hT:tyI P T=some (false,n,by_,z)) (ho:o.op= .load T x) (hx:ev F x=some (.pointer (some (padr s.v sz i j))))
  (hsz:Enc.sz α=sz) (hat:∀w,Sh K W w L→s.At w) (hi:i<s.l.length) (hj:j<sz) (hv:Enc.cell (nth s.l i) j=v):Rn P o N K W F L v:=fun a w h=>by
 subst hsz
 have hc:=(hat w h.sh).cell i j hi hj
 rw [hv] at hc
 unfold execOp;simp only [ho,h.fr.ev hx,Sem.run_bind,run_load1 hT hc,Result.andThen_ok,Sem.run_pure]
theorem r_ldew {T:TypeId} {n by_:Nat} {z:List Value} {x:Operand} {i j sz:Nat} {s:Ls α} {vs:List Value} (hT:tyI P T=some (true,n,by_,z)) (ho:o.op= .load T x) (hx:ev F x=some (.pointer (some (padr s.v sz i j))))
  (hsz:Enc.sz α=sz) (hat:∀w,Sh K W w L→s.At w) (hi:i<s.l.length) (hj:j+n≤sz) (hv:(List.range n).map (fun q=>Enc.cell (nth s.l i) (j+q))=vs):Rn P o N K W F L (.agg vs.toArray):=fun a w h=>by
 subst hsz
 subst hv
 have hc:∀(q:Nat) (v:Value),((List.range n).map (fun q=>Enc.cell (nth s.l i) (j+q)))[q]? =some v→w.cell? ((padr s.v (Enc.sz α) i j).add q)=some v:=by
  intro q v hq
  have hqn:q<n:=by
   have:=(List.getElem?_eq_some_iff.1 hq).1
   simpa using this
  rw [padr_add,(hat w h.sh).cell i (j+q) hi (by omega)]
  simpa [hqn] using hq
 unfold execOp;simp only [ho,h.fr.ev hx,Sem.run_bind,run_loadN hT (by simp) hc,Result.andThen_ok,Sem.run_pure]
end
theorem St.push_blk {d g:Nat} {v:Value} {T:TypeId} {cs:List Value} (h:St N K W a w F L) (hd:Nat.blt d N=true):
  St N K W (a.put (some d) (.pointer (some ⟨w.heap.size,0,none⟩))) (w.alloc (.cells cs.toArray T)) ((d, .pointer (some ⟨w.heap.size,0,none⟩))::F) (.blk w.heap.size T cs::L):=
 ⟨h.fr.put d (by simpa [Nat.blt_eq] using hd) _,h.sh.push (Chg.alloc _ w _) (Blk.new w T cs.toArray) (fun b hb=>by rw [show b=w.heap.size from hb];exact Nat.le_refl _) (fun b hb=>hb.elim) (fun b _ hb=>hb)⟩
theorem x_alloc {d:Nat} {T:TypeId} {g:Bool} {n by_:Nat} {z:List Value} (h:St N K W a w F L) (hT:tyI P T=some (g,n,by_,z)) (ho:o.op= .alloc T) (hd:o.dst=some d) (hdN:Nat.blt d N=true):
  Ex P o a w (fun a' w' =>∃b:Nat,St N K W a' w' ((d, .pointer (some ⟨b,0,none⟩))::F) (.blk b T z::L)):=by
 obtain ⟨i,e,zv,hi,he,_,_,_,hz,hzc⟩:=tyI_parts hT
 refine Ex.of_run (v:= .pointer (some ⟨w.heap.size,0,none⟩)) (w' :=w.alloc (.cells z.toArray T)) ?_ ⟨w.heap.size, ?_⟩
 ·unfold execOp
  simp only [ho,Sem.run_bind,Instr.alloc,run_zero hi hz,Result.andThen_ok,newVar,newRow,run_newObj,Sem.run_pure]
  rw [←hzc];rfl
 ·rw [hd];exact h.push_blk (g:=0) (v:=undef) hdN
theorem x_box {d:Nat} {T:TypeId} {x:Operand} {v:Value} {cs:List Value} (h:St N K W a w F L) (ho:o.op= .box T x) (hx:ev F x=some v) (hv:v.cells=cs.toArray) (hd:o.dst=some d) (hdN:Nat.blt d N=true):
  Ex P o a w (fun a' w' =>∃b:Nat,St N K W a' w' ((d, .pointer (some ⟨b,0,none⟩))::F) (.blk b T cs::L)):=by
 refine Ex.of_run (v:= .pointer (some ⟨w.heap.size,0,none⟩)) (w' :=w.alloc (.cells cs.toArray T)) ?_ ⟨w.heap.size, ?_⟩
 ·unfold execOp
  simp only [ho,h.fr.ev hx,Instr.box,newVar,newRow,hv,Sem.run_bind,run_newObj,Result.andThen_ok,Sem.run_pure]
  rfl
 ·rw [hd];exact h.push_blk (g:=0) (v:=undef) hdN
def splice (cs:List Value) (q:Nat) (vs:List Value):List Value:=cs.take q++vs++cs.drop (q+vs.length)
theorem x_stb {T:TypeId} {gg:Bool} {n by_:Nat} {z:List Value} {x y:Operand} {g q i:Nat} {E:TypeId} {cs cs' vs:List Value} {v:Value} (h:St N K W a w F L) (hT:tyI P T=some (gg,n,by_,z)) (ho:o.op= .store T x y) (hd:o.dst=none)
  (hx:ev F x=some (.pointer (some ⟨g,q,none⟩))) (hy:ev F y=some v) (hi:L[i]? =some (.blk g E cs)) (hv:v.cells.toList=vs) (hn:vs.length=n) (h1:vs.all (·.oneCell')=true) (hq:q+n≤cs.length) (hcs:splice cs q vs=cs'):
  Ex P o a w (fun a' w' =>St N K W a' w' F (L.set i (.blk g E cs'))):=by
 obtain ⟨ti,e,zv,hti,he,_,hs,_⟩:=tyI_parts hT
 have hB:=h.sh.blk i hi
 have hvs:v.cells=vs.toArray:=by rw [←hv]
 have hrun:=run_storeCells_at P g q E vs 0 cs.toArray w hB (by simp;omega) (fun u hu=>(List.all_eq_true.1 h1) u hu)
 refine Ex.of_skip (w' :=w.setRow g cs'.toArray) ?_ ?_
 ·unfold execOp
  have hsz:v.cells.size=ti.size:=by rw [hvs];simp;omega
  simp only [ho,h.fr.ev hx,h.fr.ev hy,Instr.storeAt,Instr.sureAddr,storeVar,Sem.run_bind,Sem.run_pure,Result.andThen_ok,run_sizeOf hti]
  simp only [hsz,ne_eq,not_true_eq_false,if_false,hv,Nat.add_zero] at hrun⊢
  rw [←hcs]
  simp at hrun
  rw [hrun]
  simp [splice]
 ·rw [hd]
  refine ⟨h.fr,h.sh.put hi ⟨rfl,rfl,rfl,by simp [World.setRow],fun b hb hne=>setRow_other w g b _ hne⟩ ?_ (fun b hb=> .inl hb) (fun b hb=>hb.elim) (fun b _ hb=>hb)⟩
  exact setRow_heap w g _ _ E (0,0) hB
end
end Go.Proofs.YtmjkobhkkjgplaaGreatDoor
end
namespace Go.Proofs.YtmjkobhkkjgplaaGreatDoor
open Go.RowKit
set_option linter.unusedSimpArgs false
set_option linter.unusedVariables false
section
variable {α:Type} [Enc α]
theorem encL_out (l:List α) (k:Nat) (h:l.length*Enc.sz α≤k):(encL l)[k]? =none:=List.getElem?_eq_none (by rw [length_encL];exact h)
theorem encL_set (l:List α) (i j:Nat) (x:α) (v:Value) (hi:i<l.length) (hj:j<Enc.sz α) (hx:∀q,q<Enc.sz α→Enc.cell x q=if q=j then v else Enc.cell (nth l i) q):
  encL (l.set i x)=(encL l).set (i*Enc.sz α+j) v:=by
 have hs:0<Enc.sz α:=by omega
 apply List.ext_getElem?
 intro k
 by_cases hk:k<l.length*Enc.sz α
 ·have hq:k/Enc.sz α<l.length:=(Nat.div_lt_iff_lt_mul hs).2 hk
  have hr:k%Enc.sz α<Enc.sz α:=Nat.mod_lt _ hs
  have hkk:k=(k/Enc.sz α)*Enc.sz α+k%Enc.sz α:=by rw [Nat.mul_comm];exact (Nat.div_add_mod _ _).symm
  have h1:=encL_at (l.set i x) (k/Enc.sz α) (k%Enc.sz α) (by simpa using hq) hr
  have h2:=encL_at l (k/Enc.sz α) (k%Enc.sz α) hq hr
  rw [←hkk] at h1 h2
  rw [h1,List.getElem?_set]
  by_cases hki:k/Enc.sz α=i
  ·have hn:nth (l.set i x) (k/Enc.sz α)=x:=by rw [hki];simp [nth,hi]
   rw [hn,hx _ hr]
   by_cases hkj:k%Enc.sz α=j
   ·have e:i*Enc.sz α+j=k:=by rw [hkk,hki,hkj]
    rw [if_pos hkj,if_pos e,if_pos (by rw [length_encL,e];exact hk)]
   ·have e:¬i*Enc.sz α+j=k:=by intro e;rw [hki] at hkk;omega
    rw [if_neg hkj,if_neg e,h2,hki]
  ·have hn:nth (l.set i x) (k/Enc.sz α)=nth l (k/Enc.sz α):=by
    have:¬i=k/Enc.sz α:=fun e=>hki e.symm
    simp [nth,List.getD,List.getElem?_set,this]
   have e:¬i*Enc.sz α+j=k:=by
    intro e
    apply hki
    rw [←e,Nat.mul_comm,Nat.mul_add_div hs,Nat.div_eq_of_lt hj,Nat.add_zero]
   rw [hn,if_neg e,h2]
 ·rw [encL_out _ _ (by simpa using hk),List.getElem?_set]
  have e:¬i*Enc.sz α+j=k:=by
   intro e
   apply hk
   have:(i+1)*Enc.sz α≤l.length*Enc.sz α:=Nat.mul_le_mul_right _ hi
   rw [Nat.add_mul,Nat.one_mul] at this
   omega
  rw [if_neg e,encL_out _ _ (by omega)]
theorem nth_set (l:List α) (i k:Nat) (x:α):nth (l.set i x) k=if i=k∧i<l.length then x else nth l k:=by
 simp only [nth,List.getD,List.getElem?_set]
 by_cases h:i=k
 ·subst h
  by_cases h2:i<l.length<;>simp [h2]
 ·simp [h]
theorem nth_append (l m:List α) (k:Nat):nth (l++m) k=if k<l.length then nth l k else nth m (k-l.length):=by
 simp only [nth,List.getD]
 by_cases h:k<l.length
 ·rw [List.getElem?_append_left h,if_pos h]
 ·rw [List.getElem?_append_right (by omega),if_neg h]
end
def evp (F:List (Nat×Value)):List (Nat×Operand)→Option (List (Nat×Value))
 | []=>some []
 |(i,x)::r=>match ev F x with
  |some v=>match evp F r with
   |some vs=>some ((i,v)::vs)
   |none=>none
  |none=>none
theorem Fr.evp {N:Nat} {a:Act} {F:List (Nat×Value)} (h:Fr N a F):∀ {xs:List (Nat×Operand)} {vs:List (Nat×Value)},evp F xs=some vs→(xs.toArray.map fun (i,x)=>(i,a.eval x)).toList=vs:=by
 intro xs
 have key:∀(xs:List (Nat×Operand)) (vs:List (Nat×Value)),Go.Proofs.YtmjkobhkkjgplaaGreatDoor.evp F xs=some vs→(xs.map fun (i,x)=>(i,a.eval x))=vs:=by
  intro xs
  induction xs with
  |nil=>intro vs hx;simp [Go.Proofs.YtmjkobhkkjgplaaGreatDoor.evp] at hx;simp [hx]
  |cons x r ih=>
   obtain ⟨i,x⟩:=x
   intro vs hx
   unfold Go.Proofs.YtmjkobhkkjgplaaGreatDoor.evp at hx
   split at hx
   ·rename_i v hv
    split at hx
    ·rename_i us hu
     simp only [Option.some.injEq] at hx
     subst hx
     simp [h.ev hv,ih us hu]
    ·cases hx
   ·cases hx
 intro vs hx
 have:=key xs vs hx
 simpa using this
section
variable {P:Program} {N:Nat} {K:Nat→Prop} {W w:World} {a:Act} {F F' :List (Nat×Value)} {L L' :List Asn} {o:Oper} {ops:Array Oper} {rest:List Oper} {Q:Exit→Act→World→Prop}
section
variable {α:Type} [Enc α]
theorem x_ste {T:TypeId} {gg:Bool} {by_:Nat} {z:List Value} {x y:Operand} {i j sz r:Nat} {E:TypeId} {s:Ls α} {x' :α} {v:Value} (h:St N K W a w F L) (hT:tyI P T=some (gg,1,by_,z)) (ho:o.op= .store T x y) (hd:o.dst=none)
  (hx:ev F x=some (.pointer (some (padr s.v sz i j)))) (hsz:Enc.sz α=sz) (hr:L[r]? =some (.own E s)) (hi:i<s.l.length) (hj:j<sz) (hy:ev F y=some v) (hv:v.cells.toList= [v]) (h1:v.oneCell' =true)
  (hc:∀q,q<sz→Enc.cell x' q=if q=j then v else Enc.cell (nth s.l i) q)
  (hin:∀w,Sh K W w L→Enc.inner x' w) (hon:∀b,Enc.on x' b→s.v.ownBlock≠some b∧∃B∈L,B.rd b):
  Ex P o a w (fun a' w' =>St N K W a' w' F (L.set r (.own E ⟨s.v,s.l.set i x'⟩))):=by
 subst hsz
 obtain ⟨ti,e,zv,hti,he,_,hs,_⟩:=tyI_parts hT
 have hok:=h.sh.ok _ (List.mem_of_getElem? hr)
 obtain ⟨hown,hlen,hinn⟩:=hok
 rcases hown.2 with ⟨_,h0⟩|⟨g,cap,cur,hsv,hb0,hg,hn,hm,hcs,htk⟩
 ·omega
 have hp:padr s.v (Enc.sz α) i j=⟨g,i*Enc.sz α+j,none⟩:=by rw [hsv];simp [padr,vblk,voff]
 have hat:=own_at (h.sh.ok _ (List.mem_of_getElem? hr))
 have hcell:=hat.cell i j hi hj
 rw [hp] at hcell
 have hfz:w.frozen? ⟨g,i*Enc.sz α+j,none⟩=false:=frozen_of_row w g _ cur E hg
 refine Ex.of_skip (w' :=w.setCell ⟨g,i*Enc.sz α+j,none⟩ v) ?_ ?_
 ·unfold execOp
  have hcz:v.cells.size=ti.size:=by rw [hs,←Array.length_toList,hv];rfl
  simp only [ho,h.fr.ev hx,h.fr.ev hy,Instr.storeAt,Instr.sureAddr,storeVar,Sem.run_bind,Sem.run_pure,Result.andThen_ok,run_sizeOf hti,hcz,hp]
  simp [hv,storeCells,run_store P w _ v _ h1,hcell,hfz,Addr.add_zero']
 ·rw [hd]
  have hst:=World.ownsRow.stored (w:=w) (base:=0) (e:=E) (size:=Enc.sz α) (n:=s.l.length) (xs:=encL s.l) (g:=g) (cap:=cap) (by rw [←hsv];exact hown) (i*Enc.sz α+j) v
  have hfp:(Asn.own E s).fp g:=by show s.v.ownBlock=some g;rw [hsv];rfl
  have hse:=h.sh.self _ (List.mem_of_getElem? hr)
  refine ⟨h.fr,h.sh.put hr (Chg.setCell w _ hfp v) ⟨?_,by simpa using hlen,fun q hq=> ?_⟩ (fun b hb=> .inl hb) (fun b hb=> ?_) (fun b hb hb' => ?_)⟩
  ·show World.ownsRow _ 0 E (Enc.sz α) s.v (s.l.set i x').length (encL (s.l.set i x'))
   rw [encL_set s.l i j x' v hi hj hc,List.length_set,hsv]
   exact hst.1
  ·have key:∀y:α,Enc.inner y w→(∀b,Enc.on y b→g≠b)→Enc.inner y (w.setCell ⟨g,i*Enc.sz α+j,none⟩ v):=fun y hy hb=>
    Enc.keep y w _ hy fun b hb' =>Below.heap_setCell w _ v b (fun e=>hb b hb' e.symm)
   have hq' :q<s.l.length:=by simpa using hq
   show Enc.inner (nth (s.l.set i x') q) _
   rw [nth_set]
   split
   ·exact key _ (hin w h.sh) fun b hb e=>(hon b hb).1 (by rw [hsv,e];rfl)
   ·exact key _ (hinn q hq') fun b hb e=>hse g hfp ⟨q,hq',e▸hb⟩
  ·obtain ⟨q,hq,hb⟩:=hb
   simp only [nth_set] at hb
   split at hb
   ·exact .inr (.inr (.inl (hon b hb).2))
   ·exact .inr (.inl ⟨q,by simpa using hq,hb⟩)
  ·obtain ⟨q,hq,hb'⟩:=hb'
   simp only [nth_set] at hb'
   split at hb'
   ·exact (hon b hb').1 hb
   ·exact hse b hb ⟨q,by simpa using hq,hb'⟩
theorem made_eq (z:List Value) (x:α) (n:Nat) (hz:z=cellsOf x):(madeCells z.toArray (n*Enc.sz α)).toList=encL (List.replicate n x):=by
 apply List.ext_getElem?
 intro k
 by_cases hs:Enc.sz α=0
 ·have h1:(madeCells z.toArray (n*Enc.sz α)).toList= []:=by apply List.eq_nil_of_length_eq_zero;simp [size_madeCells,hs]
  have h2:encL (List.replicate n x)= []:=by apply List.eq_nil_of_length_eq_zero;rw [length_encL,hs,Nat.mul_zero]
  rw [h1,h2]
 have hs:0<Enc.sz α:=by omega
 by_cases hk:k<n*Enc.sz α
 ·have hq:k/Enc.sz α<n:=(Nat.div_lt_iff_lt_mul hs).2 hk
  have hr:k%Enc.sz α<Enc.sz α:=Nat.mod_lt _ hs
  have hkk:k=(k/Enc.sz α)*Enc.sz α+k%Enc.sz α:=by rw [Nat.mul_comm];exact (Nat.div_add_mod _ _).symm
  have h2:=encL_at (List.replicate n x) (k/Enc.sz α) (k%Enc.sz α) (by simpa using hq) hr
  rw [←hkk] at h2
  have hn:nth (List.replicate n x) (k/Enc.sz α)=x:=by simp [nth,hq]
  rw [h2,hn]
  have hzs:z.length=Enc.sz α:=by rw [hz,length_cellsOf]
  have hmk:k%z.toArray.size<z.toArray.size:=by simp only [List.size_toArray,hzs];exact hr
  have:(madeCells z.toArray (n*Enc.sz α)).toList[k]? =some (z.toArray[k%z.toArray.size]!):=by simp [madeCells,hk]
  rw [this,getElem!_pos (c:=z.toArray) (i:=k%z.toArray.size) hmk]
  subst hz
  simp [cellsOf]
 ·rw [encL_out _ _ (by simpa using hk),List.getElem?_eq_none (by simp [size_madeCells];omega)]
theorem x_make {d:Nat} {T e:TypeId} {gg:Bool} {sz by_ n:Nat} {z:List Value} {x y:Operand} (x0:α) (h:St N K W a w F L) (hT:slI P T=some e) (he:tyI P e=some (gg,sz,by_,z)) (ho:o.op= .makeSlice T x y) (hx:ev F x=some (.int .i64 (n:Int))) (hy:ev F y=some (.int .i64 (n:Int)))
  (hz:z=cellsOf x0) (hsz:Enc.sz α=sz) (hn:by_*n≤140737488355328∧n≤140737488355328) (hin:∀w,Enc.inner x0 w) (hon:∀b,¬Enc.on x0 b) (hd:o.dst=some d) (hdN:Nat.blt d N=true):
  Ex P o a w (fun a' w' =>∃v:Value,St N K W a' w' ((d,v)::F) (.own e (⟨v,List.replicate n x0⟩:Ls α)::L)):=by
 subst hsz
 obtain ⟨i,ed,zv,hi,hed,_,hsz,hby,hzz,hzc⟩:=tyI_parts he
 obtain ⟨w1,hrun,hown,hgr⟩:=run_make_full w 0 T e i zv (Enc.sz α) (slI_parts hT) hi hzz hsz .i64 .i64 n (by rw [hby];omega) (by unfold maxLen;omega) (Nat.zero_le _)
 have hzz:zv.cells=z.toArray:=by rw [←hzc]
 rw [hzz,made_eq z x0 n hz] at hown
 refine Ex.of_run (v:= .slice (some ⟨w.heap.size,0,none⟩) n n) (w' :=w1) ?_ ⟨.slice (some ⟨w.heap.size,0,none⟩) n n, ?_⟩
 ·unfold execOp
  simp only [ho,h.fr.ev hx,h.fr.ev hy,Sem.run_bind,hrun,Result.andThen_ok,Sem.run_pure]
 ·rw [hd]
  refine ⟨h.fr.put d (by simpa [Nat.blt_eq] using hdN) _,h.sh.push (Chg.grown hgr (by simp)) ⟨by simpa using hown,by simpa using hn.2,fun q hq=> ?_⟩ (fun b hb=> ?_) (fun b hb=> ?_) (fun b _ hb=> ?_)⟩
  ·have hq' :q<n:=by simpa using hq
   have:nth (List.replicate n x0) q=x0:=by simp [nth,hq']
   rw [this];exact hin _
  ·have:w.heap.size=b:=by simpa [Asn.own,Value.ownBlock] using hb
   omega
  all_goals
   obtain ⟨q,hq,hb⟩:=hb
   have hq' :q<n:=by simpa using hq
   have:nth (List.replicate n x0) q=x0:=by simp [nth,hq']
   simp only [this] at hb
   exact (hon b hb).elim
theorem x_lit {d:Nat} {T e:TypeId} {gg:Bool} {sz by_ n:Nat} {z:List Value} {parts:List (Nat×Operand)} {pv:List (Nat×Value)} {cs:List Value} (l:List α) (h:St N K W a w F L) (hT:slI P T=some e) (he:tyI P e=some (gg,sz,by_,z)) (ho:o.op= .buildSlice T n parts.toArray)
  (hn:l.length=n) (hsz:Enc.sz α=sz) (hpos:0<n*sz∧n*sz≤1000) (hx:evp F parts=some pv)
  (hf:Instr.fill (fun i=>some (i*sz,sz)) ((Array.range (n*sz)).map (z.toArray[· %z.toArray.size]!)) pv=some cs.toArray) (hcs:cs=encL l)
  (hin:∀q,q<l.length→∀w,Sh K W w L→Enc.inner (nth l q) w) (hon:∀q,q<l.length→∀b,Enc.on (nth l q) b→∃B∈L,B.rd b) (hd:o.dst=some d) (hdN:Nat.blt d N=true):
  Ex P o a w (fun a' w' =>∃v:Value,St N K W a' w' ((d,v)::F) (.own e (⟨v,l⟩:Ls α)::L)):=by
 subst hsz
 subst hn
 obtain ⟨i,ed,zv,hi,hed,_,hsz,hby,hzz,hzc⟩:=tyI_parts he
 have hzv:zv.cells=z.toArray:=by rw [←hzc]
 have hsp:0<Enc.sz α:=Nat.pos_of_ne_zero (by rintro e;simp [e] at hpos)
 have hl1:l.length≤1000:=Nat.le_trans (Nat.le_mul_of_pos_right l.length hsp) hpos.2
 have hrun:=run_buildSlice (P:=P) w T e l.length (parts.toArray.map fun (i,x)=>(i,a.eval x)) cs.toArray i zv (slI_parts hT) hi hzz (by rw [hsz];omega) (by rw [hsz];omega) (by rw [hsz,hzv,h.fr.evp hx];exact hf)
 refine Ex.of_run (v:= .slice (some ⟨w.heap.size,0,none⟩) l.length l.length) (w' :=w.alloc (.cells cs.toArray e)) ?_ ⟨.slice (some ⟨w.heap.size,0,none⟩) l.length l.length, ?_⟩
 ·unfold execOp
  simp only [ho,Sem.run_bind,hrun,Result.andThen_ok,Sem.run_pure]
 ·rw [hd]
  have hold:∀q,q<l.length→∀b,Enc.on (nth l q) b→b<w.heap.size:=fun q hq b hb=>Enc.lt _ w (hin q hq w h.sh) b hb
  refine ⟨h.fr.put d (by simpa [Nat.blt_eq] using hdN) _,h.sh.push (Chg.alloc _ w _) ⟨⟨by rw [length_encL], .inr ⟨w.heap.size,l.length,cs.toArray,rfl,Nat.zero_le _,Go.heap_alloc_new w _,Nat.le_refl _,by unfold maxLen;omega, ?_, ?_⟩⟩,by show l.length≤_;omega,fun q hq=> ?_⟩ (fun b hb=> ?_) (fun b hb=> ?_) (fun b hb hb' => ?_)⟩
  ·simp [hcs,length_encL]
  ·simp only [hcs];rw [List.take_of_length_le (by rw [length_encL];exact Nat.le_refl _)]
  ·exact Enc.keep _ w _ (hin q hq w h.sh) fun b hb=>Below.heap_alloc w _ b (hold q hq b hb)
  ·have:w.heap.size=b:=by simpa [Asn.own,Value.ownBlock] using hb
   omega
  ·obtain ⟨q,hq,hb⟩:=hb
   exact .inl (hon q hq b hb)
  ·have:w.heap.size=b:=by simpa [Asn.own,Value.ownBlock] using hb
   obtain ⟨q,hq,hb'⟩:=hb'
   have:=hold q hq b hb'
   omega
theorem x_lit0 {d:Nat} {T e:TypeId} {gg:Bool} {sz by_:Nat} {z:List Value} (h:St N K W a w F L) (hT:slI P T=some e) (he:tyI P e=some (gg,sz,by_,z)) (ho:o.op= .buildSlice T 0 #[]) (hd:o.dst=some d) (hdN:Nat.blt d N=true):
  Ex P o a w (fun a' w' =>∃v:Value,St N K W a' w' ((d,v)::F) (.own e (⟨v, []⟩:Ls α)::L)):=by
 obtain ⟨i,ed,zv,hi,hed,_,hsz,hby,hzz,hzc⟩:=tyI_parts he
 refine Ex.of_run (v:= .slice (some ⟨w.heap.size,0,none⟩) 0 0) (w' :=w.alloc (.cells #[] e)) ?_ ⟨.slice (some ⟨w.heap.size,0,none⟩) 0 0, ?_⟩
 ·unfold execOp
  simp [ho,Instr.buildSlice,run_underlying (slI_parts hT),run_sizeOf hi,Instr.fill,newRow,Array.range_zero']
  try rfl
 ·rw [hd]
  refine ⟨h.fr.put d (by simpa [Nat.blt_eq] using hdN) _,h.sh.push (Chg.alloc _ w _) ⟨⟨by simp [encL], .inr ⟨w.heap.size,0, #[],rfl,Nat.zero_le _,Go.heap_alloc_new w _,Nat.le_refl _,by unfold maxLen;omega,by simp,by simp [encL]⟩⟩,Nat.zero_le _,fun q hq=>absurd hq (by simp)⟩ (fun b hb=> ?_) (fun b hb=> ?_) (fun b hb hb' => ?_)⟩
  ·have:w.heap.size=b:=by simpa [Asn.own,Value.ownBlock] using hb
   omega
  ·obtain ⟨q,hq,_⟩:=hb;exact absurd hq (by simp)
  ·obtain ⟨q,hq,_⟩:=hb';exact absurd hq (by simp)
theorem Sh.nil (E:TypeId) (h:Sh K W w L):Sh K W w (.own E (⟨.slice none 0 0, []⟩:Ls α)::L):=
 h.push (Chg.refl _ _) ⟨World.ownsRow_nil w 0 E (Enc.sz α),Nat.zero_le _,fun i hi=>absurd hi (by simp)⟩ (fun b hb=>by simp [Asn.own,Value.ownBlock] at hb) (fun b hb=>by obtain ⟨i,hi,_⟩:=hb;exact absurd hi (by simp)) (fun b hb=>by simp [Asn.own,Value.ownBlock] at hb)
theorem St.nil {α:Type} [Enc α] (E:TypeId) (h:St N K W a w F L):St N K W a w F (.own E (⟨.slice none 0 0, []⟩:Ls α)::L):=⟨h.fr,h.sh.nil E⟩
class One (α:Type) [Enc α]:Prop where
 one:∀(x:α) (w:World),Enc.inner x w→∀q,q<Enc.sz α→(Enc.cell x q).oneCell' =true
instance : One Int:=⟨fun _ _ _ _ _=>rfl⟩
instance : One Bool:=⟨fun _ _ _ _ _=>rfl⟩
instance : One Ins:=⟨fun x _ _ q _=>by match q with|0=>rfl|1=>rfl|2=>rfl|_+3=>rfl⟩
theorem Ls.At.one {s:Ls α} {w:World} (h:s.At w):s.v.oneCell' =true:=by
 obtain ⟨A,n,c,hv⟩:=h.form
 rw [hv];rfl
instance {β:Type} [Enc β]:One (Ls β):=⟨fun x w h q _=>Ls.At.one (s:=x) h⟩
theorem cells_one {v:Value} (h:v.oneCell' =true):v.cells= #[v]:=by cases v<;>first|rfl|cases h
theorem cells_oneL {v:Value} (h:v.oneCell' =true):v.cells.toList= [v]:=by rw [cells_one h]
theorem allOne_cons {v:Value} {vs:List Value} (h:v.oneCell' =true) (hs:vs.all (·.oneCell')=true):(v::vs).all (·.oneCell')=true:=by simp only [List.all_cons,h,hs,Bool.and_self]
theorem allOne_nil :([]:List Value).all (·.oneCell')=true:=rfl
theorem x_app {d:Nat} {T e:TypeId} {gg:Bool} {sz by_ r rm:Nat} {z:List Value} {x y:Operand} {s m:Ls α} {B:Asn} {E:TypeId} (h:St N K W a w F L) (hT:slI P T=some e) (he:tyI P e=some (gg,sz,by_,z)) (ho:o.op= .call ⟨.builtin .append, #[x,y], #[T,T]⟩)
  (hx:ev F x=some s.v) (hy:ev F y=some m.v) (hr:L[r]? =some (.own E s)) (hE:E=e) (hrm:L[rm]? =some B) (hne:Nat.beq r rm=false) (hat:∀w,Sh K W w L→m.At w) (hon:∀b,m.on b→B.fp b∨B.rd b) (hoi:∀q,q<m.l.length→∀b,Enc.on (nth m.l q) b→B.rd b)
  (hsz:Enc.sz α=sz) (hpos:Nat.blt 0 sz=true) (hzl:z.length=sz) (h1:One α) (hn:(s.l.length+m.l.length)*by_≤140737488355328∧s.l.length+m.l.length≤140737488355328) (hd:o.dst=some d) (hdN:Nat.blt d N=true):
  Ex P o a w (fun a' w' =>∃v:Value,St N K W a' w' ((d,v)::F) (L.set r (.own E ⟨v,s.l++m.l⟩))):=by
 subst hsz
 subst hE
 obtain ⟨i,ed,zv,hi,hed,_,hsz,hby,hzz,hzc⟩:=tyI_parts he
 have hsp:0<Enc.sz α:=by simpa [Nat.blt_eq] using hpos
 obtain ⟨hown,hlen,hinn⟩:=h.sh.ok _ (List.mem_of_getElem? hr)
 have hself:=h.sh.self _ (List.mem_of_getElem? hr)
 have hmat:=hat w h.sh
 have hu:=slI_parts hT
 have hap:(Asn.own E s).Apart B:=by
  obtain ⟨l1,e1⟩:=List.getElem?_eq_some_iff.1 hr
  obtain ⟨l2,e2⟩:=List.getElem?_eq_some_iff.1 hrm
  have hne' :r≠rm:=by rintro rfl;simp at hne
  have hpw:=List.pairwise_iff_getElem.1 h.sh.apart
  rw [←e1,←e2]
  rcases Nat.lt_or_gt_of_ne hne' with hlt|hgt
  ·exact hpw r rm l1 l2 hlt
  ·exact (hpw rm r l2 l1 hgt).symm
 have hzsz:zv.cells.size=Enc.sz α:=by rw [←Array.length_toList,hzc,hzl]
 have key:∃v' w',(Builtin.append_ #[T,T] o.type #[s.v,m.v]).run P w= .ok v' w' ∧w'.ownsRow 0 E (Enc.sz α) v' (s.l.length+m.l.length) (encL s.l++encL m.l)∧w.grownBy w' s.v.ownBlock∧(∀b,v'.ownBlock=some b→s.v.ownBlock=some b∨w.heap.size≤b):=by
  obtain ⟨A,cap,hmv,hmA⟩:=hmat
  cases A with
  |none=>
   have hm0:m.l.length=0:=by
    rcases Nat.eq_zero_or_pos m.l.length with h0|h0
    ·exact h0
    ·obtain ⟨b,hb,_⟩:=hmA.some h0;cases hb
   have hml:m.l= []:=List.eq_nil_of_length_eq_zero hm0
   refine ⟨s.v,w, ?_,by rw [hm0,hml,encL_nil,List.append_nil];exact hown,⟨rfl,rfl,rfl,Nat.le_refl _,fun _ _ _=>rfl⟩,fun b hb=> .inl hb⟩
   rw [hmv,hm0]
   rcases hown.2 with ⟨hv,h0⟩|⟨g,c2,cur,hv,_,_,hnc,_⟩
   ·rw [hv];simp [Builtin.append_,run_underlying hu,sizeOf,typeInfo,hi,Builtin.lenOf,Builtin.firstCells]
   ·rw [hv];simp [Builtin.append_,run_underlying hu,sizeOf,typeInfo,hi,Builtin.lenOf,Builtin.firstCells,hnc,storeCells]
  |some ad=>
   have hnews:∀(j:Nat) (u:Value),(encL m.l)[j]? =some u→w.cell? (ad.add j)=some u:=by
    intro j u hj
    have hjl:j<m.l.length*Enc.sz α:=by
     have:=(List.getElem?_eq_some_iff.1 hj).1
     rwa [length_encL] at this
    have hq:j/Enc.sz α<m.l.length:=(Nat.div_lt_iff_lt_mul hsp).2 hjl
    have hq2:j%Enc.sz α<Enc.sz α:=Nat.mod_lt _ hsp
    have hkk:j=(j/Enc.sz α)*Enc.sz α+j%Enc.sz α:=by rw [Nat.mul_comm];exact (Nat.div_add_mod _ _).symm
    obtain ⟨b,hb,hbs⟩:=hmA.some (Nat.lt_of_le_of_lt (Nat.zero_le _) hq)
    simp only [Option.some.injEq] at hb
    subst hb
    have h2:=encL_at m.l (j/Enc.sz α) (j%Enc.sz α) hq hq2
    rw [←hkk,hj] at h2
    have h3:=hmA.cell (j/Enc.sz α) (j%Enc.sz α) hq hq2
    rw [←h2] at h3
    obtain ⟨blk,off,sp⟩:=ad
    simp only at hbs
    subst hbs
    rw [Addr.add_lit]
    have e:(⟨some ⟨blk,off,none⟩,cap,m.l⟩:Sl α).adr (Enc.sz α) (j/Enc.sz α) (j%Enc.sz α)=⟨blk,off+j,none⟩:=by
     have:off+(j/Enc.sz α)*Enc.sz α+j%Enc.sz α=off+j:=by rw [Nat.add_assoc,←hkk]
     simp [Sl.adr,this]
    rw [←e];exact h3
   have h1c:∀u∈encL m.l,u.oneCell' =true:=by
    intro u hu
    obtain ⟨x,hxm,hx⟩:=List.mem_flatMap.1 hu
    obtain ⟨q,hq,rfl⟩:=List.mem_map.1 hx
    obtain ⟨qi,hqi⟩:=List.getElem?_of_mem hxm
    have hql:=(List.getElem?_eq_some_iff.1 hqi).1
    have hqx:nth m.l qi=x:=by rw [nth_lt _ _ hql];exact (List.getElem?_eq_some_iff.1 hqi).2
    exact h1.one x w (by rw [←hqx];exact hmA.inner qi hql) q (by simpa using hq)
   have h63:s.l.length+m.l.length≤maxLen:=by unfold maxLen;omega
   have hlm:(encL m.l).length=m.l.length*Enc.sz α:=length_encL _
   obtain ⟨v',w',hrun,ho',hg',_⟩:=run_append_own (P:=P) w 0 T o.type E i zv (Enc.sz α) by_ hu hi hzz hsz hby hzsz hsp s.v s.l.length (encL s.l) hown ad m.l.length cap (encL m.l) hlm hnews h1c h63 hn.1 (Nat.zero_le _)
   refine ⟨v',w',by rw [hmv];exact hrun,ho',hg',fun b hb=> ?_⟩
   rcases hown.2 with ⟨hv,h0⟩|⟨g,c2,cur,hv,_,hgc,hnc,hcm,hcs,htk⟩
   ·have hown2:w.ownsRow w.heap.size E (Enc.sz α) s.v s.l.length (encL s.l):=⟨hown.1, .inl ⟨hv,h0⟩⟩
    obtain ⟨v2,w2,hrun2,ho2,_⟩:=run_append_own (P:=P) w w.heap.size T o.type E i zv (Enc.sz α) by_ hu hi hzz hsz hby hzsz hsp s.v s.l.length (encL s.l) hown2 ad m.l.length cap (encL m.l) hlm hnews h1c h63 hn.1 (Nat.le_refl _)
    rw [hrun] at hrun2
    injection hrun2 with e1 e2
    subst e1
    exact .inr (ho2.lt b hb).1
   ·by_cases hroom:s.l.length+m.l.length≤c2
    ·have hr2:=run_append_room (P:=P) w T o.type E i hu hi g s.l.length c2 cur hgc ad m.l.length cap (encL m.l) (by rw [hlm,hsz]) hnews h1c hroom (by rw [hlm,hsz,hcs,←Nat.add_mul];exact Nat.mul_le_mul_right _ hroom)
     rw [hv,hr2] at hrun
     injection hrun with e1 e2
     subst e1
     left;rw [hv];exact hb
    ·have holds:∀(j:Nat) (u:Value),(encL s.l)[j]? =some u→w.cell? ((⟨g,0,none⟩:Addr).add j)=some u:=hown.cells (g:=g) (by rw [hv];rfl)
     have hr2:=run_append_grow (P:=P) w T o.type E i zv hu hi hzz ⟨g,0,none⟩ s.l.length c2 (encL s.l) (by rw [length_encL,hsz]) holds ad m.l.length cap (encL m.l) (by rw [hlm,hsz]) hnews (by omega) (by unfold maxLen at h63;omega) (growslice_fits (by omega) (by rw [hby];exact hn.1))
     rw [hv,hr2] at hrun
     injection hrun with e1 e2
     subst e1
     right
     have:w.heap.size=b:=by simpa [Value.ownBlock] using hb
     omega
 obtain ⟨v',w',hrun,ho',hg',hv'⟩:=key
 refine Ex.of_run (v:=v') (w' :=w') ?_ ⟨v', ?_⟩
 ·unfold execOp
  simp only [ho,resolve,invoke,builtin,Sem.run_bind,Sem.run_pure,Result.andThen_ok,List.map_toArray,List.map_cons,List.map_nil,h.fr.ev hx,h.fr.ev hy,hrun]
 ·rw [hd]
  have hmin:∀q,q<m.l.length→Enc.inner (nth m.l q) w' :=fun q hq=>Enc.keep _ w w' (hmat.inner q hq) fun b hb=>by
   have hbr:=hoi q hq b hb
   refine hg'.block b (h.sh.lt (List.mem_of_getElem? hrm) (.inr hbr)) (fun e=> ?_)
   exact ((hap b).1 e.symm).2 hbr
  have hsin:∀q,q<s.l.length→Enc.inner (nth s.l q) w' :=fun q hq=>Enc.keep _ w w' (hinn q hq) fun b hb=>by
   refine hg'.block b (h.sh.lt (List.mem_of_getElem? hr) (.inr ⟨q,hq,hb⟩)) (fun e=> ?_)
   exact hself b e.symm ⟨q,hq,hb⟩
  have honq:∀b,(∃q,q<(s.l++m.l).length∧Enc.on (nth (s.l++m.l) q) b)→(Asn.own E s).rd b∨B.rd b:=by
   rintro b ⟨q,hq,hb⟩
   rw [nth_append] at hb
   split at hb
   ·exact .inl ⟨q,by assumption,hb⟩
   ·exact .inr (hoi _ (by rw [List.length_append] at hq;omega) b hb)
  refine ⟨h.fr.put d (by simpa [Nat.blt_eq] using hdN) _,h.sh.put hr (Chg.grown hg' (fun k hk=>hk)) ⟨?_, ?_,fun q hq=> ?_⟩ (fun b hb=>hv' b hb) (fun b hb=> ?_) (fun b hb hb' => ?_)⟩
  ·show World.ownsRow _ 0 E _ v' (s.l++m.l).length (encL (s.l++m.l))
   rw [List.length_append,encL_append];exact ho'
  ·show (s.l++m.l).length≤_
   rw [List.length_append];exact hn.2
  ·show Enc.inner (nth (s.l++m.l) q) w'
   rw [nth_append]
   have hq' :q<s.l.length+m.l.length:=by rw [←List.length_append];exact hq
   split
   ·exact hsin q (by assumption)
   ·exact hmin _ (by omega)
  ·rcases honq b hb with hb|hb
   ·exact .inr (.inl hb)
   ·exact .inr (.inr (.inl ⟨B,List.mem_of_getElem? hrm,hb⟩))
  ·rcases honq b hb' with hr' |hr'
   ·rcases hv' b hb with hb|hb
    ·exact hself b hb hr'
    ·have:=h.sh.lt (List.mem_of_getElem? hr) (.inr hr');omega
   ·rcases hv' b hb with hb|hb
    ·exact ((hap b).1 hb).2 hr'
    ·have:=h.sh.lt (List.mem_of_getElem? hrm) (.inr hr');omega
end
def Asn.deep {α:Type} [Enc α] (E:TypeId) (s:Ls α):Asn where
 fp b:=s.v.ownBlock=some b∨∃i,i<s.l.length∧Enc.on (nth s.l i) b
 rd _:=False
 ok w:=w.ownsRow 0 E (Enc.sz α) s.v s.l.length (encL s.l)∧s.l.length≤140737488355328∧(∀i,i<s.l.length→Enc.inner (nth s.l i) w)∧∀b,s.v.ownBlock=some b→¬∃i,i<s.l.length∧Enc.on (nth s.l i) b
 keep w w' h hb:=by
  obtain ⟨h1,h2,h3,h4⟩:=h
  refine ⟨⟨h1.1, ?_⟩,h2,fun i hi=>Enc.keep _ w w' (h3 i hi) fun b hb' =>hb b (.inl (.inr ⟨i,hi,hb'⟩)),h4⟩
  rcases h1.2 with hn|⟨g,cap,cur,hv,h0,hg,hr⟩
  ·exact .inl hn
  ·exact .inr ⟨g,cap,cur,hv,h0,(hb g (.inl (.inl (by rw [hv];rfl)))).trans hg,hr⟩
 lt w h b hb:=by
  obtain ⟨h1,h2,h3,_⟩:=h
  rcases hb with (hb|⟨i,hi,hb⟩)|hb
  ·exact (h1.lt b hb).2
  ·exact Enc.lt _ w (h3 i hi) b hb
  ·exact hb.elim
section
variable {α:Type} [Enc α]
theorem deep_at {E:TypeId} {s:Ls α} (h:(Asn.deep E s).ok w):s.At w:=own_at ⟨h.1,h.2.1,h.2.2.1⟩
theorem Sh.deep (h:Sh K W w L) (i:Nat) {E:TypeId} {s:Ls α} (hi:L[i]? =some (.deep E s)):s.At w:=deep_at (h.ok _ (List.mem_of_getElem? hi))
theorem Sh.nilDeep (E:TypeId) (h:Sh K W w L):Sh K W w (.deep E (⟨.slice none 0 0, []⟩:Ls α)::L):=
 h.push (Chg.refl _ _) ⟨World.ownsRow_nil w 0 E (Enc.sz α),Nat.zero_le _,fun i hi=>absurd hi (by simp),fun b hb=>by simp [Value.ownBlock] at hb⟩ (fun b hb=>by rcases hb with hb|⟨i,hi,_⟩;(simp [Value.ownBlock] at hb);exact absurd hi (by simp)) (fun b hb=>hb.elim) (fun b _ hb=>hb)
theorem St.nilDeep {α:Type} [Enc α] (E:TypeId) (h:St N K W a w F L):St N K W a w F (.deep E (⟨.slice none 0 0, []⟩:Ls α)::L):=⟨h.fr,h.sh.nilDeep E⟩
theorem x_litD {d:Nat} {T e:TypeId} {gg:Bool} {by_:Nat} {z:List Value} {y:Operand} {E:TypeId} {x:Ls α} {A:Asn} (h:St N K W a w F (A::L)) (hT:slI P T=some e) (he:tyI P e=some (gg,1,by_,z)) (hzl:z.length=1) (ho:o.op= .buildSlice T 1 #[(0,y)])
  (hy:ev F y=some x.v) (hat:x.At w) (hon:∀b,x.on b→A.fp b) (hard:∀b,¬A.rd b) (hd:o.dst=some d) (hdN:Nat.blt d N=true):
  Ex P o a w (fun a' w' =>∃v:Value,St N K W a' w' ((d,v)::F) (.deep e (⟨v, [x]⟩:Ls (Ls α))::L)):=by
 obtain ⟨i,ed,zv,hi,hed,_,hsz,hby,hzz,hzc⟩:=tyI_parts he
 have hzv:zv.cells=z.toArray:=by rw [←hzc]
 have hf:Instr.fill (fun i_1=>some (i_1*i.size,i.size)) ((Array.range (1*i.size)).map (zv.cells[· %zv.cells.size]!)) (#[(0,y)].map fun (i,x)=>(i,a.eval x)).toList=some #[x.v]:=by
  rw [hsz]
  simp [Instr.fill,h.fr.ev hy,cells_one hat.one,Array.range_succ,Array.range_zero']
 have hrun:=run_buildSlice (P:=P) w T e 1 _ #[x.v] i zv (slI_parts hT) hi hzz (by rw [hsz];omega) (by rw [hsz];omega) hf
 refine Ex.of_run (v:= .slice (some ⟨w.heap.size,0,none⟩) 1 1) (w' :=w.alloc (.cells #[x.v] e)) ?_ ⟨.slice (some ⟨w.heap.size,0,none⟩) 1 1, ?_⟩
 ·unfold execOp
  simp only [ho,Sem.run_bind,hrun,Result.andThen_ok,Sem.run_pure]
 ·rw [hd]
  have hlt:∀b,x.on b→b<w.heap.size:=fun b hb=>hat.lt hb
  have honx:∀b,(∃q,q< [x].length∧Enc.on (nth [x] q) b)→x.on b:=by
   rintro b ⟨q,hq,hb⟩
   obtain rfl:q=0:=by simpa using hq
   exact hb
  refine ⟨h.fr.put d (by simpa [Nat.blt_eq] using hdN) _,Sh.step (Lp:= [A]) (L' := [.deep e ⟨.slice (some ⟨w.heap.size,0,none⟩) 1 1, [x]⟩]) h.sh (Chg.alloc _ w _) ?_ ?_ (by simp [Asn.deep]) (by simp [Asn.deep]) (List.pairwise_singleton _ _)⟩
  ·intro B hB
   simp only [List.mem_singleton] at hB
   subst hB
   refine ⟨⟨rfl, .inr ⟨w.heap.size,1, #[x.v],rfl,Nat.zero_le _,Go.heap_alloc_new w _,Nat.le_refl _,by unfold maxLen;omega,rfl,rfl⟩⟩,by show 1≤_;omega,fun q hq=> ?_,fun b hb hb' => ?_⟩
   ·obtain rfl:q=0:=by simpa using hq
    exact hat.keep fun b hb=>Below.heap_alloc w _ b (hlt b hb)
   ·have h1:w.heap.size=b:=by simpa [Value.ownBlock] using hb
    have:=hlt b (honx b hb')
    omega
  ·intro B hB b hb
   simp only [List.mem_singleton] at hB
   subst hB
   rcases hb with hb|hb
   ·have h1:w.heap.size=b:=by simpa [Value.ownBlock] using hb
    right;omega
   ·exact .inl ⟨A,by simp,hon b (honx b hb)⟩
theorem x_appD {d:Nat} {T e:TypeId} {gg:Bool} {sz by_:Nat} {z:List Value} {x y:Operand} {s m:Ls α} {E:TypeId} (h:St N K W a w F (.deep E s:: .deep e m::L)) (hT:slI P T=some e) (he:tyI P e=some (gg,sz,by_,z)) (ho:o.op= .call ⟨.builtin .append, #[x,y], #[T,T]⟩)
  (hx:ev F x=some s.v) (hy:ev F y=some m.v) (hE:E=e) (hsz:Enc.sz α=sz) (hpos:Nat.blt 0 sz=true) (hzl:z.length=sz) (h1:One α) (hn:(s.l.length+m.l.length)*by_≤140737488355328∧s.l.length+m.l.length≤140737488355328) (hd:o.dst=some d) (hdN:Nat.blt d N=true):
  Ex P o a w (fun a' w' =>∃v:Value,St N K W a' w' ((d,v)::F) (.deep E (⟨v,s.l++m.l⟩:Ls α)::L)):=by
 have hs:=h.sh
 have hsd:=hs.ok (.deep E s) (by simp)
 have hmd:=hs.ok (.deep e m) (by simp)
 have hpw:=List.pairwise_cons.1 hs.apart
 have hpw2:=List.pairwise_cons.1 hpw.2
 have hap:=hpw.1 (.deep e m) (by simp)
 let As:Asn:=⟨fun _=>False,fun b=>∃i,i<s.l.length∧Enc.on (nth s.l i) b,fun w=>∀i,i<s.l.length→Enc.inner (nth s.l i) w,fun w w' h hb i hi=>Enc.keep _ w w' (h i hi) fun b hb' =>hb b (.inr ⟨i,hi,hb'⟩),fun w h b hb=>hb.elim (fun h=>h.elim) fun ⟨i,hi,hb⟩=>Enc.lt _ w (h i hi) b hb⟩
 have hopen:Sh K W w (.own E s:: .own e m::L):=by
  refine Sh.step (Lp:= [.deep E s, .deep e m]) (L' := [.own E s, .own e m]) hs (Chg.refl _ _) ?_ ?_ ?_ ?_ ?_
  ·intro A hA
   simp only [List.mem_cons,List.not_mem_nil,or_false] at hA
   rcases hA with rfl|rfl
   ·exact ⟨hsd.1,hsd.2.1,hsd.2.2.1⟩
   ·exact ⟨hmd.1,hmd.2.1,hmd.2.2.1⟩
  ·intro A hA b hb
   simp only [List.mem_cons,List.not_mem_nil,or_false] at hA
   rcases hA with rfl|rfl
   ·exact .inl ⟨.deep E s,by simp,Or.inl hb⟩
   ·exact .inl ⟨.deep e m,by simp,Or.inl hb⟩
  ·intro A hA b hb
   simp only [List.mem_cons,List.not_mem_nil,or_false] at hA
   rcases hA with rfl|rfl
   ·exact .inl ⟨.deep E s,by simp, .inl (.inr hb)⟩
   ·exact .inl ⟨.deep e m,by simp, .inl (.inr hb)⟩
  ·intro A hA b hb hb'
   simp only [List.mem_cons,List.not_mem_nil,or_false] at hA
   rcases hA with rfl|rfl
   ·exact hsd.2.2.2 b hb hb'
   ·exact hmd.2.2.2 b hb hb'
  ·refine List.pairwise_cons.2 ⟨fun B hB b=> ?_,List.pairwise_singleton _ _⟩
   simp only [List.mem_singleton] at hB
   subst hB
   exact ⟨fun hb=>⟨fun hb' =>((hap b).1 (.inl hb)).1 (.inl hb'),fun hb' =>((hap b).1 (.inl hb)).1 (.inr hb')⟩,fun hb hb' =>((hap b).1 (.inr hb')).1 (.inl hb)⟩
 have hx' :=x_app (r:=0) (rm:=1) (s:=s) (m:=m) (E:=E) (⟨h.fr,hopen⟩:St N K W a w F _) hT he ho hx hy rfl hE rfl rfl (fun w h=>h.own 1 rfl) (fun b hb=>own_on (hopen.ok (.own e m) (by simp)) hb) (fun q hq b hb=>⟨q,hq,hb⟩) hsz hpos hzl h1 hn hd hdN
 intro next Q hnx
 refine hx' next Q fun a' w' ⟨v,hst⟩=>hnx a' w' ⟨v,hst.fr, ?_⟩
 have hp:=List.pairwise_cons.1 hst.sh.apart
 have hp2:=List.pairwise_cons.1 hp.2
 have hself:=hst.sh.self (.own E ⟨v,s.l++m.l⟩) (by simp)
 have honq:∀b,(∃q,q<(s.l++m.l).length∧Enc.on (nth (s.l++m.l) q) b)→(Asn.deep E s).fp b∨(Asn.deep e m).fp b:=by
  rintro b ⟨q,hq,hb⟩
  rw [nth_append] at hb
  split at hb
  ·exact .inl (.inr ⟨q,by assumption,hb⟩)
  ·exact .inr (.inr ⟨_,by rw [List.length_append] at hq;omega,hb⟩)
 refine ⟨hst.sh.chg, ?_, ?_, ?_,List.pairwise_cons.2 ⟨?_,hp2.2⟩⟩
 ·intro A hA
  rcases List.mem_cons.1 hA with rfl|hA
  ·have ho' :=hst.sh.ok (.own E ⟨v,s.l++m.l⟩) (by simp)
   exact ⟨ho'.1,ho'.2.1,ho'.2.2,fun b hb hb' =>hself b hb hb'⟩
  ·exact hst.sh.ok A (by simp [hA])
 ·intro A hA b hb
  rcases List.mem_cons.1 hA with rfl|hA
  ·rcases hb with hb|hb
   ·exact hst.sh.mine (.own E ⟨v,s.l++m.l⟩) (by simp) b hb
   ·rcases honq b hb with hb|hb
    ·exact hs.mine _ (by simp) b hb
    ·exact hs.mine (.deep e m) (by simp) b hb
  ·exact hst.sh.mine A (by simp [hA]) b hb
 ·intro A hA b hb
  rcases List.mem_cons.1 hA with rfl|hA
  ·exact fun h=>h
  ·exact hst.sh.self A (by simp [hA]) b hb
 ·intro B hB b
  have a1:=hp.1 B (by simp [hB]) b
  have a2:=hpw.1 B (by simp [hB]) b
  have a3:=hpw2.1 B hB b
  refine ⟨fun hb=> ?_,fun hb h=>h⟩
  rcases hb with hb|hb
  ·exact a1.1 hb
  ·rcases honq b hb with hb|hb
   ·exact a2.1 hb
   ·exact a3.1 hb
end
theorem r_build {T:TypeId} {parts:List (Nat×Operand)} {pv:List (Nat×Value)} {cs:List Value} (ho:o.op= .build T parts.toArray) (hx:evp F parts=some pv) (hb:P.built T pv=some cs.toArray):Rn P o N K W F L (.agg cs.toArray):=fun a w h=>by
 have hrun:(Instr.build T (parts.toArray.map fun (i,x)=>(i,a.eval x))).run P w= .ok (.agg cs.toArray) w:=by
  exact run_build (P:=P) w T _ cs.toArray (by rw [h.fr.evp hx,hb])
 unfold execOp
 simp only [ho,Sem.run_bind,hrun,Result.andThen_ok,Sem.run_pure]
def nilB (v:Value):Bool:=match v with| .slice none _ _=>true|_=>false
theorem nilB_nil {α:Type} [Enc α] {s:Ls α} {w:World} (h:s.At w) (hn:nilB s.v=true):s.l= []:=by
 obtain ⟨A,cap,hv,hA⟩:=h
 rw [hv] at hn
 cases A with
 |some _=>cases hn
 |none=>
  rcases Nat.eq_zero_or_pos s.l.length with h0|h0
  ·exact List.eq_nil_of_length_eq_zero h0
  ·obtain ⟨b,hb,_⟩:=hA.some h0;cases hb
theorem r_eqnil {α:Type} [Enc α] {T U e:TypeId} {x y:Operand} {s:Ls α} (hT:slI P T=some e) (ho:o.op= .binOp .eql T x y U) (hx:ev F x=some s.v) (hy:ev F y=some (.slice none 0 0)) (hat:∀w,Sh K W w L→s.At w):Rn P o N K W F L (.bool (nilB s.v)):=fun a w h=>by
 obtain ⟨A,n,c,hv⟩:=(hat w h.sh).form
 have e1:=h.fr.ev hx
 rw [hv] at e1⊢
 have hr:=Lib.run_eql_slice_nil w T e A n c 0 0 (slI_parts hT)
 unfold execOp
 simp only [ho,e1,h.fr.ev hy,eqGuard_at_slice,Sem.run_bind,Sem.run_pure,Result.andThen_ok,hr]
 cases A<;>rfl
theorem r_eqS {T U:TypeId} {x y:Operand} {u v:Value} {b:Bool} (ho:o.op= .binOp .eql T x y U) (hx:ev F x=some u) (hy:ev F y=some v) (hg:∀w,(eqGuard .eql T x y u v).run P w= .ok () w) (hb:∀w,(binOp .eql T u v).run P w= .ok (.bool b) w):Rn P o N K W F L (.bool b):=fun a w h=>by
 unfold execOp
 simp only [ho,h.fr.ev hx,h.fr.ev hy,Sem.run_bind,Sem.run_pure,Result.andThen_ok,hg,hb]
theorem bodyI_parts {f:FuncId} (h:bodyI P f=true):∃fn,P.funcs[f]? =some fn∧(fn.name== "runtime.NumGoroutine")=false∧fn.body.isNone=false:=by
 unfold bodyI at h
 split at h
 ·rename_i fn hf
  simp only [Bool.and_eq_true,Bool.not_eq_true'] at h
  exact ⟨fn,hf,h.1,by simpa using h.2⟩
 ·cases h
theorem run_callFunc {f:FuncId} (h:bodyI P f=true) (args:Array Value) (w:World):(callFunc f args).run P w= .ok (.enter f args) w:=by
 obtain ⟨fn,hf,h1,h2⟩:=bodyI_parts h
 simp only [callFunc,Sem.run_bind,run_program,Result.andThen_ok,hf,h1,h2,Bool.false_eq_true,if_false,Sem.run_pure]
def Rets (P:Program) (f:FuncId) (vs:List Value) (w:World) (R:Value→World→Prop):Prop:=Calls P f vs.toArray w fun e w' =>∃v,e= .returned v∧R v w'
theorem Rets.mono {f:FuncId} {vs:List Value} {R R' :Value→World→Prop} (h:Rets P f vs w R) (hr:∀v w',R v w' →R' v w'):Rets P f vs w R' :=Calls.mono h fun _ _ ⟨v,e,r⟩=>⟨v,e,hr v _ r⟩
theorem call_wp {f:FuncId} {fo:Operand} {xs:List Operand} {tys:Array TypeId} {us vs ws:List Value} {R:Value→World→Prop} (h:Fr N a F) (hb:bodyI P f=true) (ho:o.op= .call ⟨.value fo,xs.toArray,tys⟩) (hf:ev F fo=some (.func (.func f) us.toArray ws.toArray))
  (hx:evs F xs=some vs) (hc:Rets P f (us++vs++ws) w R):Ex P o a w (fun a' w' =>∃v,R v w' ∧a' =a.put o.dst v):=by
 intro next Q hn
 unfold Oper.wp
 have hrun:(execOp a.eval o).run P w= .ok (.enter f (us++vs++ws).toArray) w:=by
  unfold execOp
  simp [ho,resolve,h.ev hf,h.evs hx,Deferred.ofValue,invoke,run_callFunc hb]
 rw [hrun]
 show Calls P f (us++vs++ws).toArray w _
 exact Calls.mono hc fun e w' ⟨v,he,hr⟩=>by subst he;exact hn _ _ ⟨v,hr,rfl⟩
theorem x_call {d f:Nat} {fo:Operand} {xs:List Operand} {tys:Array TypeId} {us vs ws:List Value} {R:Value→World→Prop} (h:St N K W a w F L) (hb:bodyI P f=true) (ho:o.op= .call ⟨.value fo,xs.toArray,tys⟩) (hf:ev F fo=some (.func (.func f) us.toArray ws.toArray))
  (hx:evs F xs=some vs) (hd:o.dst=some d) (hdN:Nat.blt d N=true) (hc:Rets P f (us++vs++ws) w R):Ex P o a w (fun a' w' =>∃v,R v w' ∧Fr N a' ((d,v)::F)):=
 (call_wp h.fr hb ho hf hx hc).mono fun a' w' ⟨v,hr,e⟩=>⟨v,hr,by rw [e,hd];exact h.fr.put d (by simpa [Nat.blt_eq] using hdN) v⟩
theorem Sh.call {w' :World} (h:Sh K W w L) (h' :Sh0 w w' L') (hrd:∀A∈L',∀b,A.rd b→w.heap.size≤b∨∃B∈L,B.rd b):Sh K W w' (L' ++L):=
 Sh.step (Lp:= []) (Lr:=L) (L' :=L') h (h'.chg.mono fun _ h=>h.elim) h'.ok (fun A hA b hb=> .inr ((h'.mine A hA b hb).resolve_left (fun h=>h)))
  (fun A hA b hb=>(hrd A hA b hb).elim (fun h=> .inr (.inr h)) (fun h=> .inr (.inl h))) h'.self h'.apart
theorem Sh.call0 {w' :World} (h:Sh K W w L) (h' :Sh0 w w' []):Sh K W w' L:=h.call h' (by simp)
theorem Sh0.start (w:World):Sh0 w w []:=⟨Chg.refl _ _,by simp,by simp,by simp, .nil⟩
theorem Sh0.ext {w:World} {L:List Asn} (hok:∀A∈L,A.ok w) (hfp:∀A∈L,∀b,¬A.fp b):Sh0 w w L:=by
 refine ⟨Chg.refl _ _,hok,fun A hA b hb=>(hfp A hA b hb).elim,fun A hA b hb=>(hfp A hA b hb).elim, ?_⟩
 rw [List.pairwise_iff_getElem]
 intro i j hi hj _ b
 exact ⟨fun h=>(hfp _ (List.getElem_mem hi) b h).elim,fun h=>(hfp _ (List.getElem_mem hj) b h).elim⟩
section
variable {α β γ δ:Type} [Enc α] [Enc β] [Enc γ] [Enc δ] {s:Ls α} {t:Ls β} {u:Ls γ} {v:Ls δ} {w:World}
theorem Sh0.ext1 (h1:s.At w):Sh0 w w [.at_ s]:=Sh0.ext (by intro A hA;simp at hA;subst hA;exact h1) (by intro A hA b hb;simp at hA;subst hA;exact hb)
theorem Sh0.ext2 (h1:s.At w) (h2:t.At w):Sh0 w w [.at_ s, .at_ t]:=Sh0.ext (by intro A hA;simp at hA;rcases hA with rfl|rfl;exact h1;exact h2) (by intro A hA b hb;simp at hA;rcases hA with rfl|rfl<;>exact hb)
theorem Sh0.ext4 (h1:s.At w) (h2:t.At w) (h3:u.At w) (h4:v.At w):Sh0 w w [.at_ s, .at_ t, .at_ u, .at_ v]:=Sh0.ext (by intro A hA;simp at hA;rcases hA with rfl|rfl|rfl|rfl;exact h1;exact h2;exact h3;exact h4) (by intro A hA b hb;simp at hA;rcases hA with rfl|rfl|rfl|rfl<;>exact hb)
end
class Flat (α:Type) [Enc α]:Prop where
 on:∀(x:α) (b:Nat),¬Enc.on x b
 inner:∀(x:α) (w:World),Enc.inner x w
instance : Flat Int:=⟨fun _ _ h=>h,fun _ _=>trivial⟩
instance : Flat Bool:=⟨fun _ _ h=>h,fun _ _=>trivial⟩
instance : Flat Ins:=⟨fun _ _ h=>h,fun _ _=>trivial⟩
theorem Flat.noRd {α:Type} [Enc α] [Flat α] {E:TypeId} {s:Ls α} {X:Prop} {b:Nat} (h:(Asn.own E s).rd b):X:=by
 obtain ⟨i,_,hi⟩:=h
 exact (Flat.on _ _ hi).elim
class NoRd (A:Asn):Prop where
 no:∀b,¬A.rd b
instance {α:Type} [Enc α] [Flat α] {E:TypeId} {s:Ls α} :NoRd (.own E s):=⟨fun _ h=>Flat.noRd h⟩
instance {g:Nat} {E:TypeId} {cs:List Value} :NoRd (.blk g E cs):=⟨fun _ h=>h⟩
instance {α:Type} [Enc α] {E:TypeId} {s:Ls α} :NoRd (.deep E s):=⟨fun _ h=>h⟩
class AllNo (L:List Asn):Prop where
 no:∀A∈L,∀b,¬A.rd b
instance : AllNo []:=⟨fun A hA=>(by cases hA)⟩
instance {A:Asn} {L:List Asn} [NoRd A] [AllNo L]:AllNo (A::L):=⟨fun B hB b hb=>by
 rcases List.mem_cons.1 hB with rfl|hB
 ·exact NoRd.no b hb
 ·exact AllNo.no B hB b hb⟩
class MemA (A:Asn) (L:List Asn):Prop where
 mem:A∈L
instance {A:Asn} {L:List Asn} :MemA A (A::L):=⟨List.mem_cons_self ..⟩
instance {A B:Asn} {L:List Asn} [h:MemA A L]:MemA A (B::L):=⟨List.mem_cons_of_mem _ h.mem⟩
class RdIn (L' Lp:List Asn):Prop where
 sub:∀C∈L',∀b,C.rd b→∃B∈Lp,B.fp b∨B.rd b
instance {Lp:List Asn} :RdIn [] Lp:=⟨fun A hA=>(by cases hA)⟩
instance {A:Asn} {L Lp:List Asn} [h:MemA A Lp] [RdIn L Lp]:RdIn (A::L) Lp:=⟨fun C hC b hb=>by
 rcases List.mem_cons.1 hC with rfl|hC
 ·exact ⟨_,h.mem, .inr hb⟩
 ·exact RdIn.sub C hC b hb⟩
instance {A:Asn} {L Lp:List Asn} [NoRd A] [RdIn L Lp]:RdIn (A::L) Lp:=⟨fun C hC b hb=>by
 rcases List.mem_cons.1 hC with rfl|hC
 ·exact (NoRd.no b hb).elim
 ·exact RdIn.sub C hC b hb⟩
theorem Sh.callI {K:Nat→Prop} {W w w' :World} {L L' :List Asn} [AllNo L'] (h:Sh K W w L) (h' :Sh0 w w' L'):Sh K W w' (L' ++L):=h.call h' fun A hA b hb=>(AllNo.no A hA b hb).elim
theorem x_loop {c:Code} (I:Nat→Act→World→Prop) (h0:∃n,I n a w) (round:∀n a w,I n a w→c.wp P (Exit.then (fun a' w' =>∃m,m<n∧I m a' w') Q) a w):(Code.loop c).wp P Q a w:=by
 classical
 have least:∀a w,(∃n,I n a w)→∃n,I n a w∧∀m,I m a w→n≤m:=by
  intro a w ⟨n,hn⟩
  induction n using Nat.strongRecOn with
  |_ n ih=>
   by_cases h:∃m,m<n∧I m a w
   ·obtain ⟨m,hm,hI⟩:=h
    exact ih m hm hI
   ·exact ⟨n,hn,fun m hm=>Nat.le_of_not_lt fun hlt=>h ⟨m,hlt,hm⟩⟩
 let μ:Act→World→Nat:=fun a w=>if h:∃n,I n a w then (least a w h).choose else 0
 have hμ:∀a w (h:∃n,I n a w),I (μ a w) a w∧∀m,I m a w→μ a w≤m:=by
  intro a w h
  have e:μ a w=(least a w h).choose:=dif_pos h
  rw [e]
  exact (least a w h).choose_spec
 refine wp_loop (fun a w=>∃n,I n a w) μ h0 fun a w hI=> ?_
 refine Code.wp_mono (fun e a' w' hq=> ?_) (round _ a w (hμ a w hI).1)
 cases e with
 |normal=>
  obtain ⟨m,hm,hI'⟩:=hq
  exact ⟨⟨m,hI'⟩,Nat.lt_of_le_of_lt ((hμ a' w' ⟨m,hI'⟩).2 m hI') hm⟩
 |_=>exact hq
theorem x_cond {c:Operand} {x y:Code} {b:Bool} (h:St N K W a w F L) (hc:ev F c=some (.bool b)) (ht:b=true→x.wp P Q a w) (hf:b=false→y.wp P Q a w):(Code.cond c x y).wp P Q a w:=wp_cond_split (h.fr.ev hc) ht hf
theorem x_condT {c:Operand} {x y:Code} {b:Bool} (h:St N K W a w F L) (hc:ev F c=some (.bool b)) (hb:b=true) (ht:x.wp P Q a w):(Code.cond c x y).wp P Q a w:=by subst hb;exact wp_cond_true (h.fr.ev hc) ht
theorem x_condF {c:Operand} {x y:Code} {b:Bool} (h:St N K W a w F L) (hc:ev F c=some (.bool b)) (hb:b=false) (hf:y.wp P Q a w):(Code.cond c x y).wp P Q a w:=by subst hb;exact wp_cond_false (h.fr.ev hc) hf
theorem x_again {n:Nat} {I:Nat→Act→World→Prop} {Q:Exit→Act→World→Prop} (h:∃m,m<n∧I m a w):Exit.then (fun a' w' =>∃m,m<n∧I m a' w') Q .normal a w:=h
theorem x_enter {f:FuncId} {fn:Func} {c:Code} {vs:List Value} {R:Value→World→Prop} {N:Nat} (hf:P.funcs[f]? =some fn) (hb:fn.body=some c) (hN:fn.ntmps=N) (hl:vs.length≤N)
  (h:∀a,Fr N a ((vs.zipIdx 0).map fun x=>(x.2,x.1))→c.wp P (bodyPost P fn fun e w' =>∃v,e= .returned v∧R v w') a w):Rets P f vs w R:=by
 refine calls_of_wp hf hb (h _ ⟨?_,rfl,fun t v htv=> ?_⟩)
 ·simp [hN];omega
 ·have key:∀(vs:List Value) (k t:Nat) (v:Value),lk ((vs.zipIdx k).map fun x=>(x.2,x.1)) t=some v→k≤t∧vs[t-k]? =some v:=by
   intro vs
   induction vs with
   |nil=>intro k t v h;simp [lk] at h
   |cons x r ih=>
    intro k t v h
    rw [List.zipIdx_cons,List.map_cons,lk_cons] at h
    by_cases e:k=t
    ·subst e;simp at h;simp [h]
    ·rw [if_neg e] at h
     obtain ⟨h1,h2⟩:=ih (k+1) t v h
     refine ⟨by omega, ?_⟩
     have:t-k=(t-(k+1))+1:=by omega
     rw [this,List.getElem?_cons_succ];exact h2
  obtain ⟨_,h2⟩:=key vs 0 t v htv
  rw [Nat.sub_zero] at h2
  have hlt:=(List.getElem?_eq_some_iff.1 h2).1
  rw [Array.getElem?_append_left (by simpa using hlt)]
  simpa using h2
theorem x_ret1 {fn:Func} {t:Nat} {v:Value} {R:Value→World→Prop} (hs:fn.results= #[.tmp t]) (h:St N K W a w F L) (ht:lk F t=some v) (hR:R v w):bodyPost P fn (fun e w' =>∃v,e= .returned v∧R v w') .ret a w:=by
 refine ⟨h.fr.defers,v, ?_,v,rfl,hR⟩
 rw [results_tmp hs]
 have:=h.fr.at_ t v ht
 simp [Array.getD_eq_getD_getElem?,this]
theorem x_ret0 {fn:Func} {R:Value→World→Prop} (hs:fn.results= #[]) (h:St N K W a w F L) (hR:R (.tuple #[]) w):bodyPost P fn (fun e w' =>∃v,e= .returned v∧R v w') .ret a w:=⟨h.fr.defers,_,results_none hs _ _ _,_,rfl,hR⟩
theorem x_end0 {fn:Func} {R:Value→World→Prop} (hs:fn.results= #[]) (h:St N K W a w F L) (hR:R (.tuple #[]) w):bodyPost P fn (fun e w' =>∃v,e= .returned v∧R v w') .normal a w:=⟨h.fr.defers,_,results_none hs _ _ _,_,rfl,hR⟩
theorem x_ret2 {fn:Func} {t u:Nat} {v v' :Value} {R:Value→World→Prop} (hs:fn.results= #[.tmp t, .tmp u]) (h:St N K W a w F L) (ht:lk F t=some v) (hu:lk F u=some v') (hR:R (.tuple #[v,v']) w):bodyPost P fn (fun e w' =>∃v,e= .returned v∧R v w') .ret a w:=by
 refine ⟨h.fr.defers, .tuple #[v,v'], ?_,_,rfl,hR⟩
 rw [results_tmp2 hs]
 have h1:=h.fr.at_ t v ht
 have h2:=h.fr.at_ u v' hu
 simp [Array.getD_eq_getD_getElem?,h1,h2]
theorem x_ret1c {fn:Func} {t T g i n by_:Nat} {E:TypeId} {z cs:List Value} {R:Value→World→Prop} (hT:tyI P T=some (true,n,by_,z)) (hs:fn.results= #[.cell t T]) (h:St N K W a w F L) (ht:lk F t=some (.pointer (some ⟨g,0,none⟩)))
  (hi:L[i]? =some (.blk g E cs)) (hn:cs.length=n) (hR:R (.agg cs.toArray) w):bodyPost P fn (fun e w' =>∃v,e= .returned v∧R v w') .ret a w:=by
 obtain ⟨ti,d,zv,hti,hd,hg,hsz,_⟩:=tyI_parts hT
 refine ⟨h.fr.defers, .agg cs.toArray, ?_,_,rfl,hR⟩
 have hld:=run_loadVar_row (P:=P) w g E T cs.toArray (0,0) d (h.sh.blk i hi) hd (by cases d<;>simp_all [aggD]) (by rw [hti];simp [hsz,hn])
 have h1:a.tmps[t]?.getD undef= .pointer (some ⟨g,0,none⟩):=by
  rw [h.fr.at_ t _ ht];rfl
 simp [results,hs,asAddr,h1,hld]
end
end Go.Proofs.YtmjkobhkkjgplaaGreatDoor
