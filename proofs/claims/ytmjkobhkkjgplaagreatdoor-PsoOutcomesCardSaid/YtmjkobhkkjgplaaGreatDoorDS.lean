/- The words of walks once more, with this: that a world draws on. -/
import Derived.Test.YtmjkobhkkjgplaaGreatDoorS12
import Derived.Test.YtmjkobhkkjgplaaGreatDoorX2
namespace Go.Proofs.YtmjkobhkkjgplaaGreatDoor.Dr
open Go.RowKit
set_option linter.unusedSimpArgs false
set_option linter.unusedVariables false
structure Chg (X:Nat→Prop) (w w' :World):Prop where
 os:w'.os=w.os
 tape:w'.tape=w.tape
 output:w'.output=w.output
 size:w.heap.size≤w'.heap.size
 same:∀b,b<w.heap.size→¬X b→w'.heap[b]? =w.heap[b]?
 drawn:w.drawn≤w'.drawn
theorem Chg.refl (X:Nat→Prop) (w:World):Chg X w w:=⟨rfl,rfl,rfl,Nat.le_refl _,fun _ _ _=>rfl,Nat.le_refl _⟩
theorem Chg.drew (X:Nat→Prop) (w:World):Chg X w w.drew:=⟨rfl,rfl,rfl,Nat.le_refl _,fun _ _ _=>rfl,Nat.le_succ _⟩
theorem Chg.alloc (X:Nat→Prop) (w:World) (o:Obj):Chg X w (w.alloc o):=⟨rfl,rfl,rfl,by simp,fun b hb _=>Below.heap_alloc w o b hb,Nat.le_refl _⟩
theorem Chg.setCell {X:Nat→Prop} (w:World) (p:Addr) (hp:X p.block) (v:Value):Chg X w (w.setCell p v):=
 ⟨rfl,rfl,rfl,by simp,fun b hb hx=>Below.heap_setCell w p v b (fun e=>hx (e▸hp)),Nat.le_refl _⟩
theorem Chg.mono {X Y:Nat→Prop} {w w' :World} (h:Chg X w w') (hxy:∀b,X b→Y b):Chg Y w w' :=⟨h.os,h.tape,h.output,h.size,fun b hb hy=>h.same b hb fun hx=>hy (hxy b hx),h.drawn⟩
theorem Chg.trans {K X:Nat→Prop} {W w w' :World} (h:Chg K W w) (h' :Chg X w w') (hx:∀b,X b→K b∨W.heap.size≤b):Chg K W w' :=
 ⟨h'.os.trans h.os,h'.tape.trans h.tape,h'.output.trans h.output,Nat.le_trans h.size h'.size,fun b hb hk=>
  (h'.same b (Nat.lt_of_lt_of_le hb h.size) (fun hxb=>(hx b hxb).elim hk (fun hle=>by omega))).trans (h.same b hb hk),Nat.le_trans h.drawn h'.drawn⟩
structure Sh (K:Nat→Prop) (W w:World) (L:List Asn):Prop where
 chg:Chg K W w
 ok:∀A∈L,A.ok w
 mine:∀A∈L,∀b,A.fp b→K b∨W.heap.size≤b
 self:∀A∈L,∀b,A.fp b→¬A.rd b
 apart:L.Pairwise Asn.Apart
abbrev Sh0 :=Sh (fun _=>False)
section
variable {K:Nat→Prop} {W w w' :World} {L:List Asn}
theorem Sh.lt (h:Sh K W w L) {A:Asn} (hA:A∈L) {b:Nat} (hb:A.fp b∨A.rd b):b<w.heap.size:=A.lt w (h.ok A hA) b hb
theorem Sh.step {Lp Lr L' :List Asn} (h:Sh K W w (Lp++Lr)) (hc:Chg (fun b=>∃A∈Lp,A.fp b) w w')
  (hok:∀A∈L',A.ok w')
  (hfp:∀A∈L',∀b,A.fp b→(∃B∈Lp,B.fp b)∨w.heap.size≤b)
  (hrd:∀A∈L',∀b,A.rd b→(∃B∈Lp,B.fp b∨B.rd b)∨(∃B∈Lr,B.rd b)∨w.heap.size≤b)
  (hself:∀A∈L',∀b,A.fp b→¬A.rd b) (hap:L'.Pairwise Asn.Apart):Sh K W w' (L' ++Lr):=by
 have hpr:∀A∈Lp,∀B∈Lr,A.Apart B:=fun A hA B hB=>(List.pairwise_append.1 h.apart).2.2 A hA B hB
 have hrr:Lr.Pairwise Asn.Apart:=(List.pairwise_append.1 h.apart).2.1
 have hrest:∀B∈Lr,∀b,B.fp b∨B.rd b→¬∃A∈Lp,A.fp b:=by
  rintro B hB b hb ⟨A,hA,hAb⟩
  have:=hpr A hA B hB b
  exact hb.elim (this.1 hAb).1 (this.1 hAb).2
 refine ⟨h.chg.trans hc ?_, ?_, ?_, ?_, ?_⟩
 ·rintro b ⟨A,hA,hb⟩
  exact h.mine A (List.mem_append.2 (.inl hA)) b hb
 ·intro A hA
  rcases List.mem_append.1 hA with hA|hA
  ·exact hok A hA
  ·exact A.keep w w' (h.ok A (List.mem_append.2 (.inr hA))) fun b hb=>hc.same b (h.lt (List.mem_append.2 (.inr hA)) hb) (hrest A hA b hb)
 ·intro A hA b hb
  rcases List.mem_append.1 hA with hA|hA
  ·rcases hfp A hA b hb with ⟨B,hB,hBb⟩|hle
   ·exact h.mine B (List.mem_append.2 (.inl hB)) b hBb
   ·exact .inr (Nat.le_trans h.chg.size hle)
  ·exact h.mine A (List.mem_append.2 (.inr hA)) b hb
 ·intro A hA
  rcases List.mem_append.1 hA with hA|hA
  ·exact hself A hA
  ·exact h.self A (List.mem_append.2 (.inr hA))
 ·refine List.pairwise_append.2 ⟨hap,hrr,fun A hA B hB b=>⟨fun ha=> ?_,fun hb ha=> ?_⟩⟩
  ·rcases hfp A hA b ha with ⟨C,hC,hCb⟩|hle
   ·exact (hpr C hC B hB b).1 hCb
   ·exact ⟨fun hb=>by have:=h.lt (List.mem_append.2 (.inr hB)) (.inl hb);omega,fun hb=>by have:=h.lt (List.mem_append.2 (.inr hB)) (.inr hb);omega⟩
  ·rcases hrd A hA b ha with ⟨C,hC,hCb⟩|⟨C,hC,hCb⟩|hle
   ·exact hCb.elim (fun hCb=>((hpr C hC B hB b).1 hCb).1 hb) ((hpr C hC B hB b).2 hb)
   ·by_cases hcb:C=B
    ·subst hcb
     exact h.self C (List.mem_append.2 (.inr hC)) b hb hCb
    ·rcases apart_of_mem hrr hC hB with e|hap
     ·exact hcb e
     ·exact (hap b).2 hb hCb
   ·have:=h.lt (List.mem_append.2 (.inr hB)) (.inl hb);omega
theorem Sh.drew (h:Sh K W w L):Sh K W w.drew L:=by
 have:=Sh.step (Lp:= []) (Lr:=L) (L' := []) (w' :=w.drew) h (Chg.drew _ w) (by simp) (by simp) (by simp) (by simp) .nil
 simpa using this
theorem Sh.sel {L' :List Asn} (h:Sh K W w L) (is:List Nat) (hsel:selB L is=some L'):Sh K W w L' :=by
 obtain ⟨hnd,hs⟩:is.Nodup∧selOK L is L' :=by
  unfold selB at hsel
  split at hsel
  ·rename_i hn;exact ⟨nodB_ok hn,selL9_ok hsel⟩
  ·cases hsel
 have hm:∀A∈L',A∈L:=by
  intro A hA
  obtain ⟨k,hk⟩:=List.getElem?_of_mem hA
  obtain ⟨i,_,hi⟩:=selOK_at hs k A hk
  exact List.mem_of_getElem? hi
 refine ⟨h.chg,fun A hA=>h.ok A (hm A hA),fun A hA=>h.mine A (hm A hA),fun A hA=>h.self A (hm A hA), ?_⟩
 rw [List.pairwise_iff_getElem]
 intro p q hp hq hpq
 obtain ⟨i,hi1,hi2⟩:=selOK_at hs p _ (List.getElem?_eq_getElem hp)
 obtain ⟨j,hj1,hj2⟩:=selOK_at hs q _ (List.getElem?_eq_getElem hq)
 have hij:i≠j:=by
  intro e
  subst e
  obtain ⟨hpi,e1⟩:=List.getElem?_eq_some_iff.1 hi1
  obtain ⟨hqi,e2⟩:=List.getElem?_eq_some_iff.1 hj1
  exact List.pairwise_iff_getElem.1 hnd p q hpi hqi hpq (e1.trans e2.symm)
 obtain ⟨li,e1⟩:=List.getElem?_eq_some_iff.1 hi2
 obtain ⟨lj,e2⟩:=List.getElem?_eq_some_iff.1 hj2
 have hpw:=List.pairwise_iff_getElem.1 h.apart
 rw [←e1,←e2]
 rcases Nat.lt_or_gt_of_ne hij with hlt|hgt
 ·exact hpw i j li lj hlt
 ·exact (hpw j i lj li hgt).symm
theorem Sh.push (h:Sh K W w L) {A:Asn} (hc:Chg (fun _=>False) w w') (hok:A.ok w') (hfp:∀b,A.fp b→w.heap.size≤b) (hrd:∀b,A.rd b→(∃B∈L,B.rd b)∨w.heap.size≤b) (hself:∀b,A.fp b→¬A.rd b):Sh K W w' (A::L):=
 Sh.step (Lp:= []) (Lr:=L) (L' := [A]) h (hc.mono fun _ h=>h.elim) (by simpa using hok) (by simpa using fun b hb=>hfp b hb) (by simpa using fun b hb=>hrd b hb) (by simpa using hself) (List.pairwise_singleton _ _)
theorem Sh.put (h:Sh K W w L) {i:Nat} {A A' :Asn} (hi:L[i]? =some A) (hc:Chg A.fp w w') (hok:A'.ok w') (hfp:∀b,A'.fp b→A.fp b∨w.heap.size≤b)
  (hrd:∀b,A'.rd b→A.fp b∨A.rd b∨(∃B∈L,B.rd b)∨w.heap.size≤b) (hself:∀b,A'.fp b→¬A'.rd b):Sh K W w' (L.set i A'):=by
 obtain ⟨hlt,rfl⟩:=List.getElem?_eq_some_iff.1 hi
 have h1:Sh K W w ([L[i]]++L.eraseIdx i):=by
  refine ⟨h.chg,fun A hA=>h.ok A ?_,fun A hA=>h.mine A ?_,fun A hA=>h.self A ?_, ?_⟩
  ·simp only [List.singleton_append,List.mem_cons] at hA;exact hA.elim (fun e=>e▸List.getElem_mem _) List.mem_of_mem_eraseIdx
  ·simp only [List.singleton_append,List.mem_cons] at hA;exact hA.elim (fun e=>e▸List.getElem_mem _) List.mem_of_mem_eraseIdx
  ·simp only [List.singleton_append,List.mem_cons] at hA;exact hA.elim (fun e=>e▸List.getElem_mem _) List.mem_of_mem_eraseIdx
  ·refine (List.Perm.pairwise_iff (fun {x y} hxy=>hxy.symm) ?_).1 h.apart
   exact perm_erase L i hlt
 have h2:=Sh.step (L' := [A']) h1 (hc.mono fun b hb=>⟨_,by simp,hb⟩) (by simpa using hok) (by simpa using hfp) (by
  intro A hA b hb
  simp only [List.mem_singleton] at hA
  subst hA
  rcases hrd b hb with hb|hb|⟨B,hB,hb⟩|hb
  ·exact .inl ⟨_,by simp, .inl hb⟩
  ·exact .inl ⟨_,by simp, .inr hb⟩
  ·by_cases e:B=L[i]
   ·subst e;exact .inl ⟨_,by simp, .inr hb⟩
   ·refine .inr (.inl ⟨B, ?_,hb⟩)
    have:=(perm_erase L i hlt).mem_iff.1 hB
    simpa [e] using this
  ·exact .inr (.inr hb)) (by simpa using hself) (List.pairwise_singleton _ _)
 refine ⟨h2.chg,fun A hA=>h2.ok A ?_,fun A hA=>h2.mine A ?_,fun A hA=>h2.self A ?_, ?_⟩
 all_goals try (have hp:=perm_set A' L i hlt;exact hp.mem_iff.1 hA)
 exact (List.Perm.pairwise_iff (fun {x y} hxy=>hxy.symm) (perm_set A' L i hlt).symm).1 h2.apart
end
section
variable {K:Nat→Prop} {W w w' :World} {L:List Asn} {α:Type} [Enc α]
theorem Sh.at (h:Sh K W w L) (i:Nat) {s:Ls α} (hi:L[i]? =some (.at_ s)):s.At w:=h.ok _ (List.mem_of_getElem? hi)
theorem Sh.blk (h:Sh K W w L) (i:Nat) {g:Nat} {E:TypeId} {cs:List Value} (hi:L[i]? =some (.blk g E cs)):Blk w g E cs.toArray:=h.ok _ (List.mem_of_getElem? hi)
theorem Sh.own (h:Sh K W w L) (i:Nat) {E:TypeId} {s:Ls α} (hi:L[i]? =some (.own E s)):s.At w:=own_at (h.ok _ (List.mem_of_getElem? hi))
end
structure St (N:Nat) (K:Nat→Prop) (W:World) (a:Act) (w:World) (F:List (Nat×Value)) (L:List Asn):Prop where
 fr:Fr N a F
 sh:Sh K W w L
section
variable {P:Program} {N:Nat} {K:Nat→Prop} {W w:World} {a:Act} {F F' :List (Nat×Value)} {L L' :List Asn} {o:Oper} {ops:Array Oper} {rest:List Oper} {Q:Exit→Act→World→Prop}
theorem St.sub (h:St N K W a w F L) (hs:frOK F F'):St N K W a w F' L:=⟨h.fr.sub hs,h.sh⟩
theorem St.sel (h:St N K W a w F L) (is:List Nat) (hs:selB L is=some L'):St N K W a w F L' :=⟨h.fr,h.sh.sel is hs⟩
theorem St.nf (h:St N K W a w F L) (hs:frOK F F'):St N K W a w F' L:=⟨h.fr.sub hs,h.sh⟩
theorem St.same {d:Nat} {v v' :Value} (h:St N K W a w F L) (hd:lk F d=some v) (e:v=v'):St N K W a w ((d,v')::F) L:=⟨h.fr.same hd e,h.sh⟩
theorem St.drew (h:St N K W a w F L):St N K W a w.drew F L:=⟨h.fr,h.sh.drew⟩
def Ex (P:Program) (o:Oper) (a:Act) (w:World) (R:Act→World→Prop):Prop:=∀(next:Act→World→Prop) (Q:Exit→Act→World→Prop),(∀a' w',R a' w' →next a' w')→o.wp P a w next Q
def Rn (P:Program) (o:Oper) (N:Nat) (K:Nat→Prop) (W:World) (F:List (Nat×Value)) (L:List Asn) (v:Value):Prop:=∀a w,St N K W a w F L→(execOp a.eval o).run P w= .ok (.value v) w
theorem Ex.of_run {R:Act→World→Prop} {v:Value} {w' :World} (hr:(execOp a.eval o).run P w= .ok (.value v) w') (h:R (a.put o.dst v) w'):Ex P o a w R:=by
 intro next Q hn
 unfold Oper.wp
 rw [hr]
 exact hn _ _ h
theorem Ex.of_skip {R:Act→World→Prop} {w' :World} (hr:(execOp a.eval o).run P w= .ok .skip w') (h:R (a.put o.dst undef) w'):Ex P o a w R:=by
 intro next Q hn
 unfold Oper.wp
 rw [hr]
 exact hn _ _ h
theorem Ex.mono {R R' :Act→World→Prop} (h:Ex P o a w R) (hr:∀a' w',R a' w' →R' a' w'):Ex P o a w R' :=fun next Q hn=>h next Q fun a' w' x=>hn a' w' (hr a' w' x)
theorem wl_val {d:Nat} {v:Value} (h:St N K W a w F L) (hr:Rn P o N K W F L v) (hw:Region.wanted o (yielded ops a.tmps)=true) (hd:o.dst=some d) (hdN:Nat.blt d N=true)
  (k:∀a',St N K W a' w ((d,v)::F) L→wpList P ops Q rest a' w):wpList P ops Q (o::rest) a w:=by
 unfold wpList
 rw [if_pos hw]
 left
 unfold Oper.wp
 rw [hr a w h]
 exact k _ ⟨by rw [hd];exact h.fr.put d (by simpa [Nat.blt_eq] using hdN) v,h.sh⟩
theorem wv {d:Nat} {v:Value} (h:St N K W a w F L) (hr:Rn P o N K W F L v) (hd:o.dst=some d) (hc:okg o d N=true)
  (k:∀a',St N K W a' w ((d,v)::F) L→wpList P ops Q rest a' w):wpList P ops Q (o::rest) a w:=by
 simp only [okg,Bool.and_eq_true,Option.isNone_iff_eq_none] at hc
 exact wl_val h hr (wanted_none hc.1 _) hd hc.2 k
theorem wl_ex {R:Act→World→Prop} (hx:Ex P o a w R) (hw:Region.wanted o (yielded ops a.tmps)=true) (k:∀a' w',R a' w' →wpList P ops Q rest a' w'):wpList P ops Q (o::rest) a w:=by
 unfold wpList
 rw [if_pos hw]
 exact .inl (hx _ _ k)
theorem wl_skip {d:Nat} (h:St N K W a w F L) (hw:Region.wanted o (yielded ops a.tmps)=false) (hd:o.dst=some d) (hdN:Nat.blt d N=true) (k:∀a',St N K W a' w ((d,undef)::F) L→wpList P ops Q rest a' w):wpList P ops Q (o::rest) a w:=by
 unfold wpList
 rw [if_neg (by simp [hw])]
 exact k _ ⟨by rw [hd];exact h.fr.put d (by simpa [Nat.blt_eq] using hdN) undef,h.sh⟩
theorem wq_val {d:Nat} {v:Value} {Q:Act→Prop} (h:Fr N a F) (hr:Rn P o N K W F L v) (hw:Region.wanted o (yielded ops a.tmps)=true) (hd:o.dst=some d) (hdN:Nat.blt d N=true)
  (k:∀a',Fr N a' ((d,v)::F)→wpQuiet P ops (fun w=>Sh K W w L) Q rest a'):wpQuiet P ops (fun w=>Sh K W w L) Q (o::rest) a:=by
 unfold wpQuiet
 rw [if_pos hw]
 refine ⟨v,fun w hw=> ?_,k _ (by rw [hd];exact h.put d (by simpa [Nat.blt_eq] using hdN) v)⟩
 unfold Oper.quietAt
 rw [hr a w ⟨h,hw⟩]
 exact ⟨rfl,rfl⟩
theorem wq_skip {d:Nat} {Q:Act→Prop} (h:Fr N a F) (hw:Region.wanted o (yielded ops a.tmps)=false) (hd:o.dst=some d) (hdN:Nat.blt d N=true)
  (k:∀a',Fr N a' ((d,undef)::F)→wpQuiet P ops (fun w=>Sh K W w L) Q rest a'):wpQuiet P ops (fun w=>Sh K W w L) Q (o::rest) a:=by
 unfold wpQuiet
 rw [if_neg (by simp [hw])]
 exact k _ (by rw [hd];exact h.put d (by simpa [Nat.blt_eq] using hdN) undef)
theorem Rn.of {v:Value} (h:∀a w,St N K W a w F L→(execOp a.eval o).run P w= .ok (.value v) w):Rn P o N K W F L v:=h
theorem r_move {x:Operand} {v:Value} (ho:o.op= .move x) (hx:ev F x=some v):Rn P o N K W F L v:=fun a w h=>by unfold execOp;simp [ho,h.fr.ev hx]
theorem r_assign {x:Operand} {v:Value} (ho:o.op= .assign x) (hx:ev F x=some v):Rn P o N K W F L v:=fun a w h=>by unfold execOp;simp [ho,h.fr.ev hx]
section
variable {T U:TypeId} {x y:Operand}
theorem r_bin {op:BinOp} {k:IntKind} {p q:Int} {v:Value} (ho:o.op= .binOp op T x y U) (hx:ev F x=some (.int k p)) (hy:ev F y=some (.int k q)) (hv:∀w,(binOp op T (.int k p) (.int k q)).run P w= .ok v w):Rn P o N K W F L v:=fun a w h=>by
 unfold execOp;simp only [ho,h.fr.ev hx,h.fr.ev hy,eqGuard_at_int,Sem.run_bind,Sem.run_pure,Result.andThen_ok,hv]
theorem r_addW {p q:Int} (ho:o.op= .binOp .add T x y U) (hx:ev F x=some (.int .i64 p)) (hy:ev F y=some (.int .i64 q)):Rn P o N K W F L (.int .i64 (wrap64 (p+q))):=r_bin ho hx hy fun w=>by simp [go_sem];exact IntWalk.i64_left _
theorem r_addI {p q:Int} (ho:o.op= .binOp .add T x y U) (hx:ev F x=some (.int .i64 p)) (hy:ev F y=some (.int .i64 q)) (hb: -9223372036854775808≤p+q∧p+q<9223372036854775808):Rn P o N K W F L (.int .i64 (p+q)):=by
 have:=r_addW (P:=P) (N:=N) (K:=K) (W:=W) (L:=L) ho hx hy;rwa [IntWalk.wrap64_in _ ⟨by omega,by omega⟩] at this
theorem r_addN {p q:Nat} (ho:o.op= .binOp .add T x y U) (hx:ev F x=some (.int .i64 (p:Int))) (hy:ev F y=some (.int .i64 (q:Int))) (hb:p+q<9223372036854775808):Rn P o N K W F L (.int .i64 ((p+q:Nat):Int)):=by
 rw [Int.natCast_add];exact r_addI ho hx hy (by omega)
theorem r_lssI {k:IntKind} {p q:Int} (ho:o.op= .binOp .lss T x y U) (hx:ev F x=some (.int k p)) (hy:ev F y=some (.int k q)):Rn P o N K W F L (.bool (decide (p<q))):=r_bin ho hx hy fun w=>by simp [go_sem]
theorem r_gtrI {k:IntKind} {p q:Int} (ho:o.op= .binOp .gtr T x y U) (hx:ev F x=some (.int k p)) (hy:ev F y=some (.int k q)):Rn P o N K W F L (.bool (decide (q<p))):=r_bin ho hx hy fun w=>by simp [go_sem]
theorem r_geqI {k:IntKind} {p q:Int} (ho:o.op= .binOp .geq T x y U) (hx:ev F x=some (.int k p)) (hy:ev F y=some (.int k q)):Rn P o N K W F L (.bool (decide (q≤p))):=r_bin ho hx hy fun w=>by simp [go_sem]
theorem r_neqI {k:IntKind} {p q:Int} (ho:o.op= .binOp .neq T x y U) (hx:ev F x=some (.int k p)) (hy:ev F y=some (.int k q)):Rn P o N K W F L (.bool (decide (p≠q))):=r_bin ho hx hy fun w=>by
 simp [go_sem,bne];rfl
theorem r_lssN {k:IntKind} {p q:Nat} (ho:o.op= .binOp .lss T x y U) (hx:ev F x=some (.int k (p:Int))) (hy:ev F y=some (.int k (q:Int))):Rn P o N K W F L (.bool (decide (p<q))):=by
 have:=r_lssI (P:=P) (N:=N) (K:=K) (W:=W) (L:=L) ho hx hy;simpa using this
theorem r_geqN {k:IntKind} {p q:Nat} (ho:o.op= .binOp .geq T x y U) (hx:ev F x=some (.int k (p:Int))) (hy:ev F y=some (.int k (q:Int))):Rn P o N K W F L (.bool (decide (q≤p))):=by
 have:=r_geqI (P:=P) (N:=N) (K:=K) (W:=W) (L:=L) ho hx hy;simpa using this
end
end
section
variable {P:Program} {N:Nat} {K:Nat→Prop} {W w:World} {a:Act} {F F' :List (Nat×Value)} {L L' :List Asn} {o:Oper} {ops:Array Oper} {rest:List Oper} {Q:Exit→Act→World→Prop}
theorem r_fieldB {T:TypeId} {x:Operand} {f k g q r:Nat} (hT:flI P T f=some k) (ho:o.op= .fieldAddr T x f) (hx:ev F x=some (.pointer (some ⟨g,q,none⟩))) (hr:q+k=r):Rn P o N K W F L (.pointer (some ⟨g,r,none⟩)):=fun a w h=>by
 subst hr
 unfold execOp;simp only [ho,h.fr.ev hx,Sem.run_bind,run_fieldAt hT,Addr.add_lit,Result.andThen_ok,Sem.run_pure]
section
variable {α:Type} [Enc α]
theorem r_ixI {T e:TypeId} {g:Bool} {n by_:Nat} {z:List Value} {s:Ls α} {kd:IntKind} {q:Int} {x y:Operand} (hT:slI P T=some e) (he:tyI P e=some (g,n,by_,z)) (ho:o.op= .indexAddr T x y) (hx:ev F x=some s.v) (hy:ev F y=some (.int kd q)) (hat:∀w,Sh K W w L→s.At w)
  (hb:0≤q∧q<s.l.length):Rn P o N K W F L (.pointer (some (padr s.v n q.toNat 0))):=fun a w h=>by
 unfold execOp;simp only [ho,h.fr.ev hx,h.fr.ev hy,Sem.run_bind,run_index hT he (hat w h.sh) hb.1 hb.2,Result.andThen_ok,Sem.run_pure]
theorem r_ixN {T e:TypeId} {g:Bool} {n by_:Nat} {z:List Value} {s:Ls α} {kd:IntKind} {q:Nat} {x y:Operand} (hT:slI P T=some e) (he:tyI P e=some (g,n,by_,z)) (ho:o.op= .indexAddr T x y) (hx:ev F x=some s.v) (hy:ev F y=some (.int kd (q:Int))) (hat:∀w,Sh K W w L→s.At w)
  (hb:q<s.l.length):Rn P o N K W F L (.pointer (some (padr s.v n q 0))):=by
 simpa using r_ixI (P:=P) (N:=N) (K:=K) (W:=W) (L:=L) hT he ho hx hy hat ⟨by omega,by omega⟩
theorem r_len {T e:TypeId} {s:Ls α} {x:Operand} {n:Nat} (hT:slI P T=some e) (ho:o.op= .call ⟨.builtin .len, #[x], #[T]⟩) (hx:ev F x=some s.v) (hat:∀w,Sh K W w L→s.At w) (hn:s.l.length=n):Rn P o N K W F L (.int .i64 (n:Int)):=fun a w h=>by
 subst hn
 obtain ⟨A,cap,hv,_⟩:=hat w h.sh
 have hu:=slI_parts hT
 have hel:P.elem T=e:=by simp [Program.elem,hu]
 unfold execOp
 have e1:=h.fr.ev hx
 rw [hv] at e1
 simp [ho,resolve,invoke,builtin,e1,run_len_slice _ _ _ _ _ _ (show P.underlying T=some (.slice (P.elem T)) by rw [hel];exact hu),goInt]
theorem r_ldb {T:TypeId} {n by_:Nat} {z:List Value} {x:Operand} {g q i:Nat} {E:TypeId} {cs:List Value} {v:Value} (hT:tyI P T=some (false,n,by_,z)) (ho:o.op= .load T x) (hx:ev F x=some (.pointer (some ⟨g,q,none⟩)))
  (hi:L[i]? =some (.blk g E cs)) (hv:cs[q]? =some v):Rn P o N K W F L v:=fun a w h=>by
 have hc:w.cell? ⟨g,q,none⟩=some v:=by rw [(h.sh.blk i hi).cell q];simpa using hv
 unfold execOp;simp only [ho,h.fr.ev hx,Sem.run_bind,run_load1 hT hc,Result.andThen_ok,Sem.run_pure]
theorem r_lde {T:TypeId} {n by_:Nat} {z:List Value} {x:Operand} {i j sz:Nat} {s:Ls α} {v:Value} (hT:tyI P T=some (false,n,by_,z)) (ho:o.op= .load T x) (hx:ev F x=some (.pointer (some (padr s.v sz i j))))
  (hsz:Enc.sz α=sz) (hat:∀w,Sh K W w L→s.At w) (hi:i<s.l.length) (hj:j<sz) (hv:Enc.cell (nth s.l i) j=v):Rn P o N K W F L v:=fun a w h=>by
 subst hsz
 have hc:=(hat w h.sh).cell i j hi hj
 rw [hv] at hc
 unfold execOp;simp only [ho,h.fr.ev hx,Sem.run_bind,run_load1 hT hc,Result.andThen_ok,Sem.run_pure]
end
theorem St.push_blk {d g:Nat} {v:Value} {T:TypeId} {cs:List Value} (h:St N K W a w F L) (hd:Nat.blt d N=true):
  St N K W (a.put (some d) (.pointer (some ⟨w.heap.size,0,none⟩))) (w.alloc (.cells cs.toArray T)) ((d, .pointer (some ⟨w.heap.size,0,none⟩))::F) (.blk w.heap.size T cs::L):=
 ⟨h.fr.put d (by simpa [Nat.blt_eq] using hd) _,h.sh.push (Chg.alloc _ w _) (Blk.new w T cs.toArray) (fun b hb=>by rw [show b=w.heap.size from hb];exact Nat.le_refl _) (fun b hb=>hb.elim) (fun b _ hb=>hb)⟩
theorem x_box {d:Nat} {T:TypeId} {x:Operand} {v:Value} {cs:List Value} (h:St N K W a w F L) (ho:o.op= .box T x) (hx:ev F x=some v) (hv:v.cells=cs.toArray) (hd:o.dst=some d) (hdN:Nat.blt d N=true):
  Ex P o a w (fun a' w' =>∃b:Nat,St N K W a' w' ((d, .pointer (some ⟨b,0,none⟩))::F) (.blk b T cs::L)):=by
 refine Ex.of_run (v:= .pointer (some ⟨w.heap.size,0,none⟩)) (w' :=w.alloc (.cells cs.toArray T)) ?_ ⟨w.heap.size, ?_⟩
 ·unfold execOp
  simp only [ho,h.fr.ev hx,Instr.box,newVar,newRow,hv,Sem.run_bind,run_newObj,Result.andThen_ok,Sem.run_pure]
  rfl
 ·rw [hd];exact h.push_blk (g:=0) (v:=undef) hdN
end
section
variable {P:Program} {N:Nat} {K:Nat→Prop} {W w:World} {a:Act} {F F' :List (Nat×Value)} {L L' :List Asn} {o:Oper} {ops:Array Oper} {rest:List Oper} {Q:Exit→Act→World→Prop}
section
variable {α:Type} [Enc α]
theorem x_ste {T:TypeId} {gg:Bool} {by_:Nat} {z:List Value} {x y:Operand} {i j sz r:Nat} {E:TypeId} {s:Ls α} {x' :α} {v:Value} (h:St N K W a w F L) (hT:tyI P T=some (gg,1,by_,z)) (ho:o.op= .store T x y) (hd:o.dst=none)
  (hx:ev F x=some (.pointer (some (padr s.v sz i j)))) (hsz:Enc.sz α=sz) (hr:L[r]? =some (.own E s)) (hi:i<s.l.length) (hj:j<sz) (hy:ev F y=some v) (hv:v.cells.toList= [v]) (h1:v.oneCell' =true)
  (hc:∀q,q<sz→Enc.cell x' q=if q=j then v else Enc.cell (nth s.l i) q)
  (hin:∀w,Sh K W w L→Enc.inner x' w) (hon:∀b,Enc.on x' b→s.v.ownBlock≠some b∧∃B∈L,B.rd b):
  Ex P o a w (fun a' w' =>St N K W a' w' F (L.set r (.own E ⟨s.v,s.l.set i x'⟩))):=by
 subst hsz
 obtain ⟨ti,e,zv,hti,he,_,hs,_⟩:=tyI_parts hT
 have hok:=h.sh.ok _ (List.mem_of_getElem? hr)
 obtain ⟨hown,hlen,hinn⟩:=hok
 rcases hown.2 with ⟨_,h0⟩|⟨g,cap,cur,hsv,hb0,hg,hn,hm,hcs,htk⟩
 ·omega
 have hp:padr s.v (Enc.sz α) i j=⟨g,i*Enc.sz α+j,none⟩:=by rw [hsv];simp [padr,vblk,voff]
 have hat:=own_at (h.sh.ok _ (List.mem_of_getElem? hr))
 have hcell:=hat.cell i j hi hj
 rw [hp] at hcell
 have hfz:w.frozen? ⟨g,i*Enc.sz α+j,none⟩=false:=frozen_of_row w g _ cur E hg
 refine Ex.of_skip (w' :=w.setCell ⟨g,i*Enc.sz α+j,none⟩ v) ?_ ?_
 ·unfold execOp
  have hcz:v.cells.size=ti.size:=by rw [hs,←Array.length_toList,hv];rfl
  simp only [ho,h.fr.ev hx,h.fr.ev hy,Instr.storeAt,Instr.sureAddr,storeVar,Sem.run_bind,Sem.run_pure,Result.andThen_ok,run_sizeOf hti,hcz,hp]
  simp [hv,storeCells,run_store P w _ v _ h1,hcell,hfz,Addr.add_zero']
 ·rw [hd]
  have hst:=World.ownsRow.stored (w:=w) (base:=0) (e:=E) (size:=Enc.sz α) (n:=s.l.length) (xs:=encL s.l) (g:=g) (cap:=cap) (by rw [←hsv];exact hown) (i*Enc.sz α+j) v
  have hfp:(Asn.own E s).fp g:=by show s.v.ownBlock=some g;rw [hsv];rfl
  have hse:=h.sh.self _ (List.mem_of_getElem? hr)
  refine ⟨h.fr,h.sh.put hr (Chg.setCell w _ hfp v) ⟨?_,by simpa using hlen,fun q hq=> ?_⟩ (fun b hb=> .inl hb) (fun b hb=> ?_) (fun b hb hb' => ?_)⟩
  ·show World.ownsRow _ 0 E (Enc.sz α) s.v (s.l.set i x').length (encL (s.l.set i x'))
   rw [encL_set s.l i j x' v hi hj hc,List.length_set,hsv]
   exact hst.1
  ·have key:∀y:α,Enc.inner y w→(∀b,Enc.on y b→g≠b)→Enc.inner y (w.setCell ⟨g,i*Enc.sz α+j,none⟩ v):=fun y hy hb=>
    Enc.keep y w _ hy fun b hb' =>Below.heap_setCell w _ v b (fun e=>hb b hb' e.symm)
   have hq' :q<s.l.length:=by simpa using hq
   show Enc.inner (nth (s.l.set i x') q) _
   rw [nth_set]
   split
   ·exact key _ (hin w h.sh) fun b hb e=>(hon b hb).1 (by rw [hsv,e];rfl)
   ·exact key _ (hinn q hq') fun b hb e=>hse g hfp ⟨q,hq',e▸hb⟩
  ·obtain ⟨q,hq,hb⟩:=hb
   simp only [nth_set] at hb
   split at hb
   ·exact .inr (.inr (.inl (hon b hb).2))
   ·exact .inr (.inl ⟨q,by simpa using hq,hb⟩)
  ·obtain ⟨q,hq,hb'⟩:=hb'
   simp only [nth_set] at hb'
   split at hb'
   ·exact (hon b hb').1 hb
   ·exact hse b hb ⟨q,by simpa using hq,hb'⟩
theorem x_lit {d:Nat} {T e:TypeId} {gg:Bool} {sz by_ n:Nat} {z:List Value} {parts:List (Nat×Operand)} {pv:List (Nat×Value)} {cs:List Value} (l:List α) (h:St N K W a w F L) (hT:slI P T=some e) (he:tyI P e=some (gg,sz,by_,z)) (ho:o.op= .buildSlice T n parts.toArray)
  (hn:l.length=n) (hsz:Enc.sz α=sz) (hpos:0<n*sz∧n*sz≤1000) (hx:evp F parts=some pv)
  (hf:Instr.fill (fun i=>some (i*sz,sz)) ((Array.range (n*sz)).map (z.toArray[· %z.toArray.size]!)) pv=some cs.toArray) (hcs:cs=encL l)
  (hin:∀q,q<l.length→∀w,Sh K W w L→Enc.inner (nth l q) w) (hon:∀q,q<l.length→∀b,Enc.on (nth l q) b→∃B∈L,B.rd b) (hd:o.dst=some d) (hdN:Nat.blt d N=true):
  Ex P o a w (fun a' w' =>∃v:Value,St N K W a' w' ((d,v)::F) (.own e (⟨v,l⟩:Ls α)::L)):=by
 subst hsz
 subst hn
 obtain ⟨i,ed,zv,hi,hed,_,hsz,hby,hzz,hzc⟩:=tyI_parts he
 have hzv:zv.cells=z.toArray:=by rw [←hzc]
 have hsp:0<Enc.sz α:=Nat.pos_of_ne_zero (by rintro e;simp [e] at hpos)
 have hl1:l.length≤1000:=Nat.le_trans (Nat.le_mul_of_pos_right l.length hsp) hpos.2
 have hrun:=run_buildSlice (P:=P) w T e l.length (parts.toArray.map fun (i,x)=>(i,a.eval x)) cs.toArray i zv (slI_parts hT) hi hzz (by rw [hsz];omega) (by rw [hsz];omega) (by rw [hsz,hzv,h.fr.evp hx];exact hf)
 refine Ex.of_run (v:= .slice (some ⟨w.heap.size,0,none⟩) l.length l.length) (w' :=w.alloc (.cells cs.toArray e)) ?_ ⟨.slice (some ⟨w.heap.size,0,none⟩) l.length l.length, ?_⟩
 ·unfold execOp
  simp only [ho,Sem.run_bind,hrun,Result.andThen_ok,Sem.run_pure]
 ·rw [hd]
  have hold:∀q,q<l.length→∀b,Enc.on (nth l q) b→b<w.heap.size:=fun q hq b hb=>Enc.lt _ w (hin q hq w h.sh) b hb
  refine ⟨h.fr.put d (by simpa [Nat.blt_eq] using hdN) _,h.sh.push (Chg.alloc _ w _) ⟨⟨by rw [length_encL], .inr ⟨w.heap.size,l.length,cs.toArray,rfl,Nat.zero_le _,Go.heap_alloc_new w _,Nat.le_refl _,by unfold maxLen;omega, ?_, ?_⟩⟩,by show l.length≤_;omega,fun q hq=> ?_⟩ (fun b hb=> ?_) (fun b hb=> ?_) (fun b hb hb' => ?_)⟩
  ·simp [hcs,length_encL]
  ·simp only [hcs];rw [List.take_of_length_le (by rw [length_encL];exact Nat.le_refl _)]
  ·exact Enc.keep _ w _ (hin q hq w h.sh) fun b hb=>Below.heap_alloc w _ b (hold q hq b hb)
  ·have:w.heap.size=b:=by simpa [Asn.own,Value.ownBlock] using hb
   omega
  ·obtain ⟨q,hq,hb⟩:=hb
   exact .inl (hon q hq b hb)
  ·have:w.heap.size=b:=by simpa [Asn.own,Value.ownBlock] using hb
   obtain ⟨q,hq,hb'⟩:=hb'
   have:=hold q hq b hb'
   omega
theorem Sh.nil (E:TypeId) (h:Sh K W w L):Sh K W w (.own E (⟨.slice none 0 0, []⟩:Ls α)::L):=
 h.push (Chg.refl _ _) ⟨World.ownsRow_nil w 0 E (Enc.sz α),Nat.zero_le _,fun i hi=>absurd hi (by simp)⟩ (fun b hb=>by simp [Asn.own,Value.ownBlock] at hb) (fun b hb=>by obtain ⟨i,hi,_⟩:=hb;exact absurd hi (by simp)) (fun b hb=>by simp [Asn.own,Value.ownBlock] at hb)
theorem St.nil {α:Type} [Enc α] (E:TypeId) (h:St N K W a w F L):St N K W a w F (.own E (⟨.slice none 0 0, []⟩:Ls α)::L):=⟨h.fr,h.sh.nil E⟩
end
theorem call_wp {f:FuncId} {fo:Operand} {xs:List Operand} {tys:Array TypeId} {us vs ws:List Value} {R:Value→World→Prop} (h:Fr N a F) (hb:bodyI P f=true) (ho:o.op= .call ⟨.value fo,xs.toArray,tys⟩) (hf:ev F fo=some (.func (.func f) us.toArray ws.toArray))
  (hx:evs F xs=some vs) (hc:Rets P f (us++vs++ws) w R):Ex P o a w (fun a' w' =>∃v,R v w' ∧a' =a.put o.dst v):=by
 intro next Q hn
 unfold Oper.wp
 have hrun:(execOp a.eval o).run P w= .ok (.enter f (us++vs++ws).toArray) w:=by
  unfold execOp
  simp [ho,resolve,h.ev hf,h.evs hx,Deferred.ofValue,invoke,run_callFunc hb]
 rw [hrun]
 show Calls P f (us++vs++ws).toArray w _
 exact Calls.mono hc fun e w' ⟨v,he,hr⟩=>by subst he;exact hn _ _ ⟨v,hr,rfl⟩
theorem x_call {d f:Nat} {fo:Operand} {xs:List Operand} {tys:Array TypeId} {us vs ws:List Value} {R:Value→World→Prop} (h:St N K W a w F L) (hb:bodyI P f=true) (ho:o.op= .call ⟨.value fo,xs.toArray,tys⟩) (hf:ev F fo=some (.func (.func f) us.toArray ws.toArray))
  (hx:evs F xs=some vs) (hd:o.dst=some d) (hdN:Nat.blt d N=true) (hc:Rets P f (us++vs++ws) w R):Ex P o a w (fun a' w' =>∃v,R v w' ∧Fr N a' ((d,v)::F)):=
 (call_wp h.fr hb ho hf hx hc).mono fun a' w' ⟨v,hr,e⟩=>⟨v,hr,by rw [e,hd];exact h.fr.put d (by simpa [Nat.blt_eq] using hdN) v⟩
theorem Sh.call {w' :World} (h:Sh K W w L) (h' :Sh0 w w' L') (hrd:∀A∈L',∀b,A.rd b→w.heap.size≤b∨∃B∈L,B.rd b):Sh K W w' (L' ++L):=
 Sh.step (Lp:= []) (Lr:=L) (L' :=L') h (h'.chg.mono fun _ h=>h.elim) h'.ok (fun A hA b hb=> .inr ((h'.mine A hA b hb).resolve_left (fun h=>h)))
  (fun A hA b hb=>(hrd A hA b hb).elim (fun h=> .inr (.inr h)) (fun h=> .inr (.inl h))) h'.self h'.apart
theorem Sh.call0 {w' :World} (h:Sh K W w L) (h' :Sh0 w w' []):Sh K W w' L:=h.call h' (by simp)
theorem Sh0.start (w:World):Sh0 w w []:=⟨Chg.refl _ _,by simp,by simp,by simp, .nil⟩
theorem Sh0.ext {w:World} {L:List Asn} (hok:∀A∈L,A.ok w) (hfp:∀A∈L,∀b,¬A.fp b):Sh0 w w L:=by
 refine ⟨Chg.refl _ _,hok,fun A hA b hb=>(hfp A hA b hb).elim,fun A hA b hb=>(hfp A hA b hb).elim, ?_⟩
 rw [List.pairwise_iff_getElem]
 intro i j hi hj _ b
 exact ⟨fun h=>(hfp _ (List.getElem_mem hi) b h).elim,fun h=>(hfp _ (List.getElem_mem hj) b h).elim⟩
section
variable {α β γ δ:Type} [Enc α] [Enc β] [Enc γ] [Enc δ] {s:Ls α} {t:Ls β} {u:Ls γ} {v:Ls δ} {w:World}
theorem Sh0.ext1 (h1:s.At w):Sh0 w w [.at_ s]:=Sh0.ext (by intro A hA;simp at hA;subst hA;exact h1) (by intro A hA b hb;simp at hA;subst hA;exact hb)
theorem Sh0.ext2 (h1:s.At w) (h2:t.At w):Sh0 w w [.at_ s, .at_ t]:=Sh0.ext (by intro A hA;simp at hA;rcases hA with rfl|rfl;exact h1;exact h2) (by intro A hA b hb;simp at hA;rcases hA with rfl|rfl<;>exact hb)
end
theorem x_cond {c:Operand} {x y:Code} {b:Bool} (h:St N K W a w F L) (hc:ev F c=some (.bool b)) (ht:b=true→x.wp P Q a w) (hf:b=false→y.wp P Q a w):(Code.cond c x y).wp P Q a w:=wp_cond_split (h.fr.ev hc) ht hf
theorem x_condF {c:Operand} {x y:Code} {b:Bool} (h:St N K W a w F L) (hc:ev F c=some (.bool b)) (hb:b=false) (hf:y.wp P Q a w):(Code.cond c x y).wp P Q a w:=by subst hb;exact wp_cond_false (h.fr.ev hc) hf
theorem x_ret1 {fn:Func} {t:Nat} {v:Value} {R:Value→World→Prop} (hs:fn.results= #[.tmp t]) (h:St N K W a w F L) (ht:lk F t=some v) (hR:R v w):bodyPost P fn (fun e w' =>∃v,e= .returned v∧R v w') .ret a w:=by
 refine ⟨h.fr.defers,v, ?_,v,rfl,hR⟩
 rw [results_tmp hs]
 have:=h.fr.at_ t v ht
 simp [Array.getD_eq_getD_getElem?,this]
end
section
variable {P:Program} {N:Nat} {K:Nat→Prop} {W w:World} {a:Act} {F F' :List (Nat×Value)} {L L' :List Asn} {o:Oper} {Q:Exit→Act→World→Prop}
end
section
variable {P:Program} {N:Nat} {K:Nat→Prop} {W w:World} {a:Act} {F F' :List (Nat×Value)} {L L' B:List Asn} {o:Oper} {ops:Array Oper} {rest:List Oper} {Q:Exit→Act→World→Prop}
theorem Sh.back {w' :World} {A:Asn} (h:Sh K W w (A::L)) (h' :Sh A.fp w w' L') (hrd:∀C∈L',∀b,C.rd b→(A.fp b∨A.rd b)∨(∃D∈L,D.rd b)∨w.heap.size≤b):Sh K W w' (L' ++L):=
 Sh.step (Lp:= [A]) (Lr:=L) (L' :=L') h (h'.chg.mono fun b hb=>⟨A,by simp,hb⟩) h'.ok (fun C hC b hb=>(h'.mine C hC b hb).imp (fun h=>⟨A,by simp,h⟩) (fun h=>h))
  (fun C hC b hb=>(hrd C hC b hb).imp (fun h=>⟨A,by simp,h⟩) (fun h=>h)) h'.self h'.apart
end
structure ThV where
 pc:Int
 rv:Value
 wv:Value
def ThV.cell (x:ThV):Nat→Value
 |0=> .int .i64 x.pc
 |1=>x.rv
 |_=>x.wv
section
variable {P:Program} {Q:Exit→Act→World→Prop}
variable {N:Nat} {K:Nat→Prop} {W w:World} {a:Act} {F:List (Nat×Value)} {L:List Asn}
theorem x_tail {id:Nat} {l:List Oper} (m:Nat) (ps:List Nat) (hm:P.follows .mixedOrders=true) (hB:tailB l m ps=true) (h:St N K W a w F L)
  (k:∀Z:Act→Prop,(∀a',(∀w',Sh K W w' L→wpList P l.toArray (fun e a w=>match e with| .normal=>Q .normal a w|_=>False) (l.drop m) a' w')→Z a')→wpQuiet P l.toArray (fun w' =>Sh K W w' L) Z (opsAt l.toArray ps++opsAt l.toArray (quietIs m ps)) a):(Code.region id l.toArray true).wp P Q a w:=by
 simp only [tailB,Bool.and_eq_true,Nat.ble_eq] at hB
 obtain ⟨h1,h2,h3,h4,h5,h6,h7⟩:=hB
 have hpm:∀p∈ps,p<m:=fun p hp=>by simpa using (List.all_eq_true.1 h5) p hp
 refine Code.wp_mono (Q:=fun e a w=>match e with| .normal=>Q .normal a w|_=>False) (fun e a w he=>by cases e<;>first|exact he|exact he.elim) ?_
 refine wp_region_any hm ?_
 split at h7
 ·rename_i lp hlp
  have hq:=k _ (fun _ h=>h)
  have hcl0:ClosedB l (fun j=>(Array.replicate l.length false).getD j false):=by
   intro i o _ hS;simp only [Array.getD_eq_getD_getElem?,Array.getElem?_replicate] at hS;split at hS<;>cases hS
  obtain ⟨c1,c2,c3,c4,c5⟩:=pureIs_spec ps _ lp hlp hcl0
  have hsz:lp.size=l.length:=by simpa using c2
  have hlen:l.toArray.size=((quietIs m ps).length+(l.length-m))+ps.length:=by
   have:=Nat.eq_of_beq_eq_true h6
   simp;omega
  rw [hlen]
  rw [show Array.replicate ((quietIs m ps).length+(l.length-m)+ps.length) false=Array.replicate l.length false by rw [←hlen];simp]
  refine any_pure (C:=fun w' =>Sh K W w' L) h4 (fun c a w h=>h) ps _ _ lp a w.drew h.sh.drew hlp hq fun a' hq' => ?_
  have h8:=anyQ_is (P:=P) h4 (quietIs m ps) _ a' h7 hq'
  have hot:∀j,j<l.length→(orTail lp m).getD j false=(lp.getD j false||Nat.ble m j):=by
   intro j hj
   simp [orTail,Array.getD_eq_getD_getElem?,hsz,hj]
  refine any_tail (C:=fun w' =>Sh K W w' L) hpm h1 h2 h3 _ lp (orTail lp m) a' w.drew h.sh.drew (c4 (by simp)) c1 hsz (by simp [orTail,hsz]) (fun j hj=> ?_) (fun j hj hj2=> ?_) h8
  ·rw [hot j (by omega)]
   cases hb:Nat.ble m j
   ·simp
   ·rw [Nat.ble_eq] at hb;omega
  ·refine ⟨?_,by rw [hot j hj2,show Nat.ble m j=true by rw [Nat.ble_eq];exact hj];simp⟩
   rw [c5 j (fun hp=>by have:=hpm j hp;omega)]
   simp [Array.getD_eq_getD_getElem?,Array.getElem?_replicate,hj2]
 ·cases h7
end
section
variable {P:Program} {o:Oper} {N:Nat} {K:Nat→Prop} {W w:World} {a:Act} {F:List (Nat×Value)} {L:List Asn} {α:Type} [Enc α]
theorem Rn.same {v v' :Value} (h:Rn P o N K W F L v) (e:v=v'):Rn P o N K W F L v' :=by subst e;exact h
theorem wq_call {ops:Array Oper} {rest:List Oper} {Q:Act→Prop} {d f:Nat} {fo:Operand} {xs:List Operand} {tys:Array TypeId} {us vs ws:List Value} {v:Value} (h:Fr N a F) (hb:bodyI P f=true) (ho:o.op= .call ⟨.value fo,xs.toArray,tys⟩) (hf:ev F fo=some (.func (.func f) us.toArray ws.toArray))
  (hx:evs F xs=some vs) (hw:Region.wanted o (yielded ops a.tmps)=true) (hd:o.dst=some d) (hdN:Nat.blt d N=true) (hc:∀w,Sh K W w L→Rets P f (us++vs++ws) w (fun v' w' =>v' =v∧Sh0 w w' []))
  (k:∀a',Fr N a' ((d,v)::F)→wpQuiet P ops (fun w=>Sh K W w L) Q rest a'):wpQuiet P ops (fun w=>Sh K W w L) Q (o::rest) a:=by
 unfold wpQuiet
 rw [if_pos hw]
 refine ⟨v,fun w hw=> ?_,k _ (by rw [hd];exact h.put d (by simpa [Nat.blt_eq] using hdN) v)⟩
 unfold Oper.quietAt
 have hrun:(execOp a.eval o).run P w= .ok (.enter f (us++vs++ws).toArray) w:=by
  unfold execOp
  simp [ho,resolve,h.ev hf,h.evs hx,Deferred.ofValue,invoke,run_callFunc hb]
 rw [hrun]
 refine ⟨rfl,Calls.mono (hc w hw) fun e w' ⟨v',he,hv',hr⟩=> ?_⟩
 subst hv'
 exact ⟨he,hw.call0 hr⟩
end
inductive Runs (P:Program) (ops:Array Oper) (N:Nat) (K:Nat→Prop) (W:World) (L:List Asn):List Oper→List (Nat×Value)→List Oper→List (Nat×Value)→Prop
 |nl {l:List Oper} {F:List (Nat×Value)} :Runs P ops N K W L l F l F
 |cn {o:Oper} {l l' :List Oper} {F F' :List (Nat×Value)} {d:Nat} {v:Value} (hr:Rn P o N K W F L v) (hw:∀a,Fr N a F→Region.wanted o (yielded ops a.tmps)=true) (hd:o.dst=some d) (hN:Nat.blt d N=true) (k:Runs P ops N K W L l ((d,v)::F) l' F'):Runs P ops N K W L (o::l) F l' F'
 |sk {o:Oper} {l l' :List Oper} {F F' :List (Nat×Value)} {d:Nat} (hw:∀a,Fr N a F→Region.wanted o (yielded ops a.tmps)=false) (hd:o.dst=some d) (hN:Nat.blt d N=true) (k:Runs P ops N K W L l ((d,undef)::F) l' F'):Runs P ops N K W L (o::l) F l' F'
section
variable {P:Program} {N:Nat} {K:Nat→Prop} {W w:World} {a:Act} {F F' F2:List (Nat×Value)} {L L' :List Asn} {o:Oper} {ops:Array Oper} {l l' l2 rest:List Oper} {Q:Exit→Act→World→Prop} {c c' :Code} {R:Act→World→Prop}
theorem Runs.go (r:Runs P ops N K W L l F l' F'):∀ {a:Act},St N K W a w F L→(∀a,St N K W a w F' L→wpList P ops Q l' a w)→wpList P ops Q l a w:=by
 induction r with
 |nl=>exact fun h k=>k _ h
 |cn hr hw hd hN _ ih=>exact fun h k=>wl_val h hr (hw _ h.fr) hd hN fun a h=>ih h k
 |sk hw hd hN _ ih=>exact fun h k=>wl_skip h (hw _ h.fr) hd hN fun a h=>ih h k
theorem Runs.goQ {Z:Act→Prop} (r:Runs P ops N K W L l F l' F'):∀ {a:Act},Fr N a F→(∀a,Fr N a F' →wpQuiet P ops (fun w=>Sh K W w L) Z l' a)→wpQuiet P ops (fun w=>Sh K W w L) Z l a:=by
 induction r with
 |nl=>exact fun h k=>k _ h
 |cn hr hw hd hN _ ih=>exact fun h k=>wq_val h hr (hw _ h) hd hN fun a h=>ih h k
 |sk hw hd hN _ ih=>exact fun h k=>wq_skip h (hw _ h) hd hN fun a h=>ih h k
theorem gG (h:St N K W a w F L) (k:∀a w,St N K W a w F L→R a w):R a w:=k a w h
theorem gRn (r:Runs P ops N K W L l F l' F') (k:∀a w,St N K W a w F' L→wpList P ops Q l' a w):∀a w,St N K W a w F L→wpList P ops Q l a w:=fun _ w h=>r.go h fun a h=>k a w h
theorem sG {id:Nat} (r:Runs P l.toArray N K W L l F [] F') (k:∀a w,St N K W a w F' L→c.wp P Q a w):∀a w,St N K W a w F L→(Code.seq (.region id l.toArray false) c).wp P Q a w:=
 fun _ w h=>wp_seq_k fun _ hK=>wp_region_lit (r.go h fun a h=>wpList_nil (hK _ _ (k a w h)))
theorem sK {id:Nat} (k:∀R:Act→World→Prop,(∀a w,c.wp P Q a w→R a w)→∀a w,St N K W a w F L→wpList P l.toArray (Exit.then R Q) l a w):∀a w,St N K W a w F L→(Code.seq (.region id l.toArray false) c).wp P Q a w:=
 fun _ w h=>wp_seq_k fun R hK=>wp_region_lit (k R hK _ w h)
theorem nK {Q0:Exit→Act→World→Prop} (hk:∀a w,c.wp P Q a w→Q0 .normal a w) (k:∀a w,St N K W a w F L→c.wp P Q a w):∀a w,St N K W a w F L→wpList P ops Q0 [] a w:=fun _ w h=>wpList_nil (hk _ _ (k _ w h))
theorem hK {X:Act→World→Prop} (hk:∀a w,c.wp P Q a w→X a w) (k:∀a w,St N K W a w F L→c.wp P Q a w):∀a w,St N K W a w F L→X a w:=fun _ w h=>hk _ _ (k _ w h)
theorem gK (k:∀R:Act→World→Prop,(∀a w,c'.wp P Q a w→R a w)→∀a w,St N K W a w F L→c.wp P (Exit.then R Q) a w):∀a w,St N K W a w F L→(Code.seq c c').wp P Q a w:=
 fun _ w h=>wp_seq_k fun R hK=>k R hK _ w h
theorem gL {id:Nat} (k:∀a w,St N K W a w F L→wpList P l.toArray Q l a w):∀a w,St N K W a w F L→(Code.region id l.toArray false).wp P Q a w:=fun _ w h=>wp_region_lit (k _ w h)
theorem nN (k:∀a w,St N K W a w F L→Q .normal a w):∀a w,St N K W a w F L→wpList P ops Q [] a w:=fun _ w h=>wpList_nil (k _ w h)
theorem gCb {x:Operand} {b:Bool} (hc:ev F x=some (.bool b)) (ht:b=true→∀a w,St N K W a w F L→c.wp P Q a w) (hf:b=false→∀a w,St N K W a w F L→c'.wp P Q a w):∀a w,St N K W a w F L→(Code.cond x c c').wp P Q a w:=
 fun _ w h=>x_cond h hc (fun hb=>ht hb _ w h) (fun hb=>hf hb _ w h)
theorem gcd {x:Operand} {p:Prop} [Decidable p] (hc:ev F x=some (.bool (decide p))) (ht:decide p=true→p→∀a w,St N K W a w F L→c.wp P Q a w) (hf:decide p=false→¬p→∀a w,St N K W a w F L→c'.wp P Q a w):∀a w,St N K W a w F L→(Code.cond x c c').wp P Q a w:=
 gCb hc (fun hb=>ht hb (of_decide_eq_true hb)) fun hb=>hf hb (of_decide_eq_false hb)
theorem gcF {x:Operand} {b:Bool} (hc:ev F x=some (.bool b)) (hb:b=false) (k:∀a w,St N K W a w F L→c'.wp P Q a w):∀a w,St N K W a w F L→(Code.cond x c c').wp P Q a w:=fun _ w h=>x_condF h hc hb (k _ w h)
theorem gB {id:Nat} (k:∀a w,St N K W a w F L→c.wp P (Exit.inBlock id Q) a w):∀a w,St N K W a w F L→(Code.block id c).wp P Q a w:=fun _ w h=>wp_block (k _ w h)
theorem gS (k:∀a w,St N K W a w F L→Q .normal a w):∀a w,St N K W a w F L→Code.skip.wp P Q a w:=fun _ w h=>wp_skip (k _ w h)
theorem gX {id:Nat} (k:∀a w,St N K W a w F L→Q (.exit id) a w):∀a w,St N K W a w F L→(Code.exit id).wp P Q a w:=fun _ w h=>wp_exit (k _ w h)
theorem gR (k:∀a w,St N K W a w F L→Q .ret a w):∀a w,St N K W a w F L→Code.ret.wp P Q a w:=fun _ w h=>wp_ret (k _ w h)
theorem gen {f:FuncId} {fn:Func} {vs:List Value} {X:Value→World→Prop} (hf:P.funcs[f]? =some fn) (hN:fn.ntmps=N) (hS:Sh K W W L) (e:(fn.body,argF vs,Nat.ble vs.length N)=(some c,some F,true)) (k:∀a,St N K W a W F L→c.wp P (bodyPost P fn fun e w' =>∃v,e= .returned v∧X v w') a W):Rets P f vs W X:=by
 simp only [Prod.mk.injEq] at e
 exact x_enter hf e.1 hN (Nat.le_of_ble_eq_true e.2.2) fun a h=>k a ⟨by rw [argF_eq e.2.1] at h;exact h,hS⟩
theorem gNl {α:Type} [Enc α] {s:Ls α} (hat:∀w,Sh K W w L→s.At w) (k:s.l.length≤140737488355328→∀a w,St N K W a w F L→R a w):∀a w,St N K W a w F L→R a w:=fun a w h=>k (hat w h.sh).len a w h
theorem gE1 {α:Sort 1} {F2:α→List (Nat×Value)} {L2:α→List Asn} (hx:∀a w,St N K W a w F L→Ex P o a w (fun a' w' =>∃b:α,St N K W a' w' (F2 b) (L2 b))) (hg:o.guard=none) (k:∀b a w,St N K W a w (F2 b) (L2 b)→wpList P ops Q rest a w):∀a w,St N K W a w F L→wpList P ops Q (o::rest) a w:=
 fun _ w h=>wl_ex (hx _ w h) (wanted_none hg _) fun a w ⟨b,h⟩=>k b a w h
theorem gF (ts:List Nat) (e:pickF F ts=some F') (k:∀a w,St N K W a w F' L→R a w):∀a w,St N K W a w F L→R a w:=fun a w h=>k a w (h.nf (pickF_ok e))
theorem qRn {Z:Act→Prop} (r:Runs P ops N K W L l F l' F') (k:∀a,Fr N a F' →wpQuiet P ops (fun w=>Sh K W w L) Z l' a):∀a,Fr N a F→wpQuiet P ops (fun w=>Sh K W w L) Z l a:=fun _ h=>r.goQ h k
theorem qN {Z:Act→Prop} (z:∀a,(∀w,Sh K W w L→R a w)→Z a) (k:∀a w,St N K W a w F L→R a w):∀a,Fr N a F→wpQuiet P ops (fun w=>Sh K W w L) Z [] a:=fun a h=>wpQuiet_nil (z a fun w hw=>k a w ⟨h,hw⟩)
section
variable {d g k q r j n by_ sz i2:Nat} {T E e:TypeId} {x y:Operand} {v:Value} {z cs vs:List Value}
theorem oM (n:Nat) (e:mvN N n l F=some (l2,F2)) (k:Runs P ops N K W L l2 F2 l' F'):Runs P ops N K W L l F l' F' :=by
 induction n generalizing l F with
 |zero=>cases e;exact k
 |succ n ih=>
  cases l with
  |nil=>cases e
  |cons o l=>
   unfold mvN at e
   split at e
   ·rename_i d x hg hd ho
    split at e
    ·rename_i v hv
     cases hb:Nat.blt d N with
     |false=>rw [hb] at e;cases e
     |true=>rw [hb] at e;exact .cn (r_move ho hv) (wn hg) hd hb (ih e)
    ·cases e
   ·rename_i d x hg hd ho
    split at e
    ·rename_i v hv
     cases hb:Nat.blt d N with
     |false=>rw [hb] at e;cases e
     |true=>rw [hb] at e;exact .cn (r_assign ho hv) (wn hg) hd hb (ih e)
    ·cases e
   ·cases e
theorem ofB {f:Nat} (hT:flI P T f=some k) (e:(o.dst,o.op,ev F x,okg o d N)=(some d, .fieldAddr T x f,some (.pointer (some ⟨g,0,none⟩)),true)) (kk:Runs P ops N K W L l ((d, .pointer (some ⟨g,k,none⟩))::F) l' F'):Runs P ops N K W L (o::l) F l' F' :=by
 simp only [Prod.mk.injEq,okg,Bool.and_eq_true,Option.isNone_iff_eq_none] at e
 exact .cn (r_fieldB hT e.2.1 e.2.2.1 (Nat.zero_add k)) (wn e.2.2.2.1) e.1 e.2.2.2.2 kk
theorem olB (i:Nat) (hT:tyI P T=some (false,n,by_,z)) (hi:L[i]? =some (.blk g E cs)) (e:(o.dst,o.op,ev F x,okg o d N,cs[q]?)=(some d, .load T x,some (.pointer (some ⟨g,q,none⟩)),true,some v)) (k:Runs P ops N K W L l ((d,v)::F) l' F'):Runs P ops N K W L (o::l) F l' F' :=by
 simp only [Prod.mk.injEq,okg,Bool.and_eq_true,Option.isNone_iff_eq_none] at e
 exact .cn (r_ldb hT e.2.1 e.2.2.1 hi e.2.2.2.2) (wn e.2.2.2.1.1) e.1 e.2.2.2.1.2 k
section
variable {α:Type} [Enc α] {s:Ls α} {gb:Bool}
theorem oxN {kd:IntKind} (hT:slI P T=some e) (he:tyI P e=some (gb,n,by_,z)) (hat:∀w,Sh K W w L→s.At w) (q:Nat) (hb:q<s.l.length) (e' :(o.dst,o.op,ev F x,ev F y,okg o d N)=(some d, .indexAddr T x y,some s.v,some (.int kd (q:Int)),true))
  (k:Runs P ops N K W L l ((d, .pointer (some (padr s.v n q 0)))::F) l' F'):Runs P ops N K W L (o::l) F l' F' :=by
 simp only [Prod.mk.injEq,okg,Bool.and_eq_true,Option.isNone_iff_eq_none] at e'
 exact .cn (r_ixN hT he e'.2.1 e'.2.2.1 e'.2.2.2.1 hat hb) (wn e'.2.2.2.2.1) e'.1 e'.2.2.2.2.2 k
theorem olE {i:Nat} (v:Value) (hT:tyI P T=some (false,n,by_,z)) (hat:∀w,Sh K W w L→s.At w) (hi:i<s.l.length) (e:(o.dst,o.op,ev F x,okg o d N,Enc.sz α,Nat.blt j sz,Enc.cell (nth s.l i) j)=(some d, .load T x,some (.pointer (some (padr s.v sz i j))),true,sz,true,v)) (k:Runs P ops N K W L l ((d,v)::F) l' F'):Runs P ops N K W L (o::l) F l' F' :=by
 simp only [Prod.mk.injEq,okg,Bool.and_eq_true,Option.isNone_iff_eq_none] at e
 exact .cn (r_lde hT e.2.1 e.2.2.1 e.2.2.2.2.1 hat hi (by simpa [Nat.blt_eq] using e.2.2.2.2.2.1) e.2.2.2.2.2.2) (wn e.2.2.2.1.1) e.1 e.2.2.2.1.2 k
theorem olI {i:Nat} {kd:IntKind} {u:Int} (hT:tyI P T=some (false,n,by_,z)) (hat:∀w,Sh K W w L→s.At w) (hi:i<s.l.length) (e:(o.dst,o.op,ev F x,okg o d N,Enc.sz α,Nat.blt j sz,Enc.cell (nth s.l i) j)=(some d, .load T x,some (.pointer (some (padr s.v sz i j))),true,sz,true, .int kd u)) (k:Runs P ops N K W L l ((d, .int kd u)::F) l' F'):Runs P ops N K W L (o::l) F l' F' :=olE (.int kd u) hT hat hi e k
theorem oln {n:Nat} (hT:slI P T=some e) (hat:∀w,Sh K W w L→s.At w) (e' :(o.dst,o.op,ev F x,okg o d N,s.l.length)=(some d, .call ⟨.builtin .len, #[x], #[T]⟩,some s.v,true,n)) (k:Runs P ops N K W L l ((d, .int .i64 (n:Int))::F) l' F'):Runs P ops N K W L (o::l) F l' F' :=by
 simp only [Prod.mk.injEq,okg,Bool.and_eq_true,Option.isNone_iff_eq_none] at e'
 exact .cn (r_len hT e'.2.1 e'.2.2.1 hat e'.2.2.2.2) (wn e'.2.2.2.1.1) e'.1 e'.2.2.2.1.2 k
end
section
variable {U:TypeId} {kd:IntKind}
theorem oltN (p q:Nat) (e:(o.dst,o.op,ev F x,ev F y,okg o d N)=(some d, .binOp .lss T x y U,some (.int kd (p:Int)),some (.int kd (q:Int)),true)) (k:Runs P ops N K W L l ((d, .bool (decide (p<q)))::F) l' F'):Runs P ops N K W L (o::l) F l' F' :=by
 simp only [Prod.mk.injEq,okg,Bool.and_eq_true,Option.isNone_iff_eq_none] at e
 exact .cn (r_lssN e.2.1 e.2.2.1 e.2.2.2.1) (wn e.2.2.2.2.1) e.1 e.2.2.2.2.2 k
theorem oltI (p q:Int) (e:(o.dst,o.op,ev F x,ev F y,okg o d N)=(some d, .binOp .lss T x y U,some (.int kd p),some (.int kd q),true)) (k:Runs P ops N K W L l ((d, .bool (decide (p<q)))::F) l' F'):Runs P ops N K W L (o::l) F l' F' :=by
 simp only [Prod.mk.injEq,okg,Bool.and_eq_true,Option.isNone_iff_eq_none] at e
 exact .cn (r_lssI e.2.1 e.2.2.1 e.2.2.2.1) (wn e.2.2.2.2.1) e.1 e.2.2.2.2.2 k
theorem ogtI (p q:Int) (e:(o.dst,o.op,ev F x,ev F y,okg o d N)=(some d, .binOp .gtr T x y U,some (.int kd p),some (.int kd q),true)) (k:Runs P ops N K W L l ((d, .bool (decide (q<p)))::F) l' F'):Runs P ops N K W L (o::l) F l' F' :=by
 simp only [Prod.mk.injEq,okg,Bool.and_eq_true,Option.isNone_iff_eq_none] at e
 exact .cn (r_gtrI e.2.1 e.2.2.1 e.2.2.2.1) (wn e.2.2.2.2.1) e.1 e.2.2.2.2.2 k
theorem ogeN (p q:Nat) (e:(o.dst,o.op,ev F x,ev F y,okg o d N)=(some d, .binOp .geq T x y U,some (.int kd (p:Int)),some (.int kd (q:Int)),true)) (k:Runs P ops N K W L l ((d, .bool (decide (q≤p)))::F) l' F'):Runs P ops N K W L (o::l) F l' F' :=by
 simp only [Prod.mk.injEq,okg,Bool.and_eq_true,Option.isNone_iff_eq_none] at e
 exact .cn (r_geqN e.2.1 e.2.2.1 e.2.2.2.1) (wn e.2.2.2.2.1) e.1 e.2.2.2.2.2 k
theorem oneI (p q:Int) (e:(o.dst,o.op,ev F x,ev F y,okg o d N)=(some d, .binOp .neq T x y U,some (.int kd p),some (.int kd q),true)) (k:Runs P ops N K W L l ((d, .bool (decide (p≠q)))::F) l' F'):Runs P ops N K W L (o::l) F l' F' :=by
 simp only [Prod.mk.injEq,okg,Bool.and_eq_true,Option.isNone_iff_eq_none] at e
 exact .cn (r_neqI e.2.1 e.2.2.1 e.2.2.2.1) (wn e.2.2.2.2.1) e.1 e.2.2.2.2.2 k
theorem oadN (p q:Nat) (hb:p+q<9223372036854775808) (e:(o.dst,o.op,ev F x,ev F y,okg o d N)=(some d, .binOp .add T x y U,some (.int .i64 (p:Int)),some (.int .i64 (q:Int)),true)) (k:Runs P ops N K W L l ((d, .int .i64 ((p+q:Nat):Int))::F) l' F'):Runs P ops N K W L (o::l) F l' F' :=by
 simp only [Prod.mk.injEq,okg,Bool.and_eq_true,Option.isNone_iff_eq_none] at e
 exact .cn (r_addN e.2.1 e.2.2.1 e.2.2.2.1 hb) (wn e.2.2.2.2.1) e.1 e.2.2.2.2.2 k
end
theorem gbx (e:(o.op,o.dst,o.guard,ev F x,Nat.blt d N)=(.box T x,some d,none,some v,true)) (hv:v.cells=cs.toArray) (k:∀(b:Nat) (a:Act) (w:World),St N K W a w ((d, .pointer (some ⟨b,0,none⟩))::F) (.blk b T cs::L)→wpList P ops Q rest a w):∀a w,St N K W a w F L→wpList P ops Q (o::rest) a w:=by
 simp only [Prod.mk.injEq] at e
 intro a w h
 exact wl_ex (x_box h e.1 e.2.2.2.1 hv e.2.1 e.2.2.2.2) (wanted_none e.2.2.1 _) fun a w ⟨b,h⟩=>k b a w h
theorem gte {α:Type} [Enc α] [Flat α] {s:Ls α} {i j:Nat} {gg:Bool} {L2:List Asn} (r:Nat) (x' :α) (hT:tyI P T=some (gg,1,by_,z)) (hi:i<s.l.length) (e:(o.op,o.dst,o.guard,L[r]?,ev F x,ev F y,Enc.sz α,Nat.blt j sz,putO L r (.own E ⟨s.v,s.l.set i x'⟩))=(.store T x y,none,none,some (.own E s),some (.pointer (some (padr s.v sz i j))),some v,sz,true,some L2)) (h1:v.oneCell' =true)
  (k:∀a w,St N K W a w F L2→wpList P ops Q rest a w) (hx:∀q,q<sz→Enc.cell x' q=if q=j then v else Enc.cell (nth s.l i) q:=by intro q hq;rcases q with _|_|_|_|q<;>first|rfl|omega):∀a w,St N K W a w F L→wpList P ops Q (o::rest) a w:=by
 simp only [Prod.mk.injEq] at e
 obtain ⟨e1,e2,e3,e4,e5,e6,e7,e8,e9⟩:=e
 intro a w h
 refine wl_ex (x_ste h hT e1 e2 e5 e7 e4 hi (by simpa [Nat.blt_eq] using e8) e6 (cells_oneL h1) h1 hx (fun w h=>Flat.inner _ _) (fun b hb=>(Flat.on _ _ hb).elim)) (wanted_none e3 _) fun a' w' h' => ?_
 rw [putO_eq e9] at h'
 exact k _ _ h'
theorem gtr {α β:Type} [Enc α] [Flat α] [Enc β] {s:Ls α} {u:Ls β} {i j:Nat} {gg:Bool} {L2:List Asn} (r:Nat) (x' :α) (hT:tyI P T=some (gg,1,by_,z)) (hi:i<s.l.length) (hat:∀w,Sh K W w L→u.At w) (e:(o.op,o.dst,o.guard,L[r]?,ev F x,ev F y,Enc.sz α,Nat.blt j sz,putO L r (.own E ⟨s.v,s.l.set i x'⟩))=(.store T x y,none,none,some (.own E s),some (.pointer (some (padr s.v sz i j))),some u.v,sz,true,some L2))
  (k:∀a w,St N K W a w F L2→wpList P ops Q rest a w) (hx:∀q,q<sz→Enc.cell x' q=if q=j then u.v else Enc.cell (nth s.l i) q:=by intro q hq;rcases q with _|_|_|_|q<;>first|rfl|omega):∀a w,St N K W a w F L→wpList P ops Q (o::rest) a w:=fun a w h=>gte r x' hT hi e (hat w h.sh).one k hx a w h
theorem xCl {f:Nat} {fo:Operand} {xs:List Operand} {tys:Array TypeId} {us vs ws:List Value} {R:Value→World→Prop} (h:St N K W a w F L) (hb:bodyI P f=true) (e:(o.op,o.dst,Nat.blt d N,ev F fo,evs F xs)=(.call ⟨.value fo,xs.toArray,tys⟩,some d,true,some (.func (.func f) us.toArray ws.toArray),some vs)) (hc:Rets P f (us++vs++ws) w R):Ex P o a w (fun a' w' =>∃v,R v w' ∧Fr N a' ((d,v)::F)):=by
 simp only [Prod.mk.injEq] at e
 exact x_call h hb e.1 e.2.2.2.1 e.2.2.2.2 e.2.1 e.2.2.1 hc
theorem gP (hx:∀a w,St N K W a w F L→Ex P o a w (fun a' w' =>∃u,(u=v∧Sh0 w w' [])∧Fr N a' ((d,u)::F))) (hg:o.guard=none) (k:∀a w,St N K W a w ((d,v)::F) L→wpList P ops Q rest a w):∀a w,St N K W a w F L→wpList P ops Q (o::rest) a w:=
 fun _ w h=>wl_ex (hx _ w h) (wanted_none hg _) fun a w' ⟨u,⟨hu,hs⟩,hf⟩=>by subst hu;exact k a w' ⟨hf,h.sh.call0 hs⟩
theorem qP {Z:Act→Prop} {f:Nat} {fo:Operand} {xs:List Operand} {tys:Array TypeId} {us vs ws:List Value} (hb:bodyI P f=true) (e:(o.op,o.guard,o.dst,Nat.blt d N,ev F fo,evs F xs)=(.call ⟨.value fo,xs.toArray,tys⟩,none,some d,true,some (.func (.func f) us.toArray ws.toArray),some vs)) (hc:∀w,Sh K W w L→Rets P f (us++vs++ws) w (fun v' w' =>v' =v∧Sh0 w w' []))
  (k:∀a,Fr N a ((d,v)::F)→wpQuiet P ops (fun w=>Sh K W w L) Z rest a):∀a,Fr N a F→wpQuiet P ops (fun w=>Sh K W w L) Z (o::rest) a:=by
 simp only [Prod.mk.injEq] at e
 exact fun a h=>wq_call h hb e.1 e.2.2.2.2.1 e.2.2.2.2.2 (wanted_none e.2.1 _) e.2.2.1 e.2.2.2.1 hc k
end
theorem aA {α:Type} [Enc α] {s:Ls α} (i:Nat) (hi:L[i]? =some (.at_ s)):∀w,Sh K W w L→s.At w:=fun w h=>h.at i hi
end
end Go.Proofs.YtmjkobhkkjgplaaGreatDoor.Dr
