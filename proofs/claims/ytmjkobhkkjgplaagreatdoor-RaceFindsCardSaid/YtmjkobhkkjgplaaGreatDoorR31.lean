/- For every program the program tells all orders that clash in some state: the statement holds, under no condition. -/
import Derived.Test.YtmjkobhkkjgplaaGreatDoorQ4
import Derived.ProofKit
import Derived.OpenShut
import Derived.Deep.Slices
import Derived.Carry
import Derived.SizedLaws
import Derived.Test.YtmjkobhkkjgplaaGreatDoorCards
import Derived.Test.YtmjkobhkkjgplaaGreatDoorTie
import Derived.LaidLaws
import Derived.LaidHandle
import Derived.LaidMore
import Derived.Handed
import Derived.SevenTiedAt
namespace Go.Proofs.YtmjkobhkkjgplaaGreatDoor
open Go.RowKit
set_option linter.unusedSimpArgs false
set_option linter.unusedVariables false
set_option maxRecDepth 100000
set_option maxHeartbeats 4000000
structure Cl where
 th:Int
 at_:Int
 oth:Int
 wh:Int
 wd:Int
 deriving DecidableEq
instance : Inhabited Cl:=⟨⟨0,0,0,0,0⟩⟩
def Cl.cell (x:Cl):Nat→Value
 |0=> .int .i64 x.th
 |1=> .int .i64 x.at_
 |2=> .int .i64 x.oth
 |3=> .int .i64 x.wh
 |_=> .int .i64 x.wd
def Cl.val (x:Cl):Value:= .agg #[.int .i64 x.th, .int .i64 x.at_, .int .i64 x.oth, .int .i64 x.wh, .int .i64 x.wd]
instance : Enc Cl where
 sz:=5
 cell:=Cl.cell
 whole:=Cl.val
 agg:=true
 inner _ _:=True
 on _ _:=False
 one h:=by cases h
 many _ _:=rfl
 keep _ _ _ h _:=h
 lt _ _ _ _ h:=h.elim
instance : One Cl:=⟨fun x _ _ q _=>by match q with|0=>rfl|1=>rfl|2=>rfl|3=>rfl|_+4=>rfl⟩
instance : Flat Cl:=⟨fun _ _ h=>h,fun _ _=>trivial⟩
def entC :List Cl→Nat→List MapEntry
 | [],_=> []
 |x::r,i=>⟨x.val, .bool true,i⟩::entC r (i+1)
theorem entC_append (x:Cl):∀(l:List Cl) (i:Nat),entC (l++ [x]) i=entC l i++ [⟨x.val, .bool true,i+l.length⟩]
 | [],_=>rfl
 |y::r,i=>by
  rw [List.cons_append,entC,entC_append x r (i+1),entC,List.cons_append,List.length_cons]
  congr 3
  simp;omega
theorem entC_len :∀(l:List Cl) (i:Nat),(entC l i).length=l.length
 | [],_=>rfl
 |x::r,i=>by rw [entC,List.length_cons,entC_len r,List.length_cons]
theorem entC_mem {e:MapEntry} :∀ {l:List Cl} {i:Nat},e∈entC l i→∃j,j<l.length∧e=⟨(nth l j).val, .bool true,i+j⟩
 | [],_,h=>by cases h
 |x::r,i,h=>by
  rw [entC] at h
  rcases List.mem_cons.1 h with rfl|h
  ·exact ⟨0,by simp,rfl⟩
  ·obtain ⟨j,hj,rfl⟩:=entC_mem h
   exact ⟨j+1,by simpa using hj,by rw [show i+1+j=i+(j+1) by omega];rfl⟩
theorem entC_get {l:List Cl}{i j:Nat}(h:j<l.length):⟨(nth l j).val, .bool true,i+j⟩∈entC l i:=by
 induction l generalizing i j with
 |nil=>cases h
 |cons x r ih=>
  rw [entC]
  cases j with
  |zero=>exact List.mem_cons_self ..
  |succ j=>
   have:=ih (i:=i+1) (j:=j) (by simpa using h)
   rw [show i+1+j=i+(j+1) by omega] at this
   exact List.mem_cons_of_mem _ this
theorem entC_born :∀(l:List Cl) (i:Nat),(entC l i).map (·.born)=List.range' i l.length
 | [],_=>rfl
 |x::r,i=>by rw [entC,List.map_cons,entC_born r,List.length_cons,List.range'_succ]
def MapCl (w:World)(g:Nat)(l:List Cl):Prop:=w.heap[g]? =some (.map (entC l 0).toArray l.length)
theorem MapCl.lt {w:World}{g:Nat}{l:List Cl}(h:MapCl w g l):g<w.heap.size:=(Array.getElem?_eq_some_iff.1 h).1
def Asn.clsO (g:Nat)(l:List Cl):Asn where
 fp b:=g=b
 rd _:=False
 ok w:=MapCl w g l
 keep w w' h hb:=(hb g (.inl rfl)).trans h
 lt w h b hb:=by
  rcases hb with rfl|hb
  ·exact h.lt
  ·exact hb.elim
def Asn.itO (r g n:Nat)(ps:List Nat):Asn where
 fp b:=r=b
 rd _:=False
 ok w:=w.heap[r]? =some (.mapIter (some g) n ps.toArray n)
 keep w w' h hb:=(hb r (.inl rfl)).trans h
 lt w h b hb:=by
  rcases hb with rfl|hb
  ·exact (Array.getElem?_eq_some_iff.1 h).1
  ·exact hb.elim
def atC (k:Cl):List Cl→Nat→Option (Nat×Value)
 | [],_=>none
 |j::r,i=>if k=j then some (i, .bool true) else atC k r (i+1)
theorem atC_spec (k:Cl):∀(l:List Cl) (i:Nat),(∃j,atC k l i=some (i+j, .bool true)∧l[j]? =some k)∨(atC k l i=none∧k∉l)
 | [],i=> .inr ⟨rfl,by simp⟩
 |x::r,i=>by
  unfold atC
  by_cases h:k=x
  ·subst h;exact .inl ⟨0,by rw [if_pos rfl];rfl,rfl⟩
  ·rw [if_neg h]
   rcases atC_spec k r (i+1) with ⟨j,h1,h2⟩|⟨h1,h2⟩
   ·exact .inl ⟨j+1,by rw [h1,show i+1+j=i+(j+1) by omega],by simpa using h2⟩
   ·exact .inr ⟨h1,by simp [h,h2]⟩
theorem run_eqCl (x y:Cl)(w:World):(Op.equal 58 x.val y.val).run Tryz.prog w= .ok (decide (x=y)) w:=by
 obtain ⟨a,b,c,d,e⟩:=x
 obtain ⟨a',b',c',d',e'⟩:=y
 simp [Cl.val,Op.equal,Op.maxDepth,go_sem]
 by_cases h1:a=a' <;>by_cases h2:b=b' <;>by_cases h3:c=c' <;>by_cases h4:d=d' <;>by_cases h5:e=e' <;>simp [h1,h2,h3,h4,h5]
theorem run_checkCl (b:Bool)(x:Cl)(w:World):(Instr.checkKey b 10000 58 x.val).run Tryz.prog w= .ok () w:=by
 have hp:∀(n:Int) (w:World),(Instr.checkKey b 9999 3 (.int .i64 n)).run Tryz.prog w= .ok () w:=fun n w=>run_checkKey_int w b 9998 3 _ Tryz.underlying3
 rw [Instr.checkKey]
 simp [Cl.val,go_sem,hp]
theorem run_askCl (k:Cl)(w:World):∀(l:List Cl) (i j:Nat),(Instr.findAsking 58 k.val (entC l j) i).run Tryz.prog w= .ok (atC k l i) w
 | [],i,j=>by rw [entC,Instr.findAsking,Sem.run_pure];rfl
 |x::r,i,j=>by
  rw [entC,Instr.findAsking]
  simp only [Sem.run_bind,run_eqCl,Result.andThen_ok]
  unfold atC
  by_cases h:k=x
  ·rw [if_pos h,decide_eq_true h];rfl
  ·rw [if_neg h,decide_eq_false h]
   simp only [Bool.false_eq_true,if_false]
   exact run_askCl k w r (i+1) (j+1)
theorem run_findCl (k:Cl)(l:List Cl)(w:World):(Instr.findKey 58 k.val (entC l 0)).run Tryz.prog w= .ok (atC k l 0) w:=by
 unfold Instr.findKey
 rw [Sem.run_bind,run_underlying Tryz.underlying58,Result.andThen_ok]
 cases l with
 |nil=>rfl
 |cons x r=>
  have e:∀fs,Instr.findNow (.struct fs) k.val (entC (x::r) 0) 0=none:=fun fs=>rfl
  simp only [e]
  exact run_askCl k w (x::r) 0 0
def addC (l:List Cl)(k:Cl):List Cl:=if k∈l then l else l++ [k]
section
variable {o:Oper}{N:Nat}{K:Nat→Prop}{W w:World}{a:Act}{F:List (Nat×Value)}{L:List Asn}{l:List Cl}{k:Cl}{g:Nat}
theorem x_makeCl {d:Nat}(h:St N K W a w F L)(ho:o.op= .makeMap 82 none)(hd:o.dst=some d)(hdN:Nat.blt d N=true):Ex Tryz.prog o a w (fun a' w' =>∃g:Nat,St N K W a' w' ((d, .map (some g))::F) (.clsO g []::L)):=by
 have hrun:(Instr.makeMap 82 none).run Tryz.prog w= .ok (.map (some w.heap.size)) (w.alloc (.map #[] 0)):=run_makeMap 82 w
 refine Ex.of_run (v:= .map (some w.heap.size)) (w' :=w.alloc (.map #[] 0)) ?_ ⟨w.heap.size, ?_⟩
 ·unfold execOp
  simp only [ho,Option.map_none,Sem.run_bind,hrun,Result.andThen_ok,Sem.run_pure]
 ·rw [hd]
  have h1:Sh K W (w.alloc (.map #[] 0)) (.clsO w.heap.size []::L):=
   h.sh.push (Chg.alloc _ w _) (Go.heap_alloc_new w _) (fun b hb=>by rw [←(show w.heap.size=b from hb)];exact Nat.le_refl _) (fun b hb=>hb.elim) (fun b _ hb=>hb)
  exact ⟨h.fr.put d (by simpa [Nat.blt_eq] using hdN) _,h1⟩
theorem modify_true {l:List Cl}{i:Nat}(hi:l[i]? =some k):((entC l 0).toArray.modify i fun e=> { e with key:=k.val,val:= .bool true })=(entC l 0).toArray:=by
 apply Array.ext_getElem?
 intro j
 rw [Array.getElem?_modify]
 split
 ·rename_i e
  subst e
  have hlt:=(List.getElem?_eq_some_iff.1 hi).1
  have key:∀(l:List Cl) (i j:Nat),l[i]? =some k→(entC l j)[i]? =some ⟨k.val, .bool true,j+i⟩:=by
   intro l
   induction l with
   |nil=>intro i j h;simp at h
   |cons x r ih=>
    intro i j h
    cases i with
    |zero=>
     obtain rfl:x=k:=by simpa using h
     rfl
    |succ i=>rw [entC,List.getElem?_cons_succ,ih i (j+1) (by simpa using h)];congr 2;omega
  have e9:=key l i 0 hi
  simp [e9]
 ·rfl
theorem x_updCl {x y z:Operand}{i:Nat}(h:St N K W a w F L)(ho:o.op= .mapUpdate 82 x y z)(hd:o.dst=none)(hx:ev F x=some (.map (some g)))(hy:ev F y=some k.val)(hz:ev F z=some (.bool true))(hi:L[i]? =some (.clsO g l)):
  Ex Tryz.prog o a w (fun a' w' =>St N K W a' w' F (L.set i (.clsO g (addC l k)))):=by
 have h1:MapCl w g l:=h.sh.ok _ (List.mem_of_getElem? hi)
 have hlt:=h1.lt
 have e0:(getObj g).run Tryz.prog w= .ok (.map (entC l 0).toArray l.length) w:=by simp [getObj,Sem.run,show w.heap[g]? =_ from h1]
 have e1:=run_findCl k l w
 have e2:=run_checkCl false k w
 have hm:Tryz.prog.underlying 82=some (.map 58 4):=Tryz.underlying82
 have hrun:(Instr.mapUpdate 82 (.map (some g)) k.val (.bool true)).run Tryz.prog w= .ok () (World.setMap w g (entC (addC l k) 0).toArray (addC l k).length):=by
  rcases atC_spec k l 0 with ⟨j,h3,h4⟩|⟨h3,h4⟩
  ·rw [h3] at e1
   have hk:addC l k=l:=if_pos (List.mem_of_getElem? h4)
   rw [hk]
   have e3:((entC l 0).toArray[0+j]?).map (·.key)=some k.val:=by
    have hj:=(List.getElem?_eq_some_iff.1 h4).1
    have:=modify_true h4
    have e9:=congrArg (fun x:Array MapEntry=>x[j]?) this
    simp only [Array.getElem?_modify,if_true] at e9
    rw [Nat.zero_add]
    cases hq:(entC l 0).toArray[j]? with
    |none=>
     have:j<(entC l 0).toArray.size:=by simp [entC_len,hj]
     rw [Array.getElem?_eq_getElem this] at hq;cases hq
    |some e=>
     rw [hq] at e9
     simp only [Option.map_some,Option.some.injEq] at e9
     rw [Option.map_some,←e9]
   have e4:(Instr.keyThatStays k.val k.val).run Tryz.prog w= .ok k.val w:=by
    have hs:Instr.sameBits 10000 k.val k.val=true:=by
     simp [Cl.val,Instr.sameBits]
    unfold Instr.keyThatStays
    rw [if_pos hs];rfl
   have e5:=modify_true h4
   simp only [Instr.mapUpdate,Sem.run_bind,run_underlying hm,e0,e1,e2,Result.andThen_ok,e3,Option.getD_some,e4]
   rw [Nat.zero_add,e5]
   simp [setObj,Sem.run,show w.heap[g]? =_ from h1,World.setMap]
  ·rw [h3] at e1
   have hk:addC l k=l++ [k]:=if_neg h4
   rw [hk,entC_append]
   simp only [Instr.mapUpdate,Sem.run_bind,run_underlying hm,e0,e1,e2,Result.andThen_ok]
   simp [setObj,Sem.run,show w.heap[g]? =_ from h1,World.setMap]
 refine Ex.of_skip (w' :=World.setMap w g (entC (addC l k) 0).toArray (addC l k).length) ?_ ?_
 ·unfold execOp
  simp only [ho,h.fr.ev hx,h.fr.ev hy,h.fr.ev hz,Sem.run_bind,hrun,Result.andThen_ok,Sem.run_pure]
 ·rw [hd]
  have hg:w.grownBy (World.setMap w g (entC (addC l k) 0).toArray (addC l k).length) (some g):=⟨rfl,rfl,rfl,by simp [World.setMap],fun j hj hne=>by
   have:g≠j:=fun e=>hne (by rw [e])
   simp [World.setMap,Array.getElem?_setIfInBounds,this]⟩
  exact ⟨h.fr,h.sh.put hi (Chg.grown hg (fun b hb=>Option.some.inj hb)) (by show (World.setMap _ _ _ _).heap[g]? =_;simp [World.setMap,hlt]) (fun b hb=> .inl hb) (fun b hb=>hb.elim) (fun b _ hb=>hb)⟩
theorem x_rangeCl {x:Operand}{i d:Nat}(h:St N K W a w F L)(ho:o.op= .range 82 x)(hd:o.dst=some d)(hdN:Nat.blt d N=true)(hx:ev F x=some (.map (some g)))(hi:L[i]? =some (.clsO g l)):
  Ex Tryz.prog o a w (fun a' w' =>∃r:Nat,St N K W a' w' ((d, .pointer (some ⟨r,0,none⟩))::F) (.itO r g l.length []::L)):=by
 have h1:MapCl w g l:=h.sh.ok _ (List.mem_of_getElem? hi)
 have hrun:=run_range_map (P:=Tryz.prog) w 82 58 4 g _ _ Tryz.underlying82 h1
 refine Ex.of_run (v:= .pointer (some ⟨w.heap.size,0,none⟩)) (w' :=w.alloc (.mapIter (some g) l.length #[] l.length)) ?_ ⟨w.heap.size, ?_⟩
 ·unfold execOp
  simp only [ho,h.fr.ev hx,Sem.run_bind,hrun,Result.andThen_ok,Sem.run_pure]
 ·rw [hd]
  have h1:Sh K W (w.alloc (.mapIter (some g) l.length #[] l.length)) (.itO w.heap.size g l.length []::L):=
   h.sh.push (Chg.alloc _ w _) (Go.heap_alloc_new w _) (fun b hb=>by rw [←(show w.heap.size=b from hb)];exact Nat.le_refl _) (fun b hb=>hb.elim) (fun b _ hb=>hb)
  exact ⟨h.fr.put d (by simpa [Nat.blt_eq] using hdN) _,h1⟩
theorem x_nextCl {x:Operand}{i j d r n:Nat}{ps:List Nat}(h:St N K W a w F L)(ho:o.op= .next x false)(hd:o.dst=some d)(hdN:Nat.blt d N=true)(hx:ev F x=some (.pointer (some ⟨r,0,none⟩)))(hi:L[i]? =some (.clsO g l))(hj:L[j]? =some (.itO r g n ps))(hn:n=l.length):
  Ex Tryz.prog o a w (fun a' w' =>((∀q,q<l.length→q∈ps)∧St N K W a' w' ((d, .tuple #[.bool false])::F) L)∨(∃q,q<l.length∧q∉ps∧St N K W a' w' ((d, .tuple #[.bool true,(nth l q).val, .bool true])::F) (L.set j (.itO r g n (ps++ [q]))))):=by
 subst hn
 have h1:MapCl w g l:=h.sh.ok _ (List.mem_of_getElem? hi)
 have h2:w.heap[r]? =some (.mapIter (some g) l.length ps.toArray l.length):=h.sh.ok _ (List.mem_of_getElem? hj)
 have hr:=(Array.getElem?_eq_some_iff.1 h2).1
 rcases run_next_at (P:=Tryz.prog) w o.type r g l.length l.length ps.toArray (entC l 0).toArray l.length h2 h1 (fun e he=>by
   obtain ⟨q,hq,rfl⟩:=entC_mem (by simpa using he)
   show 0+q<l.length;omega) (Nat.le_refl _) with ⟨h0,hrun⟩|⟨e,he,w1,hw1,hrun⟩
 ·refine Ex.of_run (v:= .tuple #[.bool false]) (w' :=w) ?_ (.inl ⟨fun q hq=> ?_, ?_⟩)
  ·unfold execOp
   simp only [ho,h.fr.ev hx,Sem.run_bind,hrun,Result.andThen_ok,Sem.run_pure]
  ·have:=all_seen _ _ h0 _ (by rw [List.toList_toArray];exact entC_get (i:=0) hq)
   have h9:q∈ps:=by simpa using this
   exact h9
  ·rw [hd];exact ⟨h.fr.put d (by simpa [Nat.blt_eq] using hdN) _,h.sh⟩
 ·obtain ⟨hm,hns⟩:=mem_left he
  obtain ⟨q,hq,rfl⟩:=entC_mem (by simpa using hm)
  have hq0:q∉ps:=by
   intro h9
   have:ps.toArray.contains (0+q)=true:=by simpa using h9
   rw [this] at hns;cases hns
  refine Ex.of_run (v:= .tuple #[.bool true,(nth l q).val, .bool true]) (w' :=ChangeMaps.setBlock w1 r (.mapIter (some g) l.length (ps.toArray.push (0+q)) l.length)) ?_ (.inr ⟨q,hq,hq0, ?_⟩)
  ·unfold execOp
   simp only [ho,h.fr.ev hx,Sem.run_bind,hrun,Result.andThen_ok,Sem.run_pure]
  ·rw [hd]
   refine ⟨h.fr.put d (by simpa [Nat.blt_eq] using hdN) _,h.sh.put hj ?_ ?_ (fun b hb=> .inl hb) (fun b hb=>hb.elim) (fun b _ hb=>hb)⟩
   ·rcases hw1 with rfl|rfl
    ·exact ⟨rfl,rfl,rfl,by simp [ChangeMaps.setBlock],fun b hb hne=>by
      have:r≠b:=fun e=>hne e
      simp [ChangeMaps.setBlock,Array.getElem?_setIfInBounds,this]⟩
    ·exact ⟨rfl,rfl,rfl,by simp [ChangeMaps.setBlock],fun b hb hne=>by
      have:r≠b:=fun e=>hne e
      simp [ChangeMaps.setBlock,Array.getElem?_setIfInBounds,this];rfl⟩
   ·show (ChangeMaps.setBlock w1 r _).heap[r]? =_
    have hs:r<w1.heap.size:=by rcases hw1 with rfl|rfl<;>exact hr
    simp [ChangeMaps.setBlock,hs]
theorem r_entryCl {x:Operand}{i j r n q:Nat}{ps:List Nat}(ho:o.op= .entry x)(hx:ev F x=some (.pointer (some ⟨r,0,none⟩)))(hi:L[i]? =some (.clsO g l))(hj:L[j]? =some (.itO r g n (ps++ [q])))(hn:n=l.length)(hq:q<l.length):Rn Tryz.prog o N K W F L (.tuple #[(nth l q).val, .bool true]):=fun a w h=>by
 subst hn
 have h1:MapCl w g l:=h.sh.ok _ (List.mem_of_getElem? hi)
 have h2:w.heap[r]? =some (.mapIter (some g) l.length (ps++ [q]).toArray l.length):=h.sh.ok _ (List.mem_of_getElem? hj)
 have hrun:=run_entry_at (P:=Tryz.prog) w r g l.length ps.toArray (entC l 0).toArray l.length ⟨(nth l q).val, .bool true,0+q⟩ (by rw [h2];simp) h1 (by rw [List.toList_toArray];exact entC_get hq) (by rw [List.toList_toArray,entC_born];exact List.nodup_range')
 unfold execOp
 simp only [ho,h.fr.ev hx,Sem.run_bind,hrun,Result.andThen_ok,Sem.run_pure]
theorem x_ret3 {P:Program}{fn:Func}{t u t3:Nat}{v v' v3:Value}{R:Value→World→Prop}(hs:fn.results= #[.tmp t, .tmp u, .tmp t3])(h:St N K W a w F L)(ht:lk F t=some v)(hu:lk F u=some v')(h3:lk F t3=some v3)(hR:R (.tuple #[v,v',v3]) w):bodyPost P fn (fun e w' =>∃v,e= .returned v∧R v w') .ret a w:=by
 have e0:(results fn a.tmps).run P w= .ok (.tuple #[a.tmps.getD t undef,a.tmps.getD u undef,a.tmps.getD t3 undef]) w:=by simp [results,hs]
 refine ⟨h.fr.defers, .tuple #[v,v',v3], ?_,_,rfl,hR⟩
 rw [e0]
 have h1:=h.fr.at_ t v ht
 have h2:=h.fr.at_ u v' hu
 have h4:=h.fr.at_ t3 v3 h3
 simp [Array.getD_eq_getD_getElem?,h1,h2,h4]
end
end Go.Proofs.YtmjkobhkkjgplaaGreatDoor
namespace Go.Proofs.YtmjkobhkkjgplaaGreatDoor.Dr
open Go.RowKit
set_option linter.unusedSimpArgs false
set_option linter.unusedVariables false
set_option maxRecDepth 100000
set_option maxHeartbeats 2000000
def ordC (x y:Cl):Int:=orL [cmpI x.th y.th,cmpI x.at_ y.at_,cmpI x.oth y.oth,cmpI x.wh y.wh,cmpI x.wd y.wd]
theorem cmpC_c (x y:Cl)(W:World):
    Rets Tryz.prog 53 [.agg #[.int .i64 x.th, .int .i64 x.at_, .int .i64 x.oth, .int .i64 x.wh, .int .i64 x.wd], .agg #[.int .i64 y.th, .int .i64 y.at_, .int .i64 y.oth, .int .i64 y.wh, .int .i64 y.wd]] W (fun v w' =>v= .int .i64 (ordC x y)∧Sh0 W w' []):=by
 refine gen Tryz.func53 Tryz.ntmps53 (Sh0.start _:Sh (fun _=>False) W W []) rfl fun a10 h10=>gG h10<|sK fun _ k11=>gbx rfl rfl fun b12=>gbx rfl rfl fun b13=>gRn (oM 1 rfl<|.nl)<|nK k11<|gK fun _ k14=>fun a15 w15 h15=>x_tail 25 [] (by kernel_rfl) (by kernel_rfl) h15 fun _ z16=>qQ h15.fr<|qRn (ofB fl_58_0 rfl<|olB 1 ti_3 rfl rfl<|ofB fl_58_0 rfl<|olB 0 ti_3 rfl rfl<|.nl)<|qP bd_55 rfl (fun w h=>(cmpI_c x.th y.th _))<|qRn (ofB fl_58_1 rfl<|olB 1 ti_3 rfl rfl<|ofB fl_58_1 rfl<|olB 0 ti_3 rfl rfl<|.nl)<|qP bd_55 rfl (fun w h=>(cmpI_c x.at_ y.at_ _))<|qRn (ofB fl_58_2 rfl<|olB 1 ti_3 rfl rfl<|ofB fl_58_2 rfl<|olB 0 ti_3 rfl rfl<|.nl)<|qP bd_55 rfl (fun w h=>(cmpI_c x.oth y.oth _))<|qRn (ofB fl_58_3 rfl<|olB 1 ti_3 rfl rfl<|ofB fl_58_3 rfl<|olB 0 ti_3 rfl rfl<|.nl)<|qP bd_55 rfl (fun w h=>(cmpI_c x.wh y.wh _))<|qRn (ofB fl_58_4 rfl<|olB 1 ti_3 rfl rfl<|ofB fl_58_4 rfl<|olB 0 ti_3 rfl rfl<|.nl)<|qP bd_55 rfl (fun w h=>(cmpI_c x.wd y.wd _))<|qN z16<|gE1 (fun _ _ h_=>x_lit (n:=5) (cs:= [.int .i64 (cmpI x.th y.th), .int .i64 (cmpI x.at_ y.at_), .int .i64 (cmpI x.oth y.oth), .int .i64 (cmpI x.wh y.wh), .int .i64 (cmpI x.wd y.wd)]) ([cmpI x.th y.th,cmpI x.at_ y.at_,cmpI x.oth y.oth,cmpI x.wh y.wh,cmpI x.wd y.wd]:List Int) h_ sl_23 ti_3 rfl rfl rfl (by decide) rfl (by kernel_rfl) rfl (fun q hq w h=>Flat.inner _ _) (fun q hq b hb=>(Flat.on _ _ hb).elim) rfl rfl) rfl fun v17=>gP (fun _ _ h_=>xCl h_ bd_54 rfl (orL_c (⟨v17, [cmpI x.th y.th,cmpI x.at_ y.at_,cmpI x.oth y.oth,cmpI x.wh y.wh,cmpI x.wd y.wd]⟩:Ls Int) _ (h_.sh.own 0 rfl))) rfl<|gRn (oM 1 rfl<|.nl)<|nK k14<|gF [4] rfl<|gR<|fun a19 w19 h19=>x_ret1 (fn:=Tryz.f53) (t:=4) rfl h19 rfl ?_;clear h10 h15
 exact ⟨rfl,(h19.sh.sel [] rfl)⟩
end Go.Proofs.YtmjkobhkkjgplaaGreatDoor.Dr
namespace Go.Proofs.YtmjkobhkkjgplaaGreatDoor
open Go.RowKit
set_option linter.unusedSimpArgs false
set_option linter.unusedVariables false
def touchI (i:Ins)(regs:List Int)(W:Nat):Option (Int×Bool):=
 if i.op=8 then some (i.b,false)
 else if i.op=9 then some (i.a,true)
 else if i.op=13 then some (i.a,false)
 else if i.op=10 then (if 0≤nth regs i.b.toNat∧nth regs i.b.toNat<(W:Int) then some (nth regs i.b.toNat,false) else none)
 else if i.op=11 then (if 0≤nth regs i.a.toNat∧nth regs i.a.toNat<(W:Int) then some (nth regs i.a.toNat,true) else none)
 else none
def whereV (c:List Ins)(x:TS):Option (Int×Bool):=if ableV c x=true then touchI (nextIns c x.pc) x.regs x.words.length else none
theorem where_no {c:List Ins}{x:TS}(h:ableV c x=false):whereV c x=none:=by unfold whereV;rw [h];rfl
theorem where_yes {c:List Ins}{x:TS}(h:ableV c x=true):whereV c x=touchI (nextIns c x.pc) x.regs x.words.length:=by unfold whereV;rw [h];rfl
theorem touch_8 {i:Ins}{regs:List Int}{W:Nat}(h:i.op=8):touchI i regs W=some (i.b,false):=by unfold touchI;rw [if_pos h]
theorem touch_9 {i:Ins}{regs:List Int}{W:Nat}(h:i.op=9):touchI i regs W=some (i.a,true):=by unfold touchI;rw [if_neg (by omega),if_pos h]
theorem touch_13 {i:Ins}{regs:List Int}{W:Nat}(h:i.op=13):touchI i regs W=some (i.a,false):=by unfold touchI;rw [if_neg (by omega),if_neg (by omega),if_pos h]
theorem touch_10 {i:Ins}{regs:List Int}{W:Nat}{b:Bool}(h:i.op=10)(hb:b=true↔0≤nth regs i.b.toNat∧nth regs i.b.toNat<(W:Int)):touchI i regs W=if b=true then some (nth regs i.b.toNat,false) else none:=by
 unfold touchI
 rw [if_neg (by omega),if_neg (by omega),if_neg (by omega),if_pos h]
 by_cases hc:b=true
 ·rw [if_pos (hb.1 hc),if_pos hc]
 ·rw [if_neg fun h=>hc (hb.2 h),if_neg hc]
theorem touch_11 {i:Ins}{regs:List Int}{W:Nat}{b:Bool}(h:i.op=11)(hb:b=true↔0≤nth regs i.a.toNat∧nth regs i.a.toNat<(W:Int)):touchI i regs W=if b=true then some (nth regs i.a.toNat,true) else none:=by
 unfold touchI
 rw [if_neg (by omega),if_neg (by omega),if_neg (by omega),if_neg (by omega),if_pos h]
 by_cases hc:b=true
 ·rw [if_pos (hb.1 hc),if_pos hc]
 ·rw [if_neg fun h=>hc (hb.2 h),if_neg hc]
theorem touch_none {i:Ins}{regs:List Int}{W:Nat}(h8:i.op≠8)(h9:i.op≠9)(h13:i.op≠13)(h10:i.op≠10)(h11:i.op≠11):touchI i regs W=none:=by
 unfold touchI
 rw [if_neg h8,if_neg h9,if_neg h13,if_neg h10,if_neg h11]
set_option maxRecDepth 100000
set_option maxHeartbeats 8000000
theorem and_f9 {a b:Bool}(h:a=false):(a&&b)=false:=by rw [h];rfl
theorem able_lt {c:List Ins}{x:TS}(h:ableV c x=true):x.pc<(c.length:Int):=by
 unfold ableV at h
 simp only [Bool.and_eq_true,decide_eq_true_eq] at h
 exact h.1
theorem where_c (M:MemS)(g gp:Nat)(code:Ls (Ls Ins))(thr:Ls ThQ)(words owner:Ls Int)(q:M.σ)(pw pv:Value)(locks nregs:Int)(fell:Bool)(t:Nat)(regs:Ls Int)(W:World)(hM:MemI Tryz.prog 182 3 M)(hB:Blk W g 173 #[.iface M.T (.pointer (some M.u)), .pointer (some ⟨gp,0,none⟩),thr.v,pv, .bool fell])(hP:Blk W gp 25 #[code.v,pw, .int .i64 locks, .int .i64 nregs])(h_code:code.At W)(h_thr:thr.At W)(hR:MemRd 182 M W words owner q)(hql:(M.qs q).length=code.l.length)(hw3:∀t,t<code.l.length→(nth (M.qs q) t).length≤3)(htl:thr.l.length=code.l.length)(hpc:∀t,t<code.l.length→0≤(nth thr.l t).pc∧(nth thr.l t).pc≤(nth code.l t).l.length)(hlk:∀t,t<code.l.length→∀i,i<(nth code.l t).l.length→(nth (nth code.l t).l i).op=17→0≤(nth (nth code.l t).l i).a∧(nth (nth code.l t).l i).a<owner.l.length)(hge:∀v∈owner.l,-1≤v)(ht:t<code.l.length)(hrv:(nth thr.l t).rv=regs.v)(hreg:regs.At W)(hir:(nth thr.l t).pc<((nth code.l t).l.length:Int)→InsR regs.l.length words.l.length owner.l.length (nextIns (nth code.l t).l (nth thr.l t).pc)):
    Rets Tryz.prog 91 [.pointer (some ⟨g,0,none⟩), .int .i64 ((t:Nat):Int)] W (fun v w' =>∃(wd:Int) (st_ ok:Bool),v= .tuple #[.int .i64 wd, .bool st_, .bool ok]∧whereV (nth code.l t).l (⟨(nth thr.l t).pc,regs.l,nth (M.qs q) t,words.l,owner.l, [],false⟩:TS)=(if ok=true then some (wd,st_) else none)∧Sh0 W w' []):=by
 have hpct:=hpc t ht
 refine gen Tryz.func91 Tryz.ntmps91 (Sh0.ext (by intro A hA;simp only [List.mem_cons,List.not_mem_nil,or_false] at hA;rcases hA with rfl|rfl|rfl|rfl|rfl|rfl|rfl|rfl|rfl;exact hB;exact hP;exact h_code;exact h_thr;exact hR.blk;exact hR.wa;exact hR.oa;exact (fun A hA=>by obtain rfl:=List.mem_singleton.1 hA;exact hR.x);exact hreg) (by intro A hA b hb;simp only [List.mem_cons,List.not_mem_nil,or_false] at hA;rcases hA with rfl|rfl|rfl|rfl|rfl|rfl|rfl|rfl|rfl<;>exact hb):Sh (fun _=>False) W W [.rblk g 173 [.iface M.T (.pointer (some M.u)), .pointer (some ⟨gp,0,none⟩),thr.v,pv, .bool fell], .rblk gp 25 [code.v,pw, .int .i64 locks, .int .i64 nregs], .at_ code, .at_ thr, .rblk M.g0 182 [words.v,owner.v], .at_ words, .at_ owner, .ro [M.X q], .at_ regs]) rfl fun a10 h10=>gG h10<|sG (oM 3 rfl<|.nl)<|sK fun _ k12=>gRn (oM 2 rfl<|.nl)<|fun a14 w14 h14=>wl_ex (x_call h14 bd_128 rfl rfl rfl rfl rfl (pnext_c M g gp code thr words owner q _ _ _ _ _ t _ hM (h14.sh.rblk 0 rfl) (h14.sh.rblk 1 rfl) (h14.sh.at 2 rfl) (h14.sh.at 3 rfl) ⟨h14.sh.rblk 4 rfl,h14.sh.at 5 rfl,h14.sh.at 6 rfl,(h14.sh.ok _ (List.mem_of_getElem? (i:=7) rfl)) _ (List.mem_singleton.2 rfl)⟩ (by omega) (by omega) (by omega))) (wanted_none rfl _) ?_;clear h10
 rintro a15 w15 ⟨_,⟨hv15,hs15⟩,hf15⟩
 obtain ⟨ins,hins⟩:∃i,i=nextIns (nth code.l t).l (nth thr.l t).pc:=⟨_,rfl⟩
 rw [←hins] at hv15
 subst hv15
 have h15:St 77 (fun _=>False) W a15 w15 _ _:=⟨hf15,h14.sh.call0 hs15⟩
 clear hf15 hs15
 clear h14
 refine gG h15<|gRn (oM 1 rfl<|oxt rfl<|oxt rfl<|.nl)<|gal ti_32 rfl fun b16=>gsw 0 ti_32 rfl rfl rfl<|gRn (oM 1 rfl<|.nl)<|nK k12<|gK fun _ k18=>sK fun _ k19=>gRn (oM 1 rfl<|ont rfl<|oM 1 rfl<|.nl)<|?_;clear h15
 rcases Bool.eq_false_or_eq_true (!(decide ((nth thr.l t).pc<((nth code.l t).l.length:Int)))) with hb20|hb20
 ·have hn20:decide ((nth thr.l t).pc<((nth code.l t).l.length:Int))=false:=(Bool.not_eq_true' _).mp hb20
  refine gRn (oKs 4 hb20 rfl rfl<|opT hb20 rfl<|.nl)<|nK k19<|gcT rfl rfl<|sG (oM 3 rfl<|.nl)<|gR<|uT<|fun a22 w22 h22=>x_ret3 (fn:=Tryz.f91) (t:=4) (u:=5) (t3:=6) rfl h22 rfl rfl rfl<|⟨0,false,false,rfl, ?_,(h22.sh.sel [] rfl)⟩
  first|(rw [where_no (by first|exact ha|exact and_f9 (by assumption))];rfl)|(rw [where_yes ha];show touchI (nextIns (nth code.l t).l (nth thr.l t).pc) regs.l words.l.length=_;rw [←hins];first|exact touch_8 (i:=ins) (by omega)|exact touch_9 (i:=ins) (by omega)|exact touch_13 (i:=ins) (by omega)|exact touch_none (i:=ins) (by omega) (by omega) (by omega) (by omega) (by omega)|exact touch_10 (i:=ins) (by omega) (by first|(simp;done)|(simp;omega))|exact touch_11 (i:=ins) (by omega) (by first|(simp;done)|(simp;omega)))
 have hn20:decide ((nth thr.l t).pc<((nth code.l t).l.length:Int))=true:=(Bool.not_eq_false' _).mp hb20
 refine gRn (oG hb20 (r_move rfl rfl) rfl<|oG hb20 (r_move rfl rfl) rfl<|.nl)<|fun a23 w23 h23=>wl_ex (x_call h23 bd_129 rfl rfl rfl rfl rfl (pable_c M g gp code thr words owner q _ _ _ _ _ t _ hM (h23.sh.rblk 1 rfl) (h23.sh.rblk 2 rfl) (h23.sh.at 3 rfl) (h23.sh.at 4 rfl) ⟨h23.sh.rblk 5 rfl,h23.sh.at 6 rfl,h23.sh.at 7 rfl,(h23.sh.ok _ (List.mem_of_getElem? (i:=8) rfl)) _ (List.mem_singleton.2 rfl)⟩ hql hw3 htl hpc hlk hge (by omega))) (wanted_yes h23.fr rfl rfl rfl rfl hb20) ?_
 rintro a24 w24 ⟨_,⟨rfl,hs24⟩,hf24⟩
 have h24:St 77 (fun _=>False) W a24 w24 _ _:=⟨hf24,h23.sh.call0 hs24⟩
 clear hf24 hs24
 clear h23
 refine gG h24<|gRn (oG hb20 (r_not rfl rfl) rfl<|opF hb20 rfl<|.nl)<|nK k19<|?_;clear h24
 refine gCb rfl (fun hb25=> ?_) fun hb25=> ?_
 ·have hn25:ableF code thr.l (M.qs q) owner.l t=false:=(Bool.not_eq_true' _).mp hb25
  have ha:ableV (nth code.l t).l (⟨(nth thr.l t).pc,regs.l,nth (M.qs q) t,words.l,owner.l, [],false⟩:TS)=false:=hn25
  refine sG (oM 3 rfl<|.nl)<|gR<|uT<|fun a27 w27 h27=>x_ret3 (fn:=Tryz.f91) (t:=4) (u:=5) (t3:=6) rfl h27 rfl rfl rfl<|⟨0,false,false,rfl, ?_,(h27.sh.sel [] rfl)⟩
  first|(rw [where_no (by first|exact ha|exact and_f9 (by assumption))];rfl)|(rw [where_yes ha];show touchI (nextIns (nth code.l t).l (nth thr.l t).pc) regs.l words.l.length=_;rw [←hins];first|exact touch_8 (i:=ins) (by omega)|exact touch_9 (i:=ins) (by omega)|exact touch_13 (i:=ins) (by omega)|exact touch_none (i:=ins) (by omega) (by omega) (by omega) (by omega) (by omega)|exact touch_10 (i:=ins) (by omega) (by first|(simp;done)|(simp;omega))|exact touch_11 (i:=ins) (by omega) (by first|(simp;done)|(simp;omega)))
 have hn25:ableF code thr.l (M.qs q) owner.l t=true:=(Bool.not_eq_false' _).mp hb25
 have ha:ableV (nth code.l t).l (⟨(nth thr.l t).pc,regs.l,nth (M.qs q) t,words.l,owner.l, [],false⟩:TS)=true:=hn25
 have hlt9:=able_lt ha
 have hi9:=hir hlt9
 rw [←hins] at hi9
 refine gS<|hK k18<|sK fun _ k28=>gNl (aA 4 rfl) fun hl29=>gRn (oM 1 rfl<|onf fl_173_2 rfl<|olR 1 ti_171 rfl rfl<|oM 1 rfl<|oxN sl_171 ti_189 (aA 4 rfl) _ om9 rfl<|ofE fl_189_1 rfl<|oV (Rn.same (r_lde (s:=thr) (i:=t) (v:=((nth thr.l t).rv)) ti_23 rfl rfl rfl (fun w h=>(h.at 4 rfl)) (show t<thr.l.length from om9) (Nat.le_of_ble_eq_true rfl) rfl) hrv) rfl<|oM 1 rfl<|.nl)<|nK k28<|gF [0,5,7,9] rfl<|gK fun _ k30=>sG (ofB fl_32_0 rfl<|olB 0 ti_3 rfl rfl<|.nl)<|gB<|sG (oeqI _ _ rfl<|oM 1 rfl<|.nl)<|gcd rfl (fun hb33 hp33=> ?_) fun hb33 hp33=> ?_
 ·skip
  refine sG (ofB fl_32_2 rfl<|olB 0 ti_3 rfl rfl<|oM 3 rfl<|.nl)<|gR<|uB<|uT<|fun a35 w35 h35=>x_ret3 (fn:=Tryz.f91) (t:=4) (u:=5) (t3:=6) rfl h35 rfl rfl rfl<|⟨ins.b,false,true,rfl, ?_,(h35.sh.sel [] rfl)⟩
  first|(rw [where_no (by first|exact ha|exact and_f9 (by assumption))];rfl)|(rw [where_yes ha];show touchI (nextIns (nth code.l t).l (nth thr.l t).pc) regs.l words.l.length=_;rw [←hins];first|exact touch_8 (i:=ins) (by omega)|exact touch_9 (i:=ins) (by omega)|exact touch_13 (i:=ins) (by omega)|exact touch_none (i:=ins) (by omega) (by omega) (by omega) (by omega) (by omega)|exact touch_10 (i:=ins) (by omega) (by first|(simp;done)|(simp;omega))|exact touch_11 (i:=ins) (by omega) (by first|(simp;done)|(simp;omega)))
 refine sG (oeqI _ _ rfl<|oM 1 rfl<|.nl)<|gcd rfl (fun hb37 hp37=> ?_) fun hb37 hp37=> ?_
 ·skip
  refine sG (ofB fl_32_1 rfl<|olB 0 ti_3 rfl rfl<|oM 3 rfl<|.nl)<|gR<|uB<|uT<|fun a39 w39 h39=>x_ret3 (fn:=Tryz.f91) (t:=4) (u:=5) (t3:=6) rfl h39 rfl rfl rfl<|⟨ins.a,true,true,rfl, ?_,(h39.sh.sel [] rfl)⟩
  first|(rw [where_no (by first|exact ha|exact and_f9 (by assumption))];rfl)|(rw [where_yes ha];show touchI (nextIns (nth code.l t).l (nth thr.l t).pc) regs.l words.l.length=_;rw [←hins];first|exact touch_8 (i:=ins) (by omega)|exact touch_9 (i:=ins) (by omega)|exact touch_13 (i:=ins) (by omega)|exact touch_none (i:=ins) (by omega) (by omega) (by omega) (by omega) (by omega)|exact touch_10 (i:=ins) (by omega) (by first|(simp;done)|(simp;omega))|exact touch_11 (i:=ins) (by omega) (by first|(simp;done)|(simp;omega)))
 refine sG (oeqI _ _ rfl<|oM 1 rfl<|.nl)<|gcd rfl (fun hb41 hp41=> ?_) fun hb41 hp41=> ?_
 ·skip
  refine sG (ofB fl_32_1 rfl<|olB 0 ti_3 rfl rfl<|oM 3 rfl<|.nl)<|gR<|uB<|uT<|fun a43 w43 h43=>x_ret3 (fn:=Tryz.f91) (t:=4) (u:=5) (t3:=6) rfl h43 rfl rfl rfl<|⟨ins.a,false,true,rfl, ?_,(h43.sh.sel [] rfl)⟩
  first|(rw [where_no (by first|exact ha|exact and_f9 (by assumption))];rfl)|(rw [where_yes ha];show touchI (nextIns (nth code.l t).l (nth thr.l t).pc) regs.l words.l.length=_;rw [←hins];first|exact touch_8 (i:=ins) (by omega)|exact touch_9 (i:=ins) (by omega)|exact touch_13 (i:=ins) (by omega)|exact touch_none (i:=ins) (by omega) (by omega) (by omega) (by omega) (by omega)|exact touch_10 (i:=ins) (by omega) (by first|(simp;done)|(simp;omega))|exact touch_11 (i:=ins) (by omega) (by first|(simp;done)|(simp;omega)))
 refine sG (oeqI _ _ rfl<|oM 1 rfl<|.nl)<|gcd rfl (fun hb45 hp45=> ?_) fun hb45 hp45=> ?_
 ·skip
  have hix:=(hi9.o10 (by omega)).2
  refine gL<|gNl (aA 9 rfl) fun hl46=>gRn (oM 1 rfl<|ofB fl_32_2 rfl<|olB 0 ti_3 rfl rfl<|oxI sl_23 ti_3 (aA 9 rfl) om9 rfl<|olI ti_3 (aA 9 rfl) om9 rfl<|oM 1 rfl<|.nl)<|nK k30<|gK fun _ k47=>fun a48 w48 h48=>x_quiet (by kernel_rfl) (by kernel_rfl) h48 fun _ z49=>qQ h48.fr<|qRn (oM 3 rfl<|ogeI _ _ rfl<|oM 1 rfl<|.nl)<|?_
  rcases dsp (0≤nth regs.l ins.b.toNat) with ⟨hb50,hp50⟩|⟨hb50,hp50⟩
  ·skip
   refine qRn (oG hb50 (r_move rfl rfl) rfl<|oG hb50 (r_move rfl rfl) rfl<|oG hb50 (r_nil rfl rfl) rfl<|oG hb50 (r_fieldB (r:=0) fl_173_0 rfl rfl rfl) rfl<|oG hb50 (r_ldbR ti_97 rfl rfl (fun w h=>h.rblk 1 rfl) rfl) rfl<|.nl)<|fun _ hq=>wq_inv hq rfl rfl rfl (wanted_yes hq rfl rfl rfl rfl hb50) rfl rfl (fun w h=>(hM.base _ words owner q ⟨h.rblk 5 rfl,h.at 6 rfl,h.at 7 rfl,(h.ok _ (List.mem_of_getElem? (i:=8) rfl)) _ (List.mem_singleton.2 rfl)⟩))<|qRn (oG hb50 (r_nil rfl rfl) rfl<|oG hb50 (r_fieldB (r:=0) fl_182_0 rfl rfl rfl) rfl<|oG hb50 (r_ldbR ti_23 rfl rfl (fun w h=>h.rblk 5 rfl) rfl) rfl<|.nl)<|?_
   have hl61:words.l.length≤140737488355328:=(h48.sh.at 6 rfl).len
   refine qRn (oG hb50 (r_len (s:=words) (n:=words.l.length) sl_23 rfl rfl (fun w h=>(h.at 6 rfl)) rfl) rfl<|oG hb50 (r_lssI (p:=nth regs.l ins.b.toNat) (q:=((words.l.length:Nat):Int)) rfl rfl rfl) rfl<|opT hb50 rfl<|oM 3 rfl<|.nl)<|qN z49<|?_;clear h48
   refine hK k47<|gF [4,5,6] rfl<|gR<|fun a63 w63 h63=>x_ret3 (fn:=Tryz.f91) (t:=4) (u:=5) (t3:=6) rfl h63 rfl rfl rfl<|⟨nth regs.l ins.b.toNat,false,decide (nth regs.l ins.b.toNat<((words.l.length:Nat):Int)),rfl, ?_,(h63.sh.sel [] rfl)⟩
   first|(rw [where_no (by first|exact ha|exact and_f9 (by assumption))];rfl)|(rw [where_yes ha];show touchI (nextIns (nth code.l t).l (nth thr.l t).pc) regs.l words.l.length=_;rw [←hins];first|exact touch_8 (i:=ins) (by omega)|exact touch_9 (i:=ins) (by omega)|exact touch_13 (i:=ins) (by omega)|exact touch_none (i:=ins) (by omega) (by omega) (by omega) (by omega) (by omega)|exact touch_10 (i:=ins) (by omega) (by first|(simp;done)|(simp;omega))|exact touch_11 (i:=ins) (by omega) (by first|(simp;done)|(simp;omega)))
  refine qRn (oKs 11 hb50 rfl rfl<|opF hb50 rfl<|oM 3 rfl<|.nl)<|qN z49<|?_;clear h48
  refine hK k47<|gF [4,5,6] rfl<|gR<|fun a65 w65 h65=>x_ret3 (fn:=Tryz.f91) (t:=4) (u:=5) (t3:=6) rfl h65 rfl rfl rfl<|⟨nth regs.l ins.b.toNat,false,false,rfl, ?_,(h65.sh.sel [] rfl)⟩
  first|(rw [where_no (by first|exact ha|exact and_f9 (by assumption))];rfl)|(rw [where_yes ha];show touchI (nextIns (nth code.l t).l (nth thr.l t).pc) regs.l words.l.length=_;rw [←hins];first|exact touch_8 (i:=ins) (by omega)|exact touch_9 (i:=ins) (by omega)|exact touch_13 (i:=ins) (by omega)|exact touch_none (i:=ins) (by omega) (by omega) (by omega) (by omega) (by omega)|exact touch_10 (i:=ins) (by omega) (by first|(simp;done)|(simp;omega))|exact touch_11 (i:=ins) (by omega) (by first|(simp;done)|(simp;omega)))
 refine sG (oeqI _ _ rfl<|oM 1 rfl<|.nl)<|gcd rfl (fun hb67 hp67=> ?_) fun hb67 hp67=> ?_
 ·skip
  have hix:=(hi9.o10 (by omega)).1
  refine gL<|gNl (aA 9 rfl) fun hl68=>gRn (oM 1 rfl<|ofB fl_32_1 rfl<|olB 0 ti_3 rfl rfl<|oxI sl_23 ti_3 (aA 9 rfl) om9 rfl<|olI ti_3 (aA 9 rfl) om9 rfl<|oM 2 rfl<|.nl)<|nK k30<|gK fun _ k69=>fun a70 w70 h70=>x_quiet (by kernel_rfl) (by kernel_rfl) h70 fun _ z71=>qQ h70.fr<|qRn (oM 3 rfl<|ogeI _ _ rfl<|oM 1 rfl<|.nl)<|?_
  rcases dsp (0≤nth regs.l ins.a.toNat) with ⟨hb72,hp72⟩|⟨hb72,hp72⟩
  ·skip
   refine qRn (oG hb72 (r_move rfl rfl) rfl<|oG hb72 (r_move rfl rfl) rfl<|oG hb72 (r_nil rfl rfl) rfl<|oG hb72 (r_fieldB (r:=0) fl_173_0 rfl rfl rfl) rfl<|oG hb72 (r_ldbR ti_97 rfl rfl (fun w h=>h.rblk 1 rfl) rfl) rfl<|.nl)<|fun _ hq=>wq_inv hq rfl rfl rfl (wanted_yes hq rfl rfl rfl rfl hb72) rfl rfl (fun w h=>(hM.base _ words owner q ⟨h.rblk 5 rfl,h.at 6 rfl,h.at 7 rfl,(h.ok _ (List.mem_of_getElem? (i:=8) rfl)) _ (List.mem_singleton.2 rfl)⟩))<|qRn (oG hb72 (r_nil rfl rfl) rfl<|oG hb72 (r_fieldB (r:=0) fl_182_0 rfl rfl rfl) rfl<|oG hb72 (r_ldbR ti_23 rfl rfl (fun w h=>h.rblk 5 rfl) rfl) rfl<|.nl)<|?_
   have hl83:words.l.length≤140737488355328:=(h70.sh.at 6 rfl).len
   refine qRn (oG hb72 (r_len (s:=words) (n:=words.l.length) sl_23 rfl rfl (fun w h=>(h.at 6 rfl)) rfl) rfl<|oG hb72 (r_lssI (p:=nth regs.l ins.a.toNat) (q:=((words.l.length:Nat):Int)) rfl rfl rfl) rfl<|opT hb72 rfl<|oM 3 rfl<|.nl)<|qN z71<|?_;clear h70
   refine hK k69<|gF [4,5,6] rfl<|gR<|fun a85 w85 h85=>x_ret3 (fn:=Tryz.f91) (t:=4) (u:=5) (t3:=6) rfl h85 rfl rfl rfl<|⟨nth regs.l ins.a.toNat,true,decide (nth regs.l ins.a.toNat<((words.l.length:Nat):Int)),rfl, ?_,(h85.sh.sel [] rfl)⟩
   first|(rw [where_no (by first|exact ha|exact and_f9 (by assumption))];rfl)|(rw [where_yes ha];show touchI (nextIns (nth code.l t).l (nth thr.l t).pc) regs.l words.l.length=_;rw [←hins];first|exact touch_8 (i:=ins) (by omega)|exact touch_9 (i:=ins) (by omega)|exact touch_13 (i:=ins) (by omega)|exact touch_none (i:=ins) (by omega) (by omega) (by omega) (by omega) (by omega)|exact touch_10 (i:=ins) (by omega) (by first|(simp;done)|(simp;omega))|exact touch_11 (i:=ins) (by omega) (by first|(simp;done)|(simp;omega)))
  refine qRn (oKs 11 hb72 rfl rfl<|opF hb72 rfl<|oM 3 rfl<|.nl)<|qN z71<|?_;clear h70
  refine hK k69<|gF [4,5,6] rfl<|gR<|fun a87 w87 h87=>x_ret3 (fn:=Tryz.f91) (t:=4) (u:=5) (t3:=6) rfl h87 rfl rfl rfl<|⟨nth regs.l ins.a.toNat,true,false,rfl, ?_,(h87.sh.sel [] rfl)⟩
  first|(rw [where_no (by first|exact ha|exact and_f9 (by assumption))];rfl)|(rw [where_yes ha];show touchI (nextIns (nth code.l t).l (nth thr.l t).pc) regs.l words.l.length=_;rw [←hins];first|exact touch_8 (i:=ins) (by omega)|exact touch_9 (i:=ins) (by omega)|exact touch_13 (i:=ins) (by omega)|exact touch_none (i:=ins) (by omega) (by omega) (by omega) (by omega) (by omega)|exact touch_10 (i:=ins) (by omega) (by first|(simp;done)|(simp;omega))|exact touch_11 (i:=ins) (by omega) (by first|(simp;done)|(simp;omega)))
 refine sG (oM 3 rfl<|.nl)<|gR<|uB<|uT<|fun a89 w89 h89=>x_ret3 (fn:=Tryz.f91) (t:=4) (u:=5) (t3:=6) rfl h89 rfl rfl rfl<|⟨0,false,false,rfl, ?_,(h89.sh.sel [] rfl)⟩
 first|(rw [where_no (by first|exact ha|exact and_f9 (by assumption))];rfl)|(rw [where_yes ha];show touchI (nextIns (nth code.l t).l (nth thr.l t).pc) regs.l words.l.length=_;rw [←hins];first|exact touch_8 (i:=ins) (by omega)|exact touch_9 (i:=ins) (by omega)|exact touch_13 (i:=ins) (by omega)|exact touch_none (i:=ins) (by omega) (by omega) (by omega) (by omega) (by omega)|exact touch_10 (i:=ins) (by omega) (by first|(simp;done)|(simp;omega))|exact touch_11 (i:=ins) (by omega) (by first|(simp;done)|(simp;omega)))
theorem sat_c (g:Nat)(M:MemS)(gp:Nat)(thr:Ls ThQ)(pv:Value)(fell:Bool)(t:Nat)(W:World)(hB:Blk W g 173 #[.iface M.T (.pointer (some M.u)), .pointer (some ⟨gp,0,none⟩),thr.v,pv, .bool fell])(h_thr:thr.At W)(ht:t<thr.l.length):
    Rets Tryz.prog 92 [.pointer (some ⟨g,0,none⟩), .int .i64 ((t:Nat):Int)] W (fun v w' =>v= .int .i64 (nth thr.l t).pc∧Sh0 W w' []):=by
 refine gen Tryz.func92 Tryz.ntmps92 (Sh0.ext (by intro A hA;simp only [List.mem_cons,List.not_mem_nil,or_false] at hA;rcases hA with rfl|rfl;exact hB;exact h_thr) (by intro A hA b hb;simp only [List.mem_cons,List.not_mem_nil,or_false] at hA;rcases hA with rfl|rfl<;>exact hb):Sh (fun _=>False) W W [.rblk g 173 [.iface M.T (.pointer (some M.u)), .pointer (some ⟨gp,0,none⟩),thr.v,pv, .bool fell], .at_ thr]) rfl fun a10 h10=>gG h10<|sG (oM 1 rfl<|.nl)<|sK fun _ k12=>gNl (aA 1 rfl) fun hl13=>gRn (oM 1 rfl<|onf fl_173_2 rfl<|olR 0 ti_171 rfl rfl<|oM 1 rfl<|oxN sl_171 ti_189 (aA 1 rfl) _ om9 rfl<|ofE fl_189_0 rfl<|olI ti_3 (aA 1 rfl) om9 rfl<|oM 1 rfl<|.nl)<|nK k12<|gR<|fun a14 w14 h14=>x_ret1 (fn:=Tryz.f92) (t:=4) rfl h14 rfl ?_;clear h10
 exact ⟨rfl,(h14.sh.sel [] rfl)⟩
def clashAt (p:Pg)(s:MSt)(a b:Nat):Option Cl:=match whereV (nth p.code a) (s.view a),whereV (nth p.code b) (s.view b) with
 |some q,some r=>if q.1=r.1∧(q.2||r.2)=true then some ⟨(a:Int),(nth s.ths a).pc,(b:Int),(nth s.ths b).pc,q.1⟩ else none
 |_,_=>none
def addO (l:List Cl):Option Cl→List Cl
 |some c=>addC l c
 |none=>l
def rowC (p:Pg)(s:MSt)(a j:Nat)(l:List Cl):List Cl:=(List.range' (a+1) j).foldl (fun l b=>addO l (clashAt p s a b)) l
def clsN (p:Pg)(s:MSt)(k:Nat)(l:List Cl):List Cl:=(List.range k).foldl (fun l a=>rowC p s a (p.code.length-(a+1)) l) l
def clsS (p:Pg)(l:List Cl)(s:MSt):List Cl:=clsN p s p.code.length l
section
variable {p:Pg}{s:MSt}{a b j k:Nat}{l:List Cl}{c:Cl}
theorem rowC_0 :rowC p s a 0 l=l:=rfl
theorem rowC_succ :rowC p s a (j+1) l=addO (rowC p s a j l) (clashAt p s a (a+1+j)):=by
 unfold rowC
 rw [List.range'_1_concat,List.foldl_append];rfl
theorem clsN_succ :clsN p s (k+1) l=rowC p s k (p.code.length-(k+1)) (clsN p s k l):=by
 unfold clsN
 rw [List.range_succ,List.foldl_append];rfl
theorem clashAt_of {ok1 ok2 s1 s2:Bool}{w1 w2:Int}(h1:whereV (nth p.code a) (s.view a)=if ok1=true then some (w1,s1) else none)(h2:whereV (nth p.code b) (s.view b)=if ok2=true then some (w2,s2) else none):
  clashAt p s a b=if ok1=true∧ok2=true∧w1=w2∧(s1||s2)=true then some ⟨(a:Int),(nth s.ths a).pc,(b:Int),(nth s.ths b).pc,w1⟩ else none:=by
 unfold clashAt
 rw [h1,h2]
 cases ok1<;>cases ok2<;>simp
theorem clashAt_yes {ok1 ok2 s1 s2:Bool}{w1 w2:Int}(h1:whereV (nth p.code a) (s.view a)=if ok1=true then some (w1,s1) else none)(h2:whereV (nth p.code b) (s.view b)=if ok2=true then some (w2,s2) else none)(g1:ok1=true)(g2:ok2=true)(g3:w1=w2)(g4:s1=true∨s2=true):
  clashAt p s a b=some ⟨(a:Int),(nth s.ths a).pc,(b:Int),(nth s.ths b).pc,w1⟩:=by rw [clashAt_of h1 h2,if_pos ⟨g1,g2,g3,by simpa using g4⟩]
theorem clashAt_no {ok1 ok2 s1 s2:Bool}{w1 w2:Int}(h1:whereV (nth p.code a) (s.view a)=if ok1=true then some (w1,s1) else none)(h2:whereV (nth p.code b) (s.view b)=if ok2=true then some (w2,s2) else none)(g:ok1=false∨ok2=false∨w1≠w2∨(s1=false∧s2=false)):
  clashAt p s a b=none:=by
 rw [clashAt_of h1 h2,if_neg]
 rintro ⟨g1,g2,g3,g4⟩
 rcases g with g|g|g|g
 ·rw [g] at g1;cases g1
 ·rw [g] at g2;cases g2
 ·exact g g3
 ·rw [g.1,g.2] at g4;cases g4
theorem mem_addC {k:Cl} :c∈addC l k↔c∈l∨c=k:=by
 unfold addC
 split
 ·rename_i h
  exact ⟨.inl,fun h2=>h2.elim id fun e=>e▸h⟩
 ·simp
theorem nodup_addC {k:Cl}(h:l.Nodup):(addC l k).Nodup:=by
 unfold addC
 split
 ·exact h
 ·rename_i hk
  exact List.nodup_append.2 ⟨h,by simp,fun a ha b hb=>by obtain rfl:=List.mem_singleton.1 hb;exact fun e=>hk (e▸ha)⟩
theorem mem_addO {o:Option Cl} :c∈addO l o↔c∈l∨o=some c:=by
 cases o with
 |none=>simp [addO]
 |some k=>rw [addO,mem_addC];simp [eq_comm]
theorem nodup_addO {o:Option Cl}(h:l.Nodup):(addO l o).Nodup:=by
 cases o with
 |none=>exact h
 |some k=>exact nodup_addC h
theorem mem_rowC :c∈rowC p s a j l↔c∈l∨∃b,a<b∧b<a+1+j∧clashAt p s a b=some c:=by
 induction j with
 |zero=>
  rw [rowC_0]
  exact ⟨.inl,fun h=>h.elim id fun ⟨b,h1,h2,_⟩=>by omega⟩
 |succ j ih=>
  rw [rowC_succ,mem_addO,ih]
  constructor
  ·rintro ((h|⟨b,h1,h2,h3⟩)|h)
   ·exact .inl h
   ·exact .inr ⟨b,h1,by omega,h3⟩
   ·exact .inr ⟨a+1+j,by omega,by omega,h⟩
  ·rintro (h|⟨b,h1,h2,h3⟩)
   ·exact .inl (.inl h)
   ·by_cases e:b=a+1+j
    ·subst e;exact .inr h3
    ·exact .inl (.inr ⟨b,h1,by omega,h3⟩)
theorem nodup_rowC (h:l.Nodup):(rowC p s a j l).Nodup:=by
 induction j with
 |zero=>exact h
 |succ j ih=>rw [rowC_succ];exact nodup_addO ih
theorem mem_clsN (hk:k≤p.code.length):c∈clsN p s k l↔c∈l∨∃a b,a<k∧a<b∧b<p.code.length∧clashAt p s a b=some c:=by
 induction k with
 |zero=>exact ⟨.inl,fun h=>h.elim id fun ⟨a,b,h1,_⟩=>by omega⟩
 |succ k ih=>
  rw [clsN_succ,mem_rowC,ih (by omega)]
  constructor
  ·rintro ((h|⟨a,b,h1,h2⟩)|⟨b,h1,h2,h3⟩)
   ·exact .inl h
   ·exact .inr ⟨a,b,by omega,h2⟩
   ·exact .inr ⟨k,b,by omega,h1,by omega,h3⟩
  ·rintro (h|⟨a,b,h1,h2,h3,h4⟩)
   ·exact .inl (.inl h)
   ·by_cases e:a=k
    ·subst e;exact .inr ⟨b,h2,by omega,h4⟩
    ·exact .inl (.inr ⟨a,b,by omega,h2,h3,h4⟩)
theorem nodup_clsN (h:l.Nodup):(clsN p s k l).Nodup:=by
 induction k with
 |zero=>exact h
 |succ k ih=>rw [clsN_succ];exact nodup_rowC ih
theorem mem_clsF {S:List MSt} :c∈S.foldl (clsS p) l↔c∈l∨∃s∈S,∃a b,a<b∧b<p.code.length∧clashAt p s a b=some c:=by
 induction S generalizing l with
 |nil=>simp
 |cons s S ih=>
  rw [List.foldl_cons,ih]
  unfold clsS
  rw [mem_clsN (Nat.le_refl _)]
  constructor
  ·rintro ((h|⟨a,b,h1,h2,h3,h4⟩)|⟨x,hx,h⟩)
   ·exact .inl h
   ·exact .inr ⟨s,by simp,a,b,h2,h3,h4⟩
   ·exact .inr ⟨x,by simp [hx],h⟩
  ·rintro (h|⟨x,hx,a,b,h1,h2,h3⟩)
   ·exact .inl (.inl h)
   ·rcases List.mem_cons.1 hx with rfl|hx
    ·exact .inl (.inr ⟨a,b,by omega,h1,h2,h3⟩)
    ·exact .inr ⟨x,hx,a,b,h1,h2,h3⟩
theorem nodup_clsF {S:List MSt}(h:l.Nodup):(S.foldl (clsS p) l).Nodup:=by
 induction S generalizing l with
 |nil=>exact h
 |cons s S ih=>exact ih (nodup_clsN h)
theorem addO_len {o:Option Cl} :(addO l o).length≤l.length+1:=by
 cases o with
 |none=>exact Nat.le_succ _
 |some k=>
  show (addC l k).length≤_
  unfold addC
  split
  ·exact Nat.le_succ _
  ·simp
theorem rowC_len :(rowC p s a j l).length≤l.length+j:=by
 induction j with
 |zero=>exact Nat.le_refl _
 |succ j ih=>rw [rowC_succ];have:=addO_len (l:=rowC p s a j l) (o:=clashAt p s a (a+1+j));omega
theorem clsN_len :(clsN p s k l).length≤l.length+k*p.code.length:=by
 induction k with
 |zero=>exact Nat.le_add_right _ _
 |succ k ih=>
  rw [clsN_succ,Nat.succ_mul]
  have:=rowC_len (p:=p) (s:=s) (a:=k) (j:=p.code.length-(k+1)) (l:=clsN p s k l)
  omega
theorem clsF_len {S:List MSt} :(S.foldl (clsS p) l).length≤l.length+S.length*(p.code.length*p.code.length):=by
 induction S generalizing l with
 |nil=>exact Nat.le_add_right _ _
 |cons s S ih=>
  rw [List.foldl_cons,List.length_cons,Nat.succ_mul]
  have h1:=ih (l:=clsS p l s)
  have h2:(clsS p l s).length≤l.length+p.code.length*p.code.length:=clsN_len
  omega
end
def lessC (x y:Cl):Bool:=if x.th=y.th then (if x.at_=y.at_ then (if x.oth=y.oth then (if x.wh=y.wh then decide (x.wd<y.wd) else decide (x.wh<y.wh)) else decide (x.oth<y.oth)) else decide (x.at_<y.at_)) else decide (x.th<y.th)
theorem lessC_irr (x:Cl):lessC x x=false:=by simp [lessC]
theorem lessC_trans {x y z:Cl}(h:lessC x y=true)(h2:lessC y z=true):lessC x z=true:=by
 unfold lessC at*
 (repeat' split at h)<;>(repeat' split at h2)<;>(repeat' split)<;>simp only [decide_eq_true_eq] at* <;>omega
theorem lessC_tri {x y:Cl}(h:lessC x y=false)(h2:lessC y x=false):x=y:=by
 obtain ⟨a,b,c,d,e⟩:=x
 obtain ⟨a',b',c',d',e'⟩:=y
 unfold lessC at*
 simp only at h h2
 (repeat' split at h)<;>(repeat' split at h2)<;>simp only [decide_eq_false_iff_not] at h h2<;>first|omega|(simp only [Cl.mk.injEq];omega)
theorem xwhere_c {F:MemF}(hF:MemFI Tryz.prog 182 3 204 5 141 F)(x:PSD F)(code:Ls (Ls Ins))(words0:Ls Int)(Lk R:Nat)(pw:Value)(W:World)(hX:x.Rd W)(hP:Blk W x.gp 25 #[code.v,pw, .int .i64 ((Lk:Nat):Int), .int .i64 ((R:Nat):Int)])(hcode:code.At W)(hok:OkPg (pgN code words0 Lk R))(h:PX code words0 Lk R x)(t:Nat)(ht:t<code.l.length):
  Rets Tryz.prog 91 [.pointer (some ⟨x.g,0,none⟩), .int .i64 ((t:Nat):Int)] W (fun v w' =>∃(wd:Int) (st_ ok:Bool),v= .tuple #[.int .i64 wd, .bool st_, .bool ok]∧whereV (nth (pgN code words0 Lk R).code t) (x.st.view t)=(if ok=true then some (wd,st_) else none)∧Sh0 W w' []):=by
 have hf:=psd_facts hok h.reach h.rl
 have hM:=hF.ok x.i
 have hrl:=h.rl
 have htr:t<x.rows.length:=by rw [hrl];exact ht
 have hq:=toQ_at htr
 refine Rets.mono (where_c (F.mem x.i) x.g x.gp code ⟨x.vt,x.rows.map ThR.toQ⟩ x.words x.owner x.q pw x.prints.v Lk R false t (nth x.rows t).regs W hM hX.blk hP hcode hX.thr hX.mem h.ql hf.hw3 (by show (x.rows.map ThR.toQ).length=_;rw [List.length_map];exact hrl) hf.hpc hf.hlk hf.hge ht (by show (nth (x.rows.map ThR.toQ) t).rv=_;rw [hq];rfl) (hX.row _ (nth_mem _ _ htr)) (fun hlt=>by
   rw [hf.hreg t ht,hf.hwl,hf.hol]
   exact insR_N hok ht (hf.hpc t ht).1 hlt)) ?_
 rintro v w' ⟨wd,st_,ok,rfl,e,hs⟩
 refine ⟨wd,st_,ok,rfl, ?_,hs⟩
 have e2:whereV (nth code.l t).l ⟨(nth (x.rows.map ThR.toQ) t).pc,(nth x.rows t).regs.l,nth x.qs t,x.words.l,x.owner.l, [],false⟩=_:=e
 rw [hq] at e2
 rw [pgN_code ht,psd_view htr]
 exact e2
theorem xat_c {F:MemF}(hF:MemFI Tryz.prog 182 3 204 5 141 F)(x:PSD F)(code:Ls (Ls Ins))(words0:Ls Int)(Lk R:Nat)(pw:Value)(W:World)(hX:x.Rd W)(hP:Blk W x.gp 25 #[code.v,pw, .int .i64 ((Lk:Nat):Int), .int .i64 ((R:Nat):Int)])(hcode:code.At W)(hok:OkPg (pgN code words0 Lk R))(h:PX code words0 Lk R x)(t:Nat)(ht:t<code.l.length):
  Rets Tryz.prog 92 [.pointer (some ⟨x.g,0,none⟩), .int .i64 ((t:Nat):Int)] W (fun v w' =>v= .int .i64 (nth x.st.ths t).pc∧Sh0 W w' []):=by
 have htr:t<x.rows.length:=by rw [h.rl];exact ht
 refine Rets.mono (sat_c x.g (F.mem x.i) x.gp ⟨x.vt,x.rows.map ThR.toQ⟩ x.prints.v false t W hX.blk hX.thr (by show t<(x.rows.map ThR.toQ).length;rw [List.length_map];exact htr)) ?_
 rintro v w' ⟨rfl,hs⟩
 refine ⟨?_,hs⟩
 show Value.int .i64 (nth (x.rows.map ThR.toQ) t).pc=_
 rw [toQ_at htr,(psd_th htr).1];rfl
theorem clashes_c (K:Nat→Prop)(F:MemF)(x:PSD F)(code:Ls (Ls Ins))(words0:Ls Int)(Lk R:Nat)(pw:Value)(g:Nat)(l0:List Cl)(W:World)(hF:MemFI Tryz.prog 182 3 204 5 141 F)(hok:OkPg (pgN code words0 Lk R))(hx:PX code words0 Lk R x)(hS:Sh K W W [.clsO g l0, .rd1 x, .rblk x.gp 25 [code.v,pw, .int .i64 ((Lk:Nat):Int), .int .i64 ((R:Nat):Int)], .at_ code]):
    Rets Tryz.prog 51 [.agg #[code.v,pw, .int .i64 ((Lk:Nat):Int), .int .i64 ((R:Nat):Int)], .pointer (some ⟨x.g,0,none⟩), .map (some g)] W (fun v w' =>v= .tuple #[]∧Sh K W w' [.clsO g (clsS (pgN code words0 Lk R) l0 x.st), .rd1 x, .rblk x.gp 25 [code.v,pw, .int .i64 ((Lk:Nat):Int), .int .i64 ((R:Nat):Int)], .at_ code]):=by
 have hcl9:=(ok_lenP hok).2.1
 refine gen Tryz.func51 Tryz.ntmps51 hS rfl fun a10 h10=>gG h10<|sK fun _ k11=>gbx rfl rfl fun b12=>nK k11<|sK fun _ k13=>gNl (aA 4 rfl) fun hl14=>gRn (ofB fl_25_0 rfl<|olB 0 ti_22 rfl rfl<|oln sl_22 (aA 4 rfl) rfl<|oM 1 rfl<|.nl)<|nK k13<|gB<|fun a16 w16 h16=>x_loop (fun m a w=>∃(k:Nat) (l1:List Cl),(k≤code.l.length)∧(l1=clsN (pgN code words0 Lk R) x.st k l0)∧St 70 K W a w [(1, .pointer (some ⟨x.g,0,none⟩)),(2, .map (some g)),(3, .pointer (some ⟨b12,0,none⟩)),(16, .int .i64 ((code.l.length:Nat):Int)),(17, .int .i64 ((k:Nat):Int))] [.blk b12 25 [code.v,pw, .int .i64 ((Lk:Nat):Int), .int .i64 ((R:Nat):Int)], .clsO g l1, .rd1 x, .rblk x.gp 25 [code.v,pw, .int .i64 ((Lk:Nat):Int), .int .i64 ((R:Nat):Int)], .at_ code]∧m=code.l.length-k) ⟨_,0,l0,(by omega),(rfl),h16.nf ⟨rfl,rfl,rfl,rfl,rfl,trivial⟩,rfl⟩ ?_;clear h10
 clear h16
 rintro m15 a15 w15 ⟨k,l1,hk,hl1,h15,hm15⟩
 refine gG h15<|sG (oltN _ _ rfl<|.nl)<|gK fun _ k18=>gcd rfl (fun hb19 hp19=> ?_) fun hb19 hp19=> ?_;clear h15
 ·skip
  refine gS<|hK k18<|gK fun _ k20=>gB<|sG (oM 2 rfl<|.nl)<|sG (oM 1 rfl<|oadN _ 1 om9 rfl<|oM 1 rfl<|.nl)<|gB<|fun a24 w24 h24=>x_loop (fun m a w=>∃(j:Nat) (l2:List Cl),(k+1+j≤code.l.length)∧(l2=rowC (pgN code words0 Lk R) x.st k j l1)∧St 70 K W a w [(1, .pointer (some ⟨x.g,0,none⟩)),(2, .map (some g)),(3, .pointer (some ⟨b12,0,none⟩)),(6, .int .i64 ((k:Nat):Int)),(7, .int .i64 (((k+1+j):Nat):Int)),(16, .int .i64 ((code.l.length:Nat):Int)),(17, .int .i64 ((k:Nat):Int))] [.blk b12 25 [code.v,pw, .int .i64 ((Lk:Nat):Int), .int .i64 ((R:Nat):Int)], .clsO g l2, .rd1 x, .rblk x.gp 25 [code.v,pw, .int .i64 ((Lk:Nat):Int), .int .i64 ((R:Nat):Int)], .at_ code]∧m=code.l.length-(k+1+j)) ⟨_,0,l1,(by omega),(rfl),h24.nf ⟨rfl,rfl,rfl,rfl,rfl,rfl,rfl,trivial⟩,rfl⟩ ?_
  clear h24
  rintro m23 a23 w23 ⟨j,l2,hj,hl2,h23,hm23⟩
  refine gG h23<|gK fun _ k25=>sG (oM 1 rfl<|ofB fl_25_0 rfl<|olB 0 ti_22 rfl rfl<|oln sl_22 (aA 4 rfl) rfl<|oltN _ _ rfl<|.nl)<|?_;clear h23
  refine gcd rfl (fun hb27 hp27=> ?_) fun hb27 hp27=> ?_
  ·skip
   refine gS<|hK k25<|gK fun _ k28=>gB<|sK fun _ k29=>gRn (oM 2 rfl<|.nl)<|gC (fun _ _ h_=>xCl h_ bd_91 rfl (xwhere_c hF x code words0 Lk R pw _ (PSD.rd (h_.sh.ok (.rd1 x) (List.mem_of_getElem? (i:=2) rfl))) (h_.sh.rblk 3 rfl) (h_.sh.at 4 rfl) hok hx k (by omega))) rfl<|?_
   rintro _ _ w30 ⟨wd30,st30,ok30,rfl,hwh30,hs30⟩
   refine gWk hs30 rfl<|gU<|gRn (oM 1 rfl<|oxt rfl<|oxt rfl<|oxt rfl<|oM 3 rfl<|.nl)<|nK k29<|sK fun _ k31=>gRn (oM 2 rfl<|.nl)<|gC (fun _ _ h_=>xCl h_ bd_91 rfl (xwhere_c hF x code words0 Lk R pw _ (PSD.rd (h_.sh.ok (.rd1 x) (List.mem_of_getElem? (i:=2) rfl))) (h_.sh.rblk 3 rfl) (h_.sh.at 4 rfl) hok hx (k+1+j) (by omega))) rfl<|?_;clear hs30
   rintro _ _ w32 ⟨wd32,st32,ok32,rfl,hwh32,hs32⟩
   refine gWk hs32 rfl<|gU<|gRn (oM 1 rfl<|oxt rfl<|oxt rfl<|oxt rfl<|oM 3 rfl<|.nl)<|nK k31<|sK fun _ k33=>gRn (oM 2 rfl<|.nl)<|?_;clear hs32
   rcases Bool.eq_false_or_eq_true ok30 with hb34|hb34
   ·skip
    refine gRn (oG hb34 (r_move rfl rfl) rfl<|opT hb34 rfl<|oM 1 rfl<|.nl)<|?_
    rcases Bool.eq_false_or_eq_true ok32 with hb35|hb35
    ·skip
     refine gRn (oG hb35 (r_move rfl rfl) rfl<|oG hb35 (r_move rfl rfl) rfl<|oG hb35 (r_eqlI (p:=wd30) (q:=wd32) rfl rfl rfl) rfl<|opT hb35 rfl<|oM 1 rfl<|.nl)<|?_
     rcases dsp (wd30=wd32) with ⟨hb36,hp36⟩|⟨hb36,hp36⟩
     ·skip
      refine gRn (oG hb36 (r_move rfl rfl) rfl<|oG hb36 (r_move rfl rfl) rfl<|.nl)<|?_
      rcases Bool.eq_false_or_eq_true st30 with hb37|hb37
      ·skip
       refine gRn (oK hb37 rfl<|oG hb36 (r_pickT rfl rfl hb37 rfl) rfl<|opT hb36 rfl<|.nl)<|nK k33<|gF [1,2,3,6,7,8,16,17,57] rfl<|gcT rfl rfl<|gL<|gRn (oM 4 rfl<|.nl)<|gC (fun _ _ h_=>xCl h_ bd_92 rfl (xat_c hF x code words0 Lk R pw _ (PSD.rd (h_.sh.ok (.rd1 x) (List.mem_of_getElem? (i:=2) rfl))) (h_.sh.rblk 3 rfl) (h_.sh.at 4 rfl) hok hx k (by omega))) rfl<|?_
       rintro _ _ w38 ⟨rfl,hs38⟩
       refine gWk hs38 rfl<|gU<|gRn (oM 3 rfl<|.nl)<|gC (fun _ _ h_=>xCl h_ bd_92 rfl (xat_c hF x code words0 Lk R pw _ (PSD.rd (h_.sh.ok (.rd1 x) (List.mem_of_getElem? (i:=2) rfl))) (h_.sh.rblk 3 rfl) (h_.sh.at 4 rfl) hok hx (k+1+j) (by omega))) rfl<|?_;clear hs38
       rintro _ _ w39 ⟨rfl,hs39⟩
       refine gWk hs39 rfl<|gU<|gRn (oM 1 rfl<|oV (r_build (cs:= [.int .i64 ((k:Nat):Int), .int .i64 ((nth x.st.ths k).pc), .int .i64 (((k+1+j):Nat):Int), .int .i64 ((nth x.st.ths (k+1+j)).pc), .int .i64 wd30]) rfl rfl (by kernel_rfl)) rfl<|.nl)<|gE (fun _ _ h_=>x_updCl (i:=1) (l:=l2) (k:=(⟨((k:Nat):Int),(nth x.st.ths k).pc,(((k+1+j):Nat):Int),(nth x.st.ths (k+1+j)).pc,wd30⟩:Cl)) h_ rfl rfl rfl rfl rfl rfl) rfl<|nK k28<|gL<|gRn (oM 1 rfl<|oadN _ 1 om9 rfl<|oM 1 rfl<|.nl)<|nN<|?_;clear hs39
       have hc9:=clashAt_yes hwh30 hwh32 (by assumption) (by assumption) (by assumption) (by first|exact .inl (by assumption)|exact .inr (by assumption))
       intro a41 w41 h41
       refine x_again ⟨_, ?_,(j+1),addC l2 (⟨((k:Nat):Int),(nth x.st.ths k).pc,(((k+1+j):Nat):Int),(nth x.st.ths (k+1+j)).pc,wd30⟩:Cl), ?_, ?_,h41.nf ⟨rfl,rfl,rfl,rfl,rfl,rfl,rfl,trivial⟩,rfl⟩
       · rw [hm23];first|omega|(simp only [lens9];omega)
       · omega
       · rw [rowC_succ,←hl2,hc9];rfl
      refine gRn (oG hb37 (r_move rfl rfl) rfl<|oG hb36 (r_pickF rfl rfl hb37 rfl) rfl<|opT hb36 rfl<|.nl)<|nK k33<|gF [1,2,3,6,7,8,16,17,57] rfl<|gCb rfl (fun hb42=> ?_) fun hb42=> ?_
      ·skip
       refine gL<|gRn (oM 4 rfl<|.nl)<|gC (fun _ _ h_=>xCl h_ bd_92 rfl (xat_c hF x code words0 Lk R pw _ (PSD.rd (h_.sh.ok (.rd1 x) (List.mem_of_getElem? (i:=2) rfl))) (h_.sh.rblk 3 rfl) (h_.sh.at 4 rfl) hok hx k (by omega))) rfl<|?_
       rintro _ _ w43 ⟨rfl,hs43⟩
       refine gWk hs43 rfl<|gU<|gRn (oM 3 rfl<|.nl)<|gC (fun _ _ h_=>xCl h_ bd_92 rfl (xat_c hF x code words0 Lk R pw _ (PSD.rd (h_.sh.ok (.rd1 x) (List.mem_of_getElem? (i:=2) rfl))) (h_.sh.rblk 3 rfl) (h_.sh.at 4 rfl) hok hx (k+1+j) (by omega))) rfl<|?_;clear hs43
       rintro _ _ w44 ⟨rfl,hs44⟩
       refine gWk hs44 rfl<|gU<|gRn (oM 1 rfl<|oV (r_build (cs:= [.int .i64 ((k:Nat):Int), .int .i64 ((nth x.st.ths k).pc), .int .i64 (((k+1+j):Nat):Int), .int .i64 ((nth x.st.ths (k+1+j)).pc), .int .i64 wd30]) rfl rfl (by kernel_rfl)) rfl<|.nl)<|gE (fun _ _ h_=>x_updCl (i:=1) (l:=l2) (k:=(⟨((k:Nat):Int),(nth x.st.ths k).pc,(((k+1+j):Nat):Int),(nth x.st.ths (k+1+j)).pc,wd30⟩:Cl)) h_ rfl rfl rfl rfl rfl rfl) rfl<|nK k28<|gL<|gRn (oM 1 rfl<|oadN _ 1 om9 rfl<|oM 1 rfl<|.nl)<|nN<|?_;clear hs44
       have hc9:=clashAt_yes hwh30 hwh32 (by assumption) (by assumption) (by assumption) (by first|exact .inl (by assumption)|exact .inr (by assumption))
       intro a46 w46 h46
       refine x_again ⟨_, ?_,(j+1),addC l2 (⟨((k:Nat):Int),(nth x.st.ths k).pc,(((k+1+j):Nat):Int),(nth x.st.ths (k+1+j)).pc,wd30⟩:Cl), ?_, ?_,h46.nf ⟨rfl,rfl,rfl,rfl,rfl,rfl,rfl,trivial⟩,rfl⟩
       · rw [hm23];first|omega|(simp only [lens9];omega)
       · omega
       · rw [rowC_succ,←hl2,hc9];rfl
      refine gS<|hK k28<|gL<|gRn (oM 1 rfl<|oadN _ 1 om9 rfl<|oM 1 rfl<|.nl)<|nN<|?_
      have hc9:=clashAt_no hwh30 hwh32 (by first|exact .inl (by assumption)|exact .inr (.inl (by assumption))|exact .inr (.inr (.inl (by assumption)))|exact .inr (.inr (.inr ⟨by assumption,by assumption⟩)))
      intro a47 w47 h47
      refine x_again ⟨_, ?_,(j+1),l2, ?_, ?_,h47.nf ⟨rfl,rfl,rfl,rfl,rfl,rfl,rfl,trivial⟩,rfl⟩
      · rw [hm23];first|omega|(simp only [lens9];omega)
      · omega
      · rw [rowC_succ,←hl2,hc9];rfl
     refine gRn (oKs 2 hb36 rfl rfl<|oK2 rfl<|oK hb36 rfl<|opF hb36 rfl<|.nl)<|nK k33<|gF [1,2,3,6,7,8,16,17,57] rfl<|gcF rfl rfl<|gS<|hK k28<|gL<|gRn (oM 1 rfl<|oadN _ 1 om9 rfl<|oM 1 rfl<|.nl)<|nN<|?_
     have hc9:=clashAt_no hwh30 hwh32 (by first|exact .inl (by assumption)|exact .inr (.inl (by assumption))|exact .inr (.inr (.inl (by assumption)))|exact .inr (.inr (.inr ⟨by assumption,by assumption⟩)))
     intro a48 w48 h48
     refine x_again ⟨_, ?_,(j+1),l2, ?_, ?_,h48.nf ⟨rfl,rfl,rfl,rfl,rfl,rfl,rfl,trivial⟩,rfl⟩
     · rw [hm23];first|omega|(simp only [lens9];omega)
     · omega
     · rw [rowC_succ,←hl2,hc9];rfl
    refine gRn (oKs 3 hb35 rfl rfl<|opF hb35 rfl<|oM 1 rfl<|oKs 2 rfl rfl rfl<|oK2 rfl<|oK rfl rfl<|opF rfl rfl<|.nl)<|nK k33<|gF [1,2,3,6,7,8,16,17,57] rfl<|gcF rfl rfl<|gS<|hK k28<|gL<|gRn (oM 1 rfl<|oadN _ 1 om9 rfl<|oM 1 rfl<|.nl)<|nN<|?_
    have hc9:=clashAt_no hwh30 hwh32 (by first|exact .inl (by assumption)|exact .inr (.inl (by assumption))|exact .inr (.inr (.inl (by assumption)))|exact .inr (.inr (.inr ⟨by assumption,by assumption⟩)))
    intro a49 w49 h49
    refine x_again ⟨_, ?_,(j+1),l2, ?_, ?_,h49.nf ⟨rfl,rfl,rfl,rfl,rfl,rfl,rfl,trivial⟩,rfl⟩
    · rw [hm23];first|omega|(simp only [lens9];omega)
    · omega
    · rw [rowC_succ,←hl2,hc9];rfl
   refine gRn (oK hb34 rfl<|opF hb34 rfl<|oM 1 rfl<|oKs 3 rfl rfl rfl<|opF rfl rfl<|oM 1 rfl<|oKs 2 rfl rfl rfl<|oK2 rfl<|oK rfl rfl<|opF rfl rfl<|.nl)<|nK k33<|gF [1,2,3,6,7,8,16,17,57] rfl<|gcF rfl rfl<|gS<|hK k28<|gL<|gRn (oM 1 rfl<|oadN _ 1 om9 rfl<|oM 1 rfl<|.nl)<|nN<|?_
   have hc9:=clashAt_no hwh30 hwh32 (by first|exact .inl (by assumption)|exact .inr (.inl (by assumption))|exact .inr (.inr (.inl (by assumption)))|exact .inr (.inr (.inr ⟨by assumption,by assumption⟩)))
   intro a50 w50 h50
   refine x_again ⟨_, ?_,(j+1),l2, ?_, ?_,h50.nf ⟨rfl,rfl,rfl,rfl,rfl,rfl,rfl,trivial⟩,rfl⟩
   · rw [hm23];first|omega|(simp only [lens9];omega)
   · omega
   · rw [rowC_succ,←hl2,hc9];rfl
  refine gX<|hK k20<|gL<|gRn (oadN _ 1 om9 rfl<|oM 1 rfl<|.nl)<|nN<|fun a51 w51 h51=>x_again ⟨_, ?_,(k+1),l2, ?_, ?_,h51.nf ⟨rfl,rfl,rfl,rfl,rfl,trivial⟩,rfl⟩
  · rw [hm15];first|omega|(simp only [lens9];omega)
  · omega
  · rw [clsN_succ,←hl1,hl2,pgN_len];congr 1;omega
 refine gX<|fun a52 w52 h52=> ?_
 try simp only [Exit.then,Exit.inBlock,if_true]
 refine x_end0 (fn:=Tryz.f51) rfl h52 ?_
 have e9:l1=clsS (pgN code words0 Lk R) l0 x.st:=by rw [hl1,show k=code.l.length from by omega];unfold clsS;rw [pgN_len]
 refine ⟨rfl, ?_⟩
 rw [←e9]
 exact (h52.sh.sel [1,2,3,4] rfl)
theorem find1_c (K:Nat→Prop)(F:MemF)(x:PSD F)(code:Ls (Ls Ins))(words0:Ls Int)(Lk R:Nat)(pw:Value)(g:Nat)(l0:List Cl)(b1 b5:Nat)(W:World)(hF:MemFI Tryz.prog 182 3 204 5 141 F)(hok:OkPg (pgN code words0 Lk R))(hx:PX code words0 Lk R x)(hS:Sh K W W [.blk b1 25 [code.v,pw, .int .i64 ((Lk:Nat):Int), .int .i64 ((R:Nat):Int)], .blk b5 82 [.map (some g)], .clsO g l0, .rd1 x, .rblk x.gp 25 [code.v,pw, .int .i64 ((Lk:Nat):Int), .int .i64 ((R:Nat):Int)], .at_ code]):
    Rets Tryz.prog 50 [.pointer (some ⟨x.g,0,none⟩), .pointer (some ⟨b1,0,none⟩), .pointer (some ⟨b5,0,none⟩)] W (fun v w' =>v= .tuple #[]∧Sh K W w' [.blk b1 25 [code.v,pw, .int .i64 ((Lk:Nat):Int), .int .i64 ((R:Nat):Int)], .blk b5 82 [.map (some g)], .clsO g (clsS (pgN code words0 Lk R) l0 x.st), .rd1 x, .rblk x.gp 25 [code.v,pw, .int .i64 ((Lk:Nat):Int), .int .i64 ((R:Nat):Int)], .at_ code]):=by
 refine gen Tryz.func50 Tryz.ntmps50 hS rfl fun a10 h10=>gG h10<|gL<|gRn (olw 0 ti_25 rfl rfl<|oM 1 rfl<|olB 1 ti_82 rfl rfl<|.nl)<|gO [2,3,4,5,0,1] rfl<|fun a16 w16 h16=> ?_;clear h10
 have hp15:=h16.sh.passL (Lp:= [_,_,_,_])
 refine wl_ex (x_call h16 bd_51 rfl rfl rfl rfl rfl (clashes_c _ F x code words0 Lk R pw g l0 _ hF hok hx hp15)) (wanted_none rfl _) ?_
 rintro a17 w17 ⟨_,⟨rfl,hs17⟩,hf17⟩
 have h17:St 8 K W a17 w17 _ [_,_,_,_,_,_]:=⟨hf17,h16.sh.backL (Lp:= [_,_,_,_]) hs17 (by intro A hA b hb;simp only [List.mem_cons,List.not_mem_nil,or_false] at hA;rcases hA with rfl|rfl|rfl|rfl<;>first|exact (hb:False).elim|exact Flat.noRd hb|exact .inl ⟨_,List.mem_cons_self .., .inr hb⟩|exact .inl ⟨_,by simp, .inr hb⟩)⟩
 clear hf17 hs17
 clear h16
 refine gG h17<|nN<|fun a18 w18 h18=> ?_;clear h17
 try simp only [Exit.then,Exit.inBlock,if_true]
 refine x_end0 (fn:=Tryz.f50) rfl h18 ?_
 exact ⟨rfl,(h18.sh.sel [4,5,0,1,2,3] rfl)⟩
end Go.Proofs.YtmjkobhkkjgplaaGreatDoor
namespace Go.Proofs.YtmjkobhkkjgplaaGreatDoor
open Go.Shelf
def sortCls_ren :Go.Shelf.Ren:=⟨fun|6=>52|15=>94|14=>93|28=>138|29=>139|20=>130|21=>131|22=>132|23=>133|24=>134|25=>135|26=>136|27=>137|46=>148|47=>149|48=>150|49=>151|50=>152|57=>166|n=>n,fun|22=>41|24=>58|25=>91|3=>3|39=>143|0=>0|53=>200|55=>202|4=>4|46=>193|45=>192|50=>197|5=>5|9=>9|66=>216|70=>220|76=>234|77=>235|n=>n,fun|n=>n⟩
theorem sortCls :Go.Proofs.SlLaysF0.n6 Tryz.prog sortCls_ren:= {
 mixed:=by kernel_rfl
 f6:=⟨Tryz.f52.name,by decide,Tryz.func52.trans (congrArg some (by kernel_rfl))⟩
 f14:=⟨Tryz.f93.name,by decide,Tryz.func93.trans (congrArg some (by kernel_rfl))⟩
 f15:=Tryz.func94.trans (congrArg some (by kernel_rfl))
 f20:=⟨Tryz.f130.name,by decide,Tryz.func130.trans (congrArg some (by kernel_rfl))⟩
 f21:=⟨Tryz.f131.name,by decide,Tryz.func131.trans (congrArg some (by kernel_rfl))⟩
 f22:=⟨Tryz.f132.name,by decide,Tryz.func132.trans (congrArg some (by kernel_rfl))⟩
 f23:=⟨Tryz.f133.name,by decide,Tryz.func133.trans (congrArg some (by kernel_rfl))⟩
 f24:=⟨Tryz.f134.name,by decide,Tryz.func134.trans (congrArg some (by kernel_rfl))⟩
 f25:=⟨Tryz.f135.name,by decide,Tryz.func135.trans (congrArg some (by kernel_rfl))⟩
 f26:=⟨Tryz.f136.name,by decide,Tryz.func136.trans (congrArg some (by kernel_rfl))⟩
 f27:=⟨Tryz.f137.name,by decide,Tryz.func137.trans (congrArg some (by kernel_rfl))⟩
 f28:=Tryz.func138.trans (congrArg some (by kernel_rfl))
 f29:=Tryz.func139.trans (congrArg some (by kernel_rfl))
 f46:=⟨Tryz.f148.name,by decide,Tryz.func148.trans (congrArg some (by kernel_rfl))⟩
 f47:=Tryz.func149.trans (congrArg some (by kernel_rfl))
 f48:=Tryz.func150.trans (congrArg some (by kernel_rfl))
 f49:=⟨Tryz.f151.name,by decide,Tryz.func151.trans (congrArg some (by kernel_rfl))⟩
 f50:=⟨Tryz.f152.name,by decide,Tryz.func152.trans (congrArg some (by kernel_rfl))⟩
 f57:=⟨Tryz.f166.name,by decide,Tryz.func166.trans (congrArg some (by kernel_rfl))⟩
 t0:=Tryz.underlying0
 a0:=Tryz.isAgg0
 z0:=Tryz.sizeOf0
 v0:=Tryz.zeroValue0
 t3:=Tryz.underlying3
 a3:=Tryz.isAgg3
 z3:=Tryz.sizeOf3
 v3:=Tryz.zeroValue3
 t4:=Tryz.underlying4
 a4:=Tryz.isAgg4
 z4:=Tryz.sizeOf4
 v4:=Tryz.zeroValue4
 t5:=Tryz.underlying5
 a5:=Tryz.isAgg5
 z5:=Tryz.sizeOf5
 v5:=Tryz.zeroValue5
 t9:=Tryz.underlying9
 a9:=Tryz.isAgg9
 z9:=Tryz.sizeOf9
 v9:=Tryz.zeroValue9
 t22:=Tryz.underlying41
 a22:=Tryz.isAgg41
 z22:=Tryz.sizeOf41
 v22:=Tryz.zeroValue41
 t25:=Tryz.underlying91
 a25:=Tryz.isAgg91
 z25:=Tryz.sizeOf91
 v25:=Tryz.zeroValue91
 t39:=Tryz.underlying143
 a39:=Tryz.isAgg143
 z39:=Tryz.sizeOf143
 v39:=Tryz.zeroValue143
 t45:=Tryz.underlying192
 a45:=Tryz.isAgg192
 z45:=Tryz.sizeOf192
 v45:=Tryz.zeroValue192
 t46:=Tryz.underlying193
 a46:=Tryz.isAgg193
 z46:=Tryz.sizeOf193
 v46:=Tryz.zeroValue193
 t50:=Tryz.underlying197
 a50:=Tryz.isAgg197
 z50:=Tryz.sizeOf197
 v50:=Tryz.zeroValue197
 t53:=Tryz.underlying200
 a53:=Tryz.isAgg200
 z53:=Tryz.sizeOf200
 v53:=Tryz.zeroValue200
 t55:=Tryz.underlying202
 a55:=Tryz.isAgg202
 z55:=Tryz.sizeOf202
 v55:=Tryz.zeroValue202
 t66:=Tryz.underlying216
 a66:=Tryz.isAgg216
 z66:=Tryz.sizeOf216
 v66:=Tryz.zeroValue216
 t70:=Tryz.underlying220
 a70:=Tryz.isAgg220
 z70:=Tryz.sizeOf220
 v70:=Tryz.zeroValue220
 t76:=Tryz.underlying234
 a76:=Tryz.isAgg234
 z76:=Tryz.sizeOf234
 v76:=Tryz.zeroValue234
 t77:=Tryz.underlying235
 a77:=Tryz.isAgg235
 z77:=Tryz.sizeOf235
 v77:=Tryz.zeroValue235 }
end Go.Proofs.YtmjkobhkkjgplaaGreatDoor
namespace Go.Proofs.YtmjkobhkkjgplaaGreatDoor
open Go.RowKit
set_option linter.unusedSimpArgs false
set_option linter.unusedVariables false
set_option maxRecDepth 100000
set_option maxHeartbeats 8000000
theorem cmpI9_lt (a b:Int):Dr.cmpI a b<0↔a<b:=by unfold Dr.cmpI;split<;>(try split)<;>omega
theorem cmpI9_eq (a b:Int):Dr.cmpI a b=0↔a=b:=by unfold Dr.cmpI;split<;>(try split)<;>omega
theorem ordC_lt (a b:Cl):Dr.ordC a b<0↔lessC a b=true:=by
 unfold Dr.ordC lessC
 simp only [Dr.orL]
 by_cases e1:a.th=b.th
 ·rw [if_neg (by simpa using (cmpI9_eq _ _).2 e1),if_pos e1]
  by_cases e2:a.at_=b.at_
  ·rw [if_neg (by simpa using (cmpI9_eq _ _).2 e2),if_pos e2]
   by_cases e3:a.oth=b.oth
   ·rw [if_neg (by simpa using (cmpI9_eq _ _).2 e3),if_pos e3]
    by_cases e4:a.wh=b.wh
    ·rw [if_neg (by simpa using (cmpI9_eq _ _).2 e4),if_pos e4]
     by_cases e5:a.wd=b.wd
     ·rw [if_neg (by simpa using (cmpI9_eq _ _).2 e5)];simp [e5]
     ·rw [if_pos (fun h=>e5 ((cmpI9_eq _ _).1 h)),cmpI9_lt];simp
    ·rw [if_pos (fun h=>e4 ((cmpI9_eq _ _).1 h)),if_neg e4,cmpI9_lt];simp
   ·rw [if_pos (fun h=>e3 ((cmpI9_eq _ _).1 h)),if_neg e3,cmpI9_lt];simp
  ·rw [if_pos (fun h=>e2 ((cmpI9_eq _ _).1 h)),if_neg e2,cmpI9_lt];simp
 ·rw [if_pos (fun h=>e1 ((cmpI9_eq _ _).1 h)),if_neg e1,cmpI9_lt];simp
theorem sortCls_c (K:Nat→Prop)(s:Ls Cl)(W:World)(hS:Sh K W W [.own 58 s]):
  Rets Tryz.prog 52 [s.v, .func (.func 53) #[] #[]] W (fun v w' =>v= .tuple #[]∧∃l' :List Cl,l'.Perm s.l∧l'.Pairwise (fun a b=>lessC b a=false)∧Sh K W w' [.own 58 (⟨s.v,l'⟩:Ls Cl)]):=by
 have eg:∀args w,(callFunc 53 args).run Tryz.prog w= .ok (.enter 53 args) w:=enters_of Tryz.func53 (by kernel_rfl) rfl
 have hc:=sort_c (P:=Tryz.prog) (ρ:=sortCls_ren) sortCls (k:=5) Tryz.isAgg58 Tryz.sizeOf58 rfl rfl (by decide) Dr.ordC (fun x h=>by rw [ordC_lt,lessC_irr] at h;cases h) (fun x y z h1 h2=>by rw [ordC_lt] at*;exact lessC_trans h1 h2)
  (fun x y z h1 h2 h3=>by
   rw [ordC_lt] at*
   cases e1:lessC z y with
   |true=>have h4:=lessC_trans h3 e1;exact h1 h4
   |false=>
    have h5:lessC y z=false:=by simpa using h2
    have h6:=lessC_tri h5 e1
    rw [←h6] at h3
    exact h1 h3) 53 eg hS
  (fun x _ y _ W' hx hy=>by
   refine Calls.mono (Dr.cmpC_c x y W') ?_
   rintro e w' ⟨v,he,hv,hs⟩
   exact ⟨by rw [he,hv],hs.chg⟩)
 refine Rets.mono hc ?_
 rintro v w' ⟨rfl,l',hp,hs,hsh⟩
 refine ⟨rfl,l',hp, ?_,hsh⟩
 refine hs.imp ?_
 intro a b h
 cases h2:lessC b a with
 |false=>rfl
 |true=>exact absurd ((ordC_lt b a).2 h2) h
theorem nodup_inj {α:Type}{l:List α}(h:l.Nodup){a b:Nat}{ha:a<l.length}{hb:b<l.length}(e:l[a]=l[b]):a=b:=by
 have h1:=List.pairwise_iff_getElem.1 h
 rcases Nat.lt_trichotomy a b with h2|h2|h2
 ·exact absurd e (h1 a b ha hb h2)
 ·exact h2
 ·exact absurd e.symm (h1 b a hb ha h2)
theorem find_len {p:Pg}{u:Ls OutL}{W:World}{K:Nat→Prop}{z:List Cl}(h:FRes p 0 (clsS p) [] K W true u z)(hn:p.code.length≤4):z.length≤64000:=by
 obtain ⟨h1,_,_,S,rfl,h3,h4⟩:=h.good rfl
 have hS:S.length≤4000:=Nat.le_of_not_lt fun h9=>h1 ⟨S,h3,fun s hs=>(h4 s).1 hs,h9⟩
 have:=clsF_len (p:=p) (l:= []) (S:=S)
 have h5:p.code.length*p.code.length≤4*4:=Nat.mul_le_mul hn hn
 have h6:=Nat.mul_le_mul hS h5
 simp only [List.length_nil] at this
 omega
structure FindF (p:Pg)(ok:Bool)(l:List Cl):Prop where
 no:ok=false→Big p 0∧l= []
 yes:ok=true→¬Big p 0∧l.Nodup∧l.Pairwise (fun a b=>lessC a b=true)∧∀c,c∈l↔∃s,Reach p 0 s∧∃a b,a<b∧b<p.code.length∧clashAt p s a b=some c
theorem find_yes {p:Pg}{u:Ls OutL}{W:World}{K:Nat→Prop}{z cl l' :List Cl}{ps:List Nat}(h:FRes p 0 (clsS p) [] K W true u z)(hcl:cl=ps.map (nth z))(hnd:ps.Nodup)(hlt:∀q∈ps,q<z.length)(hall:∀q,q<z.length→q∈ps)(hp:l'.Perm cl)(hs:l'.Pairwise (fun a b=>lessC b a=false)):FindF p true l' :=by
 refine ⟨fun h=>(by cases h),fun _=> ?_⟩
 obtain ⟨h1,_,_,S,rfl,h3,h4⟩:=h.good rfl
 have hz:(S.foldl (clsS p) []).Nodup:=nodup_clsF List.nodup_nil
 have hmem:∀c,c∈cl↔c∈S.foldl (clsS p) []:=fun c=>by
  rw [hcl,List.mem_map]
  constructor
  ·rintro ⟨q,hq,rfl⟩;exact nth_mem _ _ (hlt q hq)
  ·intro hc
   obtain ⟨q,hq,rfl⟩:=List.mem_iff_getElem.1 hc
   exact ⟨q,hall q hq,nth_lt _ _ hq⟩
 have hcn:cl.Nodup:=by
  rw [hcl]
  refine List.pairwise_map.2 (List.Pairwise.imp_of_mem ?_ hnd)
  intro a b ha hb hab e
  have ha' :=hlt a ha
  have hb' :=hlt b hb
  rw [nth_lt _ _ ha',nth_lt _ _ hb'] at e
  exact hab (nodup_inj hz e)
 have hln:=hp.nodup_iff.2 hcn
 refine ⟨h1,hln, ?_,fun c=> ?_⟩
 ·have h5:=hs.and hln
  refine h5.imp ?_
  rintro a b ⟨ha,hab⟩
  cases e:lessC a b with
  |true=>rfl
  |false=>exact absurd (lessC_tri e ha) hab
 ·rw [hp.mem_iff,hmem,mem_clsF]
  constructor
  ·rintro (h|⟨s,hs,h⟩)
   ·cases h
   ·exact ⟨s,(h4 s).1 hs,h⟩
  ·rintro ⟨s,hs,h⟩
   exact .inr ⟨s,(h4 s).2 hs,h⟩
theorem find_no {p:Pg}{u:Ls OutL}{W:World}{K:Nat→Prop}{z:List Cl}(h:FRes p 0 (clsS p) [] K W false u z):FindF p false []:=⟨fun _=>⟨(h.big rfl).1,rfl⟩,fun h=>(by cases h)⟩
theorem ps_room {ps:List Nat}{q n:Nat}(hn:ps.Nodup)(ha:∀x∈ps,x<n)(hq:q<n)(hqn:q∉ps):ps.length<n:=by
 have h1:(q::ps).Nodup:=List.nodup_cons.2 ⟨hqn,hn⟩
 have key:∀(n:Nat) (l:List Nat),l.Nodup→(∀x∈l,x<n)→l.length≤n:=by
  intro n
  induction n with
  |zero=>intro l _ h;cases l with
   |nil=>exact Nat.le_refl _
   |cons a l=>exact absurd (h a (by simp)) (by omega)
  |succ n ih=>
   intro l hl h
   by_cases hm:n∈l
   ·have:=ih (l.erase n) (hl.erase n) (fun x hx=>by
     have h2:=(List.Nodup.mem_erase_iff hl).1 hx
     have:=h x h2.2
     have:=h2.1
     omega)
    rw [List.length_erase_of_mem hm] at this
    omega
   ·exact Nat.le_succ_of_le (ih l hl fun x hx=>by
     have:=h x hx
     have:x≠n:=fun e=>hm (e▸hx)
     omega)
 have:=key n (q::ps) h1 (fun x hx=>by rcases List.mem_cons.1 hx with rfl|hx;exact hq;exact ha x hx)
 rw [List.length_cons] at this
 omega
def envF (code:Ls (Ls Ins))(words0:Ls Int)(Lk R:Nat)(b1 b5 g:Nat)(z:List Cl):Asn:= .big [.blk b1 25 [code.v,words0.v, .int .i64 ((Lk:Nat):Int), .int .i64 ((R:Nat):Int)], .blk b5 82 [.map (some g)], .clsO g z]
theorem envF_rd {code:Ls (Ls Ins)}{words0:Ls Int}{Lk R b1 b5 g:Nat}(z:List Cl)(b:Nat):¬(envF code words0 Lk R b1 b5 g z).rd b:=by
 rintro ⟨A,hA,hb⟩
 simp only [List.mem_cons,List.not_mem_nil,or_false] at hA
 rcases hA with rfl|rfl|rfl<;>exact hb
theorem envF_step {code:Ls (Ls Ins)}{words0:Ls Int}{Lk R:Nat}(b1 b5 g:Nat)(hok:OkPg (pgN code words0 Lk R))(K' :Nat→Prop)(W' :World)(gp:Nat)(x:PSD FP)(z:List Cl)(hx:PX code words0 Lk R x)(hg:x.gp=gp)(h:Sh K' W' W' [envF code words0 Lk R b1 b5 g z, .rd1 x, .rblk gp 25 [code.v,words0.v, .int .i64 ((Lk:Nat):Int), .int .i64 ((R:Nat):Int)], .at_ code]):
  Rets Tryz.prog 50 ([]++ [.pointer (some ⟨x.g,0,none⟩)]++ [.pointer (some ⟨b1,0,none⟩), .pointer (some ⟨b5,0,none⟩)]) W' (fun v w' =>v= .tuple #[]∧Sh K' W' w' [envF code words0 Lk R b1 b5 g (clsS (pgN code words0 Lk R) z x.st), .rd1 x, .rblk gp 25 [code.v,words0.v, .int .i64 ((Lk:Nat):Int), .int .i64 ((R:Nat):Int)], .at_ code]):=by
 subst hg
 refine Rets.mono (find1_c K' FP x code words0 Lk R words0.v g z b1 b5 W' FP_ok hok hx h.open_) ?_
 rintro v w' ⟨rfl,hs⟩
 exact ⟨rfl,Sh.close (B:= [.blk b1 25 [code.v,words0.v, .int .i64 ((Lk:Nat):Int), .int .i64 ((R:Nat):Int)], .blk b5 82 [.map (some g)], .clsO g _]) hs⟩
theorem find_k (code:Ls (Ls Ins))(words0:Ls Int)(Lk R:Nat)(W:World)(hcode:code.At W)(hwords:words0.At W)(hok:OkPg (pgN code words0 Lk R))(hR:PgR (pgN code words0 Lk R)):
    Rets Tryz.prog 20 [.agg #[code.v,words0.v, .int .i64 ((Lk:Nat):Int), .int .i64 ((R:Nat):Int)]] W (fun v w' =>∃(l:Ls Cl) (ok:Bool),v= .tuple #[l.v, .agg #[.int .i64 (if ok=true then 0 else 10), .int .i64 0, .int .i64 0]]∧FindF (pgN code words0 Lk R) ok l.l∧Sh0 W w' [.own 58 l]):=by
 have hz:checkG (pgOf code words0 ((Lk:Nat):Int) ((R:Nat):Int))=⟨0,0,0⟩:=checkG_ok hok
 refine gen Tryz.func20 Tryz.ntmps20 (Sh0.ext2 hcode hwords:Sh (fun _=>False) W W [.at_ code, .at_ words0]) rfl fun a10 h10=>gG h10<|sK fun _ k11=>gbx rfl rfl fun b12=>gRn (oM 1 rfl<|.nl)<|gal ti_28 rfl fun b13=>nK k11<|gK fun _ k14=>sK fun _ k15=>gRn (olw 1 ti_25 rfl rfl<|.nl)<|gC (fun _ _ h_=>xCl h_ bd_43 rfl (asmCheck_c (code:=code) (words:=words0) (locks:=((Lk:Nat):Int)) (regs:=((R:Nat):Int)) (h_.sh.at 2 rfl) (h_.sh.at 3 rfl))) rfl<|?_;clear h10
 rintro _ _ w16 ⟨rfl,hs16⟩
 refine gWk hs16 rfl<|gU<|gal ti_28 rfl fun b17=>gsw 0 ti_28 rfl rfl rfl<|nK k15<|sG (ofB fl_28_0 rfl<|olB 0 ti_26 rfl rfl<|oneI _ _ rfl<|.nl)<|gcF rfl (by rw [hz];rfl)<|gS<|hK k14<|sK fun _ k20=>gE1 (fun _ _ h_=>x_makeCl h_ rfl rfl rfl) rfl fun g21=>gal ti_82 rfl fun b22=>gst 0 ti_82 rfl rfl rfl<|nK k20<|gK fun _ k24=>sK fun _ k25=>gRn (olw 4 ti_25 rfl rfl<|oV (r_makeFunc rfl rfl rfl) rfl<|.nl)<|gO [4,0,1,2,3,5,6] rfl<|fun a28 w28 h28=> ?_;clear hs16
 have h27:St _ _ _ _ _ _ (envF code words0 Lk R b12 b22 g21 []:: [_,_,_,_]):=⟨h28.fr,Sh.close (B:= [_,_,_]) h28.sh⟩
 clear h28
 have h29:=h27.sel (L' := [_,_,_,_,_]) [3,4,0,1,2] rfl
 have hp30:=h29.sh.passL (Lp:= [_,_,_])
 refine wl_ex (x_call h29 bd_49 rfl rfl rfl rfl rfl (walks_c _ (List Cl) (envF code words0 Lk R b12 b22 g21) (clsS (pgN code words0 Lk R)) [] 50 [] [.pointer (some ⟨b12,0,none⟩), .pointer (some ⟨b22,0,none⟩)] code words0 Lk R _ hp30 hok hR bd_50 (fun z b=>envF_rd z b) (fun K' W' gp x z hx hg h=>envF_step b12 b22 g21 hok K' W' gp x z hx hg h))) (wanted_none rfl _) ?_
 rintro a31 w31 ⟨_,⟨u31,ok31,z31,rfl,hfq31,hs31⟩,hf31⟩
 have h31:St 40 (fun _=>False) W a31 w31 _ [_,_,_,_]:=⟨hf31,h29.sh.backL (Lp:= [_,_,_]) hs31 (by intro A hA b hb;simp only [List.mem_cons,List.not_mem_nil,or_false] at hA;rcases hA with rfl|rfl<;>first|exact (hb:False).elim|exact Flat.noRd hb|exact .inl ⟨_,List.mem_cons_self .., .inr hb⟩|exact (envF_rd _ _ hb).elim|(obtain ⟨i9,hi9,hb9⟩:=hb;exact (hfq31.nw _ (nth_mem _ _ hi9) _ hb9).elim (fun ⟨A9,hA9,hf9⟩=> .inl ⟨A9,hA9, .inl hf9⟩) (fun h9=> .inr (.inr h9)))|exact .inl ⟨_,by simp, .inr hb⟩)⟩
 clear hf31 hs31
 clear h29
 refine gG h31<|gRn (oM 1 rfl<|.nl)<|gO [1,0,2,3] rfl<|fun a34 w34 h34=> ?_;clear h31
 have h33:St _ _ _ _ _ _ (_::_::_::_):=⟨h34.fr,h34.sh.open_⟩
 clear h34
 refine gG h33<|gRn (oxt rfl<|oxt rfl<|oM 2 rfl<|.nl)<|nK k25<|sG (oM 1 rfl<|ont rfl<|.nl)<|?_;clear h33
 refine gCb rfl (fun hb36=> ?_) fun hb36=> ?_
 ·have hn36:ok31=false:=(Bool.not_eq_true' _).mp hb36
  refine sK fun _ k37=>gRn (oV (r_build (cs:= [.int .i64 10, .int .i64 0, .int .i64 0]) rfl rfl (by kernel_rfl)) rfl<|oM 1 rfl<|.nl)<|gsw 5 ti_28 rfl rfl rfl<|nK k37<|gR<|uT<|fun a39 w39 h39=>x_rettc (fn:=Tryz.f20) (t:=3) (u:=2) (i:=5) ti_28 rfl h39 rfl rfl rfl rfl ?_
  have h40:=h39.nil (α:=Cl) 58
  clear h39
  have hof:ok31=false:=by simpa using hn36
  exact ⟨⟨.slice none 0 0, []⟩,false,rfl,find_no (hof▸hfq31),(h40.sh.sel [0] rfl)⟩
 have hn36:ok31=true:=(Bool.not_eq_false' _).mp hb36
 refine gS<|hK k24<|sG (oM 1 rfl<|.nl)<|fun a43 w43 h43=> ?_
 have h42:=h43.nil (α:=Cl) 58
 clear h43
 have hof:ok31=true:=by simpa using hn36
 have hzl:z31.length≤64000:=find_len (hof▸hfq31) (by rw [pgN_len];exact (ok_lenP hok).2.1)
 refine gG h42<|gK fun _ k44=>sK fun _ k45=>gRn (olB 2 ti_82 rfl rfl<|.nl)<|gE1 (fun _ _ h_=>x_rangeCl (i:=3) (l:=z31) h_ rfl rfl rfl rfl rfl) rfl fun r46=>nK k45<|gB<|fun a48 w48 h48=>x_loop (fun m a w=>∃(ps:List Nat) (cl:List Cl) (vc:Value),(cl=ps.map (nth z31))∧(ps.Nodup)∧(∀q∈ps,q<z31.length)∧St 40 (fun _=>False) W a w [(3, .pointer (some ⟨b13,0,none⟩)),(8,vc),(27, .pointer (some ⟨r46,0,none⟩))] [.itO r46 g21 z31.length ps, .own 58 (⟨vc,cl⟩:Ls Cl), .blk b12 25 [code.v,words0.v, .int .i64 ((Lk:Nat):Int), .int .i64 ((R:Nat):Int)], .blk b22 82 [.map (some g21)], .clsO g21 z31, .own 39 u31, .blk b17 28 [.int .i64 ((checkG (pgOf code words0 ((Lk:Nat):Int) ((R:Nat):Int))).code), .int .i64 ((checkG (pgOf code words0 ((Lk:Nat):Int) ((R:Nat):Int))).thread), .int .i64 ((checkG (pgOf code words0 ((Lk:Nat):Int) ((R:Nat):Int))).at_)], .blk b13 28 [.int .i64 0, .int .i64 0, .int .i64 0]]∧m=z31.length-ps.length) ⟨_, [], [],_,(rfl),(List.nodup_nil),(fun q h=>(by cases h)),h48.nf ⟨rfl,rfl,rfl,trivial⟩,rfl⟩ ?_;clear h42
 clear h48
 rintro m47 a47 w47 ⟨ps,cl,vc,hcl,hnd,hpl,h47,hm47⟩
 refine gG h47<|sK fun _ k49=>fun a51 w51 h51=>wl_ex (x_nextCl (i:=4) (j:=0) (l:=z31) h51 rfl rfl rfl rfl rfl rfl rfl) (wanted_none rfl _) ?_;clear h47
 rintro a50 w50 (⟨hend50,h50⟩|⟨q50,hq50,hqn50,h50⟩)
 ·clear h51
  refine gG h50<|gRn (oxt rfl<|.nl)<|nK k49<|gK fun _ k52=>gcF rfl rfl<|gX<|hK k44<|sK fun _ k53=>gRn (oM 1 rfl<|.nl)<|gO [1,0,2,3,4,5,6,7] rfl<|fun a59 w59 h59=> ?_;clear h50
  have hp58:=h59.sh.passL (Lp:= [_])
  refine wl_ex (x_call h59 bd_52 rfl rfl rfl rfl rfl (sortCls_c _ (⟨vc,cl⟩:Ls Cl) _ hp58)) (wanted_none rfl _) ?_
  rintro a60 w60 ⟨_,⟨rfl,k60,hkp60,hks60,hs60⟩,hf60⟩
  have h60:St 40 (fun _=>False) W a60 w60 _ [_,_,_,_,_,_,_,_]:=⟨hf60,h59.sh.backL (Lp:= [_]) hs60 (by intro A hA b hb;simp only [List.mem_cons,List.not_mem_nil,or_false] at hA;rcases hA with rfl<;>first|exact (hb:False).elim|exact Flat.noRd hb|exact .inl ⟨_,List.mem_cons_self .., .inr hb⟩|exact .inl ⟨_,by simp, .inr hb⟩)⟩
  clear hf60 hs60
  clear h59
  refine gG h60<|nK k53<|sK fun _ k61=>gRn (oM 1 rfl<|oV (r_build (cs:= [.int .i64 0, .int .i64 0, .int .i64 0]) rfl rfl (by kernel_rfl)) rfl<|oM 1 rfl<|.nl)<|gsw 7 ti_28 rfl rfl rfl<|nK k61<|gR<|fun a63 w63 h63=>x_rettc (fn:=Tryz.f20) (t:=3) (u:=2) (i:=7) ti_28 rfl h63 rfl rfl rfl rfl ?_;clear h60
  have hof:ok31=true:=by simpa using hn36
  exact ⟨(⟨vc,k60⟩:Ls Cl),true,rfl,find_yes (hof▸hfq31) hcl hnd hpl hend50 hkp60 hks60,(h63.sh.sel [0] rfl)⟩
 clear h51
 refine gG h50<|gRn (oxt rfl<|.nl)<|nK k49<|gK fun _ k64=>gcT rfl rfl<|gS<|hK k64<|gB<|sK fun _ k65=>gRn (oV (r_entryCl (i:=4) (j:=0) (l:=z31) (q:=q50) rfl rfl rfl rfl rfl (by assumption)) rfl<|oxt rfl<|.nl)<|gal ti_58 rfl fun b66=>gsw 0 ti_58 rfl rfl rfl<|nK k65<|?_;clear h50
 have hrm:=ps_room hnd hpl hq50 hqn50
 have hcln:cl.length=ps.length:=by rw [hcl,List.length_map]
 refine gL<|gRn (oM 1 rfl<|olw 0 ti_58 rfl rfl<|.nl)<|gE1 (fun _ _ h_=>x_lit (n:=1) (cs:= [.int .i64 ((nth z31 q50).th), .int .i64 ((nth z31 q50).at_), .int .i64 ((nth z31 q50).oth), .int .i64 ((nth z31 q50).wh), .int .i64 ((nth z31 q50).wd)]) ([(nth z31 q50)]:List Cl) h_ sl_41 ti_58 rfl rfl rfl (by decide) rfl (by kernel_rfl) rfl (fun q hq w h=>Flat.inner _ _) (fun q hq b hb=>(Flat.on _ _ hb).elim) rfl rfl) rfl fun v68=>gE1 (fun _ _ h_=>x_app (r:=3) (rm:=0) (s:=(⟨vc,cl⟩:Ls Cl)) (m:=(⟨v68, [(nth z31 q50)]⟩:Ls Cl)) h_ sl_41 ti_58 rfl rfl rfl rfl rfl rfl rfl (fun w h=>(h.own 0 rfl)) (fun b hb=>own_on (h_.sh.ok _ (List.mem_of_getElem? (i:=0) rfl)) hb) (fun q hq b hb=>⟨q,hq,hb⟩) rfl rfl rfl inferInstance (show (cl.length+([(nth z31 q50)]).length)*40≤140737488355328∧cl.length+([(nth z31 q50)]).length≤140737488355328 from om9) rfl rfl) rfl fun v69=>gRn (oM 1 rfl<|.nl)<|nN<|fun a70 w70 h70=> ?_
 change∃_m,_m<_∧_
 have hrl:(ps++ [q50]).length=ps.length+1:=by simp
 refine ⟨_, ?_,ps++ [q50],cl++([(nth z31 q50)]),v69, ?_, ?_, ?_,h70.nrm ⟨rfl,rfl,rfl,trivial⟩ [2,3,4,5,6,7,8,9] rfl,rfl⟩
 · rw [hm47];first|omega|(simp only [lens9];omega)
 · rw [hcl,List.map_append];rfl
 · exact List.nodup_append.2 ⟨hnd,by simp,fun a ha b hb e=>by obtain rfl:=List.mem_singleton.1 hb;exact absurd (e▸ha) (by assumption)⟩
 · intro q hq;rcases List.mem_append.1 hq with hq|hq;exact hpl q hq;obtain rfl:=List.mem_singleton.1 hq;assumption
theorem find_b (code:Ls (Ls Ins))(words:Ls Int)(locks regs:Int)(W:World)(hcode:code.At W)(hwords:words.At W)(hz:(checkG (pgOf code words locks regs)).code≠0):
    Rets Tryz.prog 20 [.agg #[code.v,words.v, .int .i64 locks, .int .i64 regs]] W (fun v w' =>v= .tuple #[.slice none 0 0,(checkG (pgOf code words locks regs)).val]∧Sh0 W w' []):=by
 refine gen Tryz.func20 Tryz.ntmps20 (Sh0.ext2 hcode hwords:Sh (fun _=>False) W W [.at_ code, .at_ words]) rfl fun a10 h10=>gG h10<|sK fun _ k11=>gbx rfl rfl fun b12=>gRn (oM 1 rfl<|.nl)<|gal ti_28 rfl fun b13=>nK k11<|gK fun _ k14=>sK fun _ k15=>gRn (olw 1 ti_25 rfl rfl<|.nl)<|gC (fun _ _ h_=>xCl h_ bd_43 rfl (asmCheck_c (code:=code) (words:=words) (locks:=locks) (regs:=regs) (h_.sh.at 2 rfl) (h_.sh.at 3 rfl))) rfl<|?_;clear h10
 rintro _ _ w16 ⟨rfl,hs16⟩
 refine gWk hs16 rfl<|gU<|gal ti_28 rfl fun b17=>gsw 0 ti_28 rfl rfl rfl<|nK k15<|sG (ofB fl_28_0 rfl<|olB 0 ti_26 rfl rfl<|oneI _ _ rfl<|.nl)<|gcT rfl (decide_eq_true hz)<|gK fun _ k20=>rT 2 [] (olw 0 ti_28 rfl rfl<|oM 1 rfl<|.nl)<|gsw 1 ti_28 rfl rfl rfl<|nK k20<|gR<|uT<|fun a22 w22 h22=> ?_;clear hs16
 refine x_rettc (fn:=Tryz.f20) (t:=3) (u:=2) (i:=1) ti_28 rfl h22 rfl rfl rfl rfl ?_
 exact ⟨rfl,(h22.sh.sel [] rfl)⟩
set_option maxHeartbeats 40000000
theorem do_tk (K:Nat→Prop)(g mv t k:Nat)(code:Ls (Ls Ins))(vt:Value)(rows:List ThL)(words owner prints:Ls Int)(pw:Value)(locks nregs mode:Int)(fell:Bool)(W:World)
  (hS:Sh K W W (stA g [code.v,pw, .int .i64 locks, .int .i64 nregs, .int .i64 mode] vt rows words owner prints fell++ [.at_ code])) (et:mv/8=t) (ek:mv%8=k)
  (hn:t<rows.length) (htc:t<code.l.length) (hmv:mv<1000000) (hpc:0≤(nth rows t).pc∧(nth rows t).pc<1000000) (hwl:(nth rows t).wait.l.length≤3) (hkw:k≤(nth rows t).wait.l.length) (hpl:prints.l.length≤100000000) (hol:owner.l.length≤100)
  (hwt:∀j,j<(nth rows t).wait.l.length→if (nth (nth rows t).wait.l j).lock=true then 0≤(nth (nth rows t).wait.l j).wh∧(nth (nth rows t).wait.l j).wh<owner.l.length else 0≤(nth (nth rows t).wait.l j).wh∧(nth (nth rows t).wait.l j).wh<words.l.length)
  (hio:k=0→InsR (nth rows t).regs.l.length words.l.length owner.l.length (nextIns (nth code.l t).l (nth rows t).pc)):
  Rets Tryz.prog 73 [.pointer (some ⟨g,0,none⟩), .int .i64 ((mv:Nat):Int)] W (fun v w' =>v= .tuple #[]∧∃(rows' :List ThL) (words' owner' prints' :Ls Int) (fell' :Bool) (y:TS),
   y=doT mode t (nth code.l t).l k ⟨(nth rows t).pc,(nth rows t).regs.l,(nth rows t).wait.l,words.l,owner.l,prints.l,fell⟩∧rows'.map ThL.th=(rows.map ThL.th).set t ⟨y.pc,y.regs,y.wait⟩∧words'.l=y.words∧owner'.l=y.owner∧prints'.l=y.prints∧fell' =y.fell∧
   Sh K W w' (stA g [code.v,pw, .int .i64 locks, .int .i64 nregs, .int .i64 mode] vt rows' words' owner' prints' fell' ++ [.at_ code])):=by
 subst et;subst ek
 exact do_full K g mv code vt rows words owner prints pw locks nregs mode fell W hS hn htc hmv hpc hwl hkw hpl hol hwt hio
theorem Sh.own_new {α:Type}[Enc α][Flat α]{K:Nat→Prop}{W w:World}{L:List Asn}{E:TypeId}{s:Ls α}(h:Sh K W w L)(i:Nat)(hi:L[i]? =some (.own E s)):∀b,s.on b→K b∨W.heap.size≤b:=fun b hb=>by
 have hm:=List.mem_of_getElem? hi
 rcases own_on (h.ok _ hm) hb with h1|h1
 ·exact h.mine _ hm b h1
 ·exact Flat.noRd h1
theorem nilOn {b:Nat}(h:(⟨.slice none 0 0, []⟩:Ls Int).on b):False:=by
 rcases h with ⟨h,_⟩|⟨_,h,_⟩<;>exact absurd h (by simp)
structure SData (W:World)(ST:TypeId)(hd:List Value)(states:List SD)(ends:List OutL):Prop where
 hd:∀x∈states,x.hd=hd∧x.E=ST∧x.fell=false∧∀b,Enc.on x b→W.heap.size≤b
 en:∀o∈ends,∀b,Enc.on o b→W.heap.size≤b
theorem SData.put {W:World}{ST:TypeId}{hd:List Value}{states:List SD}{ends ends' :List OutL}{o:OutL}(h:SData W ST hd states ends)(hr:PutRel o ends ends')(ho:∀b,Enc.on o b→W.heap.size≤b):SData W ST hd states ends' ∧ends'.length≤ends.length+1:=by
 rcases hr with ⟨_,rfl⟩|⟨k,hk,_,_,rfl⟩
 ·exact ⟨h,by omega⟩
 ·refine ⟨⟨h.hd,fun x hx=> ?_⟩,by simp;omega⟩
  rcases List.mem_append.1 hx with hx|hx
  ·exact h.en x (List.mem_of_mem_take hx)
  ·rcases List.mem_cons.1 hx with rfl|hx
   ·exact ho
   ·exact h.en x (List.mem_of_mem_drop hx)
theorem SData.more {W:World}{ST:TypeId}{hd:List Value}{states:List SD}{ends:List OutL}{x:SD}(h:SData W ST hd states ends)(hx:x.hd=hd∧x.E=ST∧x.fell=false∧∀b,Enc.on x b→W.heap.size≤b):SData W ST hd (states++ [x]) ends:=
 ⟨fun y hy=>(List.mem_append.1 hy).elim (h.hd y) (fun hy=>by
  obtain rfl:y=x:=by simpa using hy
  exact hx),h.en⟩
theorem key_put {p:Pg}(hok:OkPg p){m:Int}{x:SD}{states states' :List SD}{keys keys' :List (Ls Int)}{heads before heads' before' :List Int}{full full' :Bool}{E:List Outc}{i:Nat}
  (h:KeyRel (keyOf x.st) x states states' keys keys' heads before heads' before' full full') (hk:keys.map (·.l)=(states.map SD.st).map keyOf) (hlen:states.length=keys.length)
  (hi:Inv p m (states.map SD.st) E full i) (hf:full=false) (hil:i≤states.length) (hr:Reach p m x.st) (hp:x.st.prints.length≤2*states.length):
  Inv p m (states'.map SD.st) E full' i∧keys'.map (·.l)=(states'.map SD.st).map keyOf∧states'.length=keys'.length∧x.st∈states'.map SD.st∧(∀s∈states.map SD.st,s∈states'.map SD.st)∧(states' =states∨states' =states++ [x]):=by
 rcases h with ⟨⟨j,hj,e⟩,e1,e2,_,e5⟩|⟨hno,rfl,e2,_,rfl⟩
 ·have h1:(nth (states.map SD.st) j)∈states.map SD.st:=nth_mem _ _ (by simp;omega)
  have e3:keyOf (nth (states.map SD.st) j)=keyOf x.st:=by
   have:=congrArg (fun l=>nth l j) hk
   simp only [nth_map' (fun s:Ls Int=>s.l) _ _ hj,nth_map' keyOf (states.map SD.st) j (by simp;omega)] at this
   rw [←this];exact e
  have e4:=key_inj ((hi.reach _ h1).wf hok) (hr.wf hok) e3
  rw [e1,e5]
  refine ⟨hi,e2.trans hk, ?_,e4▸h1,fun s hs=>hs, .inl rfl⟩
  have:=congrArg List.length e2
  simp at this;omega
 ·refine ⟨?_, ?_, ?_,by simp,fun s hs=>by simp at hs⊢;exact .inl hs, .inr rfl⟩
  ·have:=hi.addState hf (by simpa using hil) hr (by simpa using hp) (fun hx=>by
    obtain ⟨j,hj⟩:=List.getElem?_of_mem hx
    obtain ⟨hlt,e⟩:=List.getElem?_eq_some_iff.1 hj
    have hlt' :j<keys.length:=by rw [←hlen];simpa using hlt
    refine hno j hlt' ?_
    have:=congrArg (fun l=>nth l j) hk
    simp only [nth_map' (fun s:Ls Int=>s.l) _ _ hlt',nth_map' keyOf (states.map SD.st) j hlt] at this
    rw [this,nth_lt _ _ hlt,e])
   simpa using this
  ·rw [e2,hk];simp
  ·have:=congrArg List.length e2
   simp at this⊢;omega
theorem keyRel_ok {L:List Int}{x:SD}{states states' :List SD}{keys keys' :List (Ls Int)}{heads before heads' before' :List Int}{full full' :Bool}(h:KeyRel L x states states' keys keys' heads before heads' before' full full'):HeadsOK (keys'.map (·.l)) heads' before' :=by
 rcases h with ⟨_,_,_,h,_⟩|⟨_,_,_,h,_⟩<;>exact h
theorem headsOK0 :HeadsOK (([]:List (Ls Int)).map (·.l)) (List.replicate 4096 (-1)) []:=by
 refine ⟨List.length_replicate,rfl,fun h hh=> .inl ⟨?_,fun j hj=>absurd hj (Nat.not_lt_zero _)⟩,fun i hi=>absurd hi (Nat.not_lt_zero _)⟩
 simp only [nth,List.getD,List.getElem?_replicate,if_pos hh];rfl
theorem bigNoRd {INT WT:TypeId}{rows:List ThL}{X:Prop}{b:Nat}(h:(Asn.big (rowsA INT WT rows)).rd b):X:=by
 obtain ⟨A,hA,hb⟩:=h
 obtain ⟨x,_,hx⟩:=List.mem_flatMap.1 hA
 simp only [thA,List.mem_cons,List.not_mem_nil,or_false] at hx
 rcases hx with rfl|rfl<;>exact Flat.noRd hb
theorem KeyRel.rd {L:List Int}{x:SD}{states states' :Ls SD}{keys keys' :List (Ls Int)}{heads before heads' before' :List Int}{full full' :Bool}(h:KeyRel L x states.l states'.l keys keys' heads before heads' before' full full'){E:TypeId}{b:Nat}(hb:(Asn.own E states').rd b):(Asn.own E states).rd b∨(Asn.rd1 x).rd b:=by
 obtain ⟨i,hi,hb⟩:=hb
 rcases h with ⟨_,e1,_⟩|⟨_,e1,_⟩
 ·rw [e1] at hi hb;exact .inl ⟨i,hi,hb⟩
 ·rw [e1] at hi hb
  simp at hi
  rcases Nat.lt_or_ge i states.l.length with h1|h1
  ·rw [nth_left _ _ _ h1] at hb;exact .inl ⟨i,h1,hb⟩
  ·obtain rfl:i=states.l.length:=by omega
   rw [nth_last] at hb;exact .inr hb
theorem PutRel.rd {o:OutL}{ends ends' :Ls OutL}(h:PutRel o ends.l ends'.l){E:TypeId}{b:Nat}(hb:(Asn.own E ends').rd b):(Asn.own E ends).rd b∨o.words.on b∨o.prints.on b:=by
 obtain ⟨i,hi,hb⟩:=hb
 have hm:=nth_mem _ _ hi
 have key:∀y∈ends.l,Enc.on y b→(Asn.own E ends).rd b:=fun y hy hyb=>by
  obtain ⟨j,hj⟩:=List.getElem?_of_mem hy
  obtain ⟨hlt,e⟩:=List.getElem?_eq_some_iff.1 hj
  exact ⟨j,hlt,by rw [nth_lt _ _ hlt,e];exact hyb⟩
 rcases h with ⟨_,e1⟩|⟨k,_,_,_,e1⟩
 ·exact .inl (key _ (e1▸hm) hb)
 ·rw [e1] at hm hb
  rcases List.mem_append.1 hm with h1|h1
  ·exact .inl (key _ (List.mem_of_mem_take h1) hb)
  ·rcases List.mem_cons.1 h1 with h1|h1
   ·rw [h1] at hb;exact .inr hb
   ·exact .inl (key _ (List.mem_of_mem_drop h1) hb)
theorem ok_lenN {code:Ls (Ls Ins)}{words:Ls Int}{Lk R:Nat}(h:OkPg (pgN code words Lk R)):1≤code.l.length∧code.l.length≤4∧words.l.length≤64∧0≤(Lk:Int)∧(Lk:Int)≤4∧1≤(R:Int)∧(R:Int)≤200:=by
 have h1:=h.code
 have h2:=h.words
 have h3:=h.locks
 have h4:=h.regs
 simp only [pgN,pgOf,List.length_map] at h1 h2 h3 h4
 omega
theorem st_mapAt {states:List SD}{i:Nat}(h:i<states.length):nth (states.map SD.st) i=(nth states i).st:=nth_map' _ _ _ h
theorem by_s (code:Ls (Ls Ins))(words:Ls Int)(Lk R:Nat)(mode:Int)(W:World)(hcode:code.At W)(hwords:words.At W)(hok:OkPg (pgN code words Lk R)):
    Rets Tryz.prog 26 [.agg #[code.v,words.v, .int .i64 ((Lk:Nat):Int), .int .i64 ((R:Nat):Int)], .int .i64 mode] W (fun v w' =>∃(g:Nat) (full:Bool) (kv hv bv:Value) (states:Ls SD) (ends:Ls OutL),v= .pointer (some ⟨g,0,none⟩)∧(full=true↔Big (pgN code words Lk R) mode)∧(full=false→Sorted_ (ends.l.map OutL.out)∧∀o,o∈ends.l.map OutL.out↔Outs (pgN code words Lk R) mode o)∧ends.l.length≤70000∧(∀o∈ends.l,∀b,Enc.on o b→W.heap.size≤b)∧((full=false→(states.l.map SD.st).Nodup∧∀s,s∈states.l.map SD.st↔Reach (pgN code words Lk R) mode s)∧states.l.length≤4001∧SData W 111 [code.v,words.v, .int .i64 ((Lk:Nat):Int), .int .i64 ((R:Nat):Int), .int .i64 mode] states.l ends.l)∧Sh0 W w' [.blk g 52 [states.v,kv,hv,bv,ends.v, .bool full], .own 103 states, .own 39 ends]):=by
 obtain ⟨hl1,hcl,hwn,_,hlk9,_,hR9⟩:=ok_lenN hok
 have hlk:Lk≤4:=by omega
 have hR:R≤200:=by omega
 refine gen Tryz.func26 Tryz.ntmps26 (Sh0.ext2 hcode hwords:Sh (fun _=>False) W W [.at_ code, .at_ words]) rfl fun a10 h10=>gG h10<|sK fun _ k11=>gbx rfl rfl fun b12=>gRn (oM 1 rfl<|.nl)<|nK k11<|sK fun _ k13=>gRn (oV (r_build (cs:= [(.slice none 0 0),(.slice none 0 0),(.slice none 0 0),(.slice none 0 0),(.slice none 0 0), .bool false]) rfl rfl (by kernel_rfl)) rfl<|.nl)<|gbx rfl rfl fun b14=>gRn (oM 1 rfl<|.nl)<|nK k13<|gK fun _ k15=>sG (oM 1 rfl<|.nl)<|gB<|fun a19 w19 h19=> ?_;clear h10
 have h18:=h19.nil (α:=Int) 3
 clear h19
 refine x_loop (fun m a w=>∃(i:Nat) (hl:List Int) (vh:Value),(i≤4096)∧(hl=List.replicate i (-1))∧(hl.length=i)∧St 124 (fun _=>False) W a w [(1, .int .i64 mode),(2, .pointer (some ⟨b12,0,none⟩)),(5, .pointer (some ⟨b14,0,none⟩)),(6, .int .i64 ((i:Nat):Int))] [.blk b14 52 [(.slice none 0 0),(.slice none 0 0),vh,(.slice none 0 0),(.slice none 0 0), .bool false], .blk b12 25 [code.v,words.v, .int .i64 ((Lk:Nat):Int), .int .i64 ((R:Nat):Int)], .at_ code, .at_ words, .own 3 (⟨vh,hl⟩:Ls Int)]∧m=4096-i) ⟨_,0, [],(.slice none 0 0),(by omega),(rfl),(rfl),h18.nrm ⟨rfl,rfl,rfl,rfl,trivial⟩ [1,2,3,4,0] rfl,rfl⟩ ?_
 clear h18
 rintro m17 a17 w17 ⟨i,hl,vh,hi,hhl,hhn,h17,hm17⟩
 refine gG h17<|gK fun _ k20=>sG (oM 1 rfl<|oltN _ 4096 rfl<|.nl)<|?_;clear h17
 refine gcd rfl (fun hb22 hp22=> ?_) fun hb22 hp22=> ?_
 ·skip
  refine gS<|hK k20<|gK fun _ k23=>gB<|gL<|gRn (oM 2 rfl<|onfl 0 fl_52_2 ti_23 rfl rfl<|.nl)<|gE1 (fun _ _ h_=>x_lit (n:=1) (cs:= [.int .i64 (-1)]) ([(-1)]:List Int) h_ sl_23 ti_3 rfl rfl rfl (by decide) rfl (by kernel_rfl) rfl (fun q hq w h=>Flat.inner _ _) (fun q hq b hb=>(Flat.on _ _ hb).elim) rfl rfl) rfl fun v24=>gE1 (fun _ _ h_=>x_app (r:=5) (rm:=0) (s:=(⟨vh,hl⟩:Ls Int)) (m:=(⟨v24, [(-1)]⟩:Ls Int)) h_ sl_23 ti_3 rfl rfl rfl rfl rfl rfl rfl (fun w h=>(h.own 0 rfl)) (fun b hb=>own_on (h_.sh.ok _ (List.mem_of_getElem? (i:=0) rfl)) hb) (fun q hq b hb=>⟨q,hq,hb⟩) rfl rfl rfl inferInstance (show (hl.length+([(-1)]).length)*8≤140737488355328∧hl.length+([(-1)]).length≤140737488355328 from om9) rfl rfl) rfl fun v25=>gRn (onf fl_52_2 rfl<|.nl)<|gsr 1 ti_23 rfl (aO 5 rfl) rfl<|nK k23<|gL<|gRn (oM 1 rfl<|oadN _ 1 om9 rfl<|oM 1 rfl<|.nl)<|nN<|fun a27 w27 h27=>x_again ⟨_, ?_,i+1,hl++([(-1)]),v25, ?_, ?_, ?_,h27.nrm ⟨rfl,rfl,rfl,rfl,trivial⟩ [1,2,3,4,5] rfl,rfl⟩
  · rw [hm17];first|omega|(simp only [lens9];omega)
  · omega
  · rw [hhl,List.replicate_succ']
  · simp [hhn]
 refine gX<|hK k15<|?_
 have hi9:i=4096:=by omega
 refine sK fun _ k28=>gRn (olw 1 ti_25 rfl rfl<|oM 1 rfl<|.nl)<|fun a30 w30 h30=>wl_ex (x_call h30 bd_67 rfl rfl rfl rfl rfl (begin_c code words Lk R mode _ (h30.sh.at 2 rfl) (h30.sh.at 3 rfl) hcl hlk hR hwn)) (wanted_none rfl _) ?_
 rintro a31 w31 ⟨_,⟨g31,rows31,vt31,w31w,o31w,p31w,rfl,hrw31,hw31,ho31,hp31,hs31⟩,hf31⟩
 have hyb:=hrw31;have hyw:=hw31;have hyo:=ho31;have hyp:=hp31
 have h31:=(⟨hf31,h30.sh.call hs31 (by intro A hA b hb;simp only [List.mem_cons,List.not_mem_nil,or_false] at hA;rcases hA with rfl|rfl|rfl|rfl|rfl|rfl<;>first|exact (hb:False).elim|exact Flat.noRd hb|exact bigNoRd hb)⟩:St 124 (fun _=>False) W a31 w31 _ _)
 clear hf31 hs31
 clear h30
 refine gG h31<|gRn (oM 1 rfl<|.nl)<|nK k28<|sK fun _ k32=>gRn (oM 2 rfl<|.nl)<|fun a34 w34 h34=> ?_;clear h31
 have h33:=h34.nil (α:=SD) 103
 clear h34
 have h35:=h33.nilDeep (α:=Ls Int) 23
 clear h33
 have h36:=h35.nil (α:=Int) 3
 clear h35
 have h37:=h36.nil (α:=OutL) 39
 clear h36
 have h38:=h37.sel (L' := [_,_,_,_,_,_,_,_,_,_,_,_,_,_,_]) [4,5,6,7,8,9,0,1,2,3,10,11,12,13,14] rfl
 obtain ⟨x39,hx39⟩:∃x,x=(⟨g31,111, [code.v,words.v, .int .i64 ((Lk:Nat):Int), .int .i64 ((R:Nat):Int), .int .i64 mode],⟨vt31,rows31⟩,w31w,o31w,p31w,false⟩:SD):=⟨_,rfl⟩
 have hfz39:=(Sh.freeze (hd:= [code.v,words.v, .int .i64 ((Lk:Nat):Int), .int .i64 ((R:Nat):Int), .int .i64 mode]) (rows:=rows31) (words:=w31w) (owner:=o31w) (prints:=p31w) (vt:=vt31) h38.sh)
 rw [←hx39] at hfz39
 have hz39:St 124 (fun _=>False) W a34 w34 _ [.rd1 x39, .own 39 (⟨.slice none 0 0, []⟩:Ls OutL), .own 3 (⟨.slice none 0 0, []⟩:Ls Int), .deep 23 (⟨.slice none 0 0, []⟩:Ls (Ls Int)), .own 103 (⟨.slice none 0 0, []⟩:Ls SD), .blk b14 52 [(.slice none 0 0),(.slice none 0 0),vh,(.slice none 0 0),(.slice none 0 0), .bool false], .blk b12 25 [code.v,words.v, .int .i64 ((Lk:Nat):Int), .int .i64 ((R:Nat):Int)], .at_ code, .at_ words, .own 3 (⟨vh,hl⟩:Ls Int)]:=⟨h38.fr,hfz39.1⟩
 clear h38
 have hg39:g31=x39.g:=by rw [hx39]
 have hst39:x39.st=begin_ (pgN code words Lk R):=by rw [hx39];unfold SD.st begin_;simp only [hyb,hyw,hyo,hyp];simp [pgN,pgOf,Function.comp_def,List.map_const']
 have hwf39:WfX code words Lk R x39:=by have h9:=Wf.begin_ hok;rw [←hst39] at h9;exact h9.toX
 have hpl39:x39.prints.l.length=0:=by rw [hx39];simp only [hyp];rfl
 have hdy39:x39.hd= [code.v,words.v, .int .i64 ((Lk:Nat):Int), .int .i64 ((R:Nat):Int), .int .i64 mode]∧x39.E=111∧x39.fell=false∧∀b,Enc.on x39 b→W.heap.size≤b:=⟨by rw [hx39],by rw [hx39],by rw [hx39],fun b hb=>(hfz39.2 b hb).elim (fun h=>h.elim) id⟩
 have h40:=hz39.sel (L' := [_,_,_,_,_,_,_,_,_,_]) [5,4,3,9,2,0,1,6,7,8] rfl
 have hp41:=h40.sh.passL (Lp:= [_,_,_,_,_,_])
 refine wl_ex (x_call h40 bd_68 rfl rfl rfl rfl rfl (by have h9:=put_c _ b14 x39 (⟨.slice none 0 0, []⟩:Ls SD) (⟨.slice none 0 0, []⟩:Ls (Ls Int)) (⟨vh,hl⟩:Ls Int) (⟨.slice none 0 0, []⟩:Ls Int) (.slice none 0 0) false _ _ _ _ _ _ hp41 (by rw [hhl,hi9];exact headsOK0) rfl (by simp) hdy39.1 hdy39.2.1 (by rw [hwf39.thl];exact hcl) (fun i hi=>by have h9:=hwf39.regs i hi;omega) hwf39.wait (by have h9:=hwf39.words;have h8:=hwf39.owner;have h7:=hpl39;omega);rw [←hg39] at h9;exact h9)) (wanted_none rfl _) ?_
 rintro a42 w42 ⟨_,⟨rfl,st42,ke42,he42,be42,fu42,hkr42,hs42⟩,hf42⟩
 have h42:St 124 (fun _=>False) W a42 w42 _ [_,_,_,_,_,_,_,_,_,_]:=⟨hf42,h40.sh.backL (Lp:= [_,_,_,_,_,_]) hs42 (by intro A hA b hb;simp only [List.mem_cons,List.not_mem_nil,or_false] at hA;rcases hA with rfl|rfl|rfl|rfl|rfl|rfl<;>first|exact (hb:False).elim|exact Flat.noRd hb|exact .inl ⟨_,List.mem_cons_self .., .inr hb⟩|exact (hkr42.rd hb).elim (fun h=> .inl ⟨_,List.mem_of_getElem? (i:=1) rfl, .inr h⟩) (fun h=> .inl ⟨_,List.mem_of_getElem? (i:=5) rfl, .inr h⟩)|exact .inl ⟨_,by simp, .inr hb⟩)⟩
 clear hf42 hs42
 clear h40
 refine gG h42<|nK k32<|?_;clear h42
 obtain ⟨hc1,hc2,hc3⟩:st42.l= [x39]∧ke42.l.map (·.l)= [keyOf x39.st]∧fu42=(false||decide (4000<0+1)):=by rcases hkr42 with ⟨⟨j,hj,_⟩,_⟩|⟨_,e1,e2,_,e3⟩;exact absurd hj (by simp);exact ⟨e1,e2,e3⟩
 have hinv0:Inv (pgN code words Lk R) mode (st42.l.map SD.st) (([]:List OutL).map OutL.out) fu42 0:=by rw [hc1,hc3];exact Inv.first _ hst39
 have hkey0:ke42.l.map (·.l)=(st42.l.map SD.st).map keyOf:=by rw [hc2,hc1];rfl
 have hhok0:=keyRel_ok hkr42
 have hlen0:st42.l.length=ke42.l.length:=by have h9:=congrArg List.length hc2;simp at h9;rw [hc1];simp [h9]
 have hsd0:SData W 111 [code.v,words.v, .int .i64 ((Lk:Nat):Int), .int .i64 ((R:Nat):Int), .int .i64 mode] st42.l ([]:List OutL):=⟨fun y hy=>(by rw [hc1] at hy;obtain rfl:y=x39:=(by simpa using hy);exact hdy39),fun o ho=>(by cases ho)⟩
 have hel0:([]:List OutL).length≤16*0:=by simp
 refine gK fun _ k43=>sG (oM 1 rfl<|.nl)<|gB<|fun a46 w46 h46=>x_loop (fun m a w=>∃(i:Nat) (full:Bool) (states:Ls SD) (keys:Ls (Ls Int)) (heads before:Ls Int) (ends:Ls OutL),(i≤states.l.length)∧(Inv (pgN code words Lk R) mode (states.l.map SD.st) (ends.l.map OutL.out) full i)∧(keys.l.map (·.l)=(states.l.map SD.st).map keyOf)∧(HeadsOK (keys.l.map (·.l)) heads.l before.l)∧(states.l.length=keys.l.length)∧(SData W 111 [code.v,words.v, .int .i64 ((Lk:Nat):Int), .int .i64 ((R:Nat):Int), .int .i64 mode] states.l ends.l)∧(ends.l.length≤16*i)∧St 124 (fun _=>False) W a w [(5, .pointer (some ⟨b14,0,none⟩)),(8, .int .i64 ((i:Nat):Int))] [.blk b14 52 [states.v,keys.v,heads.v,before.v,ends.v, .bool full], .own 103 states, .deep 23 keys, .own 3 heads, .own 3 before, .rd1 x39, .own 39 ends, .blk b12 25 [code.v,words.v, .int .i64 ((Lk:Nat):Int), .int .i64 ((R:Nat):Int)], .at_ code, .at_ words]∧m=4002-i) ⟨_,0,fu42,st42,ke42,he42,be42,(⟨.slice none 0 0, []⟩:Ls OutL),(by omega),(hinv0),(hkey0),(hhok0),(hlen0),(hsd0),(hel0),h46.nf ⟨rfl,rfl,trivial⟩,rfl⟩ ?_
 clear h46
 rintro m45 a45 w45 ⟨i,full,states,keys,heads,before,ends,hi,hinv,hkey,hhok,hlen,hsd,hel,h45,hm45⟩
 refine gG h45<|gK fun _ k47=>sK fun _ k48=>gNl (aO 1 rfl) fun hl49=>gRn (oM 2 rfl<|onfl 0 fl_52_0 ti_49 rfl rfl<|oln sl_49 (aO 1 rfl) rfl<|oltN _ _ rfl<|oM 1 rfl<|.nl)<|?_;clear h45
 rcases dsp (i<states.l.length) with ⟨hb50,hp50⟩|⟨hb50,hp50⟩
 ·skip
  refine gRn (oG hb50 (r_move rfl rfl) rfl<|oG hb50 (r_nil rfl rfl) rfl<|oG hb50 (r_fieldB (r:=5) fl_52_5 rfl rfl rfl) rfl<|oG hb50 (r_ldb (i:=0) ti_4 rfl rfl rfl rfl) rfl<|oG hb50 (r_not rfl rfl) rfl<|opT hb50 rfl<|.nl)<|nK k48<|gCb rfl (fun hb51=> ?_) fun hb51=> ?_
  ·have hn51:full=false:=(Bool.not_eq_true' _).mp hb51
   refine gS<|hK k47<|gK fun _ k52=>gB<|sG (oM 1 rfl<|onfl 0 fl_52_0 ti_49 rfl rfl<|oM 1 rfl<|oxN sl_49 ti_103 (aO 1 rfl) _ om9 rfl<|olE (.pointer (some ⟨(nth states.l i).g,0,none⟩)) ti_103 (aO 1 rfl) om9 rfl<|oM 1 rfl<|.nl)<|fun a55 w55 h55=> ?_
   obtain ⟨x,hxx⟩:∃x,x=nth states.l i:=⟨_,rfl⟩
   rw [←hxx] at h55
   have hil:i<states.l.length:=by omega
   have hxm:x∈states.l:=by rw [hxx];exact nth_mem _ _ hil
   have hxs:x.st∈states.l.map SD.st:=List.mem_map.2 ⟨x,hxm,rfl⟩
   have hxi:nth (states.l.map SD.st) i=x.st:=by rw [st_mapAt hil,←hxx]
   have hws:=(hinv.reach _ hxs).wf hok
   have hwx:=hws.toX
   obtain ⟨hd1,hd2,hd3,hd4⟩:=hsd.hd x hxm
   have hin54:=(h55.sh.own 1 rfl).inner i (by omega)
   rw [←hxx] at hin54
   obtain ⟨hn1,hn2,hn3,hn4,hn5⟩:=(show Enc.inner x _ from hin54)
   rw [hd2,SD.cells,hd1,hd3] at hn1
   have hprx:x.prints.l.length≤2*i:=by have h9:=hinv.pr i (by simpa using hil);rw [hxi] at h9;exact h9
   have hnl:states.l.length≤4001:=by have h9:=hinv.len;simpa using h9
   have hxl:x.words.l.length≤100000∧x.owner.l.length≤100000∧x.prints.l.length≤100000000:=by have h9:=hwx.words;have h8:=hwx.owner;omega
   have h56:=h55.addRd (A:= .rblk x.g 111 [code.v,words.v, .int .i64 ((Lk:Nat):Int), .int .i64 ((R:Nat):Int), .int .i64 mode,x.thr.v,x.words.v,x.owner.v,x.prints.v, .bool false]) hn1 (fun b hb=>hb) (fun b hb=>⟨.own 103 states,List.mem_of_getElem? (i:=1) rfl,i,hil,by rw [←hxx];exact .inl hb⟩)
   clear h55
   have h57:=h56.addRd (A:= .at_ x.thr) hn2 (fun b hb=>hb) (fun b hb=>⟨.own 103 states,List.mem_of_getElem? (i:=2) rfl,i,hil,by rw [←hxx];exact .inr (.inl hb)⟩)
   clear h56
   have h58:=h57.addRd (A:= .at_ x.words) hn3 (fun b hb=>hb) (fun b hb=>⟨.own 103 states,List.mem_of_getElem? (i:=3) rfl,i,hil,by rw [←hxx];exact .inr (.inr (.inl hb))⟩)
   clear h57
   have h59:=h58.addRd (A:= .at_ x.owner) hn4 (fun b hb=>hb) (fun b hb=>⟨.own 103 states,List.mem_of_getElem? (i:=4) rfl,i,hil,by rw [←hxx];exact .inr (.inr (.inr (.inl hb)))⟩)
   clear h58
   have h60:=h59.addRd (A:= .at_ x.prints) hn5 (fun b hb=>hb) (fun b hb=>⟨.own 103 states,List.mem_of_getElem? (i:=5) rfl,i,hil,by rw [←hxx];exact .inr (.inr (.inr (.inr hb)))⟩)
   clear h59
   skip
   refine gG h60<|sK fun _ k61=>gRn (oM 1 rfl<|.nl)<|gP (fun _ _ h_=>xCl h_ bd_69 rfl (ended_c x.g code x.thr _ _ _ _ _ _ _ _ _ (h_.sh.rblk 4 rfl) (h_.sh.at 13 rfl) (h_.sh.at 3 rfl) hcl hwx.thl (fun t ht=>(hwx.pc t ht).1))) rfl<|gRn (oM 1 rfl<|.nl)<|nK k61<|gF [5,8,9,10] rfl<|sK fun _ k63=>gRn (oM 1 rfl<|.nl)<|fun a65 w65 h65=>wl_ex (x_call h65 bd_70 rfl rfl rfl rfl rfl (moves_c x.g code x.thr x.owner _ _ _ _ _ _ _ _ (h65.sh.rblk 4 rfl) (h65.sh.at 13 rfl) (h65.sh.at 3 rfl) (h65.sh.at 1 rfl) hcl hwx.thl (fun t ht=>(hwx.pc t ht).1) (fun t ht i hi h17=>by have h9:=lock_N hok ht hi h17;rw [hwx.owner];exact h9) (fun t ht=>hwx.wait t (by rw [hwx.thl];exact ht)))) (wanted_none rfl _) ?_;clear h60
   rintro a66 w66 ⟨_,⟨ml66,rfl,hml66,hs66⟩,hf66⟩
   rw [moves_eq (Lk:=Lk) (R:=R) (words:=words) hwx.thl] at hml66
   have hmv:=hml66
   have hmvl:ml66.l.length≤16:=by rw [hmv];exact moves_len hwx.thl hcl hwx.wait
   have h66:St _ (fun _=>False) W a66 w66 _ _:=⟨hf66,h65.sh.callI hs66⟩
   clear hf66 hs66
   clear h65
   refine gG h66<|gRn (oM 1 rfl<|.nl)<|nK k63<|gK fun _ k67=>sG (oM 1 rfl<|.nl)<|?_;clear h66
   refine gCb rfl (fun hb69=> ?_) fun hb69=> ?_
   ·skip
    refine gK fun _ k70=>rT 10 [] (oM 2 rfl<|onf fl_111_3 rfl<|olR 5 ti_23 rfl rfl<|oM 1 rfl<|onf fl_111_5 rfl<|olR 5 ti_23 rfl rfl<|oV (r_buildS (cs:= [.int .i64 0,x.words.v,x.prints.v]) rfl rfl (fun w h=>by obtain ⟨A72,n72,c72,(e72:x.prints.v=_)⟩:=((h.at 1 rfl)).form;rw [e72];obtain ⟨A71,n71,c71,(e71:x.words.v=_)⟩:=((h.at 3 rfl)).form;rw [e71];kernel_rfl)) rfl<|.nl)<|gO [6,12,3,1,0,2,4,5,7,8,9,10,11,13,14,15] rfl<|fun a78 w78 h78=> ?_
    have hp77:=h78.sh.passL (Lp:= [_,_,_,_])
    refine wl_ex (x_call h78 bd_71 rfl rfl rfl rfl rfl (putO_c _ _ (⟨0,x.words,x.prints⟩:OutL) ends _ _ _ _ _ _ hp77 (by omega))) (wanted_none rfl _) ?_
    rintro a79 w79 ⟨_,⟨rfl,en79,hpr79,hs79⟩,hf79⟩
    have h79:St 124 (fun _=>False) W a79 w79 _ [_,_,_,_,_,_,_,_,_,_,_,_,_,_,_,_]:=⟨hf79,h78.sh.backL (Lp:= [_,_,_,_]) hs79 (by intro A hA b hb;simp only [List.mem_cons,List.not_mem_nil,or_false] at hA;rcases hA with rfl|rfl|rfl|rfl<;>first|exact (hb:False).elim|exact Flat.noRd hb|exact .inl ⟨_,List.mem_cons_self .., .inr hb⟩|exact (hpr79.rd hb).elim (fun h=> .inl ⟨_,List.mem_of_getElem? (i:=1) rfl, .inr h⟩) (fun h=>h.elim (fun h=> .inl ⟨_,List.mem_of_getElem? (i:=2) rfl, .inr h⟩) (fun h=> .inl ⟨_,List.mem_of_getElem? (i:=3) rfl, .inr h⟩))|exact .inl ⟨_,by simp, .inr hb⟩)⟩
    clear hf79 hs79
    clear h78
    refine gG h79<|nK k70<|gX<|hK k52<|gL<|gRn (oM 1 rfl<|oadN _ 1 om9 rfl<|oM 1 rfl<|.nl)<|nN<|?_;clear h79
    have hps:=hpr79.sorted hinv.sorted
    have hinvN:=hinv.ended (by simpa using hil) (by rw [hxi,←ended_eq hwx.thl];assumption) hps.1 (by intro y;rw [hps.2 y,hxi];rfl)
    obtain ⟨hsdN,hle9⟩:=hsd.put hpr79 (fun b hb=>hd4 b (hb.elim (fun hb=> .inr (.inr (.inl hb))) (fun hb=> .inr (.inr (.inr (.inr hb))))))
    have helN:en79.l.length≤16*(i+1):=by omega
    have hiN:i+1≤states.l.length:=by omega
    intro a80 w80 h80
    refine x_again ⟨_, ?_,(i+1),full,states,keys,heads,before,en79, ?_, ?_, ?_, ?_, ?_, ?_, ?_,h80.nrm ⟨rfl,rfl,trivial⟩ [0,8,9,10,11,12,1,13,14,15] rfl,rfl⟩
    · rw [hm45];omega
    · first|exact hiN|omega
    · first|exact hinvN|exact hinv
    · first|exact hkeyN|exact hkey
    · first|exact hhokN|exact hhok
    · first|exact hlenN|exact hlen
    · first|exact hsdN|exact hsd
    · first|exact helN|omega
   refine gS<|hK k67<|gK fun _ k81=>sK fun _ k82=>gNl (aO 0 rfl) fun hl83=>gRn (oM 1 rfl<|oln sl_23 (aO 0 rfl) rfl<|oeqN _ 0 rfl<|.nl)<|nK k82<|gcd rfl (fun hb84 hp84=> ?_) fun hb84 hp84=> ?_
   ·skip
    refine gK fun _ k85=>rT 10 [] (oM 2 rfl<|onf fl_111_3 rfl<|olR 5 ti_23 rfl rfl<|oM 1 rfl<|onf fl_111_5 rfl<|olR 5 ti_23 rfl rfl<|oV (r_buildS (cs:= [.int .i64 2,x.words.v,x.prints.v]) rfl rfl (fun w h=>by obtain ⟨A87,n87,c87,(e87:x.prints.v=_)⟩:=((h.at 1 rfl)).form;rw [e87];obtain ⟨A86,n86,c86,(e86:x.words.v=_)⟩:=((h.at 3 rfl)).form;rw [e86];kernel_rfl)) rfl<|.nl)<|gO [6,12,3,1,0,2,4,5,7,8,9,10,11,13,14,15] rfl<|fun a93 w93 h93=> ?_
    have hp92:=h93.sh.passL (Lp:= [_,_,_,_])
    refine wl_ex (x_call h93 bd_71 rfl rfl rfl rfl rfl (putO_c _ _ (⟨2,x.words,x.prints⟩:OutL) ends _ _ _ _ _ _ hp92 (by omega))) (wanted_none rfl _) ?_
    rintro a94 w94 ⟨_,⟨rfl,en94,hpr94,hs94⟩,hf94⟩
    have h94:St 124 (fun _=>False) W a94 w94 _ [_,_,_,_,_,_,_,_,_,_,_,_,_,_,_,_]:=⟨hf94,h93.sh.backL (Lp:= [_,_,_,_]) hs94 (by intro A hA b hb;simp only [List.mem_cons,List.not_mem_nil,or_false] at hA;rcases hA with rfl|rfl|rfl|rfl<;>first|exact (hb:False).elim|exact Flat.noRd hb|exact .inl ⟨_,List.mem_cons_self .., .inr hb⟩|exact (hpr94.rd hb).elim (fun h=> .inl ⟨_,List.mem_of_getElem? (i:=1) rfl, .inr h⟩) (fun h=>h.elim (fun h=> .inl ⟨_,List.mem_of_getElem? (i:=2) rfl, .inr h⟩) (fun h=> .inl ⟨_,List.mem_of_getElem? (i:=3) rfl, .inr h⟩))|exact .inl ⟨_,by simp, .inr hb⟩)⟩
    clear hf94 hs94
    clear h93
    refine gG h94<|nK k85<|gX<|hK k52<|gL<|gRn (oM 1 rfl<|oadN _ 1 om9 rfl<|oM 1 rfl<|.nl)<|nN<|?_;clear h94
    have hps:=hpr94.sorted hinv.sorted
    have hinvN:=hinv.stuck (by simpa using hil) (by rw [hxi,←ended_eq hwx.thl];assumption) (by rw [hxi,←hmv];exact List.eq_nil_of_length_eq_zero (by omega)) hps.1 (by intro y;rw [hps.2 y,hxi];rfl)
    obtain ⟨hsdN,hle9⟩:=hsd.put hpr94 (fun b hb=>hd4 b (hb.elim (fun hb=> .inr (.inr (.inl hb))) (fun hb=> .inr (.inr (.inr (.inr hb))))))
    have helN:en94.l.length≤16*(i+1):=by omega
    have hiN:i+1≤states.l.length:=by omega
    intro a95 w95 h95
    refine x_again ⟨_, ?_,(i+1),full,states,keys,heads,before,en94, ?_, ?_, ?_, ?_, ?_, ?_, ?_,h95.nrm ⟨rfl,rfl,trivial⟩ [0,8,9,10,11,12,1,13,14,15] rfl,rfl⟩
    · rw [hm45];omega
    · first|exact hiN|omega
    · first|exact hinvN|exact hinv
    · first|exact hkeyN|exact hkey
    · first|exact hhokN|exact hhok
    · first|exact hlenN|exact hlen
    · first|exact hsdN|exact hsd
    · first|exact helN|omega
   refine gS<|hK k81<|sG (oM 1 rfl<|.nl)<|gB<|?_
   have hmv0:ml66.l.length≠0:=by omega
   intro a98 w98 h98
   refine x_loop (fun m a w=>∃(k:Nat) (full2:Bool) (states2:Ls SD) (keys2:Ls (Ls Int)) (heads2 before2:Ls Int) (ends2:Ls OutL),(k≤ml66.l.length)∧(Inv (pgN code words Lk R) mode (states2.l.map SD.st) (ends2.l.map OutL.out) full2 i)∧(keys2.l.map (·.l)=(states2.l.map SD.st).map keyOf)∧(HeadsOK (keys2.l.map (·.l)) heads2.l before2.l)∧(states2.l.length=keys2.l.length)∧(SData W 111 [code.v,words.v, .int .i64 ((Lk:Nat):Int), .int .i64 ((R:Nat):Int), .int .i64 mode] states2.l ends2.l)∧(ends2.l.length≤16*i+k)∧(states.l.length≤states2.l.length)∧(nth (states2.l.map SD.st) i=x.st)∧(x∈states2.l)∧(full2=false→∀q,q<k→HandM (pgN code words Lk R) mode (states2.l.map SD.st) (ends2.l.map OutL.out) x.st (nth ml66.l q))∧St 124 (fun _=>False) W a w [(5, .pointer (some ⟨b14,0,none⟩)),(8, .int .i64 ((i:Nat):Int)),(9, .pointer (some ⟨x.g,0,none⟩)),(11,ml66.v),(12, .int .i64 ((k:Nat):Int))] [.own 3 ml66, .at_ x.prints, .at_ x.owner, .at_ x.words, .at_ x.thr, .rblk x.g 111 [code.v,words.v, .int .i64 ((Lk:Nat):Int), .int .i64 ((R:Nat):Int), .int .i64 mode,x.thr.v,x.words.v,x.owner.v,x.prints.v, .bool false], .blk b14 52 [states2.v,keys2.v,heads2.v,before2.v,ends2.v, .bool full2], .own 103 states2, .deep 23 keys2, .own 3 heads2, .own 3 before2, .rd1 x39, .own 39 ends2, .blk b12 25 [code.v,words.v, .int .i64 ((Lk:Nat):Int), .int .i64 ((R:Nat):Int)], .at_ code, .at_ words]∧m=ml66.l.length-k) ⟨_,0,full,states,keys,heads,before,ends,(by omega),(hinv),(hkey),(hhok),(hlen),(hsd),(by omega),(Nat.le_refl _),(hxi),(hxm),(fun _ q hq=>absurd hq (by omega)),h98.nf ⟨rfl,rfl,rfl,rfl,rfl,trivial⟩,rfl⟩ ?_
   clear h98
   rintro m97 a97 w97 ⟨k,full2,states2,keys2,heads2,before2,ends2,hk,hinv2,hkey2,hhok2,hlen2,hsd2,hel2,hle2,hx2,hrd2,hhand,h97,hm97⟩
   refine gG h97<|gK fun _ k99=>sK fun _ k100=>gRn (oM 2 rfl<|oln sl_23 (aO 0 rfl) rfl<|oltN _ _ rfl<|oM 1 rfl<|.nl)<|?_;clear h97
   rcases dsp (k<ml66.l.length) with ⟨hb101,hp101⟩|⟨hb101,hp101⟩
   ·skip
    refine gRn (oG hb101 (r_move rfl rfl) rfl<|oG hb101 (r_nil rfl rfl) rfl<|oG hb101 (r_fieldB (r:=5) fl_52_5 rfl rfl rfl) rfl<|oG hb101 (r_ldb (i:=6) ti_4 rfl rfl rfl rfl) rfl<|oG hb101 (r_not rfl rfl) rfl<|opT hb101 rfl<|.nl)<|nK k100<|gCb rfl (fun hb102=> ?_) fun hb102=> ?_
    ·have hn102:full2=false:=(Bool.not_eq_true' _).mp hb102
     refine gS<|hK k99<|gK fun _ k103=>gB<|sK fun _ k104=>gRn (oM 1 rfl<|.nl)<|fun a106 w106 h106=>wl_ex (x_call h106 bd_72 rfl rfl rfl rfl rfl (copy_c x.g x.thr x.words x.owner x.prints _ _ _ _ _ _ _ (h106.sh.rblk 5 rfl) (h106.sh.at 4 rfl) (h106.sh.at 3 rfl) (h106.sh.at 2 rfl) (h106.sh.at 1 rfl) (by rw [hwx.thl];exact hcl) (fun i hi=>by have h9:=hwx.regs i hi;omega) hwx.wait hxl)) (wanted_none rfl _) ?_
     rintro a107 w107 ⟨_,⟨g107,rows107,vt107,w107w,o107w,p107w,rfl,hrw107,hw107,ho107,hp107,hs107⟩,hf107⟩
     have h107:=(⟨hf107,h106.sh.call hs107 (by intro A hA b hb;simp only [List.mem_cons,List.not_mem_nil,or_false] at hA;rcases hA with rfl|rfl|rfl|rfl|rfl|rfl<;>first|exact (hb:False).elim|exact Flat.noRd hb|exact bigNoRd hb)⟩:St 124 (fun _=>False) W a107 w107 _ _)
     clear hf107 hs107
     clear h106
     refine gG h107<|gRn (oM 1 rfl<|.nl)<|nK k104<|sK fun _ k108=>gRn (oM 3 rfl<|oxN sl_23 ti_3 (aO 6 rfl) _ om9 rfl<|olI ti_3 (aO 6 rfl) om9 rfl<|.nl)<|?_;clear h107
     obtain ⟨t,kk,htt,hkk,hmt⟩:=mem_moves.1 (by rw [←hmv];exact nth_mem ml66.l k (by omega))
     rw [pgN_len] at htt
     have hk3:kk≤3:=mvOK_le hkk ((hws.th t (by rw [pgN_len];exact htt)).wait)
     obtain ⟨hrl,hra⟩:=rows_at hrw107
     obtain ⟨hr1,hr2,hr3⟩:=hra t (by rw [hwx.thl];exact htt)
     have hpcx:=hwx.pc t htt
     have h400:(nth code.l t).l.length≤400:=by have h9:=hok.len t (by rw [pgN_len];exact htt);rwa [pgN_code htt] at h9
     have hkw:kk≤(nth rows107 t).wait.l.length∧(kk=0→(nth x.thr.l t).pc<(nth code.l t).l.length):=by rw [hr3];rw [pgN_code htt,st_view (by rw [hwx.thl];exact htt)] at hkk;rcases mvOK_k hkk with ⟨e9,h9,_⟩|⟨h9,h8,_⟩;exact ⟨by omega,fun _=>h9⟩;exact ⟨h8,fun e=>by omega⟩
     intro a110 w110 h110
     have h109:=h110.same (d:=107) (v' := .int .i64 ((8*t+kk:Nat):Int)) rfl (by rw [hmt])
     clear h110
     have h111:=h109.sel (L' := [_,_,_,_,_,_,_,_,_,_,_,_,_,_,_,_,_,_,_,_,_,_]) [0,1,2,3,4,5,20,6,7,8,9,10,11,12,13,14,15,16,17,18,19,21] rfl
     have hp112:=h111.sh.passL (Lp:= [_,_,_,_,_,_,_])
     refine wl_ex (x_call h111 bd_73 rfl rfl rfl rfl rfl (do_tk _ g107 (8*t+kk) t kk code vt107 rows107 w107w o107w p107w _ _ _ mode false _ hp112 (by omega) (by omega) (by rw [hrl,hwx.thl];exact htt) htt (by omega) (by rw [hr1];omega) (by rw [hr3];exact hwx.wait t (by rw [hwx.thl];exact htt)) hkw.1 (by rw [hp107];exact hxl.2.2) (by rw [ho107];have h9:=hwx.owner;omega) (by rw [hr3,ho107,hw107];exact hwx.wt t (by rw [hwx.thl];exact htt)) (fun e=>by rw [hr1,hr2,hw107,ho107,hwx.regs t (by rw [hwx.thl];exact htt),hwx.words,hwx.owner];exact insR_N hok htt hpcx.1 (hkw.2 e)))) (wanted_none rfl _) ?_
     rintro a113 w113 ⟨_,⟨rfl,rows113,w113w,o113w,p113w,f113w,y113,hy113,hyr113,hyw113,hyo113,hyp113,hyf113,hs113⟩,hf113⟩
     change Sh _ _ _ [.blk g107 111 [code.v,words.v, .int .i64 ((Lk:Nat):Int), .int .i64 ((R:Nat):Int), .int .i64 mode,vt107,w113w.v,o113w.v,p113w.v, .bool f113w], .own 119 (⟨vt107,rows113.map ThL.toV⟩:Ls ThV), .big (rowsA 3 167 rows113), .own 3 w113w, .own 3 o113w, .own 3 p113w, .at_ code] at hs113
     have h113:St 124 (fun _=>False) W a113 w113 _ [_,_,_,_,_,_,_,_,_,_,_,_,_,_,_,_,_,_,_,_,_,_]:=⟨hf113,h111.sh.backL (Lp:= [_,_,_,_,_,_,_]) hs113 (by intro A hA b hb;simp only [List.mem_cons,List.not_mem_nil,or_false] at hA;rcases hA with rfl|rfl|rfl|rfl|rfl|rfl|rfl<;>first|exact (hb:False).elim|exact Flat.noRd hb|exact .inl ⟨_,List.mem_cons_self .., .inr hb⟩|exact bigNoRd hb|exact .inl ⟨_,List.mem_of_getElem? (i:=6) rfl, .inr hb⟩|exact .inl ⟨_,by simp, .inr hb⟩)⟩
     clear hf113 hs113
     clear h111
     refine gG h113<|nK k108<|sG (oM 1 rfl<|onfl 0 fl_111_6 ti_4 rfl rfl<|.nl)<|?_;clear h113
     refine gCb rfl (fun hb115=> ?_) fun hb115=> ?_
     ·skip
      obtain ⟨hya,_⟩:=st_step (x:=x) (z:=x) (rows' :=rows113) htt hwx.thl hrw107 hw107 ho107 hp107 hy113
      have hfy:(stepT (pgN code words Lk R) mode x.st t kk).fell=true:=by rw [←hya,←hyf113];assumption
      have hyps:p113w.l=(stepT (pgN code words Lk R) mode x.st t kk).prints:=by rw [hyp113,hya]
      refine gL<|gRn (oM 2 rfl<|onfl 0 fl_111_5 ti_23 rfl rfl<|oV (r_buildS (cs:= [.int .i64 1,(.slice none 0 0),p113w.v]) rfl rfl (fun w h=>by obtain ⟨A116,n116,c116,(e116:p113w.v=_)⟩:=((h.own 5 rfl)).form;rw [e116];kernel_rfl)) rfl<|.nl)<|fun a118 w118 h118=> ?_
      have h117:=h118.addRd (A:= .at_ (⟨.slice none 0 0, []⟩:Ls Int)) (LsNil _) (fun b hb=>hb) (fun b hb=>(nilOn hb).elim)
      clear h118
      have hnw119:=h117.sh.own_new 6 rfl
      have h119:St 124 (fun _=>False) W a118 w118 _ _:=⟨h117.fr,h117.sh.share 6 rfl⟩
      clear h117
      have h120:=h119.sel (L' := [_,_,_,_,_,_,_,_,_,_,_,_,_,_,_,_,_,_,_,_,_,_,_]) [14,20,0,6,1,2,3,4,5,7,8,9,10,11,12,13,15,16,17,18,19,21,22] rfl
      have hp121:=h120.sh.passL (Lp:= [_,_,_,_])
      refine wl_ex (x_call h120 bd_71 rfl rfl rfl rfl rfl (putO_c _ _ (⟨1,(⟨.slice none 0 0, []⟩:Ls Int),p113w⟩:OutL) ends2 _ _ _ _ _ _ hp121 (by omega))) (wanted_none rfl _) ?_
      rintro a122 w122 ⟨_,⟨rfl,en122,hpr122,hs122⟩,hf122⟩
      have h122:St 124 (fun _=>False) W a122 w122 _ [_,_,_,_,_,_,_,_,_,_,_,_,_,_,_,_,_,_,_,_,_,_,_]:=⟨hf122,h120.sh.backL (Lp:= [_,_,_,_]) hs122 (by intro A hA b hb;simp only [List.mem_cons,List.not_mem_nil,or_false] at hA;rcases hA with rfl|rfl|rfl|rfl<;>first|exact (hb:False).elim|exact Flat.noRd hb|exact .inl ⟨_,List.mem_cons_self .., .inr hb⟩|exact (hpr122.rd hb).elim (fun h=> .inl ⟨_,List.mem_of_getElem? (i:=1) rfl, .inr h⟩) (fun h=>h.elim (fun h=> .inl ⟨_,List.mem_of_getElem? (i:=2) rfl, .inr h⟩) (fun h=> .inl ⟨_,List.mem_of_getElem? (i:=3) rfl, .inr h⟩))|exact .inl ⟨_,by simp, .inr hb⟩)⟩
      clear hf122 hs122
      clear h120
      refine gG h122<|nK k103<|gF [5,8,9,11,12] rfl<|gL<|gRn (oM 1 rfl<|oadN _ 1 om9 rfl<|oM 1 rfl<|.nl)<|nN<|?_;clear h122
      have hps:=hpr122.sorted hinv2.sorted
      have hinvM:=hinv2.addOut (.fell (hinv.reach _ hxs) (by rw [pgN_len];exact htt) hkk hfy) hps.1 (by intro y;rw [hps.2 y];simp only [OutL.out,hyps])
      obtain ⟨hsdM,hle9⟩:=hsd2.put hpr122 (fun b hb=>hb.elim (fun hb=>(nilOn hb).elim) (fun hb=>(hnw119 b hb).elim (fun h=>h.elim) id))
      have hkeyM:=hkey2;have hhokM:=hhok2;have hlenM:=hlen2;have hleM:=hle2;have hxM:=hx2;have hrdM:=hrd2
      have helM:en122.l.length≤16*i+(k+1):=by omega
      have hhandM:full2=false→∀q,q<k+1→HandM (pgN code words Lk R) mode (states2.l.map SD.st) (en122.l.map OutL.out) x.st (nth ml66.l q):=by
       intro hf q hq;rcases Nat.lt_or_ge q k with h9|h9;exact (hhand hf q h9).mono (fun _ h=>h) (fun y hy=>(hps.2 y).2 (.inl hy));obtain rfl:q=k:=(by omega);exact HandM.of hmt hk3 (by unfold Handled;rw [if_pos hfy];exact (hps.2 _).2 (.inr (by simp only [OutL.out,hyps])))
      intro a123 w123 h123
      refine x_again ⟨_, ?_,(k+1),full2,states2,keys2,heads2,before2,en122, ?_, ?_, ?_, ?_, ?_, ?_, ?_, ?_, ?_, ?_, ?_,h123.nrm ⟨rfl,rfl,rfl,rfl,rfl,trivial⟩ [10,11,12,13,14,15,0,16,17,18,19,20,1,21,9,22] rfl,rfl⟩
      · rw [hm97];first|omega|(simp only [lens9];omega)
      · omega
      · exact hinvM
      · exact hkeyM
      · exact hhokM
      · exact hlenM
      · exact hsdM
      · exact helM
      · exact hleM
      · exact hxM
      · exact hrdM
      · exact hhandM
     refine gL<|gRn (oM 2 rfl<|.nl)<|?_
     have hff124:f113w=false:=by assumption
     intro a125 w125 h125
     rw [hff124] at h125
     obtain ⟨x124,hx124⟩:∃x,x=(⟨g107,111, [code.v,words.v, .int .i64 ((Lk:Nat):Int), .int .i64 ((R:Nat):Int), .int .i64 mode],⟨vt107,rows113⟩,w113w,o113w,p113w,false⟩:SD):=⟨_,rfl⟩
     have hfz124:=(Sh.freeze (hd:= [code.v,words.v, .int .i64 ((Lk:Nat):Int), .int .i64 ((R:Nat):Int), .int .i64 mode]) (rows:=rows113) (words:=w113w) (owner:=o113w) (prints:=p113w) (vt:=vt107) h125.sh)
     rw [←hx124] at hfz124
     have hz124:St 124 (fun _=>False) W a125 w125 _ [.rd1 x124, .at_ code, .own 3 ml66, .at_ x.prints, .at_ x.owner, .at_ x.words, .at_ x.thr, .rblk x.g 111 [code.v,words.v, .int .i64 ((Lk:Nat):Int), .int .i64 ((R:Nat):Int), .int .i64 mode,x.thr.v,x.words.v,x.owner.v,x.prints.v, .bool false], .blk b14 52 [states2.v,keys2.v,heads2.v,before2.v,ends2.v, .bool full2], .own 103 states2, .deep 23 keys2, .own 3 heads2, .own 3 before2, .rd1 x39, .own 39 ends2, .blk b12 25 [code.v,words.v, .int .i64 ((Lk:Nat):Int), .int .i64 ((R:Nat):Int)], .at_ words]:=⟨h125.fr,hfz124.1⟩
     clear h125
     have hg124:g107=x124.g:=by rw [hx124]
     obtain ⟨hya,hyb⟩:=st_step (x:=x) (z:=x124) (rows' :=rows113) htt hwx.thl hrw107 hw107 ho107 hp107 hy113
     have hst124:x124.st=x.st.putT t (stepT (pgN code words Lk R) mode x.st t kk):=by rw [←hya];exact hyb (by rw [hx124]) hyr113 (by rw [hx124];exact hyw113) (by rw [hx124];exact hyo113) (by rw [hx124];exact hyp113)
     have hfy:(stepT (pgN code words Lk R) mode x.st t kk).fell=false:=by rw [←hya,←hyf113];assumption
     have hry124:Reach (pgN code words Lk R) mode x124.st:=by rw [hst124];exact .step (hinv.reach _ hxs) (by rw [pgN_len];exact htt) hkk hfy
     have hwf124:=(hry124.wf hok).toX
     have hpy124:x124.st.prints.length≤2*states2.l.length:=by rw [hst124];have h9:=doT_prints mode t (nth (pgN code words Lk R).code t) kk (x.st.view t);have h8:(x.st.view t).prints.length=x.prints.l.length:=rfl;have h7:(x.st.putT t (stepT (pgN code words Lk R) mode x.st t kk)).prints=(stepT (pgN code words Lk R) mode x.st t kk).prints:=rfl;rw [h7];unfold stepT;omega
     have hpl124:x124.prints.l.length≤100000000:=by have h9:x124.st.prints.length=x124.prints.l.length:=rfl;have h8:=hinv2.len;simp at h8;omega
     have hdy124:x124.hd= [code.v,words.v, .int .i64 ((Lk:Nat):Int), .int .i64 ((R:Nat):Int), .int .i64 mode]∧x124.E=111∧x124.fell=false∧∀b,Enc.on x124 b→W.heap.size≤b:=⟨by rw [hx124],by rw [hx124],by rw [hx124],fun b hb=>(hfz124.2 b hb).elim (fun h=>h.elim) id⟩
     have h126:=hz124.sel (L' := [_,_,_,_,_,_,_,_,_,_,_,_,_,_,_,_,_]) [8,9,10,11,12,0,1,2,3,4,5,6,7,13,14,15,16] rfl
     have hp127:=h126.sh.passL (Lp:= [_,_,_,_,_,_])
     refine wl_ex (x_call h126 bd_68 rfl rfl rfl rfl rfl (by have h9:=put_c _ b14 x124 states2 keys2 heads2 before2 ends2.v full2 _ _ _ _ _ _ hp127 hhok2 hlen2 (by have h9:=hinv2.len;simp at h9;omega) hdy124.1 hdy124.2.1 (by rw [hwf124.thl];exact hcl) (fun i hi=>by have h9:=hwf124.regs i hi;omega) hwf124.wait (by have h9:=hwf124.words;have h8:=hwf124.owner;have h7:=hpl124;omega);rw [←hg124] at h9;exact h9)) (wanted_none rfl _) ?_
     rintro a128 w128 ⟨_,⟨rfl,st128,ke128,he128,be128,fu128,hkr128,hs128⟩,hf128⟩
     have h128:St 124 (fun _=>False) W a128 w128 _ [_,_,_,_,_,_,_,_,_,_,_,_,_,_,_,_,_]:=⟨hf128,h126.sh.backL (Lp:= [_,_,_,_,_,_]) hs128 (by intro A hA b hb;simp only [List.mem_cons,List.not_mem_nil,or_false] at hA;rcases hA with rfl|rfl|rfl|rfl|rfl|rfl<;>first|exact (hb:False).elim|exact Flat.noRd hb|exact .inl ⟨_,List.mem_cons_self .., .inr hb⟩|exact (hkr128.rd hb).elim (fun h=> .inl ⟨_,List.mem_of_getElem? (i:=1) rfl, .inr h⟩) (fun h=> .inl ⟨_,List.mem_of_getElem? (i:=5) rfl, .inr h⟩)|exact .inl ⟨_,by simp, .inr hb⟩)⟩
     clear hf128 hs128
     clear h126
     refine gG h128<|nK k103<|gF [5,8,9,11,12] rfl<|gL<|gRn (oM 1 rfl<|oadN _ 1 om9 rfl<|oM 1 rfl<|.nl)<|nN<|?_;clear h128
     obtain ⟨hinvM,hkeyM,hlenM,hmemM,hsubM,hcM⟩:=key_put hok hkr128 hkey2 hlen2 hinv2 (by assumption) (by omega) hry124 hpy124
     have hhokM:=keyRel_ok hkr128
     have hsdM:SData W 111 [code.v,words.v, .int .i64 ((Lk:Nat):Int), .int .i64 ((R:Nat):Int), .int .i64 mode] st128.l ends2.l:=by rcases hcM with e9|e9<;>rw [e9];exact hsd2;exact hsd2.more hdy124
     have helM:ends2.l.length≤16*i+(k+1):=by omega
     have hleM:states.l.length≤st128.l.length:=by rcases hcM with e9|e9<;>rw [e9];exact hle2;simp;omega
     have hxM:nth (st128.l.map SD.st) i=x.st:=by rcases hcM with e9|e9<;>rw [e9];exact hx2;rw [List.map_append,nth_left _ _ _ (by simp;omega)];exact hx2
     have hrdM:x∈st128.l:=by rcases hcM with e9|e9<;>rw [e9];exact hrd2;simp [hrd2]
     have hhandM:fu128=false→∀q,q<k+1→HandM (pgN code words Lk R) mode (st128.l.map SD.st) (ends2.l.map OutL.out) x.st (nth ml66.l q):=by
      intro hf q hq;rcases Nat.lt_or_ge q k with h9|h9;exact (hhand (by assumption) q h9).mono hsubM (fun _ h=>h);obtain rfl:q=k:=(by omega);exact HandM.of hmt hk3 (by unfold Handled;rw [if_neg (by rw [hfy];decide)];rw [←hst124];exact hmemM)
     intro a129 w129 h129
     refine x_again ⟨_, ?_,(k+1),fu128,st128,ke128,he128,be128,ends2, ?_, ?_, ?_, ?_, ?_, ?_, ?_, ?_, ?_, ?_, ?_,h129.nrm ⟨rfl,rfl,rfl,rfl,rfl,trivial⟩ [7,8,9,10,11,12,0,1,2,3,4,13,14,15,6,16] rfl,rfl⟩
     · rw [hm97];first|omega|(simp only [lens9];omega)
     · omega
     · exact hinvM
     · exact hkeyM
     · exact hhokM
     · exact hlenM
     · exact hsdM
     · exact helM
     · exact hleM
     · exact hxM
     · exact hrdM
     · exact hhandM
    have hn102:full2=true:=(Bool.not_eq_false' _).mp hb102
    refine gX<|hK k52<|gL<|gRn (oM 1 rfl<|oadN _ 1 om9 rfl<|oM 1 rfl<|.nl)<|nN<|?_
    have hinvN:=hinv2.expanded (by simp;omega) (by rw [hx2,←ended_eq hwx.thl];assumption) (by rw [hx2,←hmv];intro e9;rw [e9] at hmv0;simp at hmv0) (by rw [hx2];exact hws) (fun hf q hq=>by rw [hx2] at hq⊢;rw [←hmv] at hq⊢;exact hhand hf q (by first|omega|exact absurd (hf.symm.trans (show _=true by assumption)) Bool.false_ne_true))
    have hkeyN:=hkey2;have hhokN:=hhok2;have hlenN:=hlen2;have hsdN:=hsd2
    have helN:ends2.l.length≤16*(i+1):=by omega
    have hiN:i+1≤states2.l.length:=by omega
    have hnl2:states2.l.length≤4001:=by have h9:=hinv2.len;simpa using h9
    intro a130 w130 h130
    refine x_again ⟨_, ?_,(i+1),full2,states2,keys2,heads2,before2,ends2, ?_, ?_, ?_, ?_, ?_, ?_, ?_,h130.nrm ⟨rfl,rfl,trivial⟩ [6,7,8,9,10,11,12,13,14,15] rfl,rfl⟩
    · rw [hm45];omega
    · first|exact hiN|omega
    · first|exact hinvN|exact hinv
    · first|exact hkeyN|exact hkey
    · first|exact hhokN|exact hhok
    · first|exact hlenN|exact hlen
    · first|exact hsdN|exact hsd
    · first|exact helN|omega
   refine gRn (oKs 5 hb101 rfl rfl<|opF hb101 rfl<|.nl)<|nK k100<|gcF rfl rfl<|gX<|hK k52<|gL<|gRn (oM 1 rfl<|oadN _ 1 om9 rfl<|oM 1 rfl<|.nl)<|nN<|?_
   have hinvN:=hinv2.expanded (by simp;omega) (by rw [hx2,←ended_eq hwx.thl];assumption) (by rw [hx2,←hmv];intro e9;rw [e9] at hmv0;simp at hmv0) (by rw [hx2];exact hws) (fun hf q hq=>by rw [hx2] at hq⊢;rw [←hmv] at hq⊢;exact hhand hf q (by first|omega|exact absurd (hf.symm.trans (show _=true by assumption)) Bool.false_ne_true))
   have hkeyN:=hkey2;have hhokN:=hhok2;have hlenN:=hlen2;have hsdN:=hsd2
   have helN:ends2.l.length≤16*(i+1):=by omega
   have hiN:i+1≤states2.l.length:=by omega
   have hnl2:states2.l.length≤4001:=by have h9:=hinv2.len;simpa using h9
   intro a131 w131 h131
   refine x_again ⟨_, ?_,(i+1),full2,states2,keys2,heads2,before2,ends2, ?_, ?_, ?_, ?_, ?_, ?_, ?_,h131.nrm ⟨rfl,rfl,trivial⟩ [6,7,8,9,10,11,12,13,14,15] rfl,rfl⟩
   · rw [hm45];omega
   · first|exact hiN|omega
   · first|exact hinvN|exact hinv
   · first|exact hkeyN|exact hkey
   · first|exact hhokN|exact hhok
   · first|exact hlenN|exact hlen
   · first|exact hsdN|exact hsd
   · first|exact helN|omega
  have hn51:full=true:=(Bool.not_eq_false' _).mp hb51
  refine gX<|hK k43<|sG (oM 2 rfl<|.nl)<|gR<|fun a133 w133 h133=>x_ret1 (fn:=Tryz.f26) (t:=4) rfl h133 rfl<|⟨b14,full,_,_,_,states,ends,rfl,hinv.big (by first|exact .inl (by assumption)|exact .inr (by simp;omega)), ?_,(by have h9:=hinv.len;simp at h9;omega),fun o ho b hb=>hsd.en o ho b hb,⟨?_,(by have h9:=hinv.len;simpa using h9),hsd⟩,(h133.sh.sel [0,1,6] rfl)⟩
  · intro hf;first|exact absurd (hf.symm.trans (show _=true by assumption)) Bool.false_ne_true|(refine ⟨hinv.sorted, ?_⟩;rw [hf] at hinv;exact hinv.all (by simp;omega))
  · intro hf;first|exact absurd (hf.symm.trans (show _=true by assumption)) Bool.false_ne_true|(rw [hf] at hinv;exact ⟨hinv.nd,hinv.states (by simp;omega)⟩)
 refine gRn (oKs 5 hb50 rfl rfl<|opF hb50 rfl<|.nl)<|nK k48<|gcF rfl rfl<|gX<|hK k43<|sG (oM 2 rfl<|.nl)<|gR<|fun a135 w135 h135=>x_ret1 (fn:=Tryz.f26) (t:=4) rfl h135 rfl<|⟨b14,full,_,_,_,states,ends,rfl,hinv.big (by first|exact .inl (by assumption)|exact .inr (by simp;omega)), ?_,(by have h9:=hinv.len;simp at h9;omega),fun o ho b hb=>hsd.en o ho b hb,⟨?_,(by have h9:=hinv.len;simpa using h9),hsd⟩,(h135.sh.sel [0,1,6] rfl)⟩
 · intro hf;first|exact absurd (hf.symm.trans (show _=true by assumption)) Bool.false_ne_true|(refine ⟨hinv.sorted, ?_⟩;rw [hf] at hinv;exact hinv.all (by simp;omega))
 · intro hf;first|exact absurd (hf.symm.trans (show _=true by assumption)) Bool.false_ne_true|(rw [hf] at hinv;exact ⟨hinv.nd,hinv.states (by simp;omega)⟩)
def cl5 (x:Cl):List Int:= [x.th,x.at_,x.oth,x.wh,x.wd]
theorem cl5_eq {x y:Cl} :cl5 x=cl5 y↔x=y:=by
 obtain ⟨a,b,c,d,e⟩:=x
 obtain ⟨a',b',c',d',e'⟩:=y
 simp [cl5]
theorem cl5_less {x y:Cl} :lessB (cl5 x) (cl5 y)=lessC x y:=by
 have e:(if x.wd=y.wd then decide (([]:List Int).length<([]:List Int).length) else decide (x.wd<y.wd))=decide (x.wd<y.wd):=by
  split
  ·rename_i h
   rw [h];simp
  ·rfl
 unfold lessC cl5
 simp only [lessB,e]
def PlI (c:Cl)(l:List Cl)(i:Nat)(ol:List Cl)(dn:Bool):Prop:=(∀j,j<i→nth l j≠c)∧
 ((dn=false∧ol=l.take i∧∀j,j<i→lessC c (nth l j)=false)∨(dn=true∧∃k,k<i∧ol=l.take k++ [c]++(l.drop k).take (i-k)∧(∀j,j<k→lessC c (nth l j)=false)∧lessC c (nth l k)=true))
theorem PlI.zero {c:Cl}{l:List Cl} :PlI c l 0 [] false:=⟨fun j h=>by omega, .inl ⟨rfl,rfl,fun j h=>by omega⟩⟩
theorem lt_succ9 {Q:Nat→Prop}{i:Nat}(h:∀j,j<i→Q j)(hi:Q i):∀j,j<i+1→Q j:=fun j hj=>by
 rcases Nat.lt_or_ge j i with h1|h1
 ·exact h j h1
 ·obtain rfl:j=i:=by omega
  exact hi
theorem drop_take9 {l:List Cl}{k i:Nat}(hk:k≤i)(hi:i<l.length):(l.drop k).take (i+1-k)=(l.drop k).take (i-k)++ [nth l i]:=by
 rw [show i+1-k=(i-k)+1 by omega,take_succ_nth _ _ (by rw [List.length_drop];omega)]
 congr 2
 rw [nth_lt _ _ (by rw [List.length_drop];omega),nth_lt _ _ hi,List.getElem_drop]
 congr 1;omega
theorem PlI.no {c:Cl}{l ol:List Cl}{i:Nat}{dn:Bool}(h:PlI c l i ol dn)(hi:i<l.length)(hne:nth l i≠c)(hl:lessC c (nth l i)=false∨dn=true):PlI c l (i+1) (ol++ [nth l i]) dn:=by
 obtain ⟨h1,h2⟩:=h
 refine ⟨lt_succ9 h1 hne, ?_⟩
 rcases h2 with ⟨rfl,rfl,h3⟩|⟨rfl,k,hk,rfl,h3,h4⟩
 ·refine .inl ⟨rfl,(take_succ_nth _ _ hi).symm,lt_succ9 h3 (hl.resolve_right (by decide))⟩
 ·exact .inr ⟨rfl,k,by omega,by rw [drop_take9 (by omega) hi,←List.append_assoc],h3,h4⟩
theorem PlI.yes {c:Cl}{l ol:List Cl}{i:Nat}(h:PlI c l i ol false)(hi:i<l.length)(hne:nth l i≠c)(hl:lessC c (nth l i)=true):PlI c l (i+1) (ol++ [c]++ [nth l i]) true:=by
 obtain ⟨h1,h2⟩:=h
 refine ⟨lt_succ9 h1 hne, ?_⟩
 rcases h2 with ⟨_,rfl,h3⟩|⟨h,_⟩
 ·exact .inr ⟨rfl,i,by omega,by rw [drop_take9 (Nat.le_refl _) hi,Nat.sub_self,List.take_zero,List.nil_append],h3,hl⟩
 ·cases h
theorem PlI.len {c:Cl}{l ol:List Cl}{i:Nat}{dn:Bool}(h:PlI c l i ol dn)(hi:i≤l.length):ol.length≤i+1:=by
 rcases h.2 with ⟨_,rfl,_⟩|⟨_,k,hk,rfl,_⟩
 ·rw [List.length_take];omega
 ·simp only [List.length_append,List.length_take,List.length_drop,List.length_singleton];omega
def PlaceRel (c:Cl)(l s:List Cl):Prop:=(c∈l∧s=l)∨((∀j,j<l.length→nth l j≠c)∧∃k,k≤l.length∧s=l.take k++ [c]++l.drop k∧(∀j,j<k→lessC c (nth l j)=false)∧(k<l.length→lessC c (nth l k)=true))
theorem PlI.end_f {c:Cl}{l ol:List Cl}{i:Nat}(h:PlI c l i ol false)(hi:i=l.length):PlaceRel c l (ol++ [c]):=by
 subst hi
 obtain ⟨h1,h2⟩:=h
 rcases h2 with ⟨_,rfl,h3⟩|⟨h,_⟩
 ·exact .inr ⟨h1,l.length,Nat.le_refl _,by simp,h3,fun h=>absurd h (by omega)⟩
 ·cases h
theorem PlI.end_t {c:Cl}{l ol:List Cl}{i:Nat}(h:PlI c l i ol true)(hi:i=l.length):PlaceRel c l ol:=by
 subst hi
 obtain ⟨h1,h2⟩:=h
 rcases h2 with ⟨h,_⟩|⟨_,k,hk,rfl,h3,h4⟩
 ·cases h
 ·refine .inr ⟨h1,k,by omega, ?_,h3,fun _=>h4⟩
  rw [List.take_of_length_le (l:=l.drop k) (by rw [List.length_drop];omega)]
theorem PlaceRel.len {c:Cl}{l s:List Cl}(h:PlaceRel c l s):s.length≤l.length+1:=by
 rcases h with ⟨_,rfl⟩|⟨_,k,hk,rfl,_⟩
 ·omega
 ·simp;omega
def CR (P:Cl→Prop)(l:List Cl):Prop:=l.Pairwise (fun a b=>lessC a b=true)∧∀c,c∈l↔P c
theorem CR.iff {P Q:Cl→Prop}{l:List Cl}(h:CR P l)(hq:∀c,P c↔Q c):CR Q l:=⟨h.1,fun c=>(h.2 c).trans (hq c)⟩
theorem CR.place {P Q:Cl→Prop}{l s:List Cl}{c:Cl}(h:CR P l)(hr:PlaceRel c l s)(hq:∀d,Q d↔P d∨d=c):CR Q s:=by
 rcases hr with ⟨hc,rfl⟩|⟨hne,k,hk,rfl,h3,h4⟩
 ·refine ⟨h.1,fun d=> ?_⟩
  rw [hq,h.2]
  exact ⟨.inl,fun h1=>h1.elim id fun e=>e▸(h.2 c).1 hc⟩
 ·have hs:∀a∈l.take k,∀b∈l.drop k,lessC a b=true:=by
   have:=h.1
   rw [←List.take_append_drop k l] at this
   exact (List.pairwise_append.1 this).2.2
  have hA:∀a∈l.take k,lessC a c=true:=fun a ha=>by
   obtain ⟨j,hj,rfl⟩:=List.mem_iff_getElem.1 ha
   have hj2:j<k:=by rw [List.length_take] at hj;omega
   have e:(l.take k)[j]=nth l j:=by rw [List.getElem_take,nth_lt _ _ (by omega)]
   rw [e]
   cases e2:lessC (nth l j) c with
   |true=>rfl
   |false=>exact absurd (lessC_tri e2 (h3 j hj2)) (hne j (by omega))
  have hB:∀b∈l.drop k,lessC c b=true:=fun b hb=>by
   obtain ⟨j,hj,rfl⟩:=List.mem_iff_getElem.1 hb
   rw [List.length_drop] at hj
   rw [List.getElem_drop]
   have hk2:k<l.length:=by omega
   have h5:=h4 hk2
   rcases Nat.eq_zero_or_pos j with h0|h0
   ·subst h0;simpa [nth_lt _ _ hk2] using h5
   ·have:=List.pairwise_iff_getElem.1 h.1 k (k+j) hk2 (by omega) (by omega)
    rw [nth_lt _ _ hk2] at h5
    exact lessC_trans h5 this
  refine ⟨?_,fun d=> ?_⟩
  ·rw [List.append_assoc]
   refine List.pairwise_append.2 ⟨(List.Pairwise.sublist (List.take_sublist _ _) h.1), ?_, ?_⟩
   ·exact List.pairwise_cons.2 ⟨hB,List.Pairwise.sublist (List.drop_sublist _ _) h.1⟩
   ·intro a ha b hb
    rcases List.mem_cons.1 hb with rfl|hb
    ·exact hA a ha
    ·exact hs a ha b hb
  ·rw [hq,←h.2]
   have:d∈l↔d∈l.take k∨d∈l.drop k:=by rw [←List.mem_append,List.take_append_drop]
   rw [this,List.append_assoc,List.mem_append,List.singleton_append,List.mem_cons]
   constructor
   ·rintro (h1|rfl|h1)
    ·exact .inl (.inl h1)
    ·exact .inr rfl
    ·exact .inl (.inr h1)
   ·rintro ((h1|h1)|rfl)
    ·exact .inl h1
    ·exact .inr (.inr h1)
    ·exact .inr (.inl rfl)
theorem CR.ext {P:Cl→Prop} :∀ {l m:List Cl},CR P l→CR P m→l=m:=by
 intro l m h1 h2
 have hm:∀c,c∈l↔c∈m:=fun c=>(h1.2 c).trans (h2.2 c).symm
 have key:∀ {l m:List Cl},l.Pairwise (fun a b=>lessC a b=true)→m.Pairwise (fun a b=>lessC a b=true)→(∀c,c∈l↔c∈m)→l=m:=by
  intro l
  induction l with
  |nil=>intro m _ _ h;cases m with
   |nil=>rfl
   |cons b m=>exact absurd ((h b).2 (by simp)) (by simp)
  |cons a l ih=>
   intro m ha hb h
   cases m with
   |nil=>exact absurd ((h a).1 (by simp)) (by simp)
   |cons b m=>
    have ha' :=List.pairwise_cons.1 ha
    have hb' :=List.pairwise_cons.1 hb
    have hab:a=b:=by
     rcases List.mem_cons.1 ((h a).1 (by simp)) with e|e
     ·exact e
     ·rcases List.mem_cons.1 ((h b).2 (by simp)) with e2|e2
      ·exact e2.symm
      ·have:=lessC_trans (ha'.1 b e2) (hb'.1 a e)
       rw [lessC_irr] at this;cases this
    subst hab
    rw [ih ha'.2 hb'.2 fun c=>⟨fun hc=> ?_,fun hc=> ?_⟩]
    ·rcases List.mem_cons.1 ((h c).1 (by simp [hc])) with e|e
     ·subst e;have:=ha'.1 _ hc;rw [lessC_irr] at this;cases this
     ·exact e
    ·rcases List.mem_cons.1 ((h c).2 (by simp [hc])) with e|e
     ·subst e;have:=hb'.1 _ hc;rw [lessC_irr] at this;cases this
     ·exact e
 exact key h1.1 h2.1 hm
def ClUp (p:Pg)(s:MSt)(a j:Nat)(c:Cl):Prop:=(∃x y,x<a∧x<y∧y<p.code.length∧clashAt p s x y=some c)∨∃y,a<y∧y<a+1+j∧clashAt p s a y=some c
def ClOf (p:Pg)(s:MSt)(c:Cl):Prop:=∃x y,x<y∧y<p.code.length∧clashAt p s x y=some c
theorem clUp_0 {p:Pg}{s:MSt}{c:Cl} :¬ClUp p s 0 0 c:=by
 rintro (⟨x,y,h,_⟩|⟨y,h1,h2,_⟩)<;>omega
theorem clUp_j {p:Pg}{s:MSt}{a j:Nat}{c:Cl} :ClUp p s a (j+1) c↔ClUp p s a j c∨clashAt p s a (a+1+j)=some c:=by
 unfold ClUp
 constructor
 ·rintro (h|⟨y,h1,h2,h3⟩)
  ·exact .inl (.inl h)
  ·by_cases e:y=a+1+j
   ·subst e;exact .inr h3
   ·exact .inl (.inr ⟨y,h1,by omega,h3⟩)
 ·rintro ((h|⟨y,h1,h2,h3⟩)|h)
  ·exact .inl h
  ·exact .inr ⟨y,h1,by omega,h3⟩
  ·exact .inr ⟨a+1+j,by omega,by omega,h⟩
theorem clUp_a {p:Pg}{s:MSt}{a j:Nat}{c:Cl}(ha:a<p.code.length)(hj:a+1+j=p.code.length):ClUp p s (a+1) 0 c↔ClUp p s a j c:=by
 unfold ClUp
 constructor
 ·rintro (⟨x,y,h1,h2,h3,h4⟩|⟨y,h1,h2,_⟩)
  ·by_cases e:x=a
   ·subst e;exact .inr ⟨y,h2,by omega,h4⟩
   ·exact .inl ⟨x,y,by omega,h2,h3,h4⟩
  ·omega
 ·rintro (⟨x,y,h1,h2,h3,h4⟩|⟨y,h1,h2,h3⟩)
  ·exact .inl ⟨x,y,by omega,h2,h3,h4⟩
  ·exact .inl ⟨a,y,by omega,h1,by omega,h3⟩
theorem clUp_n {p:Pg}{s:MSt}{a:Nat}{c:Cl}(ha:a=p.code.length):ClUp p s a 0 c↔ClOf p s c:=by
 unfold ClUp ClOf
 constructor
 ·rintro (⟨x,y,h1,h2,h3,h4⟩|⟨y,h1,h2,_⟩)
  ·exact ⟨x,y,h2,h3,h4⟩
  ·omega
 ·rintro ⟨x,y,h2,h3,h4⟩
  exact .inl ⟨x,y,by omega,h2,h3,h4⟩
def ClSt (p:Pg)(S:List MSt)(i:Nat)(c:Cl):Prop:=∃j,j<i∧j<S.length∧ClOf p (nth S j) c
theorem clSt_succ {p:Pg}{S:List MSt}{i:Nat}{c:Cl}(hi:i<S.length):ClSt p S (i+1) c↔ClSt p S i c∨ClOf p (nth S i) c:=by
 unfold ClSt
 constructor
 ·rintro ⟨j,h1,h2,h3⟩
  by_cases e:j=i
  ·subst e;exact .inr h3
  ·exact .inl ⟨j,by omega,h2,h3⟩
 ·rintro (⟨j,h1,h2,h3⟩|h)
  ·exact ⟨j,by omega,h2,h3⟩
  ·exact ⟨i,by omega,hi,h⟩
theorem clSt_n {p:Pg}{S:List MSt}{i:Nat}{c:Cl}(hi:i=S.length)(hS:∀s,s∈S↔Reach p 0 s):ClSt p S i c↔∃s,Reach p 0 s∧∃a b,a<b∧b<p.code.length∧clashAt p s a b=some c:=by
 unfold ClSt
 constructor
 ·rintro ⟨j,_,h2,h3⟩
  exact ⟨_,(hS _).1 (nth_mem _ _ h2),h3⟩
 ·rintro ⟨s,hs,h⟩
  obtain ⟨j,hj,rfl⟩:=List.mem_iff_getElem.1 ((hS s).2 hs)
  exact ⟨j,by omega,hj,by rw [nth_lt _ _ hj];exact h⟩
theorem able9_lt {c:List Ins}{x:TS}(h:ableV c x=true):x.pc<(c.length:Int):=by
 unfold ableV at h
 simp only [Bool.and_eq_true,decide_eq_true_eq] at h
 exact h.1
theorem touch_8c {i:Ins}{regs:List Int}{W:Nat}{b:Bool}(h:i.op=8)(hw:0≤i.b∧i.b<(W:Int))(hb:b=true↔0≤i.b∧i.b<(W:Int)):touchI i regs W=if b=true then some (i.b,false) else none:=by rw [touch_8 h,if_pos (hb.2 hw)]
theorem touch_13c {i:Ins}{regs:List Int}{W:Nat}{b:Bool}(h:i.op=13)(hw:0≤i.a∧i.a<(W:Int))(hb:b=true↔0≤i.a∧i.a<(W:Int)):touchI i regs W=if b=true then some (i.a,false) else none:=by rw [touch_13 h,if_pos (hb.2 hw)]
theorem touch_9c {i:Ins}{regs:List Int}{W:Nat}{b:Bool}(h:i.op=9)(hw:0≤i.a∧i.a<(W:Int))(hb:b=true↔0≤i.a∧i.a<(W:Int)):touchI i regs W=if b=true then some (i.a,true) else none:=by rw [touch_9 h,if_pos (hb.2 hw)]
theorem touches_c (g t:Nat)(code:Ls (Ls Ins))(thr:Ls ThL)(words owner:Ls Int)(pw:Value)(locks regs mode:Int)(pv:Value)(fell:Bool)(W:World)(hB:Blk W g 111 #[code.v,pw, .int .i64 locks, .int .i64 regs, .int .i64 mode,thr.v,words.v,owner.v,pv, .bool fell])(h_code:code.At W)(h_thr:thr.At W)(h_words:words.At W)(h_owner:owner.At W)(htl:thr.l.length=code.l.length)(hpc:∀t,t<code.l.length→0≤(nth thr.l t).pc∧(nth thr.l t).pc≤(nth code.l t).l.length)(hlk:∀t,t<code.l.length→∀i,i<(nth code.l t).l.length→(nth (nth code.l t).l i).op=17→0≤(nth (nth code.l t).l i).a∧(nth (nth code.l t).l i).a<owner.l.length)(ht:t<code.l.length)(hir:(nth thr.l t).pc<((nth code.l t).l.length:Int)→InsR (nth thr.l t).regs.l.length words.l.length owner.l.length (nextIns (nth code.l t).l (nth thr.l t).pc)):
    Rets Tryz.prog 75 [.pointer (some ⟨g,0,none⟩), .int .i64 ((t:Nat):Int)] W (fun v w' =>∃(wd:Int) (st_ ok:Bool),v= .tuple #[.int .i64 wd, .bool st_, .bool ok]∧whereV (nth code.l t).l (⟨(nth thr.l t).pc,(nth thr.l t).regs.l,(nth thr.l t).wait.l,words.l,owner.l, [],false⟩:TS)=(if ok=true then some (wd,st_) else none)∧Sh0 W w' []):=by
 refine gen Tryz.func75 Tryz.ntmps75 (Sh0.ext (by intro A hA;simp only [List.mem_cons,List.not_mem_nil,or_false] at hA;rcases hA with rfl|rfl|rfl|rfl|rfl;exact hB;exact h_code;exact h_thr;exact h_words;exact h_owner) (by intro A hA b hb;simp only [List.mem_cons,List.not_mem_nil,or_false] at hA;rcases hA with rfl|rfl|rfl|rfl|rfl<;>exact hb):Sh (fun _=>False) W W [.rblk g 111 [code.v,pw, .int .i64 locks, .int .i64 regs, .int .i64 mode,thr.v,words.v,owner.v,pv, .bool fell], .at_ code, .at_ thr, .at_ words, .at_ owner]) rfl fun a10 h10=>gG h10<|sG (oM 3 rfl<|.nl)<|sK fun _ k12=>gRn (oM 2 rfl<|.nl)<|gC (fun _ _ h_=>xCl h_ bd_109 rfl (able_c g t code thr owner _ _ _ _ _ _ _ _ (h_.sh.rblk 0 rfl) (h_.sh.at 1 rfl) (h_.sh.at 2 rfl) (h_.sh.at 4 rfl) ht htl (fun t ht=>(hpc t ht).1) (hlk t ht))) rfl<|?_;clear h10
 rintro _ _ w13 ⟨rfl,hs13⟩
 refine gWk hs13 rfl<|gU<|gRn (oM 1 rfl<|.nl)<|nK k12<|gK fun _ k14=>sG (oM 1 rfl<|ont rfl<|.nl)<|?_;clear hs13
 refine gCb rfl (fun hb16=> ?_) fun hb16=> ?_
 ·have hn16:ableT code thr owner.l t=false:=(Bool.not_eq_true' _).mp hb16
  have ha:ableV (nth code.l t).l (⟨(nth thr.l t).pc,(nth thr.l t).regs.l,(nth thr.l t).wait.l,words.l,owner.l, [],false⟩:TS)=false:=hn16
  refine sG (oM 3 rfl<|.nl)<|gR<|uT<|fun a18 w18 h18=>x_ret3 (fn:=Tryz.f75) (t:=4) (u:=5) (t3:=6) rfl h18 rfl rfl rfl<|⟨0,false,false,rfl, ?_,(h18.sh.sel [] rfl)⟩
  first|(exfalso;omega)|(rw [where_no ha];rfl)|(rw [where_yes ha];show touchI (nextIns (nth code.l t).l (nth thr.l t).pc) (nth thr.l t).regs.l words.l.length=_;rw [←hins];first|exact touch_8c (i:=ins) (by omega) (hi9.o8 (by omega)).2 (by first|(simp;done)|(simp;omega))|exact touch_9c (i:=ins) (by omega) (hi9.o9 (by omega)).1 (by first|(simp;done)|(simp;omega))|exact touch_13c (i:=ins) (by omega) (hi9.o13 (by omega)).1 (by first|(simp;done)|(simp;omega))|exact touch_none (i:=ins) (by omega) (by omega) (by omega) (by omega) (by omega)|exact touch_10 (i:=ins) (by omega) (by first|(simp;done)|(simp;omega))|exact touch_11 (i:=ins) (by omega) (by first|(simp;done)|(simp;omega)))
 have hn16:ableT code thr owner.l t=true:=(Bool.not_eq_false' _).mp hb16
 have ha:ableV (nth code.l t).l (⟨(nth thr.l t).pc,(nth thr.l t).regs.l,(nth thr.l t).wait.l,words.l,owner.l, [],false⟩:TS)=true:=hn16
 have hi9:=hir (able9_lt ha)
 refine gS<|hK k14<|sK fun _ k19=>gRn (oM 2 rfl<|.nl)<|fun a21 w21 h21=>wl_ex (x_call h21 bd_108 rfl rfl rfl rfl rfl (next_c g t code ⟨thr.v,thr.l.map ThL.toV⟩ _ _ _ _ _ _ _ _ _ (h21.sh.rblk 0 rfl) (h21.sh.at 1 rfl) (ThL.atV (h21.sh.at 2 rfl)) ht (by simp;omega) (by rw [nth_map' _ _ _ (by omega)];exact (hpc t ht).1))) (wanted_none rfl _) ?_
 rintro a22 w22 ⟨_,⟨hv22,hs22⟩,hf22⟩
 rw [nth_map' _ _ _ (show t<thr.l.length from by omega),show (ThL.toV (nth thr.l t)).pc=(nth thr.l t).pc from rfl] at hv22
 obtain ⟨ins,hins⟩:∃i,i=(nextIns (nth code.l t).l (nth thr.l t).pc):=⟨_,rfl⟩
 rw [←hins] at hv22
 subst hv22
 rw [←hins] at hi9
 have h22:St 73 (fun _=>False) W a22 w22 _ _:=⟨hf22,h21.sh.call0 hs22⟩
 clear hf22 hs22
 clear h21
 refine gG h22<|gRn (oM 1 rfl<|oxt rfl<|oxt rfl<|.nl)<|gal ti_32 rfl fun b23=>gsw 0 ti_32 rfl rfl rfl<|gRn (oM 1 rfl<|.nl)<|nK k19<|sK fun _ k25=>gNl (aA 3 rfl) fun hl26=>gRn (oM 1 rfl<|onf fl_111_2 rfl<|olR 1 ti_109 rfl rfl<|oM 1 rfl<|oxN sl_109 ti_119 (aA 3 rfl) _ om9 rfl<|ofE fl_119_1 rfl<|olE (((nth thr.l t).regs).v) ti_23 (aA 3 rfl) om9 rfl<|oM 1 rfl<|.nl)<|nK k25<|gF [0,8,10] rfl<|sG (oM 1 rfl<|.nl)<|sG (oM 1 rfl<|.nl)<|gK fun _ k29=>sG (ofB fl_32_0 rfl<|olB 0 ti_3 rfl rfl<|.nl)<|gB<|sG (oeqI _ _ rfl<|oM 1 rfl<|.nl)<|?_;clear h22
 refine gcd rfl (fun hb32 hp32=> ?_) fun hb32 hp32=> ?_
 ·skip
  refine gL<|gRn (ofB fl_32_2 rfl<|olB 0 ti_3 rfl rfl<|oM 1 rfl<|.nl)<|nK k29<|gK fun _ k33=>fun a34 w34 h34=>x_quiet (by kernel_rfl) (by kernel_rfl) h34 fun _ z35=>qQ h34.fr<|qRn (oM 3 rfl<|ogeI _ _ rfl<|oM 1 rfl<|.nl)<|?_
  rcases dsp (0≤ins.b) with ⟨hb36,hp36⟩|⟨hb36,hp36⟩
  ·skip
   refine qRn (oG hb36 (r_move rfl rfl) rfl<|oG hb36 (r_move rfl rfl) rfl<|oG hb36 (r_nil rfl rfl) rfl<|oG hb36 (r_fieldB (r:=6) fl_111_3 rfl rfl rfl) rfl<|oG hb36 (r_ldbR ti_23 rfl rfl (fun w h=>h.rblk 1 rfl) rfl) rfl<|.nl)<|?_
   have hl43:words.l.length≤140737488355328:=(h34.sh.at 4 rfl).len
   refine qRn (oG hb36 (r_len (s:=words) (n:=words.l.length) sl_23 rfl rfl (fun w h=>(h.at 4 rfl)) rfl) rfl<|oG hb36 (r_lssI (p:=ins.b) (q:=((words.l.length:Nat):Int)) rfl rfl rfl) rfl<|opT hb36 rfl<|oM 3 rfl<|.nl)<|qN z35<|?_;clear h34
   refine hK k33<|gF [4,5,6] rfl<|gR<|fun a45 w45 h45=>x_ret3 (fn:=Tryz.f75) (t:=4) (u:=5) (t3:=6) rfl h45 rfl rfl rfl<|⟨ins.b,false,decide (ins.b<((words.l.length:Nat):Int)),rfl, ?_,(h45.sh.sel [] rfl)⟩
   first|(exfalso;omega)|(rw [where_no ha];rfl)|(rw [where_yes ha];show touchI (nextIns (nth code.l t).l (nth thr.l t).pc) (nth thr.l t).regs.l words.l.length=_;rw [←hins];first|exact touch_8c (i:=ins) (by omega) (hi9.o8 (by omega)).2 (by first|(simp;done)|(simp;omega))|exact touch_9c (i:=ins) (by omega) (hi9.o9 (by omega)).1 (by first|(simp;done)|(simp;omega))|exact touch_13c (i:=ins) (by omega) (hi9.o13 (by omega)).1 (by first|(simp;done)|(simp;omega))|exact touch_none (i:=ins) (by omega) (by omega) (by omega) (by omega) (by omega)|exact touch_10 (i:=ins) (by omega) (by first|(simp;done)|(simp;omega))|exact touch_11 (i:=ins) (by omega) (by first|(simp;done)|(simp;omega)))
  refine qRn (oKs 7 hb36 rfl rfl<|opF hb36 rfl<|oM 3 rfl<|.nl)<|qN z35<|?_;clear h34
  refine hK k33<|gF [4,5,6] rfl<|gR<|fun a47 w47 h47=>x_ret3 (fn:=Tryz.f75) (t:=4) (u:=5) (t3:=6) rfl h47 rfl rfl rfl<|⟨ins.b,false,false,rfl, ?_,(h47.sh.sel [] rfl)⟩
  first|(exfalso;omega)|(rw [where_no ha];rfl)|(rw [where_yes ha];show touchI (nextIns (nth code.l t).l (nth thr.l t).pc) (nth thr.l t).regs.l words.l.length=_;rw [←hins];first|exact touch_8c (i:=ins) (by omega) (hi9.o8 (by omega)).2 (by first|(simp;done)|(simp;omega))|exact touch_9c (i:=ins) (by omega) (hi9.o9 (by omega)).1 (by first|(simp;done)|(simp;omega))|exact touch_13c (i:=ins) (by omega) (hi9.o13 (by omega)).1 (by first|(simp;done)|(simp;omega))|exact touch_none (i:=ins) (by omega) (by omega) (by omega) (by omega) (by omega)|exact touch_10 (i:=ins) (by omega) (by first|(simp;done)|(simp;omega))|exact touch_11 (i:=ins) (by omega) (by first|(simp;done)|(simp;omega)))
 refine sG (oeqI _ _ rfl<|oM 1 rfl<|.nl)<|gcd rfl (fun hb49 hp49=> ?_) fun hb49 hp49=> ?_
 ·skip
  refine gL<|gRn (ofB fl_32_1 rfl<|olB 0 ti_3 rfl rfl<|oM 1 rfl<|.nl)<|nK k29<|gK fun _ k50=>fun a51 w51 h51=>x_quiet (by kernel_rfl) (by kernel_rfl) h51 fun _ z52=>qQ h51.fr<|qRn (oM 3 rfl<|ogeI _ _ rfl<|oM 1 rfl<|.nl)<|?_
  rcases dsp (0≤ins.a) with ⟨hb53,hp53⟩|⟨hb53,hp53⟩
  ·skip
   refine qRn (oG hb53 (r_move rfl rfl) rfl<|oG hb53 (r_move rfl rfl) rfl<|oG hb53 (r_nil rfl rfl) rfl<|oG hb53 (r_fieldB (r:=6) fl_111_3 rfl rfl rfl) rfl<|oG hb53 (r_ldbR ti_23 rfl rfl (fun w h=>h.rblk 1 rfl) rfl) rfl<|.nl)<|?_
   have hl60:words.l.length≤140737488355328:=(h51.sh.at 4 rfl).len
   refine qRn (oG hb53 (r_len (s:=words) (n:=words.l.length) sl_23 rfl rfl (fun w h=>(h.at 4 rfl)) rfl) rfl<|oG hb53 (r_lssI (p:=ins.a) (q:=((words.l.length:Nat):Int)) rfl rfl rfl) rfl<|opT hb53 rfl<|oM 3 rfl<|.nl)<|qN z52<|?_;clear h51
   refine hK k50<|gF [4,5,6] rfl<|gR<|fun a62 w62 h62=>x_ret3 (fn:=Tryz.f75) (t:=4) (u:=5) (t3:=6) rfl h62 rfl rfl rfl<|⟨ins.a,false,decide (ins.a<((words.l.length:Nat):Int)),rfl, ?_,(h62.sh.sel [] rfl)⟩
   first|(exfalso;omega)|(rw [where_no ha];rfl)|(rw [where_yes ha];show touchI (nextIns (nth code.l t).l (nth thr.l t).pc) (nth thr.l t).regs.l words.l.length=_;rw [←hins];first|exact touch_8c (i:=ins) (by omega) (hi9.o8 (by omega)).2 (by first|(simp;done)|(simp;omega))|exact touch_9c (i:=ins) (by omega) (hi9.o9 (by omega)).1 (by first|(simp;done)|(simp;omega))|exact touch_13c (i:=ins) (by omega) (hi9.o13 (by omega)).1 (by first|(simp;done)|(simp;omega))|exact touch_none (i:=ins) (by omega) (by omega) (by omega) (by omega) (by omega)|exact touch_10 (i:=ins) (by omega) (by first|(simp;done)|(simp;omega))|exact touch_11 (i:=ins) (by omega) (by first|(simp;done)|(simp;omega)))
  refine qRn (oKs 7 hb53 rfl rfl<|opF hb53 rfl<|oM 3 rfl<|.nl)<|qN z52<|?_;clear h51
  refine hK k50<|gF [4,5,6] rfl<|gR<|fun a64 w64 h64=>x_ret3 (fn:=Tryz.f75) (t:=4) (u:=5) (t3:=6) rfl h64 rfl rfl rfl<|⟨ins.a,false,false,rfl, ?_,(h64.sh.sel [] rfl)⟩
  first|(exfalso;omega)|(rw [where_no ha];rfl)|(rw [where_yes ha];show touchI (nextIns (nth code.l t).l (nth thr.l t).pc) (nth thr.l t).regs.l words.l.length=_;rw [←hins];first|exact touch_8c (i:=ins) (by omega) (hi9.o8 (by omega)).2 (by first|(simp;done)|(simp;omega))|exact touch_9c (i:=ins) (by omega) (hi9.o9 (by omega)).1 (by first|(simp;done)|(simp;omega))|exact touch_13c (i:=ins) (by omega) (hi9.o13 (by omega)).1 (by first|(simp;done)|(simp;omega))|exact touch_none (i:=ins) (by omega) (by omega) (by omega) (by omega) (by omega)|exact touch_10 (i:=ins) (by omega) (by first|(simp;done)|(simp;omega))|exact touch_11 (i:=ins) (by omega) (by first|(simp;done)|(simp;omega)))
 refine sG (oeqI _ _ rfl<|oM 1 rfl<|.nl)<|gcd rfl (fun hb66 hp66=> ?_) fun hb66 hp66=> ?_
 ·skip
  refine sG (ofB fl_32_1 rfl<|olB 0 ti_3 rfl rfl<|oM 1 rfl<|.nl)<|gL<|gRn (oM 1 rfl<|.nl)<|nK k29<|gK fun _ k68=>fun a69 w69 h69=>x_quiet (by kernel_rfl) (by kernel_rfl) h69 fun _ z70=>qQ h69.fr<|qRn (oM 3 rfl<|ogeI _ _ rfl<|oM 1 rfl<|.nl)<|?_
  rcases dsp (0≤ins.a) with ⟨hb71,hp71⟩|⟨hb71,hp71⟩
  ·skip
   refine qRn (oG hb71 (r_move rfl rfl) rfl<|oG hb71 (r_move rfl rfl) rfl<|oG hb71 (r_nil rfl rfl) rfl<|oG hb71 (r_fieldB (r:=6) fl_111_3 rfl rfl rfl) rfl<|oG hb71 (r_ldbR ti_23 rfl rfl (fun w h=>h.rblk 1 rfl) rfl) rfl<|.nl)<|?_
   have hl78:words.l.length≤140737488355328:=(h69.sh.at 4 rfl).len
   refine qRn (oG hb71 (r_len (s:=words) (n:=words.l.length) sl_23 rfl rfl (fun w h=>(h.at 4 rfl)) rfl) rfl<|oG hb71 (r_lssI (p:=ins.a) (q:=((words.l.length:Nat):Int)) rfl rfl rfl) rfl<|opT hb71 rfl<|oM 3 rfl<|.nl)<|qN z70<|?_;clear h69
   refine hK k68<|gF [4,5,6] rfl<|gR<|fun a80 w80 h80=>x_ret3 (fn:=Tryz.f75) (t:=4) (u:=5) (t3:=6) rfl h80 rfl rfl rfl<|⟨ins.a,true,decide (ins.a<((words.l.length:Nat):Int)),rfl, ?_,(h80.sh.sel [] rfl)⟩
   first|(exfalso;omega)|(rw [where_no ha];rfl)|(rw [where_yes ha];show touchI (nextIns (nth code.l t).l (nth thr.l t).pc) (nth thr.l t).regs.l words.l.length=_;rw [←hins];first|exact touch_8c (i:=ins) (by omega) (hi9.o8 (by omega)).2 (by first|(simp;done)|(simp;omega))|exact touch_9c (i:=ins) (by omega) (hi9.o9 (by omega)).1 (by first|(simp;done)|(simp;omega))|exact touch_13c (i:=ins) (by omega) (hi9.o13 (by omega)).1 (by first|(simp;done)|(simp;omega))|exact touch_none (i:=ins) (by omega) (by omega) (by omega) (by omega) (by omega)|exact touch_10 (i:=ins) (by omega) (by first|(simp;done)|(simp;omega))|exact touch_11 (i:=ins) (by omega) (by first|(simp;done)|(simp;omega)))
  refine qRn (oKs 7 hb71 rfl rfl<|opF hb71 rfl<|oM 3 rfl<|.nl)<|qN z70<|?_;clear h69
  refine hK k68<|gF [4,5,6] rfl<|gR<|fun a82 w82 h82=>x_ret3 (fn:=Tryz.f75) (t:=4) (u:=5) (t3:=6) rfl h82 rfl rfl rfl<|⟨ins.a,true,false,rfl, ?_,(h82.sh.sel [] rfl)⟩
  first|(exfalso;omega)|(rw [where_no ha];rfl)|(rw [where_yes ha];show touchI (nextIns (nth code.l t).l (nth thr.l t).pc) (nth thr.l t).regs.l words.l.length=_;rw [←hins];first|exact touch_8c (i:=ins) (by omega) (hi9.o8 (by omega)).2 (by first|(simp;done)|(simp;omega))|exact touch_9c (i:=ins) (by omega) (hi9.o9 (by omega)).1 (by first|(simp;done)|(simp;omega))|exact touch_13c (i:=ins) (by omega) (hi9.o13 (by omega)).1 (by first|(simp;done)|(simp;omega))|exact touch_none (i:=ins) (by omega) (by omega) (by omega) (by omega) (by omega)|exact touch_10 (i:=ins) (by omega) (by first|(simp;done)|(simp;omega))|exact touch_11 (i:=ins) (by omega) (by first|(simp;done)|(simp;omega)))
 refine sG (oeqI _ _ rfl<|oM 1 rfl<|.nl)<|gcd rfl (fun hb84 hp84=> ?_) fun hb84 hp84=> ?_
 ·skip
  have hix:=(hi9.o10 (by omega)).2
  refine gL<|gNl (fun w h=>((h.at 3 rfl).inner t (show t<thr.l.length from (by omega))).1) fun (hl85:(((nth thr.l t).regs).l).length≤140737488355328)=>gRn (oM 1 rfl<|ofB fl_32_2 rfl<|olB 0 ti_3 rfl rfl<|oxI sl_23 ti_3 (fun w h=>((h.at 3 rfl).inner t (show t<thr.l.length from (by omega))).1) om9 rfl<|olE (.int .i64 (nth (((nth thr.l t).regs).l) ins.b.toNat)) ti_3 (fun w h=>((h.at 3 rfl).inner t (show t<thr.l.length from (by omega))).1) om9 rfl<|oM 1 rfl<|.nl)<|nK k29<|gK fun _ k86=>fun a87 w87 h87=>x_quiet (by kernel_rfl) (by kernel_rfl) h87 fun _ z88=>qQ h87.fr<|qRn (oM 3 rfl<|ogeI _ _ rfl<|oM 1 rfl<|.nl)<|?_
  rcases dsp (0≤nth (((nth thr.l t).regs).l) ins.b.toNat) with ⟨hb89,hp89⟩|⟨hb89,hp89⟩
  ·skip
   refine qRn (oG hb89 (r_move rfl rfl) rfl<|oG hb89 (r_move rfl rfl) rfl<|oG hb89 (r_nil rfl rfl) rfl<|oG hb89 (r_fieldB (r:=6) fl_111_3 rfl rfl rfl) rfl<|oG hb89 (r_ldbR ti_23 rfl rfl (fun w h=>h.rblk 1 rfl) rfl) rfl<|.nl)<|?_
   have hl96:words.l.length≤140737488355328:=(h87.sh.at 4 rfl).len
   refine qRn (oG hb89 (r_len (s:=words) (n:=words.l.length) sl_23 rfl rfl (fun w h=>(h.at 4 rfl)) rfl) rfl<|oG hb89 (r_lssI (p:=nth (((nth thr.l t).regs).l) ins.b.toNat) (q:=((words.l.length:Nat):Int)) rfl rfl rfl) rfl<|opT hb89 rfl<|oM 3 rfl<|.nl)<|qN z88<|?_;clear h87
   refine hK k86<|gF [4,5,6] rfl<|gR<|fun a98 w98 h98=>x_ret3 (fn:=Tryz.f75) (t:=4) (u:=5) (t3:=6) rfl h98 rfl rfl rfl<|⟨nth (((nth thr.l t).regs).l) ins.b.toNat,false,decide (nth (((nth thr.l t).regs).l) ins.b.toNat<((words.l.length:Nat):Int)),rfl, ?_,(h98.sh.sel [] rfl)⟩
   first|(exfalso;omega)|(rw [where_no ha];rfl)|(rw [where_yes ha];show touchI (nextIns (nth code.l t).l (nth thr.l t).pc) (nth thr.l t).regs.l words.l.length=_;rw [←hins];first|exact touch_8c (i:=ins) (by omega) (hi9.o8 (by omega)).2 (by first|(simp;done)|(simp;omega))|exact touch_9c (i:=ins) (by omega) (hi9.o9 (by omega)).1 (by first|(simp;done)|(simp;omega))|exact touch_13c (i:=ins) (by omega) (hi9.o13 (by omega)).1 (by first|(simp;done)|(simp;omega))|exact touch_none (i:=ins) (by omega) (by omega) (by omega) (by omega) (by omega)|exact touch_10 (i:=ins) (by omega) (by first|(simp;done)|(simp;omega))|exact touch_11 (i:=ins) (by omega) (by first|(simp;done)|(simp;omega)))
  refine qRn (oKs 7 hb89 rfl rfl<|opF hb89 rfl<|oM 3 rfl<|.nl)<|qN z88<|?_;clear h87
  refine hK k86<|gF [4,5,6] rfl<|gR<|fun a100 w100 h100=>x_ret3 (fn:=Tryz.f75) (t:=4) (u:=5) (t3:=6) rfl h100 rfl rfl rfl<|⟨nth (((nth thr.l t).regs).l) ins.b.toNat,false,false,rfl, ?_,(h100.sh.sel [] rfl)⟩
  first|(exfalso;omega)|(rw [where_no ha];rfl)|(rw [where_yes ha];show touchI (nextIns (nth code.l t).l (nth thr.l t).pc) (nth thr.l t).regs.l words.l.length=_;rw [←hins];first|exact touch_8c (i:=ins) (by omega) (hi9.o8 (by omega)).2 (by first|(simp;done)|(simp;omega))|exact touch_9c (i:=ins) (by omega) (hi9.o9 (by omega)).1 (by first|(simp;done)|(simp;omega))|exact touch_13c (i:=ins) (by omega) (hi9.o13 (by omega)).1 (by first|(simp;done)|(simp;omega))|exact touch_none (i:=ins) (by omega) (by omega) (by omega) (by omega) (by omega)|exact touch_10 (i:=ins) (by omega) (by first|(simp;done)|(simp;omega))|exact touch_11 (i:=ins) (by omega) (by first|(simp;done)|(simp;omega)))
 refine sG (oeqI _ _ rfl<|oM 1 rfl<|.nl)<|gcd rfl (fun hb102 hp102=> ?_) fun hb102 hp102=> ?_
 ·skip
  have hix:=(hi9.o10 (by omega)).1
  refine sK fun _ k103=>gNl (fun w h=>((h.at 3 rfl).inner t (show t<thr.l.length from (by omega))).1) fun (hl104:(((nth thr.l t).regs).l).length≤140737488355328)=>gRn (oM 1 rfl<|ofB fl_32_1 rfl<|olB 0 ti_3 rfl rfl<|oxI sl_23 ti_3 (fun w h=>((h.at 3 rfl).inner t (show t<thr.l.length from (by omega))).1) om9 rfl<|olE (.int .i64 (nth (((nth thr.l t).regs).l) ins.a.toNat)) ti_3 (fun w h=>((h.at 3 rfl).inner t (show t<thr.l.length from (by omega))).1) om9 rfl<|oM 1 rfl<|.nl)<|nK k103<|gL<|gRn (oM 1 rfl<|.nl)<|nK k29<|gK fun _ k105=>fun a106 w106 h106=>x_quiet (by kernel_rfl) (by kernel_rfl) h106 fun _ z107=>qQ h106.fr<|qRn (oM 3 rfl<|ogeI _ _ rfl<|oM 1 rfl<|.nl)<|?_
  rcases dsp (0≤nth (((nth thr.l t).regs).l) ins.a.toNat) with ⟨hb108,hp108⟩|⟨hb108,hp108⟩
  ·skip
   refine qRn (oG hb108 (r_move rfl rfl) rfl<|oG hb108 (r_move rfl rfl) rfl<|oG hb108 (r_nil rfl rfl) rfl<|oG hb108 (r_fieldB (r:=6) fl_111_3 rfl rfl rfl) rfl<|oG hb108 (r_ldbR ti_23 rfl rfl (fun w h=>h.rblk 1 rfl) rfl) rfl<|.nl)<|?_
   have hl115:words.l.length≤140737488355328:=(h106.sh.at 4 rfl).len
   refine qRn (oG hb108 (r_len (s:=words) (n:=words.l.length) sl_23 rfl rfl (fun w h=>(h.at 4 rfl)) rfl) rfl<|oG hb108 (r_lssI (p:=nth (((nth thr.l t).regs).l) ins.a.toNat) (q:=((words.l.length:Nat):Int)) rfl rfl rfl) rfl<|opT hb108 rfl<|oM 3 rfl<|.nl)<|qN z107<|?_;clear h106
   refine hK k105<|gF [4,5,6] rfl<|gR<|fun a117 w117 h117=>x_ret3 (fn:=Tryz.f75) (t:=4) (u:=5) (t3:=6) rfl h117 rfl rfl rfl<|⟨nth (((nth thr.l t).regs).l) ins.a.toNat,true,decide (nth (((nth thr.l t).regs).l) ins.a.toNat<((words.l.length:Nat):Int)),rfl, ?_,(h117.sh.sel [] rfl)⟩
   first|(exfalso;omega)|(rw [where_no ha];rfl)|(rw [where_yes ha];show touchI (nextIns (nth code.l t).l (nth thr.l t).pc) (nth thr.l t).regs.l words.l.length=_;rw [←hins];first|exact touch_8c (i:=ins) (by omega) (hi9.o8 (by omega)).2 (by first|(simp;done)|(simp;omega))|exact touch_9c (i:=ins) (by omega) (hi9.o9 (by omega)).1 (by first|(simp;done)|(simp;omega))|exact touch_13c (i:=ins) (by omega) (hi9.o13 (by omega)).1 (by first|(simp;done)|(simp;omega))|exact touch_none (i:=ins) (by omega) (by omega) (by omega) (by omega) (by omega)|exact touch_10 (i:=ins) (by omega) (by first|(simp;done)|(simp;omega))|exact touch_11 (i:=ins) (by omega) (by first|(simp;done)|(simp;omega)))
  refine qRn (oKs 7 hb108 rfl rfl<|opF hb108 rfl<|oM 3 rfl<|.nl)<|qN z107<|?_;clear h106
  refine hK k105<|gF [4,5,6] rfl<|gR<|fun a119 w119 h119=>x_ret3 (fn:=Tryz.f75) (t:=4) (u:=5) (t3:=6) rfl h119 rfl rfl rfl<|⟨nth (((nth thr.l t).regs).l) ins.a.toNat,true,false,rfl, ?_,(h119.sh.sel [] rfl)⟩
  first|(exfalso;omega)|(rw [where_no ha];rfl)|(rw [where_yes ha];show touchI (nextIns (nth code.l t).l (nth thr.l t).pc) (nth thr.l t).regs.l words.l.length=_;rw [←hins];first|exact touch_8c (i:=ins) (by omega) (hi9.o8 (by omega)).2 (by first|(simp;done)|(simp;omega))|exact touch_9c (i:=ins) (by omega) (hi9.o9 (by omega)).1 (by first|(simp;done)|(simp;omega))|exact touch_13c (i:=ins) (by omega) (hi9.o13 (by omega)).1 (by first|(simp;done)|(simp;omega))|exact touch_none (i:=ins) (by omega) (by omega) (by omega) (by omega) (by omega)|exact touch_10 (i:=ins) (by omega) (by first|(simp;done)|(simp;omega))|exact touch_11 (i:=ins) (by omega) (by first|(simp;done)|(simp;omega)))
 refine gS<|hK k29<|gK fun _ k120=>fun a121 w121 h121=>x_quiet (by kernel_rfl) (by kernel_rfl) h121 fun _ z122=>qQ h121.fr<|qRn (oM 3 rfl<|ogeI _ _ rfl<|oM 1 rfl<|.nl)<|?_
 rcases dsp (0≤(-1)) with ⟨hb123,hp123⟩|⟨hb123,hp123⟩
 ·skip
  refine qRn (oG hb123 (r_move rfl rfl) rfl<|oG hb123 (r_move rfl rfl) rfl<|oG hb123 (r_nil rfl rfl) rfl<|oG hb123 (r_fieldB (r:=6) fl_111_3 rfl rfl rfl) rfl<|oG hb123 (r_ldbR ti_23 rfl rfl (fun w h=>h.rblk 1 rfl) rfl) rfl<|.nl)<|?_
  have hl130:words.l.length≤140737488355328:=(h121.sh.at 4 rfl).len
  refine qRn (oG hb123 (r_len (s:=words) (n:=words.l.length) sl_23 rfl rfl (fun w h=>(h.at 4 rfl)) rfl) rfl<|oG hb123 (r_lssI (p:=(-1)) (q:=((words.l.length:Nat):Int)) rfl rfl rfl) rfl<|opT hb123 rfl<|oM 3 rfl<|.nl)<|qN z122<|?_;clear h121
  refine hK k120<|gF [4,5,6] rfl<|gR<|fun a132 w132 h132=>x_ret3 (fn:=Tryz.f75) (t:=4) (u:=5) (t3:=6) rfl h132 rfl rfl rfl<|⟨(-1),false,decide ((-1)<((words.l.length:Nat):Int)),rfl, ?_,(h132.sh.sel [] rfl)⟩
  first|(exfalso;omega)|(rw [where_no ha];rfl)|(rw [where_yes ha];show touchI (nextIns (nth code.l t).l (nth thr.l t).pc) (nth thr.l t).regs.l words.l.length=_;rw [←hins];first|exact touch_8c (i:=ins) (by omega) (hi9.o8 (by omega)).2 (by first|(simp;done)|(simp;omega))|exact touch_9c (i:=ins) (by omega) (hi9.o9 (by omega)).1 (by first|(simp;done)|(simp;omega))|exact touch_13c (i:=ins) (by omega) (hi9.o13 (by omega)).1 (by first|(simp;done)|(simp;omega))|exact touch_none (i:=ins) (by omega) (by omega) (by omega) (by omega) (by omega)|exact touch_10 (i:=ins) (by omega) (by first|(simp;done)|(simp;omega))|exact touch_11 (i:=ins) (by omega) (by first|(simp;done)|(simp;omega)))
 refine qRn (oKs 7 hb123 rfl rfl<|opF hb123 rfl<|oM 3 rfl<|.nl)<|qN z122<|?_;clear h121
 refine hK k120<|gF [4,5,6] rfl<|gR<|fun a134 w134 h134=>x_ret3 (fn:=Tryz.f75) (t:=4) (u:=5) (t3:=6) rfl h134 rfl rfl rfl<|⟨(-1),false,false,rfl, ?_,(h134.sh.sel [] rfl)⟩
 first|(exfalso;omega)|(rw [where_no ha];rfl)|(rw [where_yes ha];show touchI (nextIns (nth code.l t).l (nth thr.l t).pc) (nth thr.l t).regs.l words.l.length=_;rw [←hins];first|exact touch_8c (i:=ins) (by omega) (hi9.o8 (by omega)).2 (by first|(simp;done)|(simp;omega))|exact touch_9c (i:=ins) (by omega) (hi9.o9 (by omega)).1 (by first|(simp;done)|(simp;omega))|exact touch_13c (i:=ins) (by omega) (hi9.o13 (by omega)).1 (by first|(simp;done)|(simp;omega))|exact touch_none (i:=ins) (by omega) (by omega) (by omega) (by omega) (by omega)|exact touch_10 (i:=ins) (by omega) (by first|(simp;done)|(simp;omega))|exact touch_11 (i:=ins) (by omega) (by first|(simp;done)|(simp;omega)))
theorem list_c (x:Cl)(W:World):
    Rets Tryz.prog 117 [.agg #[.int .i64 x.th, .int .i64 x.at_, .int .i64 x.oth, .int .i64 x.wh, .int .i64 x.wd]] W (fun v w' =>∃s:Ls Int,v=s.v∧s.l=cl5 x∧Sh0 W w' [.own 3 s]):=by
 refine gen Tryz.func117 Tryz.ntmps117 (Sh0.start _:Sh (fun _=>False) W W []) rfl fun a10 h10=>gG h10<|sK fun _ k11=>gbx rfl rfl fun b12=>gRn (oM 1 rfl<|.nl)<|nK k11<|sK fun _ k13=>gRn (ofB fl_58_0 rfl<|olB 0 ti_3 rfl rfl<|ofB fl_58_1 rfl<|olB 0 ti_3 rfl rfl<|ofB fl_58_2 rfl<|olB 0 ti_3 rfl rfl<|ofB fl_58_3 rfl<|olB 0 ti_3 rfl rfl<|ofB fl_58_4 rfl<|olB 0 ti_3 rfl rfl<|.nl)<|gE1 (fun _ _ h_=>x_lit (n:=5) (cs:= [.int .i64 x.th, .int .i64 x.at_, .int .i64 x.oth, .int .i64 x.wh, .int .i64 x.wd]) ([x.th,x.at_,x.oth,x.wh,x.wd]:List Int) h_ sl_23 ti_3 rfl rfl rfl (by decide) rfl (by kernel_rfl) rfl (fun q hq w h=>Flat.inner _ _) (fun q hq b hb=>(Flat.on _ _ hb).elim) rfl rfl) rfl fun v14=>gRn (oM 1 rfl<|.nl)<|nK k13<|gR<|fun a15 w15 h15=>x_ret1 (fn:=Tryz.f117) (t:=2) rfl h15 rfl ?_;clear h10
 exact ⟨⟨v14, [x.th,x.at_,x.oth,x.wh,x.wd]⟩,rfl,rfl,(h15.sh.sel [0] rfl)⟩
theorem place_c (K:Nat→Prop)(l:Ls Cl)(c:Cl)(W:World)(hS:Sh K W W [.own 58 l])(hll:l.l.length≤1000000):
    Rets Tryz.prog 76 [l.v, .agg #[.int .i64 c.th, .int .i64 c.at_, .int .i64 c.oth, .int .i64 c.wh, .int .i64 c.wd]] W (fun v w' =>∃s:Ls Cl,v=s.v∧PlaceRel c l.l s.l∧Sh K W w' [.own 58 s]):=by
 refine gen Tryz.func76 Tryz.ntmps76 hS rfl fun a10 h10=>gG h10<|sK fun _ k11=>gbx rfl rfl fun b12=>gRn (oM 1 rfl<|.nl)<|nK k11<|sG (oM 1 rfl<|.nl)<|sG (oM 1 rfl<|.nl)<|sK fun _ k15=>gRn (olw 0 ti_58 rfl rfl<|.nl)<|gC (fun _ _ h_=>xCl h_ bd_117 rfl (list_c c _)) rfl<|?_;clear h10
 rintro _ _ w16 ⟨s16,rfl,hsl16,hs16⟩
 refine gWk hs16 rfl<|gU<|gRn (oM 1 rfl<|.nl)<|nK k15<|gK fun _ k17=>sG (oM 1 rfl<|.nl)<|gB<|fun a21 w21 h21=> ?_;clear hs16
 have h20:=h21.nil (α:=Cl) 58
 clear h21
 have h22:=h20.nil (α:=Cl) 58
 clear h20
 refine x_loop (fun m a w=>∃(i:Nat) (ol:List Cl) (dn:Bool) (vo:Value),(i≤l.l.length)∧(PlI c l.l i ol dn)∧(ol.length≤i+1)∧St 56 K W a w [(0,l.v),(3, .pointer (some ⟨b12,0,none⟩)),(5,vo),(6, .bool dn),(7,s16.v),(8, .int .i64 ((i:Nat):Int))] [.own 3 s16, .blk b12 58 [.int .i64 c.th, .int .i64 c.at_, .int .i64 c.oth, .int .i64 c.wh, .int .i64 c.wd], .own 58 l, .own 58 (⟨vo,ol⟩:Ls Cl)]∧m=l.l.length-i) ⟨_,0, [],false,_,(by omega),(PlI.zero),(by simp),h22.nrm ⟨rfl,rfl,rfl,rfl,rfl,rfl,trivial⟩ [2,3,4,0] rfl,rfl⟩ ?_
 clear h22
 rintro m19 a19 w19 ⟨i,ol,dn,vo,hi,hpi,hol,h19,hm19⟩
 refine gG h19<|gK fun _ k23=>sK fun _ k24=>gNl (aO 2 rfl) fun hl25=>gRn (oM 2 rfl<|oln sl_41 (aO 2 rfl) rfl<|oltN _ _ rfl<|.nl)<|nK k24<|?_;clear h19
 refine gcd rfl (fun hb26 hp26=> ?_) fun hb26 hp26=> ?_
 ·skip
  refine gS<|hK k23<|gK fun _ k27=>gB<|sK fun _ k28=>gRn (oM 2 rfl<|oxN sl_41 ti_58 (aO 2 rfl) _ om9 rfl<|olw2 [.int .i64 ((nth l.l i).th), .int .i64 ((nth l.l i).at_), .int .i64 ((nth l.l i).oth), .int .i64 ((nth l.l i).wh), .int .i64 ((nth l.l i).wd)] ti_58 (aO 2 rfl) om9 rfl<|.nl)<|gC (fun _ _ h_=>xCl h_ bd_117 rfl (list_c (nth l.l i) _)) rfl<|?_
  rintro _ _ w29 ⟨s29,rfl,hsl29,hs29⟩
  refine gWk hs29 rfl<|gU<|gRn (oM 1 rfl<|.nl)<|nK k28<|sK fun _ k30=>gRn (oM 2 rfl<|.nl)<|gP (fun _ _ h_=>xCl h_ bd_74 rfl (ints_c s16 s29 _ (h_.sh.own 1 rfl) (h_.sh.own 0 rfl))) rfl<|gRn (oM 1 rfl<|.nl)<|nK k30<|gK fun _ k32=>sG (oM 1 rfl<|.nl)<|?_;clear hs29
  refine gcd rfl (fun hb34 hp34=> ?_) fun hb34 hp34=> ?_
  ·skip
   refine sG (oM 2 rfl<|.nl)<|gR<|uT<|uB<|uT<|uT<|uB<|uT<|fun a36 w36 h36=>x_ret1 (fn:=Tryz.f76) (t:=4) rfl h36 rfl<|⟨l,rfl, .inl ⟨?_,rfl⟩,(h36.sh.sel [3] rfl)⟩
   have h9:s16.l=s29.l:=by assumption
   rw [hsl16,hsl29] at h9
   rw [cl5_eq.1 h9]
   exact nth_mem _ _ (by omega)
  refine gS<|hK k32<|sK fun _ k37=>gRn (oM 2 rfl<|.nl)<|gP (fun _ _ h_=>xCl h_ bd_118 rfl (less_c s16 s29 _ (h_.sh.own 1 rfl) (h_.sh.own 0 rfl))) rfl<|gRn (oM 1 rfl<|.nl)<|nK k37<|gK fun _ k39=>sK fun _ k40=>gRn (oM 2 rfl<|.nl)<|?_
  rcases Bool.eq_false_or_eq_true (lessB s16.l s29.l) with hb41|hb41
  ·skip
   refine gRn (oG hb41 (r_move rfl rfl) rfl<|oG hb41 (r_not rfl rfl) rfl<|opT hb41 rfl<|.nl)<|nK k40<|gF [0,3,5,6,7,8,37] rfl<|gCb rfl (fun hb42=> ?_) fun hb42=> ?_
   ·have hn42:dn=false:=(Bool.not_eq_true' _).mp hb42
    refine sK fun _ k43=>gRn (oM 1 rfl<|olw 2 ti_58 rfl rfl<|.nl)<|gE1 (fun _ _ h_=>x_lit (n:=1) (cs:= [.int .i64 c.th, .int .i64 c.at_, .int .i64 c.oth, .int .i64 c.wh, .int .i64 c.wd]) ([c]:List Cl) h_ sl_41 ti_58 rfl rfl rfl (by decide) rfl (by kernel_rfl) rfl (fun q hq w h=>Flat.inner _ _) (fun q hq b hb=>(Flat.on _ _ hb).elim) rfl rfl) rfl fun v44=>gE1 (fun _ _ h_=>x_app (r:=5) (rm:=0) (s:=(⟨vo,ol⟩:Ls Cl)) (m:=(⟨v44, [c]⟩:Ls Cl)) h_ sl_41 ti_58 rfl rfl rfl rfl rfl rfl rfl (fun w h=>(h.own 0 rfl)) (fun b hb=>own_on (h_.sh.ok _ (List.mem_of_getElem? (i:=0) rfl)) hb) (fun q hq b hb=>⟨q,hq,hb⟩) rfl rfl rfl inferInstance (show (ol.length+([c]).length)*40≤140737488355328∧ol.length+([c]).length≤140737488355328 from om9) rfl rfl) rfl fun v45=>gRn (oM 1 rfl<|.nl)<|nK k43<|gL<|gRn (oM 1 rfl<|.nl)<|nK k39<|gL<|gRn (oM 3 rfl<|oxN sl_41 ti_58 (aO 4 rfl) _ om9 rfl<|olw2 [.int .i64 ((nth l.l i).th), .int .i64 ((nth l.l i).at_), .int .i64 ((nth l.l i).oth), .int .i64 ((nth l.l i).wh), .int .i64 ((nth l.l i).wd)] ti_58 (aO 4 rfl) om9 rfl<|.nl)<|gE1 (fun _ _ h_=>x_lit (n:=1) (cs:= [.int .i64 ((nth l.l i).th), .int .i64 ((nth l.l i).at_), .int .i64 ((nth l.l i).oth), .int .i64 ((nth l.l i).wh), .int .i64 ((nth l.l i).wd)]) ([nth l.l i]:List Cl) h_ sl_41 ti_58 rfl rfl rfl (by decide) rfl (by kernel_rfl) rfl (fun q hq w h=>Flat.inner _ _) (fun q hq b hb=>(Flat.on _ _ hb).elim) rfl rfl) rfl fun v46=>gE1 (fun _ _ h_=>x_app (r:=6) (rm:=0) (s:=(⟨v45,ol++([c])⟩:Ls Cl)) (m:=(⟨v46, [nth l.l i]⟩:Ls Cl)) h_ sl_41 ti_58 rfl rfl rfl rfl rfl rfl rfl (fun w h=>(h.own 0 rfl)) (fun b hb=>own_on (h_.sh.ok _ (List.mem_of_getElem? (i:=0) rfl)) hb) (fun q hq b hb=>⟨q,hq,hb⟩) rfl rfl rfl inferInstance (show ((ol++([c])).length+([nth l.l i]).length)*40≤140737488355328∧(ol++([c])).length+([nth l.l i]).length≤140737488355328 from om9) rfl rfl) rfl fun v47=>gRn (oM 1 rfl<|.nl)<|nK k27<|gL<|gRn (oM 1 rfl<|oadN _ 1 om9 rfl<|oM 1 rfl<|.nl)<|nN<|?_
    have hne9:nth l.l i≠c:=fun e9=>by have h9:¬s16.l=s29.l:=(by assumption);rw [hsl16,hsl29] at h9;exact h9 (by rw [e9])
    have hdn:dn=false:=by assumption
    rw [hdn] at hpi
    have hpn:=hpi.yes (by omega) hne9 (by rw [←cl5_less,←hsl16,←hsl29];assumption)
    intro a48 w48 h48
    refine x_again ⟨_, ?_,(i+1),(ol++([c]))++([nth l.l i]),true,v47, ?_, ?_, ?_,h48.nrm ⟨rfl,rfl,rfl,rfl,rfl,rfl,trivial⟩ [3,4,5,6] rfl,rfl⟩
    · rw [hm19];first|omega|(simp only [lens9];omega)
    · omega
    · first|exact hpn
    · exact hpn.len (by omega)
   have hn42:dn=true:=(Bool.not_eq_false' _).mp hb42
   refine gS<|hK k39<|gL<|gRn (oM 3 rfl<|oxN sl_41 ti_58 (aO 3 rfl) _ om9 rfl<|olw2 [.int .i64 ((nth l.l i).th), .int .i64 ((nth l.l i).at_), .int .i64 ((nth l.l i).oth), .int .i64 ((nth l.l i).wh), .int .i64 ((nth l.l i).wd)] ti_58 (aO 3 rfl) om9 rfl<|.nl)<|gE1 (fun _ _ h_=>x_lit (n:=1) (cs:= [.int .i64 ((nth l.l i).th), .int .i64 ((nth l.l i).at_), .int .i64 ((nth l.l i).oth), .int .i64 ((nth l.l i).wh), .int .i64 ((nth l.l i).wd)]) ([nth l.l i]:List Cl) h_ sl_41 ti_58 rfl rfl rfl (by decide) rfl (by kernel_rfl) rfl (fun q hq w h=>Flat.inner _ _) (fun q hq b hb=>(Flat.on _ _ hb).elim) rfl rfl) rfl fun v49=>gE1 (fun _ _ h_=>x_app (r:=5) (rm:=0) (s:=(⟨vo,ol⟩:Ls Cl)) (m:=(⟨v49, [nth l.l i]⟩:Ls Cl)) h_ sl_41 ti_58 rfl rfl rfl rfl rfl rfl rfl (fun w h=>(h.own 0 rfl)) (fun b hb=>own_on (h_.sh.ok _ (List.mem_of_getElem? (i:=0) rfl)) hb) (fun q hq b hb=>⟨q,hq,hb⟩) rfl rfl rfl inferInstance (show (ol.length+([nth l.l i]).length)*40≤140737488355328∧ol.length+([nth l.l i]).length≤140737488355328 from om9) rfl rfl) rfl fun v50=>gRn (oM 1 rfl<|.nl)<|nK k27<|gL<|gRn (oM 1 rfl<|oadN _ 1 om9 rfl<|oM 1 rfl<|.nl)<|nN<|?_
   have hne9:nth l.l i≠c:=fun e9=>by have h9:¬s16.l=s29.l:=(by assumption);rw [hsl16,hsl29] at h9;exact h9 (by rw [e9])
   have hpn:=hpi.no (by omega) hne9 (by first|exact .inl (by rw [←cl5_less,←hsl16,←hsl29];assumption)|exact .inr (by assumption))
   intro a51 w51 h51
   refine x_again ⟨_, ?_,(i+1),ol++([nth l.l i]),dn,v50, ?_, ?_, ?_,h51.nrm ⟨rfl,rfl,rfl,rfl,rfl,rfl,trivial⟩ [2,3,4,5] rfl,rfl⟩
   · rw [hm19];first|omega|(simp only [lens9];omega)
   · omega
   · first|exact hpn
   · exact hpn.len (by omega)
  refine gRn (oKs 2 hb41 rfl rfl<|opF hb41 rfl<|.nl)<|nK k40<|gF [0,3,5,6,7,8,37] rfl<|gcF rfl rfl<|gS<|hK k39<|gL<|gRn (oM 3 rfl<|oxN sl_41 ti_58 (aO 3 rfl) _ om9 rfl<|olw2 [.int .i64 ((nth l.l i).th), .int .i64 ((nth l.l i).at_), .int .i64 ((nth l.l i).oth), .int .i64 ((nth l.l i).wh), .int .i64 ((nth l.l i).wd)] ti_58 (aO 3 rfl) om9 rfl<|.nl)<|gE1 (fun _ _ h_=>x_lit (n:=1) (cs:= [.int .i64 ((nth l.l i).th), .int .i64 ((nth l.l i).at_), .int .i64 ((nth l.l i).oth), .int .i64 ((nth l.l i).wh), .int .i64 ((nth l.l i).wd)]) ([nth l.l i]:List Cl) h_ sl_41 ti_58 rfl rfl rfl (by decide) rfl (by kernel_rfl) rfl (fun q hq w h=>Flat.inner _ _) (fun q hq b hb=>(Flat.on _ _ hb).elim) rfl rfl) rfl fun v52=>gE1 (fun _ _ h_=>x_app (r:=5) (rm:=0) (s:=(⟨vo,ol⟩:Ls Cl)) (m:=(⟨v52, [nth l.l i]⟩:Ls Cl)) h_ sl_41 ti_58 rfl rfl rfl rfl rfl rfl rfl (fun w h=>(h.own 0 rfl)) (fun b hb=>own_on (h_.sh.ok _ (List.mem_of_getElem? (i:=0) rfl)) hb) (fun q hq b hb=>⟨q,hq,hb⟩) rfl rfl rfl inferInstance (show (ol.length+([nth l.l i]).length)*40≤140737488355328∧ol.length+([nth l.l i]).length≤140737488355328 from om9) rfl rfl) rfl fun v53=>gRn (oM 1 rfl<|.nl)<|nK k27<|gL<|gRn (oM 1 rfl<|oadN _ 1 om9 rfl<|oM 1 rfl<|.nl)<|nN<|?_
  have hne9:nth l.l i≠c:=fun e9=>by have h9:¬s16.l=s29.l:=(by assumption);rw [hsl16,hsl29] at h9;exact h9 (by rw [e9])
  have hpn:=hpi.no (by omega) hne9 (by first|exact .inl (by rw [←cl5_less,←hsl16,←hsl29];assumption)|exact .inr (by assumption))
  intro a54 w54 h54
  refine x_again ⟨_, ?_,(i+1),ol++([nth l.l i]),dn,v53, ?_, ?_, ?_,h54.nrm ⟨rfl,rfl,rfl,rfl,rfl,rfl,trivial⟩ [2,3,4,5] rfl,rfl⟩
  · rw [hm19];first|omega|(simp only [lens9];omega)
  · omega
  · first|exact hpn
  · exact hpn.len (by omega)
 refine gX<|hK k17<|gK fun _ k55=>sG (oM 1 rfl<|ont rfl<|.nl)<|gCb rfl (fun hb57=> ?_) fun hb57=> ?_
 ·have hn57:dn=false:=(Bool.not_eq_true' _).mp hb57
  refine gL<|gRn (oM 1 rfl<|olw 1 ti_58 rfl rfl<|.nl)<|gE1 (fun _ _ h_=>x_lit (n:=1) (cs:= [.int .i64 c.th, .int .i64 c.at_, .int .i64 c.oth, .int .i64 c.wh, .int .i64 c.wd]) ([c]:List Cl) h_ sl_41 ti_58 rfl rfl rfl (by decide) rfl (by kernel_rfl) rfl (fun q hq w h=>Flat.inner _ _) (fun q hq b hb=>(Flat.on _ _ hb).elim) rfl rfl) rfl fun v58=>gE1 (fun _ _ h_=>x_app (r:=4) (rm:=0) (s:=(⟨vo,ol⟩:Ls Cl)) (m:=(⟨v58, [c]⟩:Ls Cl)) h_ sl_41 ti_58 rfl rfl rfl rfl rfl rfl rfl (fun w h=>(h.own 0 rfl)) (fun b hb=>own_on (h_.sh.ok _ (List.mem_of_getElem? (i:=0) rfl)) hb) (fun q hq b hb=>⟨q,hq,hb⟩) rfl rfl rfl inferInstance (show (ol.length+([c]).length)*40≤140737488355328∧ol.length+([c]).length≤140737488355328 from om9) rfl rfl) rfl fun v59=>gRn (oM 1 rfl<|.nl)<|nK k55<|sG (oM 2 rfl<|.nl)<|gR<|fun a61 w61 h61=>x_ret1 (fn:=Tryz.f76) (t:=4) rfl h61 rfl<|⟨⟨v59,ol++([c])⟩,rfl, ?_,(h61.sh.sel [4] rfl)⟩
  first|exact PlI.end_t (by rw [show dn=true by assumption] at hpi;exact hpi) (by omega)|exact PlI.end_f (by rw [show dn=false by assumption] at hpi;exact hpi) (by omega)
 have hn57:dn=true:=(Bool.not_eq_false' _).mp hb57
 refine gS<|hK k55<|sG (oM 2 rfl<|.nl)<|gR<|fun a63 w63 h63=>x_ret1 (fn:=Tryz.f76) (t:=4) rfl h63 rfl<|⟨⟨vo,ol⟩,rfl, ?_,(h63.sh.sel [3] rfl)⟩
 first|exact PlI.end_t (by rw [show dn=true by assumption] at hpi;exact hpi) (by omega)|exact PlI.end_f (by rw [show dn=false by assumption] at hpi;exact hpi) (by omega)
theorem xtouch_c (x:SD)(code:Ls (Ls Ins))(words:Ls Int)(Lk R:Nat)(mode:Int)(t:Nat)(W:World)(hin:Enc.inner x W)(hd:x.hd= [code.v,words.v, .int .i64 ((Lk:Nat):Int), .int .i64 ((R:Nat):Int), .int .i64 mode]∧x.E=111∧x.fell=false)(hcode:code.At W)(hok:OkPg (pgN code words Lk R))(hr:Reach (pgN code words Lk R) mode x.st)(ht:t<code.l.length):
  Rets Tryz.prog 75 [.pointer (some ⟨x.g,0,none⟩), .int .i64 ((t:Nat):Int)] W (fun v w' =>∃(wd:Int) (st_ ok:Bool),v= .tuple #[.int .i64 wd, .bool st_, .bool ok]∧whereV (nth (pgN code words Lk R).code t) (x.st.view t)=(if ok=true then some (wd,st_) else none)∧Sh0 W w' []):=by
 obtain ⟨hd1,hd2,hd3⟩:=hd
 have hwx:=(hr.wf hok).toX
 obtain ⟨hn1,hn2,hn3,hn4,hn5⟩:=(show Enc.inner x W from hin)
 rw [hd2,SD.cells,hd1,hd3] at hn1
 have hlk:∀t,t<code.l.length→∀i,i<(nth code.l t).l.length→(nth (nth code.l t).l i).op=17→0≤(nth (nth code.l t).l i).a∧(nth (nth code.l t).l i).a<x.owner.l.length:=fun t ht i hi h17=>by
  have h9:=lock_N hok ht hi h17
  rw [hwx.owner];exact h9
 refine Rets.mono (touches_c x.g t code x.thr x.words x.owner _ _ _ _ _ _ W hn1 hcode hn2 hn3 hn4 hwx.thl hwx.pc hlk ht (fun hlt=>by
  rw [hwx.regs t (by rw [hwx.thl];exact ht),hwx.words,hwx.owner]
  exact insR_N hok ht (hwx.pc t ht).1 hlt)) ?_
 rintro v w' ⟨wd,st_,ok,rfl,e,hs⟩
 refine ⟨wd,st_,ok,rfl, ?_,hs⟩
 rw [pgN_code ht,st_view (by rw [hwx.thl];exact ht)]
 exact e
theorem clsR_c (K:Nat→Prop)(g:Nat)(code:Ls (Ls Ins))(words:Ls Int)(Lk R:Nat)(states:Ls SD)(kv hv bv ev:Value)(full:Bool)(W:World)(hok:OkPg (pgN code words Lk R))(hS:Sh K W W [.blk g 52 [states.v,kv,hv,bv,ev, .bool full], .own 103 states, .at_ code])(hreach:∀x∈states.l,Reach (pgN code words Lk R) 0 x.st)(hd:∀x∈states.l,x.hd= [code.v,words.v, .int .i64 ((Lk:Nat):Int), .int .i64 ((R:Nat):Int), .int .i64 0]∧x.E=111∧x.fell=false)(hsl:states.l.length≤4001):
    Rets Tryz.prog 31 [.pointer (some ⟨g,0,none⟩)] W (fun v w' =>∃s:Ls Cl,v=s.v∧CR (ClSt (pgN code words Lk R) (states.l.map SD.st) states.l.length) s.l∧Sh K W w' [.own 58 s, .blk g 52 [states.v,kv,hv,bv,ev, .bool full], .own 103 states, .at_ code]):=by
 have hcl9:=(ok_lenN hok).2.1
 refine gen Tryz.func31 Tryz.ntmps31 hS rfl fun a10 h10=>gG h10<|sG (oM 1 rfl<|.nl)<|sG (oM 1 rfl<|.nl)<|gK fun _ k13=>sG (oM 1 rfl<|.nl)<|gB<|fun a17 w17 h17=> ?_;clear h10
 have h16:=h17.nil (α:=Cl) 58
 clear h17
 have h18:=h16.nil (α:=Cl) 58
 clear h16
 refine x_loop (fun m a w=>∃(i:Nat) (o1:List Cl) (v1:Value),(i≤states.l.length)∧(CR (ClSt (pgN code words Lk R) (states.l.map SD.st) i) o1)∧(o1.length≤16*i)∧St 102 K W a w [(0, .pointer (some ⟨g,0,none⟩)),(3,v1),(4, .int .i64 ((i:Nat):Int))] [.blk g 52 [states.v,kv,hv,bv,ev, .bool full], .own 103 states, .at_ code, .own 58 (⟨v1,o1⟩:Ls Cl)]∧m=states.l.length-i) ⟨_,0, [],_,(by omega),(⟨List.Pairwise.nil,fun c=>⟨fun h=>(by cases h),fun ⟨j,h,_⟩=>absurd h (by omega)⟩⟩),(by simp),h18.nrm ⟨rfl,rfl,rfl,trivial⟩ [2,3,4,0] rfl,rfl⟩ ?_
 clear h18
 rintro m15 a15 w15 ⟨i,o1,v1,hi,hcr,hol,h15,hm15⟩
 refine gG h15<|gK fun _ k19=>sK fun _ k20=>gNl (aO 1 rfl) fun hl21=>gRn (oM 2 rfl<|onfl 0 fl_52_0 ti_49 rfl rfl<|oln sl_49 (aO 1 rfl) rfl<|oltN _ _ rfl<|.nl)<|nK k20<|?_;clear h15
 refine gcd rfl (fun hb22 hp22=> ?_) fun hb22 hp22=> ?_
 ·skip
  refine gS<|hK k19<|gK fun _ k23=>gB<|sG (oM 1 rfl<|onfl 0 fl_52_0 ti_49 rfl rfl<|oM 1 rfl<|oxN sl_49 ti_103 (aO 1 rfl) _ om9 rfl<|olE (.pointer (some ⟨(nth states.l i).g,0,none⟩)) ti_103 (aO 1 rfl) om9 rfl<|oM 1 rfl<|.nl)<|fun a26 w26 h26=> ?_
  obtain ⟨x,hxx⟩:∃x,x=nth states.l i:=⟨_,rfl⟩
  rw [←hxx] at h26
  have hil:i<states.l.length:=by omega
  have hxm:x∈states.l:=by rw [hxx];exact nth_mem _ _ hil
  have hxr:=hreach x hxm
  have hwx:=(hxr.wf hok).toX
  have hthl:=hwx.thl
  have hdx:=hd x hxm
  obtain ⟨hd1,hd2,hd3⟩:=hd x hxm
  have hin25:=(h26.sh.own 1 rfl).inner i (by omega)
  rw [←hxx] at hin25
  obtain ⟨hn1,hn2,hn3,hn4,hn5⟩:=(show Enc.inner x _ from hin25)
  rw [hd2,SD.cells,hd1,hd3] at hn1
  have hxi:nth (states.l.map SD.st) i=x.st:=by rw [st_mapAt hil,←hxx]
  have h27:=h26.addRd (A:= .rblk x.g 111 [code.v,words.v, .int .i64 ((Lk:Nat):Int), .int .i64 ((R:Nat):Int), .int .i64 0,x.thr.v,x.words.v,x.owner.v,x.prints.v, .bool false]) hn1 (fun b hb=>hb) (fun b hb=>⟨.own 103 states,List.mem_of_getElem? (i:=1) rfl,i,hil,by rw [←hxx];exact .inl hb⟩)
  clear h26
  have h28:=h27.addRd (A:= .at_ x.thr) hn2 (fun b hb=>hb) (fun b hb=>⟨.own 103 states,List.mem_of_getElem? (i:=2) rfl,i,hil,by rw [←hxx];exact .inr (.inl hb)⟩)
  clear h27
  refine gG h28<|sG (oM 1 rfl<|.nl)<|gB<|fun a31 w31 h31=>x_loop (fun m a w=>∃(ta:Nat) (o2:List Cl) (v2:Value),(ta≤code.l.length)∧(CR (fun c=>ClSt (pgN code words Lk R) (states.l.map SD.st) i c∨ClUp (pgN code words Lk R) x.st ta 0 c) o2)∧(o2.length≤16*i+4*ta)∧St 102 K W a w [(0, .pointer (some ⟨g,0,none⟩)),(3,v2),(4, .int .i64 ((i:Nat):Int)),(5, .pointer (some ⟨x.g,0,none⟩)),(6, .int .i64 ((ta:Nat):Int))] [.at_ x.thr, .rblk x.g 111 [code.v,words.v, .int .i64 ((Lk:Nat):Int), .int .i64 ((R:Nat):Int), .int .i64 0,x.thr.v,x.words.v,x.owner.v,x.prints.v, .bool false], .blk g 52 [states.v,kv,hv,bv,ev, .bool full], .own 103 states, .at_ code, .own 58 (⟨v2,o2⟩:Ls Cl)]∧m=code.l.length-ta) ⟨_,0,o1,_,(by omega),(hcr.iff fun c=>⟨.inl,fun h=>h.elim id fun h=>absurd h clUp_0⟩),(by omega),h31.nf ⟨rfl,rfl,rfl,rfl,rfl,trivial⟩,rfl⟩ ?_;clear h28
  clear h31
  rintro m30 a30 w30 ⟨ta,o2,v2,ha,hcr2,hol2,h30,hm30⟩
  refine gG h30<|gK fun _ k32=>sK fun _ k33=>gNl (aA 0 rfl) fun hl34=>gRn (oM 2 rfl<|onf fl_111_2 rfl<|olR 1 ti_109 rfl rfl<|oln sl_109 (aA 0 rfl) rfl<|oltN _ _ rfl<|.nl)<|nK k33<|?_;clear h30
  refine gcd rfl (fun hb35 hp35=> ?_) fun hb35 hp35=> ?_
  ·skip
   refine gS<|hK k32<|gK fun _ k36=>gB<|sG (oM 1 rfl<|oadN _ 1 om9 rfl<|oM 1 rfl<|.nl)<|gB<|fun a39 w39 h39=>x_loop (fun m a w=>∃(j:Nat) (o3:List Cl) (v3:Value),(ta+1+j≤code.l.length)∧(CR (fun c=>ClSt (pgN code words Lk R) (states.l.map SD.st) i c∨ClUp (pgN code words Lk R) x.st ta j c) o3)∧(o3.length≤16*i+4*ta+j)∧St 102 K W a w [(0, .pointer (some ⟨g,0,none⟩)),(3,v3),(4, .int .i64 ((i:Nat):Int)),(5, .pointer (some ⟨x.g,0,none⟩)),(6, .int .i64 ((ta:Nat):Int)),(7, .int .i64 (((ta+1+j):Nat):Int))] [.at_ x.thr, .rblk x.g 111 [code.v,words.v, .int .i64 ((Lk:Nat):Int), .int .i64 ((R:Nat):Int), .int .i64 0,x.thr.v,x.words.v,x.owner.v,x.prints.v, .bool false], .blk g 52 [states.v,kv,hv,bv,ev, .bool full], .own 103 states, .at_ code, .own 58 (⟨v3,o3⟩:Ls Cl)]∧m=code.l.length-(ta+1+j)) ⟨_,0,o2,_,(by omega),(hcr2),(by omega),h39.nf ⟨rfl,rfl,rfl,rfl,rfl,rfl,trivial⟩,rfl⟩ ?_
   clear h39
   rintro m38 a38 w38 ⟨j,o3,v3,hj,hcr3,hol3,h38,hm38⟩
   refine gG h38<|gK fun _ k40=>sG (oM 2 rfl<|onf fl_111_2 rfl<|olR 1 ti_109 rfl rfl<|oln sl_109 (aA 0 rfl) rfl<|oltN _ _ rfl<|.nl)<|?_;clear h38
   refine gcd rfl (fun hb42 hp42=> ?_) fun hb42 hp42=> ?_
   ·skip
    refine gS<|hK k40<|gK fun _ k43=>gB<|sK fun _ k44=>gRn (oM 2 rfl<|.nl)<|gC (fun _ _ h_=>xCl h_ bd_75 rfl (xtouch_c x code words Lk R 0 ta _ (hxx▸(h_.sh.own 3 rfl).inner i hil) hdx (h_.sh.at 4 rfl) hok hxr (by omega))) rfl<|?_
    rintro _ _ w45 ⟨wd45,st45,ok45,rfl,hwh45,hs45⟩
    refine gWk hs45 rfl<|gU<|gRn (oM 1 rfl<|oxt rfl<|oxt rfl<|oxt rfl<|oM 3 rfl<|.nl)<|nK k44<|sK fun _ k46=>gRn (oM 2 rfl<|.nl)<|gC (fun _ _ h_=>xCl h_ bd_75 rfl (xtouch_c x code words Lk R 0 (ta+1+j) _ (hxx▸(h_.sh.own 3 rfl).inner i hil) hdx (h_.sh.at 4 rfl) hok hxr (by omega))) rfl<|?_;clear hs45
    rintro _ _ w47 ⟨wd47,st47,ok47,rfl,hwh47,hs47⟩
    refine gWk hs47 rfl<|gU<|gRn (oM 1 rfl<|oxt rfl<|oxt rfl<|oxt rfl<|oM 3 rfl<|.nl)<|nK k46<|sK fun _ k48=>gRn (oM 2 rfl<|.nl)<|?_;clear hs47
    rcases Bool.eq_false_or_eq_true ok45 with hb49|hb49
    ·skip
     refine gRn (oG hb49 (r_move rfl rfl) rfl<|opT hb49 rfl<|oM 1 rfl<|.nl)<|?_
     rcases Bool.eq_false_or_eq_true ok47 with hb50|hb50
     ·skip
      refine gRn (oG hb50 (r_move rfl rfl) rfl<|oG hb50 (r_move rfl rfl) rfl<|oG hb50 (r_eqlI (p:=wd45) (q:=wd47) rfl rfl rfl) rfl<|opT hb50 rfl<|oM 1 rfl<|.nl)<|?_
      rcases dsp (wd45=wd47) with ⟨hb51,hp51⟩|⟨hb51,hp51⟩
      ·skip
       refine gRn (oG hb51 (r_move rfl rfl) rfl<|oG hb51 (r_move rfl rfl) rfl<|.nl)<|?_
       rcases Bool.eq_false_or_eq_true st45 with hb52|hb52
       ·skip
        refine gRn (oK hb52 rfl<|oG hb51 (r_pickT rfl rfl hb52 rfl) rfl<|opT hb51 rfl<|.nl)<|nK k48<|gF [0,3,4,5,6,7,8,78] rfl<|gcT rfl rfl<|rT 21 [] (oM 3 rfl<|onf fl_111_2 rfl<|olR 1 ti_109 rfl rfl<|oM 1 rfl<|oxN sl_109 ti_119 (aA 0 rfl) _ om9 rfl<|ofE fl_119_0 rfl<|olI ti_3 (aA 0 rfl) om9 rfl<|oM 2 rfl<|onf fl_111_2 rfl<|olR 1 ti_109 rfl rfl<|oM 1 rfl<|oxN sl_109 ti_119 (aA 0 rfl) _ om9 rfl<|ofE fl_119_0 rfl<|olI ti_3 (aA 0 rfl) om9 rfl<|oM 1 rfl<|oV (r_build (cs:= [.int .i64 ((ta:Nat):Int), .int .i64 ((nth x.thr.l ta).pc), .int .i64 (((ta+1+j):Nat):Int), .int .i64 ((nth x.thr.l (ta+1+j)).pc), .int .i64 wd45]) rfl rfl (by kernel_rfl)) rfl<|.nl)<|gO [5,0,1,2,3,4] rfl<|fun a58 w58 h58=> ?_
        have hp57:=h58.sh.passL (Lp:= [_])
        refine wl_ex (x_call h58 bd_76 rfl rfl rfl rfl rfl (place_c _ (⟨v3,o3⟩:Ls Cl) (⟨((ta:Nat):Int),(nth x.thr.l ta).pc,(((ta+1+j):Nat):Int),(nth x.thr.l (ta+1+j)).pc,wd45⟩:Cl) _ hp57 (show o3.length≤1000000 from by omega))) (wanted_none rfl _) ?_
        rintro a59 w59 ⟨_,⟨k59,rfl,hpl59,hs59⟩,hf59⟩
        have h59:St 102 K W a59 w59 _ [_,_,_,_,_,_]:=⟨hf59,h58.sh.backL (Lp:= [_]) hs59 (by intro A hA b hb;simp only [List.mem_cons,List.not_mem_nil,or_false] at hA;rcases hA with rfl<;>first|exact (hb:False).elim|exact Flat.noRd hb|exact .inl ⟨_,List.mem_cons_self .., .inr hb⟩|exact .inl ⟨_,by simp, .inr hb⟩)⟩
        clear hf59 hs59
        clear h58
        refine gG h59<|gRn (oM 1 rfl<|.nl)<|nK k43<|gF [0,3,4,5,6,7] rfl<|gL<|gRn (oM 1 rfl<|oadN _ 1 om9 rfl<|oM 1 rfl<|.nl)<|nN<|?_;clear h59
        have hc9:=clashAt_yes hwh45 hwh47 (by assumption) (by assumption) (by assumption) (by first|exact .inl (by assumption)|exact .inr (by assumption))
        have hpl9:k59.l.length≤o3.length+1:=hpl59.len
        rw [show (nth x.st.ths ta).pc=(nth x.thr.l ta).pc from by rw [st_th (by omega)];rfl,show (nth x.st.ths (ta+1+j)).pc=(nth x.thr.l (ta+1+j)).pc from by rw [st_th (by omega)];rfl] at hc9
        intro a60 w60 h60
        refine x_again ⟨_, ?_,(j+1),k59.l,k59.v, ?_, ?_, ?_,h60.nrm ⟨rfl,rfl,rfl,rfl,rfl,rfl,trivial⟩ [1,2,3,4,5,0] rfl,rfl⟩
        · rw [hm38];first|omega|(simp only [lens9];omega)
        · omega
        · first|exact hcr3.iff (fun c=>by rw [clUp_j,hc9];simp)|exact hcr3.place (by assumption) (fun d=>by rw [clUp_j,hc9];simp only [Option.some.injEq];exact ⟨fun h=>h.elim (fun h=> .inl (.inl h)) (fun h=>h.elim (fun h=> .inl (.inr h)) (fun h=> .inr h.symm)),fun h=>h.elim (fun h=>h.elim .inl (fun h=> .inr (.inl h))) (fun h=> .inr (.inr h.symm))⟩)
        · omega
       refine gRn (oG hb52 (r_move rfl rfl) rfl<|oG hb51 (r_pickF rfl rfl hb52 rfl) rfl<|opT hb51 rfl<|.nl)<|nK k48<|gF [0,3,4,5,6,7,8,78] rfl<|gCb rfl (fun hb61=> ?_) fun hb61=> ?_
       ·skip
        refine rT 21 [] (oM 3 rfl<|onf fl_111_2 rfl<|olR 1 ti_109 rfl rfl<|oM 1 rfl<|oxN sl_109 ti_119 (aA 0 rfl) _ om9 rfl<|ofE fl_119_0 rfl<|olI ti_3 (aA 0 rfl) om9 rfl<|oM 2 rfl<|onf fl_111_2 rfl<|olR 1 ti_109 rfl rfl<|oM 1 rfl<|oxN sl_109 ti_119 (aA 0 rfl) _ om9 rfl<|ofE fl_119_0 rfl<|olI ti_3 (aA 0 rfl) om9 rfl<|oM 1 rfl<|oV (r_build (cs:= [.int .i64 ((ta:Nat):Int), .int .i64 ((nth x.thr.l ta).pc), .int .i64 (((ta+1+j):Nat):Int), .int .i64 ((nth x.thr.l (ta+1+j)).pc), .int .i64 wd45]) rfl rfl (by kernel_rfl)) rfl<|.nl)<|gO [5,0,1,2,3,4] rfl<|fun a67 w67 h67=> ?_
        have hp66:=h67.sh.passL (Lp:= [_])
        refine wl_ex (x_call h67 bd_76 rfl rfl rfl rfl rfl (place_c _ (⟨v3,o3⟩:Ls Cl) (⟨((ta:Nat):Int),(nth x.thr.l ta).pc,(((ta+1+j):Nat):Int),(nth x.thr.l (ta+1+j)).pc,wd45⟩:Cl) _ hp66 (show o3.length≤1000000 from by omega))) (wanted_none rfl _) ?_
        rintro a68 w68 ⟨_,⟨k68,rfl,hpl68,hs68⟩,hf68⟩
        have h68:St 102 K W a68 w68 _ [_,_,_,_,_,_]:=⟨hf68,h67.sh.backL (Lp:= [_]) hs68 (by intro A hA b hb;simp only [List.mem_cons,List.not_mem_nil,or_false] at hA;rcases hA with rfl<;>first|exact (hb:False).elim|exact Flat.noRd hb|exact .inl ⟨_,List.mem_cons_self .., .inr hb⟩|exact .inl ⟨_,by simp, .inr hb⟩)⟩
        clear hf68 hs68
        clear h67
        refine gG h68<|gRn (oM 1 rfl<|.nl)<|nK k43<|gF [0,3,4,5,6,7] rfl<|gL<|gRn (oM 1 rfl<|oadN _ 1 om9 rfl<|oM 1 rfl<|.nl)<|nN<|?_;clear h68
        have hc9:=clashAt_yes hwh45 hwh47 (by assumption) (by assumption) (by assumption) (by first|exact .inl (by assumption)|exact .inr (by assumption))
        have hpl9:k68.l.length≤o3.length+1:=hpl68.len
        rw [show (nth x.st.ths ta).pc=(nth x.thr.l ta).pc from by rw [st_th (by omega)];rfl,show (nth x.st.ths (ta+1+j)).pc=(nth x.thr.l (ta+1+j)).pc from by rw [st_th (by omega)];rfl] at hc9
        intro a69 w69 h69
        refine x_again ⟨_, ?_,(j+1),k68.l,k68.v, ?_, ?_, ?_,h69.nrm ⟨rfl,rfl,rfl,rfl,rfl,rfl,trivial⟩ [1,2,3,4,5,0] rfl,rfl⟩
        · rw [hm38];first|omega|(simp only [lens9];omega)
        · omega
        · first|exact hcr3.iff (fun c=>by rw [clUp_j,hc9];simp)|exact hcr3.place (by assumption) (fun d=>by rw [clUp_j,hc9];simp only [Option.some.injEq];exact ⟨fun h=>h.elim (fun h=> .inl (.inl h)) (fun h=>h.elim (fun h=> .inl (.inr h)) (fun h=> .inr h.symm)),fun h=>h.elim (fun h=>h.elim .inl (fun h=> .inr (.inl h))) (fun h=> .inr (.inr h.symm))⟩)
        · omega
       refine gS<|hK k43<|gL<|gRn (oM 1 rfl<|oadN _ 1 om9 rfl<|oM 1 rfl<|.nl)<|nN<|?_
       have hc9:=clashAt_no hwh45 hwh47 (by first|exact .inl (by assumption)|exact .inr (.inl (by assumption))|exact .inr (.inr (.inl (by assumption)))|exact .inr (.inr (.inr ⟨by assumption,by assumption⟩)))
       intro a70 w70 h70
       refine x_again ⟨_, ?_,(j+1),o3,v3, ?_, ?_, ?_,h70.nf ⟨rfl,rfl,rfl,rfl,rfl,rfl,trivial⟩,rfl⟩
       · rw [hm38];first|omega|(simp only [lens9];omega)
       · omega
       · first|exact hcr3.iff (fun c=>by rw [clUp_j,hc9];simp)|exact hcr3.place (by assumption) (fun d=>by rw [clUp_j,hc9];simp only [Option.some.injEq];exact ⟨fun h=>h.elim (fun h=> .inl (.inl h)) (fun h=>h.elim (fun h=> .inl (.inr h)) (fun h=> .inr h.symm)),fun h=>h.elim (fun h=>h.elim .inl (fun h=> .inr (.inl h))) (fun h=> .inr (.inr h.symm))⟩)
       · omega
      refine gRn (oKs 2 hb51 rfl rfl<|oK2 rfl<|oK hb51 rfl<|opF hb51 rfl<|.nl)<|nK k48<|gF [0,3,4,5,6,7,8,78] rfl<|gcF rfl rfl<|gS<|hK k43<|gL<|gRn (oM 1 rfl<|oadN _ 1 om9 rfl<|oM 1 rfl<|.nl)<|nN<|?_
      have hc9:=clashAt_no hwh45 hwh47 (by first|exact .inl (by assumption)|exact .inr (.inl (by assumption))|exact .inr (.inr (.inl (by assumption)))|exact .inr (.inr (.inr ⟨by assumption,by assumption⟩)))
      intro a71 w71 h71
      refine x_again ⟨_, ?_,(j+1),o3,v3, ?_, ?_, ?_,h71.nf ⟨rfl,rfl,rfl,rfl,rfl,rfl,trivial⟩,rfl⟩
      · rw [hm38];first|omega|(simp only [lens9];omega)
      · omega
      · first|exact hcr3.iff (fun c=>by rw [clUp_j,hc9];simp)|exact hcr3.place (by assumption) (fun d=>by rw [clUp_j,hc9];simp only [Option.some.injEq];exact ⟨fun h=>h.elim (fun h=> .inl (.inl h)) (fun h=>h.elim (fun h=> .inl (.inr h)) (fun h=> .inr h.symm)),fun h=>h.elim (fun h=>h.elim .inl (fun h=> .inr (.inl h))) (fun h=> .inr (.inr h.symm))⟩)
      · omega
     refine gRn (oKs 3 hb50 rfl rfl<|opF hb50 rfl<|oM 1 rfl<|oKs 2 rfl rfl rfl<|oK2 rfl<|oK rfl rfl<|opF rfl rfl<|.nl)<|nK k48<|gF [0,3,4,5,6,7,8,78] rfl<|gcF rfl rfl<|gS<|hK k43<|gL<|gRn (oM 1 rfl<|oadN _ 1 om9 rfl<|oM 1 rfl<|.nl)<|nN<|?_
     have hc9:=clashAt_no hwh45 hwh47 (by first|exact .inl (by assumption)|exact .inr (.inl (by assumption))|exact .inr (.inr (.inl (by assumption)))|exact .inr (.inr (.inr ⟨by assumption,by assumption⟩)))
     intro a72 w72 h72
     refine x_again ⟨_, ?_,(j+1),o3,v3, ?_, ?_, ?_,h72.nf ⟨rfl,rfl,rfl,rfl,rfl,rfl,trivial⟩,rfl⟩
     · rw [hm38];first|omega|(simp only [lens9];omega)
     · omega
     · first|exact hcr3.iff (fun c=>by rw [clUp_j,hc9];simp)|exact hcr3.place (by assumption) (fun d=>by rw [clUp_j,hc9];simp only [Option.some.injEq];exact ⟨fun h=>h.elim (fun h=> .inl (.inl h)) (fun h=>h.elim (fun h=> .inl (.inr h)) (fun h=> .inr h.symm)),fun h=>h.elim (fun h=>h.elim .inl (fun h=> .inr (.inl h))) (fun h=> .inr (.inr h.symm))⟩)
     · omega
    refine gRn (oK hb49 rfl<|opF hb49 rfl<|oM 1 rfl<|oKs 3 rfl rfl rfl<|opF rfl rfl<|oM 1 rfl<|oKs 2 rfl rfl rfl<|oK2 rfl<|oK rfl rfl<|opF rfl rfl<|.nl)<|nK k48<|gF [0,3,4,5,6,7,8,78] rfl<|gcF rfl rfl<|gS<|hK k43<|gL<|gRn (oM 1 rfl<|oadN _ 1 om9 rfl<|oM 1 rfl<|.nl)<|nN<|?_
    have hc9:=clashAt_no hwh45 hwh47 (by first|exact .inl (by assumption)|exact .inr (.inl (by assumption))|exact .inr (.inr (.inl (by assumption)))|exact .inr (.inr (.inr ⟨by assumption,by assumption⟩)))
    intro a73 w73 h73
    refine x_again ⟨_, ?_,(j+1),o3,v3, ?_, ?_, ?_,h73.nf ⟨rfl,rfl,rfl,rfl,rfl,rfl,trivial⟩,rfl⟩
    · rw [hm38];first|omega|(simp only [lens9];omega)
    · omega
    · first|exact hcr3.iff (fun c=>by rw [clUp_j,hc9];simp)|exact hcr3.place (by assumption) (fun d=>by rw [clUp_j,hc9];simp only [Option.some.injEq];exact ⟨fun h=>h.elim (fun h=> .inl (.inl h)) (fun h=>h.elim (fun h=> .inl (.inr h)) (fun h=> .inr h.symm)),fun h=>h.elim (fun h=>h.elim .inl (fun h=> .inr (.inl h))) (fun h=> .inr (.inr h.symm))⟩)
    · omega
   refine gX<|hK k36<|gL<|gRn (oM 1 rfl<|oadN _ 1 om9 rfl<|oM 1 rfl<|.nl)<|nN<|fun a74 w74 h74=>x_again ⟨_, ?_,(ta+1),o3,v3, ?_, ?_, ?_,h74.nf ⟨rfl,rfl,rfl,rfl,rfl,trivial⟩,rfl⟩
   · rw [hm30];first|omega|(simp only [lens9];omega)
   · omega
   · exact hcr3.iff fun c=>by rw [clUp_a (j:=j) (by rw [pgN_len];omega) (by rw [pgN_len];omega)]
   · omega
  refine gX<|hK k23<|gL<|gRn (oM 1 rfl<|oadN _ 1 om9 rfl<|oM 1 rfl<|.nl)<|nN<|fun a75 w75 h75=>x_again ⟨_, ?_,(i+1),o2,v2, ?_, ?_, ?_,h75.nrm ⟨rfl,rfl,rfl,trivial⟩ [2,3,4,5] rfl,rfl⟩
  · rw [hm15];first|omega|(simp only [lens9];omega)
  · omega
  · exact hcr2.iff fun c=>by rw [clSt_succ (by rw [List.length_map];exact hil),hxi,clUp_n (by rw [pgN_len];omega)]
  · omega
 refine gX<|hK k13<|sG (oM 2 rfl<|.nl)<|gR<|fun a77 w77 h77=>x_ret1 (fn:=Tryz.f31) (t:=2) rfl h77 rfl<|⟨⟨v1,o1⟩,rfl, ?_,(h77.sh.sel [3,0,1,2] rfl)⟩
 rw [←show i=states.l.length from by omega];exact hcr
theorem make0_s (code:Ls (Ls Ins))(words:Ls Int)(Lk R:Nat)(W:World)(hcode:code.At W)(hwords:words.At W)(hok:OkPg (pgN code words Lk R)):
    Rets Tryz.prog 30 [.agg #[code.v,words.v, .int .i64 ((Lk:Nat):Int), .int .i64 ((R:Nat):Int)], .bool false] W (fun v w' =>∃(g:Nat) (full:Bool) (kv hv bv:Value) (states:Ls SD) (ends:Ls OutL),v= .pointer (some ⟨g,0,none⟩)∧(full=true↔Big (pgN code words Lk R) 0)∧(full=false→Sorted_ (ends.l.map OutL.out)∧∀o,o∈ends.l.map OutL.out↔Outs (pgN code words Lk R) 0 o)∧ends.l.length≤70000∧(∀o∈ends.l,∀b,Enc.on o b→W.heap.size≤b)∧((full=false→(states.l.map SD.st).Nodup∧∀s,s∈states.l.map SD.st↔Reach (pgN code words Lk R) 0 s)∧states.l.length≤4001∧SData W 111 [code.v,words.v, .int .i64 ((Lk:Nat):Int), .int .i64 ((R:Nat):Int), .int .i64 0] states.l ends.l)∧Sh0 W w' [.blk g 52 [states.v,kv,hv,bv,ends.v, .bool full], .own 103 states, .own 39 ends]):=by
 refine gen Tryz.func30 Tryz.ntmps30 (Sh0.ext2 hcode hwords:Sh (fun _=>False) W W [.at_ code, .at_ words]) rfl fun a10 h10=>gG h10<|sK fun _ k11=>gbx rfl rfl fun b12=>gRn (oM 1 rfl<|.nl)<|nK k11<|gK fun _ k13=>sG (oM 1 rfl<|.nl)<|gcF rfl rfl<|gS<|hK k13<|sK fun _ k15=>gRn (olw 0 ti_25 rfl rfl<|.nl)<|fun a17 w17 h17=>wl_ex (x_call h17 bd_26 rfl rfl rfl rfl rfl (by_s code words Lk R 0 _ (h17.sh.at 1 rfl) (h17.sh.at 2 rfl) hok)) (wanted_none rfl _) ?_;clear h10
 rintro a18 w18 ⟨_,⟨g18,fu18,kv18,hv18,bv18,sx18,en18,rfl,hbg18,hby18,hel18,hnw18,hsd18,hs18⟩,hf18⟩
 have hsz18:=h17.sh.chg.size
 have h18:=(⟨hf18,h17.sh.call hs18 (by intro A hA b hb;simp only [List.mem_cons,List.not_mem_nil,or_false] at hA;rcases hA with rfl|rfl|rfl;exact (hb:False).elim;exact .inl (by obtain ⟨i9,hi9,hb9⟩:=hb;exact (hsd18.2.2.hd _ (nth_mem _ _ hi9)).2.2.2 b hb9);exact .inl (by obtain ⟨i9,hi9,hb9⟩:=hb;exact hnw18 _ (nth_mem _ _ hi9) b hb9))⟩:St 10 (fun _=>False) W a18 w18 _ _)
 clear hf18 hs18
 clear h17
 refine gG h18<|gRn (oM 1 rfl<|.nl)<|nK k15<|gR<|fun a19 w19 h19=>x_ret1 (fn:=Tryz.f30) (t:=4) rfl h19 rfl ?_;clear h18
 exact ⟨g18,fu18,_,_,_,sx18,en18,rfl,hbg18,hby18,hel18,(fun o ho b hb=>Nat.le_trans hsz18 (hnw18 o ho b hb)),⟨hsd18.1,hsd18.2.1,⟨fun y hy=>(hsd18.2.2.hd y hy).imp id fun h=>h.imp id fun h=>h.imp id fun h b hb=>Nat.le_trans hsz18 (h b hb),fun o ho b hb=>Nat.le_trans hsz18 (hsd18.2.2.en o ho b hb)⟩⟩,(h19.sh.sel [0,1,2] rfl)⟩
end Go.Proofs.YtmjkobhkkjgplaaGreatDoor
namespace Go.Proofs.YtmjkobhkkjgplaaGreatDoor
open Go.ChangeShapes Go.WideShapes Go.ChangeAt Go.RowKit
open Go.Deep (open_slice)
set_option linter.unusedSimpArgs false
set_option linter.unusedVariables false
class Rd (α:Type) extends Enc α where
 ty:Program→TypeId→Prop
 fine:α→Prop
 read:∀ {H:Type} {enc:TypeId×Value→H} {P:Program} {w:World} {base:Nat} {spare:Nat→Bool} {held:Bool} {fuel:Nat} {T:TypeId} {cs:List Value} {x:DataW H×List MemPlace},
  ty P T→DataW.trod enc P w base spare held fuel T cs=some x→(∀n∈DataW.weights P T x.1,n≤reachBytes)→∃a:α,cs=cellsOf a∧Enc.inner a w∧fine a
instance : Rd Int where
 ty P T:=P.underlying T=some (.int .i64)
 fine n:=(Lit.int .i64 n).wf=true
 read hT h _:=by
  obtain ⟨n,rfl,_,hw⟩:=DataW.trod_int hT h
  exact ⟨n,rfl,trivial,hw⟩
instance : Rd Bool where
 ty P T:=P.underlying T=some .bool
 fine _:=True
 read hT h _:=by
  obtain ⟨b,rfl,_⟩:=DataW.trod_bool hT h
  exact ⟨b,rfl,trivial,trivial⟩
def intFields (P:Program)(fs:Array Field)(n:Nat):Prop:=fs.size=n∧∀(j:Nat) (f:Field),fs[j]? =some f→f.offset=j∧P.underlying f.type=some (.int .i64)∧P.cellsOf f.type=1
theorem read_ints {H:Type}{enc:TypeId×Value→H}{P:Program}{w:World}{base:Nat}{spare:Nat→Bool}{held:Bool}{fuel:Nat}{T:TypeId}{cs:List Value}{x:DataW H×List MemPlace}{fs:Array Field}{n:Nat}
  (hT:P.underlying T=some (.struct fs)) (hfs:intFields P fs n) (hC:P.cellsOf T=n) (h:DataW.trod enc P w base spare held fuel T cs=some x):
  cs.length=n∧∀j,j<n→∃k:Int,cs[j]? =some (.int .i64 k)∧(Lit.int .i64 k).wf=true:=by
 obtain ⟨xs,m,_,_,hlen,hxl,hf⟩:=DataW.trod_struct hT h
 refine ⟨hlen.trans hC,fun j hj=> ?_⟩
 obtain ⟨hs,hall⟩:=hfs
 have hjs:j<fs.size:=by omega
 obtain ⟨ho,ht,hc⟩:=hall j fs[j] (by simp [hjs])
 have h1:=hf j fs[j] (by simp [hjs])
 rw [ho,hc,List.getElem?_eq_getElem (by omega)] at h1
 obtain ⟨k,hk,_,hw⟩:=DataW.trod_int ht h1
 refine ⟨k, ?_,hw⟩
 rw [List.drop_eq_getElem_cons (by omega)] at hk
 simp only [List.take_succ_cons,List.take_zero,List.cons.injEq,and_true] at hk
 rw [List.getElem?_eq_getElem (by omega),hk]
instance : Rd Ins where
 ty P T:=∃fs,P.underlying T=some (.struct fs)∧intFields P fs 4∧P.cellsOf T=4
 fine x:=(Lit.int .i64 x.op).wf=true∧(Lit.int .i64 x.a).wf=true∧(Lit.int .i64 x.b).wf=true∧(Lit.int .i64 x.c).wf=true
 read:=by
  rintro H enc P w base spare held fuel T cs x ⟨fs,hT,hfs,hC⟩ h _
  obtain ⟨hl,hj⟩:=read_ints hT hfs hC h
  obtain ⟨k0,e0,w0⟩:=hj 0 (by omega)
  obtain ⟨k1,e1,w1⟩:=hj 1 (by omega)
  obtain ⟨k2,e2,w2⟩:=hj 2 (by omega)
  obtain ⟨k3,e3,w3⟩:=hj 3 (by omega)
  match cs,hl with
  | [c0,c1,c2,c3],_=>
   simp only [List.getElem?_cons_zero,List.getElem?_cons_succ,Option.some.injEq] at e0 e1 e2 e3
   subst e0 e1 e2 e3
   exact ⟨⟨k0,k1,k2,k3⟩,rfl,trivial,w0,w1,w2,w3⟩
theorem weights_slice {H:Type}{P:Program}{T e:TypeId}{elems spare:List (DataW H)}(hT:P.underlying T=some (.slice e))(h:∀n∈DataW.weights P T (.slice elems spare),n≤reachBytes):
  (elems.length+spare.length)*P.bytesOf e≤reachBytes∧∀d∈elems,∀n∈DataW.weights P e d,n≤reachBytes:=by
 unfold DataW.weights at h
 rw [hT] at h
 refine ⟨h _ (by simp),fun d hd n hn=>h n ?_⟩
 have:∀l:List (DataW H),d∈l→n∈DataW.weightsAll P e l:=by
  intro l hl
  induction l with
  |nil=>cases hl
  |cons y l ih=>
   unfold DataW.weightsAll
   rcases List.mem_cons.1 hl with rfl|hl
   ·exact List.mem_append.2 (.inl hn)
   ·exact List.mem_append.2 (.inr (ih hl))
 simp only [List.mem_cons,List.mem_append]
 exact .inr (.inl (this _ hd))
instance {α:Type}[Rd α]:Rd (Sl α) where
 ty P T:=∃e,P.underlying T=some (.slice e)∧P.cellsOf e=Enc.sz α∧1≤P.bytesOf e∧0<Enc.sz α∧Rd.ty α P e
 fine s:=∀i,i<s.l.length→Rd.fine (nth s.l i)
 read:=by
  rintro H enc P w base spare held fuel T cs x ⟨e,hT,hC,hB,hpos,hty⟩ h hw
  rcases open_slice hT h with ⟨rfl,rfl⟩|⟨a,len,cap,m,n,D,Pl,rfl,_,hl,hm,hmm,rfl,hi⟩
  ·refine ⟨⟨none,0, []⟩,rfl,⟨Nat.le_refl _,by simp,by simp,fun hh=>absurd hh (by simp),fun hh=>absurd hh (by simp),fun i j hi=>absurd hi (by simp),fun i hi=>absurd hi (by simp)⟩,fun i hi=>absurd hi (by simp)⟩
  ·obtain ⟨hb,hd⟩:=weights_slice hT hw
   have hlm:len≤m:=by rw [hmm];split<;>omega
   have hlen:len≤140737488355328:=by
    simp only [List.length_map,List.length_range,reachBytes] at hb
    have:(len+(m-len))*1≤(len+(m-len))*P.bytesOf e:=Nat.mul_le_mul_left _ hB
    omega
   have key:∀i,i<len→∃y:α,(∀j,j<Enc.sz α→w.cell? ((a.add (i*Enc.sz α)).add j)=some (Enc.cell y j))∧Enc.inner y w∧Rd.fine y:=by
    intro i hil
    obtain ⟨cs',hc',ht'⟩:=hi i (by omega)
    obtain ⟨y,hy,hin,hf⟩:=Rd.read hty ht' (hd _ (List.mem_map.2 ⟨i,by simpa using hil,rfl⟩))
    obtain ⟨_,hcl,hat⟩:=World.cells?_some hc'
    rw [hC] at hc' hat hcl
    refine ⟨y,fun j hj=> ?_,hin,hf⟩
    rw [hat j (by first|exact hj|omega)]
    subst hy
    simp [cellsOf,hj]
   obtain ⟨F,hF⟩:=Go.Deep.choose_lt key
   let l:=(List.range len).map F
   have hll:l.length=len:=by simp [l]
   have hn:∀i,i<len→nth l i=F i:=by intro i hil;simp [nth,l,hil]
   have hcell0:0<len→∃v,w.cell? a=some v:=fun h0=>⟨_,by
    have h1:=(hF 0 h0).1 0 hpos
    rw [Nat.zero_mul,Addr.add_zero',Addr.add_zero'] at h1
    exact h1⟩
   have hspot:0<len→a.spot=none:=by
    intro h0
    obtain ⟨v,hv⟩:=hcell0 h0
    unfold World.cell? at hv
    split at hv
    ·split at hv
     ·cases hv
     ·rename_i hs
      simpa using hs
    ·cases hv
   refine ⟨⟨some a,cap,l⟩,by simp [cellsOf,Enc.cell,Enc.sz,hll],⟨by rw [hll];exact hl,hm,by rw [hll];exact hlen, ?_, ?_, ?_, ?_⟩, ?_⟩
   ·intro h0
    exact ⟨a,rfl,hspot (by rw [←hll];exact h0)⟩
   ·intro h0
    obtain ⟨v,hv⟩:=hcell0 (by rw [←hll];exact h0)
    exact World.block_lt_of_cell? w a hv
   ·intro i j hi' hj
    rw [hll] at hi'
    show w.cell? ⟨a.block,a.off+i*Enc.sz α+j,none⟩=some (Enc.cell (nth l i) j)
    rw [hn i hi',←(hF i hi').1 j hj]
    have hs:=hspot (by omega)
    rcases a with ⟨b,o,sp⟩
    simp only at hs
    subst hs
    rw [Addr.add_lit,Addr.add_lit]
   ·intro i hi'
    rw [hll] at hi'
    rw [hn i hi']
    exact (hF i hi').2.1
   ·intro i hi'
    rw [hll] at hi'
    rw [hn i hi']
    exact (hF i hi').2.2
def prFields (P:Program)(fs:Array Field):Prop:=
 ∃f0 f1 f2 f3:Field,fs= #[f0,f1,f2,f3]∧(f0.offset=0∧P.cellsOf f0.type=1∧Rd.ty (Sl (Sl Ins)) P f0.type)∧(f1.offset=1∧P.cellsOf f1.type=1∧Rd.ty (Sl Int) P f1.type)∧
  (f2.offset=2∧P.cellsOf f2.type=1∧Rd.ty Int P f2.type)∧(f3.offset=3∧P.cellsOf f3.type=1∧Rd.ty Int P f3.type)
def PR.fine (p:PR):Prop:=Rd.fine p.code∧Rd.fine p.words∧(Lit.int .i64 p.locks).wf=true∧(Lit.int .i64 p.regs).wf=true
theorem weights_agg {H:Type}{P:Program}{T:TypeId}{f0 f1 f2 f3:Field}{d0 d1 d2 d3:DataW H}(hT:P.underlying T=some (.struct #[f0,f1,f2,f3]))(h:∀n∈DataW.weights P T (.agg [d0,d1,d2,d3]),n≤reachBytes):
  (∀n∈DataW.weights P f0.type d0,n≤reachBytes)∧(∀n∈DataW.weights P f1.type d1,n≤reachBytes)∧(∀n∈DataW.weights P f2.type d2,n≤reachBytes)∧(∀n∈DataW.weights P f3.type d3,n≤reachBytes):=by
 unfold DataW.weights at h
 rw [hT] at h
 simp only [List.map_cons,List.map_nil,DataW.weightsEach,List.append_nil,List.mem_append] at h
 exact ⟨fun n hn=>h n (.inl hn),fun n hn=>h n (.inr (.inl hn)),fun n hn=>h n (.inr (.inr (.inl hn))),fun n hn=>h n (.inr (.inr (.inr hn)))⟩
theorem open_PR {H:Type}{enc:TypeId×Value→H}{P:Program}{w:World}{base:Nat}{spare:Nat→Bool}{held:Bool}{r:Go.Reach}{b0:Nat}{T:TypeId}{fs:Array Field}{v:Value}{d:DataW H}{p:List MemPlace}
  (hT:P.underlying T=some (.struct fs)) (hfs:prFields P fs) (hC:P.cellsOf T=4) (hv:Value.okWide P w r b0 T v) (h:DataW.Trod enc P w base spare held T v d p) (hw:∀n∈DataW.weights P T d,n≤reachBytes):
  ∃q:PR,v=q.val∧q.At w∧q.fine:=by
 obtain ⟨f0,f1,f2,f3,rfl,⟨o0,c0,t0⟩,⟨o1,c1,t1⟩,⟨o2,c2,t2⟩,⟨o3,c3,t3⟩⟩:=hfs
 obtain ⟨cs,rfl,hsz⟩:=okWide_struct hT hv
 obtain ⟨l⟩:=cs
 match l,hsz.trans hC with
 | [v0,v1,v2,v3],_=>
  obtain ⟨fuel,hf⟩:=h
  obtain ⟨xs,n,_,hx,_,hlen,hg⟩:=DataW.trod_struct hT hf
  match xs,hlen with
  | [y0,y1,y2,y3],_=>
   simp only [Prod.mk.injEq,List.map_cons,List.map_nil] at hx
   rw [hx.1] at hw
   obtain ⟨w0,w1,w2,w3⟩:=weights_agg hT hw
   have g0:=hg 0 f0 rfl
   have g1:=hg 1 f1 rfl
   have g2:=hg 2 f2 rfl
   have g3:=hg 3 f3 rfl
   rw [o0,c0] at g0
   rw [o1,c1] at g1
   rw [o2,c2] at g2
   rw [o3,c3] at g3
   simp [Value.cells] at g0 g1 g2 g3
   obtain ⟨s0,e0,i0,k0⟩:=Rd.read t0 g0 w0
   obtain ⟨s1,e1,i1,k1⟩:=Rd.read t1 g1 w1
   obtain ⟨s2,e2,i2,k2⟩:=Rd.read t2 g2 w2
   obtain ⟨s3,e3,i3,k3⟩:=Rd.read t3 g3 w3
   simp [cellsOf,Enc.cell,Enc.sz] at e0 e1 e2 e3
   subst e0 e1 e2 e3
   exact ⟨⟨s0,s1,s2,s3⟩,rfl,⟨i0,i1⟩,k0,k1,k2,k3⟩
end Go.Proofs.YtmjkobhkkjgplaaGreatDoor
namespace Go.Proofs.YtmjkobhkkjgplaaGreatDoor
open Go.ChangeShapes Go.WideShapes Go.ChangeAt Go.RowKit
set_option linter.unusedSimpArgs false
set_option linter.unusedVariables false
theorem own :ownKnob Tryz.prog.godebug=none:=by kernel_rfl
theorem laidOut :laidOutB Tryz.prog=true:=by kernel_rfl
theorem ty_int :Rd.ty Int Tryz.prog 3:=Tryz.underlying3
theorem ty_ins :Rd.ty Ins Tryz.prog 32:=by
 refine ⟨_,Tryz.underlying32,⟨rfl,fun j f hf=> ?_⟩,by kernel_rfl⟩
 rcases j with _|_|_|_|j<;>simp at hf<;>subst hf<;>exact ⟨rfl,Tryz.underlying3,by kernel_rfl⟩
theorem ty_ints :Rd.ty (Sl Int) Tryz.prog 23:=⟨_,Tryz.underlying23,by kernel_rfl,of_decide_eq_true (by kernel_rfl),by decide,ty_int⟩
theorem ty_code :Rd.ty (Sl Ins) Tryz.prog 33:=⟨_,Tryz.underlying33,by kernel_rfl,of_decide_eq_true (by kernel_rfl),by decide,ty_ins⟩
theorem ty_codes :Rd.ty (Sl (Sl Ins)) Tryz.prog 22:=⟨_,Tryz.underlying22,by kernel_rfl,of_decide_eq_true (by kernel_rfl),by decide,ty_code⟩
theorem ty_pr :∃fs,Tryz.prog.underlying 25=some (.struct fs)∧prFields Tryz.prog fs:=
 ⟨_,Tryz.underlying25,_,_,_,_,rfl,⟨rfl,by kernel_rfl,ty_codes⟩,⟨rfl,by kernel_rfl,ty_ints⟩,⟨rfl,by kernel_rfl,ty_int⟩,⟨rfl,by kernel_rfl,ty_int⟩⟩
section
variable {α:Type}[Enc α]
def ofSl (s:Sl α):Ls α:=⟨.slice s.A s.l.length s.cap,s.l⟩
theorem ofSl_at {s:Sl α}{w:World}(h:s.At w):(ofSl s).At w:=⟨s.A,s.cap,rfl,h⟩
def ofSl2 (s:Sl (Sl α)):Ls (Ls α):=⟨.slice s.A s.l.length s.cap,s.l.map ofSl⟩
theorem ofSl2_at {s:Sl (Sl α)}{w:World}(h:s.At w):(ofSl2 s).At w:=by
 refine ⟨s.A,s.cap,by simp [ofSl2],⟨by simpa [ofSl2] using h.le,h.max,by simpa [ofSl2] using h.len,by simpa [ofSl2] using h.some,by simpa [ofSl2] using h.lt',fun i j hi hj=> ?_,fun i hi=> ?_⟩⟩
 ·have hi' :i<s.l.length:=by simpa [ofSl2] using hi
  show w.cell? _=some (Enc.cell (nth (s.l.map ofSl) i) j)
  rw [nth_map' ofSl _ _ hi']
  exact h.cell i j hi' hj
 ·have hi' :i<s.l.length:=by simpa [ofSl2] using hi
  show Enc.inner (nth (s.l.map ofSl) i) w
  rw [nth_map' ofSl _ _ hi']
  exact ofSl_at (h.inner i hi')
end
end Go.Proofs.YtmjkobhkkjgplaaGreatDoor
namespace Go.Proofs.YtmjkobhkkjgplaaGreatDoor
open Go.RowKit
set_option linter.unusedSimpArgs false
set_option linter.unusedVariables false
set_option maxRecDepth 100000
set_option maxHeartbeats 20000000
theorem neq_cl (f g:Cl)(w:World):(binOp .neq 58 f.val g.val).run Tryz.prog w= .ok (.bool (decide (f≠g))) w:=by
 obtain ⟨a,b,c,d,e⟩:=f
 obtain ⟨a',b',c',d',e'⟩:=g
 simp [binOp,Cl.val,Op.equal,Op.maxDepth,go_sem]
 by_cases h1:a=a' <;>by_cases h2:b=b' <;>by_cases h3:c=c' <;>by_cases h4:d=d' <;>by_cases h5:e=e' <;>simp [h1,h2,h3,h4,h5]
theorem neq_clG (x y:Operand)(f g:Cl)(w:World):(eqGuard .neq 58 x y f.val g.val).run Tryz.prog w= .ok () w:=by
 simp [eqGuard,Cl.val]
 try kernel_rfl
theorem r_neqC {P:Program}{o:Oper}{N:Nat}{K:Nat→Prop}{W:World}{F:List (Nat×Value)}{L:List Asn}{T U:TypeId}{x y:Operand}{u v:Value}{b:Bool}(ho:o.op= .binOp .neq T x y U)(hx:ev F x=some u)(hy:ev F y=some v)(hg:∀w,(eqGuard .neq T x y u v).run P w= .ok () w)(hb:∀w,(binOp .neq T u v).run P w= .ok (.bool b) w):Rn P o N K W F L (.bool b):=fun a w h=>by
 unfold execOp
 simp only [ho,h.fr.ev hx,h.fr.ev hy,Sem.run_bind,Sem.run_pure,Result.andThen_ok,hg,hb]
theorem find_cr {p:Pg}{l:List Cl}{ok:Bool}{s:List Cl}{states:List SD}(hf:FindF p ok l)(hok:ok=true)(hS:∀s,s∈states.map SD.st↔Reach p 0 s)(hc:CR (ClSt p (states.map SD.st) states.length) s):l=s:=by
 obtain ⟨_,_,h2,h3⟩:=hf.yes hok
 refine CR.ext (P:=fun c=>∃s,Reach p 0 s∧∃a b,a<b∧b<p.code.length∧clashAt p s a b=some c) ⟨h2,h3⟩ (hc.iff fun c=>clSt_n (by rw [List.length_map]) hS)
theorem lfull_c (W:World):
    Rets Tryz.prog 27 [] W (fun v w' =>v= .agg #[.int .i64 10, .int .i64 0, .int .i64 0]∧Sh0 W w' []):=by
 refine gen Tryz.func27 Tryz.ntmps27 (Sh0.start _:Sh (fun _=>False) W W []) rfl fun a10 h10=>gG h10<|sK fun _ k11=>gal ti_28 rfl fun b12=>nK k11<|sK fun _ k13=>gRn (oV (r_build (cs:= [.int .i64 10, .int .i64 0, .int .i64 0]) rfl rfl (by kernel_rfl)) rfl<|.nl)<|gsw 0 ti_28 rfl rfl rfl<|nK k13<|gR<|fun a15 w15 h15=>x_ret1c (fn:=Tryz.f27) (t:=0) (i:=0) ti_28 rfl h15 rfl rfl rfl ?_;clear h10
 exact ⟨rfl,(h15.sh.sel [] rfl)⟩
theorem raceFinds_v (code:Ls (Ls Ins))(words:Ls Int)(locks regs:Int)(W:World)(hcode:code.At W)(hwords:words.At W)(hv:vastG (code.l.map (·.l)) words.l=true):
    Rets Tryz.prog 9 [.agg #[code.v,words.v, .int .i64 locks, .int .i64 regs]] W (fun v w' =>v= .bool true∧Sh0 W w' []):=by
 refine gen Tryz.func9 Tryz.ntmps9 (Sh0.ext2 hcode hwords:Sh (fun _=>False) W W [.at_ code, .at_ words]) rfl fun a10 h10=>gG h10<|sK fun _ k11=>gbx rfl rfl fun b12=>gRn (oM 1 rfl<|.nl)<|nK k11<|gK fun _ k13=>sK fun _ k14=>gRn (olw 0 ti_25 rfl rfl<|.nl)<|gC (fun _ _ h_=>xCl h_ bd_23 rfl (vast_c (code:=code) (words:=words) (locks:=locks) (regs:=regs) (h_.sh.at 1 rfl) (h_.sh.at 2 rfl))) rfl<|?_;clear h10
 rintro _ _ w15 ⟨rfl,hs15⟩
 refine gWk hs15 rfl<|gU<|nK k14<|gcT rfl hv<|sG (oM 1 rfl<|.nl)<|gR<|uT<|fun a17 w17 h17=> ?_;clear hs15
 refine x_ret1 (fn:=Tryz.f9) (t:=2) rfl h17 rfl<|⟨?_,(h17.sh.sel [] rfl)⟩
 first|rfl|exact congrArg _ (decide_eq_true rfl)|exact congrArg _ (decide_eq_true hu0)|exact congrArg _ (decide_eq_true hsame)
theorem raceFinds_b (code:Ls (Ls Ins))(words:Ls Int)(locks regs:Int)(W:World)(hcode:code.At W)(hwords:words.At W)(hv:vastG (code.l.map (·.l)) words.l=false)(hz:(checkG (pgOf code words locks regs)).code≠0):
    Rets Tryz.prog 9 [.agg #[code.v,words.v, .int .i64 locks, .int .i64 regs]] W (fun v w' =>v= .bool true∧Sh0 W w' []):=by
 refine gen Tryz.func9 Tryz.ntmps9 (Sh0.ext2 hcode hwords:Sh (fun _=>False) W W [.at_ code, .at_ words]) rfl fun a10 h10=>gG h10<|sK fun _ k11=>gbx rfl rfl fun b12=>gRn (oM 1 rfl<|.nl)<|nK k11<|gK fun _ k13=>sK fun _ k14=>gRn (olw 0 ti_25 rfl rfl<|.nl)<|gC (fun _ _ h_=>xCl h_ bd_23 rfl (vast_c (code:=code) (words:=words) (locks:=locks) (regs:=regs) (h_.sh.at 1 rfl) (h_.sh.at 2 rfl))) rfl<|?_;clear h10
 rintro _ _ w15 ⟨rfl,hs15⟩
 refine gWk hs15 rfl<|gU<|nK k14<|gcF rfl hv<|gS<|hK k13<|sK fun _ k16=>gRn (olw 0 ti_25 rfl rfl<|.nl)<|gC (fun _ _ h_=>xCl h_ bd_20 rfl (find_b code words locks regs _ (h_.sh.at 1 rfl) (h_.sh.at 2 rfl) hz)) rfl<|?_;clear hs15
 rintro _ _ w17 ⟨rfl,hs17⟩
 refine gWk hs17 rfl<|gU<|gRn (oM 1 rfl<|oxt rfl<|oxt rfl<|.nl)<|gal ti_28 rfl fun b18=>gRn (oM 1 rfl<|.nl)<|gsw 0 ti_28 rfl rfl rfl<|nK k16<|sK fun _ k20=>gRn (olw 1 ti_25 rfl rfl<|.nl)<|gC (fun _ _ h_=>xCl h_ bd_25 rfl (refCheck_c (code:=code) (words:=words) (locks:=locks) (regs:=regs) (h_.sh.at 2 rfl) (h_.sh.at 3 rfl))) rfl<|?_;clear hs17
 rintro _ _ w21 ⟨rfl,hs21⟩
 refine gWk hs21 rfl<|gU<|gal ti_28 rfl fun b22=>gsw 0 ti_28 rfl rfl rfl<|nK k20<|gK fun _ k24=>sG (ofB fl_28_0 rfl<|olB 0 ti_26 rfl rfl<|oneI _ _ rfl<|.nl)<|gcT rfl (decide_eq_true hz)<|sK fun _ k26=>gNl (fun w h=>(Sh.nilAt (α:=Cl) h)) fun (hl27:([]).length≤140737488355328)=>gRn (olw 1 ti_28 rfl rfl<|olw 0 ti_28 rfl rfl<|oV (r_eqS rfl rfl rfl (fun w=>eq_fltG _ _ ⟨(checkG (pgOf code words locks regs)).code,(checkG (pgOf code words locks regs)).thread,(checkG (pgOf code words locks regs)).at_⟩ ⟨(checkG (pgOf code words locks regs)).code,(checkG (pgOf code words locks regs)).thread,(checkG (pgOf code words locks regs)).at_⟩ w) (fun w=>eq_flt ⟨(checkG (pgOf code words locks regs)).code,(checkG (pgOf code words locks regs)).thread,(checkG (pgOf code words locks regs)).at_⟩ ⟨(checkG (pgOf code words locks regs)).code,(checkG (pgOf code words locks regs)).thread,(checkG (pgOf code words locks regs)).at_⟩ w)) rfl<|oM 1 rfl<|oG (decide_eq_true rfl) (r_move rfl rfl) rfl<|oG (decide_eq_true rfl) (r_len (s:=(⟨.slice none 0 0, []⟩:Ls Cl)) (n:=([]).length) sl_41 rfl rfl (fun w h=>(Sh.nilAt (α:=Cl) h)) rfl) rfl<|oG (decide_eq_true rfl) (r_eqlN (p:=([]).length) (q:=0) rfl rfl rfl) rfl<|opT (decide_eq_true rfl) rfl<|oM 1 rfl<|.nl)<|nK k26<|gF [2] rfl<|gR<|uT<|fun a28 w28 h28=> ?_;clear hs21
 refine x_ret1 (fn:=Tryz.f9) (t:=2) rfl h28 rfl<|⟨?_,(h28.sh.sel [] rfl)⟩
 first|rfl|exact congrArg _ (decide_eq_true rfl)|exact congrArg _ (decide_eq_true hu0)|exact congrArg _ (decide_eq_true hsame)
theorem raceFinds_k (code:Ls (Ls Ins))(words:Ls Int)(Lk R:Nat)(W:World)(hcode:code.At W)(hwords:words.At W)(hv:vastG (code.l.map (·.l)) words.l=false)(hok:OkPg (pgN code words Lk R))(hR:PgR (pgN code words Lk R)):
    Rets Tryz.prog 9 [.agg #[code.v,words.v, .int .i64 ((Lk:Nat):Int), .int .i64 ((R:Nat):Int)]] W (fun v w' =>v= .bool true∧Sh0 W w' []):=by
 have hz:checkG (pgOf code words ((Lk:Nat):Int) ((R:Nat):Int))=⟨0,0,0⟩:=checkG_ok hok
 refine gen Tryz.func9 Tryz.ntmps9 (Sh0.ext2 hcode hwords:Sh (fun _=>False) W W [.at_ code, .at_ words]) rfl fun a10 h10=>gG h10<|sK fun _ k11=>gbx rfl rfl fun b12=>gRn (oM 1 rfl<|.nl)<|nK k11<|gK fun _ k13=>sK fun _ k14=>gRn (olw 0 ti_25 rfl rfl<|.nl)<|gC (fun _ _ h_=>xCl h_ bd_23 rfl (vast_c (code:=code) (words:=words) (locks:=((Lk:Nat):Int)) (regs:=((R:Nat):Int)) (h_.sh.at 1 rfl) (h_.sh.at 2 rfl))) rfl<|?_;clear h10
 rintro _ _ w15 ⟨rfl,hs15⟩
 refine gWk hs15 rfl<|gU<|nK k14<|gcF rfl hv<|gS<|hK k13<|sK fun _ k16=>gRn (olw 0 ti_25 rfl rfl<|.nl)<|fun a18 w18 h18=> ?_;clear hs15
 refine wl_ex (x_call h18 bd_20 rfl rfl rfl rfl rfl (find_k code words Lk R _ (h18.sh.at 1 rfl) (h18.sh.at 2 rfl) hok hR)) (wanted_none rfl _) ?_
 rintro a19 w19 ⟨_,⟨l19,ok19,rfl,hff19,hs19⟩,hf19⟩
 have h19:=(⟨hf19,h18.sh.call hs19 (by intro A hA b hb;first|(simp at hA;done)|(simp at hA;subst hA;first|exact Flat.noRd hb|exact (hb:False).elim)|(simp at hA;rcases hA with rfl|rfl<;>first|exact Flat.noRd hb|exact (hb:False).elim))⟩:St 70 (fun _=>False) W a19 w19 _ _)
 clear hf19 hs19
 clear h18
 refine gG h19<|gRn (oM 1 rfl<|oxt rfl<|oxt rfl<|.nl)<|gal ti_28 rfl fun b20=>gRn (oM 1 rfl<|.nl)<|gsw 0 ti_28 rfl rfl rfl<|nK k16<|sK fun _ k22=>gRn (olw 2 ti_25 rfl rfl<|.nl)<|gC (fun _ _ h_=>xCl h_ bd_25 rfl (refCheck_c (code:=code) (words:=words) (locks:=((Lk:Nat):Int)) (regs:=((R:Nat):Int)) (h_.sh.at 3 rfl) (h_.sh.at 4 rfl))) rfl<|?_;clear h19
 rintro _ _ w23 ⟨rfl,hs23⟩
 refine gWk hs23 rfl<|gU<|gal ti_28 rfl fun b24=>gsw 0 ti_28 rfl rfl rfl<|nK k22<|gK fun _ k26=>sG (ofB fl_28_0 rfl<|olB 0 ti_26 rfl rfl<|oneI _ _ rfl<|.nl)<|gcF rfl (by rw [hz];rfl)<|gS<|hK k26<|sK fun _ k28=>gRn (olw 3 ti_25 rfl rfl<|.nl)<|fun a30 w30 h30=> ?_;clear hs23
 refine wl_ex (x_call h30 bd_30 rfl rfl rfl rfl rfl (make0_s code words Lk R _ (h30.sh.at 4 rfl) (h30.sh.at 5 rfl) hok)) (wanted_none rfl _) ?_
 rintro a31 w31 ⟨_,⟨g31,fu31,kv31,hv31,bv31,sx31,en31,rfl,hbg31,hby31,hel31,hnw31,hsd31,hs31⟩,hf31⟩
 have hsz31:=h30.sh.chg.size
 have h31:=(⟨hf31,h30.sh.call hs31 (by intro A hA b hb;simp only [List.mem_cons,List.not_mem_nil,or_false] at hA;rcases hA with rfl|rfl|rfl;exact (hb:False).elim;exact .inl (by obtain ⟨i9,hi9,hb9⟩:=hb;exact (hsd31.2.2.hd _ (nth_mem _ _ hi9)).2.2.2 b hb9);exact .inl (by obtain ⟨i9,hi9,hb9⟩:=hb;exact hnw31 _ (nth_mem _ _ hi9) b hb9))⟩:St 70 (fun _=>False) W a31 w31 _ _)
 clear hf31 hs31
 clear h30
 refine gG h31<|gRn (oM 1 rfl<|.nl)<|nK k28<|gK fun _ k32=>sG (oM 1 rfl<|onfl 0 fl_52_5 ti_4 rfl rfl<|.nl)<|?_;clear h31
 refine gCb rfl (fun hb34=> ?_) fun hb34=> ?_
 ·skip
  have hof:ok19=false:=by cases h9:ok19 with|false=>rfl|true=>exact absurd ((hbg31).1 hb34) (hff19.yes h9).1
  have hu0:l19.l.length=0:=by rw [(hff19.no hof).2];rfl
  have e10:((if ok19=true then (0:Int) else 10):Int)=10:=by rw [hof];rfl
  intro a35 w35 h35
  rw [e10] at h35
  refine gG h35<|gK fun _ k36=>fun a37 w37 h37=>x_quiet (by kernel_rfl) (by kernel_rfl) h37 fun _ z38=>qQ h37.fr<|qRn (olw 4 ti_28 rfl rfl<|.nl)<|qP bd_27 rfl (fun w h=>(lfull_c _))<|qRn (oV (r_eqS rfl rfl rfl (fun w=>eq_fltG _ _ ⟨10,0,0⟩ ⟨10,0,0⟩ w) (fun w=>eq_flt ⟨10,0,0⟩ ⟨10,0,0⟩ w)) rfl<|oM 1 rfl<|oG (decide_eq_true rfl) (r_move rfl rfl) rfl<|.nl)<|?_;clear h35
  have hl41:l19.l.length≤140737488355328:=(h37.sh.own 5 rfl).len
  refine qRn (oG (decide_eq_true rfl) (r_len (s:=l19) (n:=l19.l.length) sl_41 rfl rfl (fun w h=>(h.own 5 rfl)) rfl) rfl<|oG (decide_eq_true rfl) (r_eqlN (p:=l19.l.length) (q:=0) rfl rfl rfl) rfl<|opT (decide_eq_true rfl) rfl<|oM 1 rfl<|.nl)<|qN z38<|hK k36<|gF [2] rfl<|gR<|uT<|fun a43 w43 h43=>x_ret1 (fn:=Tryz.f9) (t:=2) rfl h43 rfl<|⟨?_,(h43.sh.sel [] rfl)⟩;clear h37
  first|rfl|exact congrArg _ (decide_eq_true rfl)|exact congrArg _ (decide_eq_true hu0)|exact congrArg _ (decide_eq_true hsame)
 have hof:ok19=true:=by cases h9:ok19 with|true=>rfl|false=>exact absurd ((hbg31).2 (hff19.no h9).1) (by rw [hb34];decide)
 have e10:((if ok19=true then (0:Int) else 10):Int)=0:=by rw [hof];rfl
 intro a44 w44 h44
 rw [e10] at h44
 refine gG h44<|gS<|hK k32<|sK fun _ k45=>gRn (oM 1 rfl<|.nl)<|gO [0,1,7,2,3,4,5,6,8] rfl<|fun a51 w51 h51=> ?_;clear h44
 have hp50:=h51.sh.passL (Lp:= [_,_,_])
 refine wl_ex (x_call h51 bd_31 rfl rfl rfl rfl rfl (clsR_c _ g31 code words Lk R sx31 _ _ _ _ fu31 _ hok hp50 (fun y hy=>((hsd31.1 hb34).2 _).1 (List.mem_map.2 ⟨y,hy,rfl⟩)) (fun y hy=>⟨(hsd31.2.2.hd y hy).1,(hsd31.2.2.hd y hy).2.1,(hsd31.2.2.hd y hy).2.2.1⟩) hsd31.2.1)) (wanted_none rfl _) ?_
 rintro a52 w52 ⟨_,⟨k52,rfl,hcr52,hs52⟩,hf52⟩
 have h52:St 70 (fun _=>False) W a52 w52 _ [_,_,_,_,_,_,_,_,_,_]:=⟨hf52,h51.sh.backL (Lp:= [_,_,_]) hs52 (by intro A hA b hb;simp only [List.mem_cons,List.not_mem_nil,or_false] at hA;rcases hA with rfl|rfl|rfl|rfl<;>first|exact (hb:False).elim|exact Flat.noRd hb|exact .inl ⟨_,List.mem_cons_self .., .inr hb⟩|exact .inl ⟨_,List.mem_of_getElem? (i:=1) rfl, .inr hb⟩|exact .inl ⟨_,by simp, .inr hb⟩)⟩
 clear hf52 hs52
 clear h51
 refine gG h52<|gRn (oM 1 rfl<|.nl)<|nK k45<|gF [3,4,7] rfl<|?_;clear h52
 have hsame:l19.l=k52.l:=find_cr hff19 hof (hsd31.1 hb34).2 hcr52
 have hkl:k52.l.length=l19.l.length:=by rw [hsame]
 refine gK fun _ k53=>sK fun _ k54=>gNl (aO 7 rfl) fun hl55=>gNl (aO 0 rfl) fun hl56=>gRn (ofB fl_28_0 rfl<|olB 6 ti_26 rfl rfl<|oneN 0 0 rfl<|oM 1 rfl<|oG (by decide) (r_move rfl rfl) rfl<|oG (by decide) (r_len (s:=l19) (n:=l19.l.length) sl_41 rfl rfl (fun w h=>(h.own 7 rfl)) rfl) rfl<|oG (by decide) (r_move rfl rfl) rfl<|oG (by decide) (r_len (s:=k52) (n:=k52.l.length) sl_41 rfl rfl (fun w h=>(h.own 0 rfl)) rfl) rfl<|oG (by decide) (r_neqN (p:=l19.l.length) (q:=k52.l.length) rfl rfl rfl) rfl<|opF (by decide) rfl<|.nl)<|nK k54<|gcF rfl (decide_eq_false (fun h=>h (by rw [hsame])))<|gS<|hK k53<|gK fun _ k57=>sG (oM 1 rfl<|.nl)<|gB<|fun a60 w60 h60=>x_loop (fun m a w=>∃(e:Nat),(e≤l19.l.length)∧St 70 (fun _=>False) W a w [(3,l19.v),(7,k52.v),(8, .int .i64 ((e:Nat):Int))] [.own 58 k52, .blk g31 52 [sx31.v,kv31,hv31,bv31,en31.v, .bool fu31], .own 103 sx31, .at_ code, .own 39 en31, .blk b24 28 [.int .i64 ((checkG (pgOf code words ((Lk:Nat):Int) ((R:Nat):Int))).code), .int .i64 ((checkG (pgOf code words ((Lk:Nat):Int) ((R:Nat):Int))).thread), .int .i64 ((checkG (pgOf code words ((Lk:Nat):Int) ((R:Nat):Int))).at_)], .blk b20 28 [.int .i64 0, .int .i64 0, .int .i64 0], .own 58 l19, .blk b12 25 [code.v,words.v, .int .i64 ((Lk:Nat):Int), .int .i64 ((R:Nat):Int)], .at_ words]∧m=l19.l.length-e) ⟨_,0,(by omega),h60.nf ⟨rfl,rfl,rfl,trivial⟩,rfl⟩ ?_
 clear h60
 rintro m59 a59 w59 ⟨e,he,h59,hm59⟩
 refine gG h59<|gK fun _ k61=>sG (oM 2 rfl<|oln sl_41 (aO 7 rfl) rfl<|oltN _ _ rfl<|.nl)<|?_;clear h59
 refine gcd rfl (fun hb63 hp63=> ?_) fun hb63 hp63=> ?_
 ·skip
  refine gS<|hK k61<|gK fun _ k64=>gB<|gK fun _ k65=>rQ (oM 2 rfl<|oxN sl_41 ti_58 (aO 7 rfl) _ om9 rfl<|olw2 [.int .i64 ((nth l19.l e).th), .int .i64 ((nth l19.l e).at_), .int .i64 ((nth l19.l e).oth), .int .i64 ((nth l19.l e).wh), .int .i64 ((nth l19.l e).wd)] ti_58 (aO 7 rfl) om9 rfl<|oM 2 rfl<|oxN sl_41 ti_58 (aO 0 rfl) _ om9 rfl<|olw2 [.int .i64 ((nth k52.l e).th), .int .i64 ((nth k52.l e).at_), .int .i64 ((nth k52.l e).oth), .int .i64 ((nth k52.l e).wh), .int .i64 ((nth k52.l e).wd)] ti_58 (aO 0 rfl) om9 rfl<|oV (r_neqC rfl rfl rfl (fun w=>neq_clG _ _ (nth l19.l e) (nth k52.l e) w) (fun w=>neq_cl (nth l19.l e) (nth k52.l e) w)) rfl<|.nl)<|hK k65<|gcF rfl (decide_eq_false (fun h=>h (by rw [hsame])))<|gS<|hK k64<|gL<|gRn (oM 1 rfl<|oadN _ 1 om9 rfl<|oM 1 rfl<|.nl)<|nN<|fun a66 w66 h66=>x_again ⟨_, ?_,e+1, ?_,h66.nf ⟨rfl,rfl,rfl,trivial⟩,rfl⟩
  · rw [hm59];first|omega|(simp only [lens9];omega)
  · omega
 refine gX<|hK k57<|sG (oM 1 rfl<|.nl)<|gR<|fun a68 w68 h68=>x_ret1 (fn:=Tryz.f9) (t:=2) rfl h68 rfl<|⟨?_,(h68.sh.sel [] rfl)⟩
 first|rfl|exact congrArg _ (decide_eq_true rfl)|exact congrArg _ (decide_eq_true hu0)|exact congrArg _ (decide_eq_true hsame)
theorem raceFinds_any (code:Ls (Ls Ins))(words:Ls Int)(locks regs:Int)(W:World)(hcode:code.At W)(hwords:words.At W)(hR:PgR (pgOf code words locks regs)):Rets Tryz.prog 9 [.agg #[code.v,words.v, .int .i64 locks, .int .i64 regs]] W (fun v w' =>v= .bool true∧Sh0 W w' []):=by
 cases hv:vastG (code.l.map (·.l)) words.l with
 |true=>exact raceFinds_v code words locks regs W hcode hwords hv
 |false=>
  by_cases hok:OkPg (pgOf code words locks regs)
  ·obtain ⟨Lk,rfl⟩:=Int.eq_ofNat_of_zero_le hok.locks.1
   obtain ⟨R,rfl⟩:=Int.eq_ofNat_of_zero_le (show 0≤regs by have:=hok.regs.1;have e:(pgOf code words (Lk:Int) regs).regs=regs:=rfl;omega)
   exact raceFinds_k code words Lk R W hcode hwords hv hok hR
  ·exact raceFinds_b code words locks regs W hcode hwords hv (fun h=>hok (checkG_code_pos.1 h))
end Go.Proofs.YtmjkobhkkjgplaaGreatDoor
namespace Go.Proofs.YtmjkobhkkjgplaaGreatDoor
open Go Go.ChangeShapes Go.WideShapes Go.ChangeAt Go.RowKit
set_option linter.unusedSimpArgs false
set_option linter.unusedVariables false
theorem wf64 {n:Int}(h:(Lit.int .i64 n).wf=true):R64 n:=by
 unfold Lit.wf at h
 simp only [Bool.and_eq_true,decide_eq_true_eq] at h
 have e1:IntKind.i64.min= -9223372036854775808:=by kernel_rfl
 have e2:IntKind.i64.max=9223372036854775807:=by kernel_rfl
 rw [e1,e2] at h
 unfold R64
 omega
theorem pr_fine {pr:PR}(h:pr.fine):PgR (pgOf (ofSl2 pr.code) (ofSl pr.words) pr.locks pr.regs):=by
 obtain ⟨h1,h2,_,_⟩:=h
 refine ⟨fun c hc i hi=> ?_,fun n hn=> ?_⟩
 ·obtain ⟨l,hl,rfl⟩:=List.mem_map.1 hc
  obtain ⟨s,hs,rfl⟩:=List.mem_map.1 hl
  obtain ⟨k,hk,rfl⟩:=List.mem_iff_getElem.1 hs
  have h3:=h1 k hk
  rw [nth_lt _ _ hk] at h3
  obtain ⟨q,hq,rfl⟩:=List.mem_iff_getElem.1 hi
  have h4:=h3 q hq
  have hq' :q<(pr.code.l[k]).l.length:=hq
  rw [nth_lt _ _ hq'] at h4
  exact ⟨wf64 h4.2.1,wf64 h4.2.2.1,wf64 h4.2.2.2⟩
 ·obtain ⟨k,hk,rfl⟩:=List.mem_iff_getElem.1 hn
  have hk' :k<pr.words.l.length:=hk
  have h3:=h2 k hk'
  rw [nth_lt _ _ hk'] at h3
  exact wf64 h3
theorem door_met (os:Os)(args:Array Value):laidMetH Tryz.prog Rows.raceFindsRow.laid ((World.doorLaid Tryz.prog 24 os).forCall (fun _ _=>0) ⟨#[],args, []⟩).memory:=
 laidMetH_of_parts3 (fuel:=8) (laidMet_of_run' 8 (by kernel_rfl) (by kernel_rfl)) (by kernel_rfl) (by kernel_rfl)
set_option maxRecDepth 100000 in
theorem raceFinds_lifted (os:Os)(started:os.Started)(H:Type)(enc:TypeId×Value→H):
  ReturnsInHanded {} Tryz.checked os 9 .any (fun w args=>(Rows.raceFindsSpec.pre enc Tryz.prog Tryz.f9 [] false w args∧laidMetH Tryz.prog Rows.raceFindsRow.laid w)∧sizedMet enc Tryz.prog Tryz.f9 (OpenSpec.ofChange Rows.raceFindsSpec) false w args) (Rows.raceFindsSpec.post enc Tryz.prog Tryz.f9 false true false false):=by
 refine returnsInHanded_of_change_and (C:=Tryz.checked) (X:=fun w _=>laidMetH Tryz.prog Rows.raceFindsRow.laid w) (fun _ _ _ hh h=>h.of_heap hh) own started (by kernel_rfl) Tryz.func9
  (ChangeSpec.witness_shaped (enc:=enc) (C:=Tryz.checked) (os:=os) (X:=fun w _=>laidMetH Tryz.prog Rows.raceFindsRow.laid w) false (World.doorLaid Tryz.prog 24 os) #[.agg #[.slice none 0 0, .slice none 0 0, .int .i64 0, .int .i64 0]] 8 rfl (World.shaped_of_RefB (by kernel_rfl) (by kernel_rfl)) (by kernel_rfl) (by kernel_rfl) (by kernel_rfl) (door_met os _)) ?_
 intro W base args ds gs before hval0 hW _ hsz0 _ _
 have hsz:(DataW.weightsEach Tryz.prog (Tryz.f9.params.toList++Rows.raceFindsSpec.plain.varTypes Tryz.prog) (ds++gs)).all (· ≤reachBytes)=true:=hsz0
 have hval:∀(j:Nat) t v,Tryz.f9.params[j]? =some t→args[j]? =some v→Value.okWide Tryz.prog W .any base t v:=hval0
 have hW' :=hW
 obtain ⟨p,q,hA0,hV,rfl,hfz,hnd⟩:=hW
 have hA:DataW.TrodAll enc Tryz.prog W 0 (fun _=>true) true Tryz.f9.params.toList args.toList ds p:=hA0
 rw [Tryz.params9] at hA hval hsz
 obtain ⟨v0,d0,rfl,rfl,h0⟩:=trodAll_one hA
 obtain ⟨rfl,rfl⟩:=trodVars_none hV
 clear hA0 hval0
 simp only [List.append_nil] at hW'
 have hw0:∀n∈DataW.weights Tryz.prog 25 d0,n≤reachBytes:=by
  intro n hn
  have:=List.all_eq_true.1 hsz n (by simp [DataW.weightsEach,hn])
  simpa using this
 obtain ⟨fs,hfs,hpf⟩:=ty_pr
 obtain ⟨pr,rfl,hAt,hfin⟩:=open_PR hfs hpf (by kernel_rfl) (hval 0 25 v0 rfl rfl) h0 hw0
 have hlt:∀x∈p,x.block<W.heap.size:=fun x hx=>by simpa using hW'.lt x hx
 have hcall:=raceFinds_any (ofSl2 pr.code) (ofSl pr.words) pr.locks pr.regs W (ofSl2_at hAt.code) (ofSl_at hAt.words) (pr_fine hfin)
 refine Calls.mono hcall fun e W' ⟨v',he,hv',hg0⟩=> ?_
 have hg:=hg0.chg.to_below
 subst he
 subst hv'
 exact ⟨_,rfl,_,_,_, [],p, [],hW',trodAll_mk1 (shut_bool Tryz.underlying4 true),trodAll_mk1 (Below.trod laidOut (by kernel_rfl) (of_decide_eq_true (by kernel_rfl)) h0 hg hlt),rfl,hg.frame _,fun h=>by cases h⟩
theorem raceFinds_said :Rows.RaceFindsSaid:=
 OpenClaim.holds_of_wide 9 Tryz.f9 rfl rfl rfl rfl rfl rfl rfl ⟨rfl,rfl,rfl,rfl,rfl⟩ rfl rfl rfl rfl rfl (by kernel_rfl) Tryz.func9 (by kernel_rfl)
  (of_decide_eq_true (by kernel_rfl)) (by unfold Func.isWrapper;first|(rw [if_pos (by decide+kernel)];kernel_rfl)|(rw [if_neg (by decide+kernel)];exact ⟨rfl,rfl⟩))
  (fun os started H enc _=>raceFinds_lifted os started H enc)
theorem raceFinds_holds :Rows.RaceFindsCardSaid:=
 Claim7.holds_tied_plain_at .later [] [.data, .data, .data] true (true, "7156a00dd565ccc5b243c7c66c0e1b87025c3a7a962659fa9eea236c69567f4f") false
  raceFinds_said (fun _ h=>by cases h) (by kernel_rfl) (fun _ h=>by cases h) raceFinds_row_tie rfl ⟨rfl,rfl⟩ (by kernel_rfl) rfl
  (fun f fn hf hfn=>by
   obtain rfl:f=9:=Option.some.inj ((show Tryz.prog.funcNamed Rows.raceFindsRow.func=some 9 by kernel_rfl).symm.trans hf)|>.symm
   obtain rfl:fn=Tryz.f9:=(Option.some.inj (Tryz.func9.symm.trans hfn)).symm
   exact ⟨by kernel_rfl,fun j t ht=>by
    rw [Tryz.params9] at ht
    have h3:t=25:=by
     rcases j with _|j
     ·simpa using ht.symm
     ·simp at ht
    subst h3
    exact (show Tryz.prog.wantsStandIn 25=false by kernel_rfl)⟩)
  (by kernel_rfl)
end Go.Proofs.YtmjkobhkkjgplaaGreatDoor
