/- What a search for outcomes keeps, step by step, in plain Lean; what data of a state say. No program is in sight. -/
import Derived.Test.YtmjkobhkkjgplaaGreatDoorX20
import Derived.Test.YtmjkobhkkjgplaaGreatDoorX22
section
namespace Go.Proofs.YtmjkobhkkjgplaaGreatDoor
open Go.RowKit
set_option linter.unusedSimpArgs false
set_option linter.unusedVariables false
theorem fit_r {p:Pg} {size n:Int} (h:fitsG p size 114 n=true):0≤n∧n<p.regs:=by
 unfold fitsG at h
 simp only [Int.reduceEq,if_false,if_true,Bool.and_eq_true,decide_eq_true_eq] at h
 exact h
theorem fit_w {p:Pg} {size n:Int} (h:fitsG p size 119 n=true):0≤n∧n<p.words.length:=by
 unfold fitsG at h
 simp only [Int.reduceEq,if_false,if_true,Bool.and_eq_true,decide_eq_true_eq] at h
 exact h
theorem fit_l {p:Pg} {size n:Int} (h:fitsG p size 108 n=true):0≤n∧n<p.locks:=by
 unfold fitsG at h
 simp only [Int.reduceEq,if_false,if_true,Bool.and_eq_true,decide_eq_true_eq] at h
 exact h
theorem fit_c {p:Pg} {size n:Int} (hs:0≤size∧size≤100000) (h:fitsG p size 99 n=true):0≤n∧n≤size:=by
 unfold fitsG at h
 simp only [Int.reduceEq,if_false,if_true,Bool.and_eq_true,decide_eq_true_eq] at h
 rw [IntWalk.wrap64_in _ ⟨by omega,by omega⟩] at h
 omega
theorem num0 {p:Pg} {size:Int} {x:Ins} (h:okNumG p size x 0=true) {b:UInt8} {r:List UInt8} (hk:kindsB x.op=⟨(b::r).toArray⟩):fitsG p size (b.toNat:Int) x.a=true:=by
 unfold okNumG at h
 rw [hk] at h
 rw [dif_pos (by simp [ByteArray.size])] at h
 exact h
theorem num1 {p:Pg} {size:Int} {x:Ins} (h:okNumG p size x 1=true) {a b:UInt8} {r:List UInt8} (hk:kindsB x.op=⟨(a::b::r).toArray⟩):fitsG p size (b.toNat:Int) x.b=true:=by
 unfold okNumG at h
 rw [hk] at h
 rw [dif_pos (by simp [ByteArray.size])] at h
 exact h
theorem num2 {p:Pg} {size:Int} {x:Ins} (h:okNumG p size x 2=true) {a b c:UInt8} {r:List UInt8} (hk:kindsB x.op=⟨(a::b::c::r).toArray⟩):fitsG p size (c.toNat:Int) x.c=true:=by
 unfold okNumG at h
 rw [hk] at h
 rw [dif_pos (by simp [ByteArray.size])] at h
 exact h
theorem insR_ok {p:Pg} {size:Int} {x:Ins} (hs:0≤size∧size≤100000) (hr:0≤p.regs) (hl:0≤p.locks) (h:OkIns p size x):InsR p.regs.toNat p.words.length p.locks.toNat x∧(x.op=14→0≤x.a∧x.a≤size)∧(x.op=15→0≤x.b∧x.b≤size):=by
 have er:(p.regs.toNat:Int)=p.regs:=Int.toNat_of_nonneg hr
 have el:(p.locks.toNat:Int)=p.locks:=Int.toNat_of_nonneg hl
 have h0:=h.n0
 have h1:=h.n1
 have h2:=h.n2
 refine ⟨⟨fun e=> ?_,fun e=> ?_,fun e=> ?_,fun e=> ?_,fun e=> ?_,fun e=> ?_,fun e=> ?_,fun e=> ?_,fun e=> ?_⟩,fun e=> ?_,fun e=> ?_⟩
 ·have k:kindsB x.op=⟨[114,110].toArray⟩:=by rw [e];unfold kindsB;simp
  rw [er];exact fit_r (num0 h0 k)
 ·have k:kindsB x.op=⟨[114,114].toArray⟩:=by rw [e];unfold kindsB;simp
  rw [er];exact ⟨fit_r (num0 h0 k),fit_r (num1 h1 k)⟩
 ·have k:kindsB x.op=⟨[114,114,114].toArray⟩:=by rcases e with e|e|e|e|e<;>(rw [e];unfold kindsB;simp)
  rw [er];exact ⟨fit_r (num0 h0 k),fit_r (num1 h1 k),fit_r (num2 h2 k)⟩
 ·have k:kindsB x.op=⟨[114,119].toArray⟩:=by rw [e];unfold kindsB;simp
  rw [er];exact ⟨fit_r (num0 h0 k),fit_w (num1 h1 k)⟩
 ·have k:kindsB x.op=⟨[119,114].toArray⟩:=by rw [e];unfold kindsB;simp
  rw [er];exact ⟨fit_w (num0 h0 k),fit_r (num1 h1 k)⟩
 ·have k:kindsB x.op=⟨[114,114].toArray⟩:=by rcases e with e|e<;>(rw [e];unfold kindsB;simp)
  rw [er];exact ⟨fit_r (num0 h0 k),fit_r (num1 h1 k)⟩
 ·have k:kindsB x.op=⟨[119,114,114].toArray⟩:=by rw [e];unfold kindsB;simp
  rw [er];exact ⟨fit_w (num0 h0 k),fit_r (num1 h1 k),fit_r (num2 h2 k)⟩
 ·rw [er]
  rcases e with e|e
  ·have k:kindsB x.op=⟨[114,99].toArray⟩:=by rw [e];unfold kindsB;simp
   exact fit_r (num0 h0 k)
  ·have k:kindsB x.op=⟨[114].toArray⟩:=by rw [e];unfold kindsB;simp
   exact fit_r (num0 h0 k)
 ·have k:kindsB x.op=⟨[108].toArray⟩:=by rcases e with e|e<;>(rw [e];unfold kindsB;simp)
  rw [el];exact fit_l (num0 h0 k)
 ·have k:kindsB x.op=⟨[99].toArray⟩:=by rw [e];unfold kindsB;simp
  exact fit_c hs (num0 h0 k)
 ·have k:kindsB x.op=⟨[114,99].toArray⟩:=by rw [e];unfold kindsB;simp
  exact fit_c hs (num1 h1 k)
theorem OkPg.insR {p:Pg} (h:OkPg p) {t i:Nat} (ht:t<p.code.length) (hi:i<(nth p.code t).length):InsR p.regs.toNat p.words.length p.locks.toNat (nth (nth p.code t) i)∧((nth (nth p.code t) i).op=14→0≤(nth (nth p.code t) i).a∧(nth (nth p.code t) i).a≤(nth p.code t).length)∧((nth (nth p.code t) i).op=15→0≤(nth (nth p.code t) i).b∧(nth (nth p.code t) i).b≤(nth p.code t).length):=by
 have hl:=h.len t ht
 have:=h.regs
 have:=h.locks
 exact insR_ok ⟨by omega,by omega⟩ (by omega) (by omega) (h.ins t i ht hi)
structure WfS (R W L C:Nat) (x:TS):Prop where
 pc:0≤x.pc∧x.pc≤C
 regs:x.regs.length=R
 wait:x.wait.length≤3
 wt:∀w∈x.wait,if w.lock=true then 0≤w.wh∧w.wh<L else 0≤w.wh∧w.wh<W
 words:x.words.length=W
 owner:x.owner.length=L
section
variable {R W L C:Nat} {x:TS}
theorem WfS.put (h:WfS R W L C x) (k v:Int):WfS R W L C (x.put k v):=⟨h.pc,by simpa [TS.put] using h.regs,h.wait,h.wt,h.words,h.owner⟩
theorem WfS.fell (h:WfS R W L C x):WfS R W L C { x with fell:=true } :=⟨h.pc,h.regs,h.wait,h.wt,h.words,h.owner⟩
theorem WfS.done (h:WfS R W L C x) (w:Wt):WfS R W L C (x.done w):=by
 refine ⟨h.pc,h.regs,h.wait,h.wt, ?_, ?_⟩
 ·show (if w.lock=true then x.words else x.words.set w.wh.toNat w.what).length=W
  split
  ·exact h.words
  ·rw [List.length_set];exact h.words
 ·show (if w.lock=true then x.owner.set w.wh.toNat (-1) else x.owner).length=L
  split
  ·rw [List.length_set];exact h.owner
  ·exact h.owner
theorem WfS.store (h:WfS R W L C x) {m:Int} {w:Wt} (hw:if w.lock=true then 0≤w.wh∧w.wh<L else 0≤w.wh∧w.wh<W) (hl:x.wait.length<3):WfS R W L C (x.store m w):=by
 unfold TS.store
 split
 ·refine ⟨h.pc,h.regs,by simp;omega,fun y hy=> ?_,h.words,h.owner⟩
  rcases List.mem_append.1 hy with hy|hy
  ·exact h.wt y hy
  ·obtain rfl:y=w:=by simpa using hy
   exact hw
 ·exact h.done w
theorem WfS.exec (h:WfS R W L C x) {m:Int} {n:Nat} {i:Ins} (hR:InsR R W L i) (h14:i.op=14→0≤i.a∧i.a≤C) (h15:i.op=15→0≤i.b∧i.b≤C) (ha:ableL x.owner x.wait.length i=true):WfS R W L C (execT m n i x):=by
 have hst:i.op=9∨i.op=11∨i.op=18→x.wait.length<3:=by
  intro e
  unfold ableL at ha
  rw [if_pos e] at ha
  exact of_decide_eq_true ha
 by_cases e1:i.op=1
 ·rw [execT_1 e1];exact h.put _ _
 by_cases e2:i.op=2
 ·rw [execT_2 e2];exact h.put _ _
 by_cases e3:i.op=3
 ·rw [execT_3 e3];exact h.put _ _
 by_cases e4:i.op=4
 ·rw [execT_4 e4];exact h.put _ _
 by_cases e5:i.op=5
 ·rw [execT_5 e5];exact h.put _ _
 by_cases e6:i.op=6
 ·rw [execT_6 e6];exact h.put _ _
 by_cases e7:i.op=7
 ·rw [execT_7 e7];exact h.put _ _
 by_cases e8:i.op=8
 ·rw [execT_8 e8];exact h.put _ _
 by_cases e9:i.op=9
 ·rw [execT_9 e9]
  have q:=hR.o9 e9
  exact h.store (by show if (false=true) then _ else _;rw [if_neg Bool.false_ne_true];exact q.1) (hst (.inl e9))
 by_cases e10:i.op=10
 ·by_cases hw:0≤x.reg i.b∧x.reg i.b<(x.words.length:Int)
  ·rw [execT_10t e10 hw];exact h.put _ _
  ·rw [execT_10f e10 hw];exact h.fell
 by_cases e11:i.op=11
 ·by_cases hw:0≤x.reg i.a∧x.reg i.a<(x.words.length:Int)
  ·rw [execT_11t e11 hw]
   rw [h.words] at hw
   exact h.store (by show if (false=true) then _ else _;rw [if_neg Bool.false_ne_true];exact hw) (hst (.inr (.inl e11)))
  ·rw [execT_11f e11 hw];exact h.fell
 by_cases e13:i.op=13
 ·by_cases hw:nth x.words i.a.toNat=x.reg i.b
  ·rw [execT_13t e13 hw]
   exact ⟨h.pc,by simpa using h.regs,h.wait,h.wt,by simpa using h.words,h.owner⟩
  ·rw [execT_13f e13 hw];exact h.put _ _
 by_cases e14:i.op=14
 ·rw [execT_14 e14];exact ⟨h14 e14,h.regs,h.wait,h.wt,h.words,h.owner⟩
 by_cases e15:i.op=15
 ·by_cases hw:x.reg i.a=0
  ·rw [execT_15t e15 hw];exact ⟨h15 e15,h.regs,h.wait,h.wt,h.words,h.owner⟩
  ·rw [execT_15f e15 hw];exact h
 by_cases e16:i.op=16
 ·rw [execT_16 e16];exact ⟨h.pc,h.regs,h.wait,h.wt,h.words,h.owner⟩
 by_cases e17:i.op=17
 ·rw [execT_17 e17];exact ⟨h.pc,h.regs,h.wait,h.wt,h.words,by simpa using h.owner⟩
 by_cases e18:i.op=18
 ·have q:=hR.o17 (.inr e18)
  by_cases hw:nth x.owner i.a.toNat≠n
  ·rw [execT_18a e18 hw];exact h.fell
  ·by_cases hh:∃j,j<x.wait.length∧(nth x.wait j).lock=true∧(nth x.wait j).wh=i.a
   ·obtain ⟨j,hj,h1,h2⟩:=hh
    rw [execT_18b e18 hw j hj h1 h2];exact h.fell
   ·rw [execT_18c e18 hw (fun q hq hc=>hh ⟨q,hq,hc⟩)]
    exact h.store (by show if (true=true) then _ else _;rw [if_pos rfl];exact q) (hst (.inr (.inr e18)))
 rw [execT_no ⟨e1,e2,e3,e4,e5,e6,e7,e8,e9,e10,e11,e13,e14,e15,e16,e17,e18⟩]
 exact h
end
theorem mvOK_k {m:Int} {c:List Ins} {x:TS} {k:Nat} (h:mvOK m c x k=true):(k=0∧x.pc<c.length∧ableL x.owner x.wait.length (nextIns c x.pc)=true)∨(0<k∧k≤x.wait.length∧mayK m x.wait (k-1)=true):=by
 unfold mvOK at h
 split at h
 ·rename_i hk
  left
  unfold ableV at h
  simp only [Bool.and_eq_true,decide_eq_true_eq] at h
  exact ⟨hk,h⟩
 ·right
  simp only [Bool.and_eq_true,decide_eq_true_eq] at h
  exact ⟨by omega,h⟩
theorem WfS.doT {R W L:Nat} {x:TS} {m:Int} {n k:Nat} {c:List Ins} (h:WfS R W L c.length x) (hR:∀i,i<c.length→InsR R W L (nth c i)∧((nth c i).op=14→0≤(nth c i).a∧(nth c i).a≤c.length)∧((nth c i).op=15→0≤(nth c i).b∧(nth c i).b≤c.length)) (hk:mvOK m c x k=true):WfS R W L c.length (Go.Proofs.YtmjkobhkkjgplaaGreatDoor.doT m n c k x):=by
 have hpc:=h.pc
 rcases mvOK_k hk with ⟨rfl,h1,h2⟩|⟨h1,h2,h3⟩
 ·rw [doT_0 rfl]
  have hn:nextIns c x.pc=nth c x.pc.toNat:=nextIns_t h1
  obtain ⟨q1,q2,q3⟩:=hR x.pc.toNat (by omega)
  rw [hn] at h2⊢
  exact WfS.exec (x:= { x with pc:=x.pc+1 }) ⟨⟨by show 0≤x.pc+1;omega,by show x.pc+1≤_;omega⟩,h.regs,h.wait,h.wt,h.words,h.owner⟩ q1 q2 q3 h2
 ·unfold Go.Proofs.YtmjkobhkkjgplaaGreatDoor.doT
  rw [if_pos h1]
  have hd:=h.done (nth x.wait (k-1))
  exact ⟨hd.pc,hd.regs,by show (x.wait.eraseIdx (k-1)).length≤3;have:=List.length_eraseIdx_le x.wait (k-1);have:=h.wait;omega,fun w hw=>h.wt w (List.mem_of_mem_eraseIdx hw),hd.words,hd.owner⟩
structure Wf (p:Pg) (s:MSt):Prop where
 ths:s.ths.length=p.code.length
 th:∀t,t<p.code.length→WfS p.regs.toNat p.words.length p.locks.toNat (nth p.code t).length (s.view t)
 words:s.words.length=p.words.length
 owner:s.owner.length=p.locks.toNat
theorem nth_set0 {α:Type} [Inhabited α] (l:List α) (i k:Nat) (x:α):nth (l.set i x) k=if i=k∧i<l.length then x else nth l k:=by
 simp only [nth,List.getD,List.getElem?_set]
 by_cases h:i=k
 ·subst h
  by_cases h2:i<l.length<;>simp [h2]
 ·simp [h]
theorem putT_view {s:MSt} {t:Nat} {y:TS} (ht:t<s.ths.length):(s.putT t y).view t= { y with fell:=false } :=by
 unfold MSt.view MSt.putT
 simp [nth_set0,ht]
theorem putT_other {s:MSt} {t u:Nat} {y:TS} (h:t≠u):(s.putT t y).view u=⟨(s.view u).pc,(s.view u).regs,(s.view u).wait,y.words,y.owner,y.prints,false⟩:=by
 unfold MSt.view MSt.putT
 simp only [nth_set0]
 rw [if_neg (fun hh=>h hh.1)]
theorem Wf.begin_ {p:Pg} (h:OkPg p):Wf p (begin_ p):=by
 refine ⟨by simp [Go.Proofs.YtmjkobhkkjgplaaGreatDoor.begin_],fun t ht=> ?_,rfl,by simp [Go.Proofs.YtmjkobhkkjgplaaGreatDoor.begin_]⟩
 have e:nth (Go.Proofs.YtmjkobhkkjgplaaGreatDoor.begin_ p).ths t=⟨0,List.replicate p.regs.toNat 0, []⟩:=by
  unfold Go.Proofs.YtmjkobhkkjgplaaGreatDoor.begin_
  rw [nth_map' _ _ _ ht]
 unfold MSt.view
 rw [e]
 exact ⟨⟨Int.le_refl _,by simp⟩,by simp,by simp,fun w hw=>(by cases hw),rfl,by simp [Go.Proofs.YtmjkobhkkjgplaaGreatDoor.begin_]⟩
theorem Wf.step {p:Pg} (hok:OkPg p) {s:MSt} (h:Wf p s) {m:Int} {t k:Nat} (ht:t<p.code.length) (hk:mvOK m (nth p.code t) (s.view t) k=true):Wf p (s.putT t (stepT p m s t k)):=by
 have h1:=(h.th t ht).doT (m:=m) (n:=t) (fun i hi=>hok.insR ht hi) hk
 refine ⟨by simpa [MSt.putT] using h.ths,fun u hu=> ?_,h1.words,h1.owner⟩
 by_cases e:t=u
 ·subst e
  rw [putT_view (by rw [h.ths];exact ht)]
  exact ⟨h1.pc,h1.regs,h1.wait,h1.wt,h1.words,h1.owner⟩
 ·rw [putT_other e]
  have h2:=h.th u hu
  exact ⟨h2.pc,h2.regs,h2.wait,h2.wt,h1.words,h1.owner⟩
inductive Reach (p:Pg) (m:Int):MSt→Prop
 |start:Reach p m (begin_ p)
 |step {s:MSt} {t k:Nat} :Reach p m s→t<p.code.length→mvOK m (nth p.code t) (s.view t) k=true→(stepT p m s t k).fell=false→Reach p m (s.putT t (stepT p m s t k))
def Stuck_ (p:Pg) (m:Int) (s:MSt):Prop:=∀t k,t<p.code.length→mvOK m (nth p.code t) (s.view t) k=false
inductive Outs (p:Pg) (m:Int):Outc→Prop
 |done {s:MSt} :Reach p m s→ended p s=true→Outs p m ⟨0,s.words,s.prints⟩
 |stuck {s:MSt} :Reach p m s→ended p s=false→Stuck_ p m s→Outs p m ⟨2,s.words,s.prints⟩
 |fell {s:MSt} {t k:Nat} :Reach p m s→t<p.code.length→mvOK m (nth p.code t) (s.view t) k=true→(stepT p m s t k).fell=true→Outs p m ⟨1, [],(stepT p m s t k).prints⟩
theorem Reach.wf {p:Pg} (hok:OkPg p) {m:Int} {s:MSt} (h:Reach p m s):Wf p s:=by
 induction h with
 |start=>exact Wf.begin_ hok
 |step _ ht hk _ ih=>exact ih.step hok ht hk
theorem mem_mvs {m:Int} {c:List Ins} {t:Nat} {x:TS} {v:Int} :v∈mvs m c t x↔∃k,mvOK m c x k=true∧v=((8*t+k:Nat):Int):=by
 unfold mvs
 rw [List.mem_append]
 constructor
 ·rintro (h|h)
  ·split at h
   ·rename_i ha
    exact ⟨0,by unfold mvOK;rw [if_pos rfl];exact ha,by simpa using h⟩
   ·cases h
  ·obtain ⟨k,hk,rfl⟩:=List.mem_map.1 h
   obtain ⟨h1,h2⟩:=List.mem_filter.1 hk
   refine ⟨k+1, ?_,rfl⟩
   unfold mvOK
   rw [if_neg (by omega)]
   have:k+1≤x.wait.length:=by have:=List.mem_range.1 h1;omega
   simp [this,h2]
 ·rintro ⟨k,hk,rfl⟩
  rcases mvOK_k hk with ⟨rfl,h1,h2⟩|⟨h1,h2,h3⟩
  ·left
   have:ableV c x=true:=by unfold ableV;simp [h1,h2]
   rw [if_pos this];simp
  ·right
   refine List.mem_map.2 ⟨k-1,List.mem_filter.2 ⟨by simp;omega,h3⟩, ?_⟩
   rw [show 8*t+(k-1)+1=8*t+k by omega]
theorem mem_moves {p:Pg} {m:Int} {s:MSt} {v:Int} :v∈moves p m s↔∃t k,t<p.code.length∧mvOK m (nth p.code t) (s.view t) k=true∧v=((8*t+k:Nat):Int):=by
 unfold moves
 rw [List.mem_flatMap]
 constructor
 ·rintro ⟨t,ht,h⟩
  obtain ⟨k,hk,e⟩:=mem_mvs.1 h
  exact ⟨t,k,by simpa using ht,hk,e⟩
 ·rintro ⟨t,k,ht,hk,e⟩
  exact ⟨t,by simpa using ht,mem_mvs.2 ⟨k,hk,e⟩⟩
theorem mvOK_le {m:Int} {c:List Ins} {x:TS} {k:Nat} (h:mvOK m c x k=true) (hw:x.wait.length≤3):k≤3:=by
 rcases mvOK_k h with ⟨rfl,_⟩|⟨_,h2,_⟩<;>omega
theorem store_prints (m:Int) (x:TS) (w:Wt):(x.store m w).prints=x.prints:=by unfold TS.store;split<;>rfl
theorem execT_prints (m:Int) (n:Nat) (i:Ins) (x:TS):(execT m n i x).prints.length≤x.prints.length+2:=by
 by_cases e1:i.op=1
 ·rw [execT_1 e1];show x.prints.length≤_;omega
 by_cases e2:i.op=2
 ·rw [execT_2 e2];show x.prints.length≤_;omega
 by_cases e3:i.op=3
 ·rw [execT_3 e3];show x.prints.length≤_;omega
 by_cases e4:i.op=4
 ·rw [execT_4 e4];show x.prints.length≤_;omega
 by_cases e5:i.op=5
 ·rw [execT_5 e5];show x.prints.length≤_;omega
 by_cases e6:i.op=6
 ·rw [execT_6 e6];show x.prints.length≤_;omega
 by_cases e7:i.op=7
 ·rw [execT_7 e7];show x.prints.length≤_;omega
 by_cases e8:i.op=8
 ·rw [execT_8 e8];show x.prints.length≤_;omega
 by_cases e9:i.op=9
 ·rw [execT_9 e9,store_prints];omega
 by_cases e10:i.op=10
 ·by_cases hw:0≤x.reg i.b∧x.reg i.b<(x.words.length:Int)
  ·rw [execT_10t e10 hw];show x.prints.length≤_;omega
  ·rw [execT_10f e10 hw];show x.prints.length≤_;omega
 by_cases e11:i.op=11
 ·by_cases hw:0≤x.reg i.a∧x.reg i.a<(x.words.length:Int)
  ·rw [execT_11t e11 hw,store_prints];omega
  ·rw [execT_11f e11 hw];show x.prints.length≤_;omega
 by_cases e13:i.op=13
 ·by_cases hw:nth x.words i.a.toNat=x.reg i.b
  ·rw [execT_13t e13 hw];show x.prints.length≤_;omega
  ·rw [execT_13f e13 hw];show x.prints.length≤_;omega
 by_cases e14:i.op=14
 ·rw [execT_14 e14];show x.prints.length≤_;omega
 by_cases e15:i.op=15
 ·by_cases hw:x.reg i.a=0
  ·rw [execT_15t e15 hw];show x.prints.length≤_;omega
  ·rw [execT_15f e15 hw];omega
 by_cases e16:i.op=16
 ·rw [execT_16 e16];show (x.prints++_).length≤_;simp
 by_cases e17:i.op=17
 ·rw [execT_17 e17];show x.prints.length≤_;omega
 by_cases e18:i.op=18
 ·by_cases hw:nth x.owner i.a.toNat≠n
  ·rw [execT_18a e18 hw];show x.prints.length≤_;omega
  ·by_cases hh:∃j,j<x.wait.length∧(nth x.wait j).lock=true∧(nth x.wait j).wh=i.a
   ·obtain ⟨j,hj,h1,h2⟩:=hh
    rw [execT_18b e18 hw j hj h1 h2];show x.prints.length≤_;omega
   ·rw [execT_18c e18 hw (fun q hq hc=>hh ⟨q,hq,hc⟩),store_prints];omega
 rw [execT_no ⟨e1,e2,e3,e4,e5,e6,e7,e8,e9,e10,e11,e13,e14,e15,e16,e17,e18⟩]
 omega
theorem doT_prints (m:Int) (n:Nat) (c:List Ins) (k:Nat) (x:TS):(doT m n c k x).prints.length≤x.prints.length+2:=by
 unfold doT
 split
 ·show x.prints.length≤_;omega
 ·exact execT_prints _ _ _ _
end Go.Proofs.YtmjkobhkkjgplaaGreatDoor
end
section
namespace Go.Proofs.YtmjkobhkkjgplaaGreatDoor
open Go.RowKit
set_option linter.unusedSimpArgs false
set_option linter.unusedVariables false
theorem wt_inj :∀ {l m:List Wt} {r r' :List Int},l.length=m.length→l.flatMap wtN++r=m.flatMap wtN++r' →l=m∧r=r'
 | [], [],r,r',_,h=>⟨rfl,h⟩
 | [],_::_,_,_,hl,_=>by simp at hl
 |_::_, [],_,_,hl,_=>by simp at hl
 |x::l,y::m,r,r',hl,h=>by
  simp only [List.flatMap_cons,List.append_assoc] at h
  unfold wtN at h
  simp only [List.cons_append,List.nil_append,List.cons.injEq] at h
  obtain ⟨h1,h2,h3,h4⟩:=h
  obtain ⟨e1,e2⟩:=wt_inj (by simpa using hl) h4
  have hlk:x.lock=y.lock:=by
   cases hx:x.lock<;>cases hy:y.lock<;>simp [hx,hy] at h1⊢
  refine ⟨?_,e2⟩
  rw [e1]
  congr 1
  cases x;cases y
  simp only at hlk h2 h3
  rw [hlk,h2,h3]
theorem th_inj {R:Nat} :∀ {l m:List Th} {r r' :List Int},l.length=m.length→(∀x∈l,x.regs.length=R)→(∀x∈m,x.regs.length=R)→l.flatMap thN++r=m.flatMap thN++r' →l=m∧r=r'
 | [], [],r,r',_,_,_,h=>⟨rfl,h⟩
 | [],_::_,_,_,hl,_,_,_=>by simp at hl
 |_::_, [],_,_,hl,_,_,_=>by simp at hl
 |x::l,y::m,r,r',hl,h1,h2,h=>by
  simp only [List.flatMap_cons,List.append_assoc] at h
  unfold thN at h
  simp only [List.append_assoc,List.cons_append,List.nil_append,List.cons.injEq] at h
  obtain ⟨e1,e2,h3⟩:=h
  have hx:=h1 x (by simp)
  have hy:=h2 y (by simp)
  obtain ⟨e3,h4⟩:=List.append_inj h3 (by rw [hx,hy])
  obtain ⟨e4,h5⟩:=wt_inj (by omega) h4
  obtain ⟨e5,e6⟩:=th_inj (by simpa using hl) (fun z hz=>h1 z (by simp [hz])) (fun z hz=>h2 z (by simp [hz])) h5
  refine ⟨?_,e6⟩
  rw [e5]
  congr 1
  cases x;cases y
  simp only at e1 e3 e4
  rw [e1,e3,e4]
def keyOf (s:MSt):List Int:=numbersL s.ths s.words s.owner s.prints
theorem key_inj {p:Pg} {s s' :MSt} (h:Wf p s) (h' :Wf p s') (e:keyOf s=keyOf s'):s=s' :=by
 unfold keyOf numbersL at e
 simp only [List.append_assoc] at e
 have hr:∀ {s:MSt},Wf p s→∀x∈s.ths,x.regs.length=p.regs.toNat:=by
  intro s h x hx
  obtain ⟨i,hi⟩:=List.getElem?_of_mem hx
  obtain ⟨hlt,e⟩:=List.getElem?_eq_some_iff.1 hi
  have:=(h.th i (by rw [←h.ths];exact hlt)).regs
  have e2:nth s.ths i=x:=by rw [nth_lt _ _ hlt];exact e
  unfold MSt.view at this
  simpa [e2] using this
 obtain ⟨e1,h2⟩:=th_inj (by rw [h.ths,h'.ths]) (hr h) (hr h') e
 obtain ⟨e2,h3⟩:=List.append_inj h2 (by rw [h.words,h'.words])
 obtain ⟨e3,e4⟩:=List.append_inj h3 (by rw [h.owner,h'.owner])
 cases s;cases s'
 simp only at e1 e2 e3 e4
 rw [e1,e2,e3,e4]
theorem lessB_irr :∀l:List Int,lessB l l=false
 | []=>by simp [lessB]
 |a::l=>by unfold lessB;rw [if_pos rfl];exact lessB_irr l
theorem lessB_trans :∀ {l m n:List Int},lessB l m=true→lessB m n=true→lessB l n=true
 | [],m, [],h1,h2=>by cases m<;>simp [lessB] at h1 h2
 | [],m,c::n,h1,h2=>by simp [lessB]
 |a::l, [],n,h1,h2=>by simp [lessB] at h1
 |a::l,b::m, [],h1,h2=>by simp [lessB] at h2
 |a::l,b::m,c::n,h1,h2=>by
  unfold lessB at h1 h2⊢
  by_cases e1:a=b
  ·by_cases e2:b=c
   ·rw [if_pos e1] at h1;rw [if_pos e2] at h2;rw [if_pos (e1.trans e2)];exact lessB_trans h1 h2
   ·rw [if_neg e2] at h2;subst e1;rw [if_neg e2];exact h2
  ·rw [if_neg e1] at h1
   by_cases e2:b=c
   ·subst e2;rw [if_neg e1];exact h1
   ·rw [if_neg e2] at h2
    have h1' :a<b:=by simpa using h1
    have h2' :b<c:=by simpa using h2
    rw [if_neg (by omega)]
    simp;omega
theorem lessB_tri :∀ {l m:List Int},lessB l m=false→lessB m l=false→l=m
 | [], [],_,_=>rfl
 | [],b::m,h1,_=>by simp [lessB] at h1
 |a::l, [],_,h2=>by simp [lessB] at h2
 |a::l,b::m,h1,h2=>by
  unfold lessB at h1 h2
  by_cases e:a=b
  ·rw [if_pos e] at h1;rw [if_pos e.symm] at h2
   rw [e,lessB_tri h1 h2]
  ·rw [if_neg e] at h1;rw [if_neg (fun h=>e h.symm)] at h2
   simp at h1 h2;omega
theorem aheadB_irr (a:Outc):aheadB a a=false:=by unfold aheadB;rw [if_pos rfl,if_pos rfl];exact lessB_irr _
theorem aheadB_tri {a b:Outc} (h1:aheadB a b=false) (h2:aheadB b a=false):a=b:=by
 unfold aheadB at h1 h2
 by_cases e:a.st=b.st
 ·rw [if_pos e] at h1;rw [if_pos e.symm] at h2
  by_cases e2:a.words=b.words
  ·rw [if_pos e2] at h1;rw [if_pos e2.symm] at h2
   have e3:=lessB_tri h1 h2
   cases a;cases b;simp only at e e2 e3;rw [e,e2,e3]
  ·rw [if_neg e2] at h1;rw [if_neg (fun h=>e2 h.symm)] at h2
   exact absurd (lessB_tri h1 h2) e2
 ·rw [if_neg e] at h1;rw [if_neg (fun h=>e h.symm)] at h2
  simp at h1 h2;omega
theorem aheadB_trans {a b c:Outc} (h1:aheadB a b=true) (h2:aheadB b c=true):aheadB a c=true:=by
 unfold aheadB at h1 h2⊢
 by_cases e1:a.st=b.st
 ·rw [if_pos e1] at h1
  by_cases e2:b.st=c.st
  ·rw [if_pos e2] at h2
   rw [if_pos (e1.trans e2)]
   by_cases f1:a.words=b.words
   ·rw [if_pos f1] at h1
    by_cases f2:b.words=c.words
    ·rw [if_pos f2] at h2;rw [if_pos (f1.trans f2)];exact lessB_trans h1 h2
    ·rw [if_neg f2] at h2;rw [if_neg (fun h=>f2 (f1.symm.trans h)),f1];exact h2
   ·rw [if_neg f1] at h1
    by_cases f2:b.words=c.words
    ·rw [if_neg (fun h=>f1 (h.trans f2.symm)),←f2];exact h1
    ·rw [if_neg f2] at h2
     have h3:=lessB_trans h1 h2
     rw [if_neg (fun h=> ?_)]
     ·exact h3
     ·rw [h,lessB_irr] at h3;cases h3
  ·rw [if_neg e2] at h2;rw [if_neg (fun h=>e2 (e1.symm.trans h)),e1];exact h2
 ·rw [if_neg e1] at h1
  have h1' :a.st<b.st:=by simpa using h1
  by_cases e2:b.st=c.st
  ·rw [if_neg (by omega)];simp;omega
  ·rw [if_neg e2] at h2
   have h2' :b.st<c.st:=by simpa using h2
   rw [if_neg (by omega)];simp;omega
def Sorted_ (l:List Outc):Prop:=l.Pairwise fun a b=>aheadB a b=true
theorem sorted_ext :∀ {l m:List Outc},Sorted_ l→Sorted_ m→(∀o,o∈l↔o∈m)→l=m
 | [], [],_,_,_=>rfl
 | [],b::m,_,_,h=>by have:=(h b).2 (by simp);cases this
 |a::l, [],_,_,h=>by have:=(h a).1 (by simp);cases this
 |a::l,b::m,h1,h2,h=>by
  obtain ⟨p1,p2⟩:=List.pairwise_cons.1 h1
  obtain ⟨q1,q2⟩:=List.pairwise_cons.1 h2
  have e:a=b:=by
   rcases List.mem_cons.1 ((h a).1 (by simp)) with e|ha
   ·exact e
   ·rcases List.mem_cons.1 ((h b).2 (by simp)) with e|hb
    ·exact e.symm
    ·have:=aheadB_trans (p1 b hb) (q1 a ha)
     rw [aheadB_irr] at this;cases this
  subst e
  have e2:l=m:=by
   refine sorted_ext p2 q2 fun o=>⟨fun ho=> ?_,fun ho=> ?_⟩
   ·rcases List.mem_cons.1 ((h o).1 (by simp [ho])) with e|h3
    ·subst e;have:=p1 o ho;rw [aheadB_irr] at this;cases this
    ·exact h3
   ·rcases List.mem_cons.1 ((h o).2 (by simp [ho])) with e|h3
    ·subst e;have:=q1 o ho;rw [aheadB_irr] at this;cases this
    ·exact h3
  rw [e2]
theorem PutRel.sorted {o:OutL} {l l' :List OutL} (h:PutRel o l l') (hs:Sorted_ (l.map OutL.out)):Sorted_ (l'.map OutL.out)∧∀y,y∈l'.map OutL.out↔y∈l.map OutL.out∨y=o.out:=by
 rcases h with ⟨⟨i,hi,h1,h2⟩,rfl⟩|⟨k,hk,h1,h2,rfl⟩
 ·refine ⟨hs,fun y=>⟨.inl,fun h=>h.elim id fun e=> ?_⟩⟩
  rw [e,aheadB_tri h1 h2]
  exact List.mem_map.2 ⟨_,nth_mem _ _ hi,rfl⟩
 ·have hsplit:l=l.take k++l.drop k:=(List.take_append_drop k l).symm
  have hb:∀x∈l.take k,aheadB x.out o.out=true:=by
   intro x hx
   obtain ⟨j,hj⟩:=List.getElem?_of_mem hx
   obtain ⟨hlt,e⟩:=List.getElem?_eq_some_iff.1 hj
   have hjk:j<k:=by simp at hlt;omega
   have:=(h1 j hjk).2
   rw [nth_lt _ _ (by simp at hlt;omega)] at this
   rw [←e,List.getElem_take];exact this
  have hs2:Sorted_ (l.take k|>.map OutL.out)∧Sorted_ (l.drop k|>.map OutL.out)∧∀x∈l.take k,∀y∈l.drop k,aheadB x.out y.out=true:=by
   rw [hsplit,List.map_append] at hs
   obtain ⟨a1,a2,a3⟩:=List.pairwise_append.1 hs
   exact ⟨a1,a2,fun x hx y hy=>a3 _ (List.mem_map.2 ⟨x,hx,rfl⟩) _ (List.mem_map.2 ⟨y,hy,rfl⟩)⟩
  have ha:∀x∈l.drop k,aheadB o.out x.out=true:=by
   intro x hx
   rcases Nat.lt_or_ge k l.length with hlt|hge
   ·have hok:=h2 hlt
    rw [nth_lt l k hlt] at hok
    rw [List.drop_eq_getElem_cons hlt] at hx
    rcases List.mem_cons.1 hx with rfl|hx
    ·exact hok
    ·have h3:=hs2.2.1
     rw [List.drop_eq_getElem_cons hlt,List.map_cons] at h3
     exact aheadB_trans hok ((List.pairwise_cons.1 h3).1 _ (List.mem_map.2 ⟨x,hx,rfl⟩))
   ·rw [List.drop_eq_nil_of_le hge] at hx;cases hx
  constructor
  ·unfold Sorted_
   rw [List.map_append,List.map_cons]
   refine List.pairwise_append.2 ⟨hs2.1,List.pairwise_cons.2 ⟨fun y hy=> ?_,hs2.2.1⟩,fun x hx y hy=> ?_⟩
   ·obtain ⟨z,hz,rfl⟩:=List.mem_map.1 hy;exact ha z hz
   ·obtain ⟨z,hz,rfl⟩:=List.mem_map.1 hx
    rcases List.mem_cons.1 hy with rfl|hy
    ·exact hb z hz
    ·obtain ⟨u,hu,rfl⟩:=List.mem_map.1 hy;exact hs2.2.2 z hz u hu
  ·intro y
   conv=>rhs;rw [hsplit]
   simp only [List.map_append,List.map_cons,List.mem_append,List.mem_cons]
   constructor
   ·rintro (h|h|h)
    ·exact .inl (.inl h)
    ·exact .inr h
    ·exact .inl (.inr h)
   ·rintro ((h|h)|h)
    ·exact .inl h
    ·exact .inr (.inr h)
    ·exact .inr (.inl h)
def Handled (p:Pg) (m:Int) (S:List MSt) (E:List Outc) (s:MSt) (t k:Nat):Prop:=if (stepT p m s t k).fell=true then (⟨1, [],(stepT p m s t k).prints⟩:Outc)∈E else s.putT t (stepT p m s t k)∈S
structure Expanded (p:Pg) (m:Int) (S:List MSt) (E:List Outc) (s:MSt):Prop where
 done:ended p s=true→(⟨0,s.words,s.prints⟩:Outc)∈E
 stuck:ended p s=false→Stuck_ p m s→(⟨2,s.words,s.prints⟩:Outc)∈E
 moves:∀t k,t<p.code.length→mvOK m (nth p.code t) (s.view t) k=true→Handled p m S E s t k
structure Inv (p:Pg) (m:Int) (S:List MSt) (E:List Outc) (full:Bool) (i:Nat):Prop where
 start:begin_ p∈S
 reach:∀s∈S,Reach p m s
 pr:∀j,j<S.length→(nth S j).prints.length≤2*j
 len:S.length≤4001
 hfull:full=decide (4000<S.length)
 sound:∀o∈E,Outs p m o
 sorted:Sorted_ E
 done:full=false→∀j,j<i→Expanded p m S E (nth S j)
 nd:S.Nodup
def Big (p:Pg) (m:Int):Prop:=∃S:List MSt,S.Nodup∧(∀s∈S,Reach p m s)∧4000<S.length
theorem nodup_sub :∀ {S T:List MSt},S.Nodup→(∀s∈S,s∈T)→S.length≤T.length
 | [],_,_,_=>Nat.zero_le _
 |a::S,T,h,hs=>by
  obtain ⟨h1,h2⟩:=List.nodup_cons.1 h
  have ha:=hs a (by simp)
  have:=nodup_sub (S:=S) (T:=T.erase a) h2 fun s hm=>(List.mem_erase_of_ne (fun (e:s=a)=>h1 (by rw [←e];exact hm))).2 (hs s (by simp [hm]))
  rw [List.length_erase_of_mem ha] at this
  have:=List.length_pos_of_mem ha
  simp only [List.length_cons];omega
theorem Handled.mono {p:Pg} {m:Int} {S S' :List MSt} {E E' :List Outc} {s:MSt} {t k:Nat} (h:Handled p m S E s t k) (hS:∀x∈S,x∈S') (hE:∀x∈E,x∈E'):Handled p m S' E' s t k:=by
 unfold Handled at h⊢
 split at h
 ·rename_i hf;rw [if_pos hf];exact hE _ h
 ·rename_i hf;rw [if_neg hf];exact hS _ h
theorem Expanded.mono {p:Pg} {m:Int} {S S' :List MSt} {E E' :List Outc} {s:MSt} (h:Expanded p m S E s) (hS:∀x∈S,x∈S') (hE:∀x∈E,x∈E'):Expanded p m S' E' s:=
 ⟨fun e=>hE _ (h.done e),fun e e2=>hE _ (h.stuck e e2),fun t k ht hk=>(h.moves t k ht hk).mono hS hE⟩
theorem Inv.states {p:Pg} {m:Int} {S:List MSt} {E:List Outc} {i:Nat} (h:Inv p m S E false i) (hi:S.length≤i):∀s,s∈S↔Reach p m s:=by
 intro s
 refine ⟨h.reach s,fun hs=> ?_⟩
 induction hs with
 |start=>exact h.start
 | @step s t k hr ht hk hf ih=>
  obtain ⟨j,hj⟩:=List.getElem?_of_mem ih
  obtain ⟨hlt,e⟩:=List.getElem?_eq_some_iff.1 hj
  have h9:=h.done rfl j (by omega)
  rw [nth_lt _ _ hlt,e] at h9
  have:=h9.moves _ _ ht hk
  unfold Handled at this
  rw [if_neg (by rw [hf];decide)] at this
  exact this
theorem Inv.big {p:Pg} {m:Int} {S:List MSt} {E:List Outc} {full:Bool} {i:Nat} (h:Inv p m S E full i) (hi:full=true∨S.length≤i):full=true↔Big p m:=by
 constructor
 ·intro hf
  have:=h.hfull
  rw [hf] at this
  exact ⟨S,h.nd,h.reach,of_decide_eq_true this.symm⟩
 ·rintro ⟨T,h1,h2,h3⟩
  cases hf:full with
  |true=>rfl
  |false=>
   rw [hf] at hi h
   have h4:=nodup_sub h1 fun s hs=>(h.states (hi.resolve_left Bool.false_ne_true) s).2 (h2 s hs)
   have:=h.hfull
   have:=of_decide_eq_false this.symm
   omega
theorem Inv.all {p:Pg} {m:Int} {S:List MSt} {E:List Outc} {i:Nat} (h:Inv p m S E false i) (hi:S.length≤i):∀o,o∈E↔Outs p m o:=by
 have hex:∀s∈S,Expanded p m S E s:=by
  intro s hs
  obtain ⟨j,hj⟩:=List.getElem?_of_mem hs
  obtain ⟨hlt,e⟩:=List.getElem?_eq_some_iff.1 hj
  have:=h.done rfl j (by omega)
  rwa [nth_lt _ _ hlt,e] at this
 have hall:∀s,Reach p m s→s∈S:=by
  intro s hs
  induction hs with
  |start=>exact h.start
  |step hr ht hk hf ih=>
   have:=(hex _ ih).moves _ _ ht hk
   unfold Handled at this
   rw [if_neg (by rw [hf];decide)] at this
   exact this
 intro o
 refine ⟨h.sound o,fun ho=> ?_⟩
 cases ho with
 |done hr he=>exact (hex _ (hall _ hr)).done he
 |stuck hr he hst=>exact (hex _ (hall _ hr)).stuck he hst
 |fell hr ht hk hf=>
  have:=(hex _ (hall _ hr)).moves _ _ ht hk
  unfold Handled at this
  rwa [if_pos hf] at this
theorem same_ends {E E' :List Outc} {p q:Pg} {m:Int} (h1:Sorted_ E) (h2:∀o,o∈E↔Outs p m o) (h3:Sorted_ E') (h4:∀o,o∈E' ↔Outs q m o) (h:∀o,Outs p m o↔Outs q m o):E=E' :=
 sorted_ext h1 h3 fun o=>(h2 o).trans ((h o).trans (h4 o).symm)
end Go.Proofs.YtmjkobhkkjgplaaGreatDoor
end
section
namespace Go.Proofs.YtmjkobhkkjgplaaGreatDoor
open Go.RowKit
set_option linter.unusedSimpArgs false
set_option linter.unusedVariables false
theorem flatMap_congr' {α β:Type} {f g:α→List β} :∀ {l:List α},(∀x∈l,f x=g x)→l.flatMap f=l.flatMap g
 | [],_=>rfl
 |x::l,h=>by simp only [List.flatMap_cons];rw [h x (by simp),flatMap_congr' fun y hy=>h y (by simp [hy])]
theorem all_congr' {α:Type} {f g:α→Bool} :∀ {l:List α},(∀x∈l,f x=g x)→l.all f=l.all g
 | [],_=>rfl
 |x::l,h=>by simp only [List.all_cons];rw [h x (by simp),all_congr' fun y hy=>h y (by simp [hy])]
section
variable {code:Ls (Ls Ins)} {words:Ls Int} {Lk R:Nat} {mode:Int} {x:SD}
abbrev pgN (code:Ls (Ls Ins)) (words:Ls Int) (Lk R:Nat):Pg:=pgOf code words (Lk:Int) (R:Int)
theorem pgN_len :(pgN code words Lk R).code.length=code.l.length:=by simp [pgN,pgOf]
theorem pgN_code {t:Nat} (ht:t<code.l.length):nth (pgN code words Lk R).code t=(nth code.l t).l:=nth_map' _ _ _ ht
theorem st_th {t:Nat} (ht:t<x.thr.l.length):nth x.st.ths t=(nth x.thr.l t).th:=nth_map' _ _ _ ht
theorem st_view {t:Nat} (ht:t<x.thr.l.length):x.st.view t=⟨(nth x.thr.l t).pc,(nth x.thr.l t).regs.l,(nth x.thr.l t).wait.l,x.words.l,x.owner.l,x.prints.l,false⟩:=by
 unfold MSt.view
 rw [st_th ht];rfl
theorem ended_eq (hl:x.thr.l.length=code.l.length):endedL code x.thr=ended (pgN code words Lk R) x.st:=by
 unfold endedL ended
 rw [pgN_len]
 refine all_congr' fun t ht=> ?_
 have ht' :t<code.l.length:=by simpa using ht
 rw [pgN_code ht',st_th (by omega)];rfl
theorem moves_eq (hl:x.thr.l.length=code.l.length):movesL mode code x.thr x.owner.l code.l.length=moves (pgN code words Lk R) mode x.st:=by
 unfold movesL moves
 rw [pgN_len]
 refine flatMap_congr' fun t ht=> ?_
 have ht' :t<code.l.length:=by simpa using ht
 rw [pgN_code ht',st_view (by omega)];rfl
structure WfX (code:Ls (Ls Ins)) (words:Ls Int) (Lk R:Nat) (x:SD):Prop where
 thl:x.thr.l.length=code.l.length
 pc:∀t,t<code.l.length→0≤(nth x.thr.l t).pc∧(nth x.thr.l t).pc≤(nth code.l t).l.length
 regs:∀t,t<x.thr.l.length→(nth x.thr.l t).regs.l.length=R
 wait:∀t,t<x.thr.l.length→(nth x.thr.l t).wait.l.length≤3
 wt:∀t,t<x.thr.l.length→∀j,j<(nth x.thr.l t).wait.l.length→if (nth (nth x.thr.l t).wait.l j).lock=true then 0≤(nth (nth x.thr.l t).wait.l j).wh∧(nth (nth x.thr.l t).wait.l j).wh<x.owner.l.length else 0≤(nth (nth x.thr.l t).wait.l j).wh∧(nth (nth x.thr.l t).wait.l j).wh<x.words.l.length
 words:x.words.l.length=words.l.length
 owner:x.owner.l.length=Lk
theorem Wf.toX (h:Wf (pgN code words Lk R) x.st):WfX code words Lk R x:=by
 have hl:x.thr.l.length=code.l.length:=by have:=h.ths;rw [pgN_len] at this;simpa [SD.st] using this
 have hw:x.words.l.length=words.l.length:=h.words
 have ho:x.owner.l.length=Lk:=by have:=h.owner;simpa [pgN,pgOf,SD.st] using this
 have hv:∀t,t<code.l.length→WfS R words.l.length Lk (nth code.l t).l.length ⟨(nth x.thr.l t).pc,(nth x.thr.l t).regs.l,(nth x.thr.l t).wait.l,x.words.l,x.owner.l,x.prints.l,false⟩:=by
  intro t ht
  have:=h.th t (by rw [pgN_len];exact ht)
  rw [pgN_code ht,st_view (by omega)] at this
  simpa [pgN,pgOf] using this
 refine ⟨hl,fun t ht=>(hv t ht).pc,fun t ht=>(hv t (by omega)).regs,fun t ht=>(hv t (by omega)).wait,fun t ht j hj=> ?_,hw,ho⟩
 rw [ho,hw]
 exact (hv t (by omega)).wt _ (nth_mem _ _ hj)
theorem rows_at {rows:List ThL} (e:rows.map ThL.th=x.thr.l.map ThL.th):rows.length=x.thr.l.length∧∀t,t<x.thr.l.length→(nth rows t).pc=(nth x.thr.l t).pc∧(nth rows t).regs.l=(nth x.thr.l t).regs.l∧(nth rows t).wait.l=(nth x.thr.l t).wait.l:=by
 have hl:rows.length=x.thr.l.length:=by simpa using congrArg List.length e
 refine ⟨hl,fun t ht=> ?_⟩
 have h1:=congrArg (fun l=>nth l t) e
 simp only [nth_map' ThL.th _ _ ht,nth_map' ThL.th rows t (by omega)] at h1
 exact ⟨congrArg Th.pc h1,congrArg Th.regs h1,congrArg Th.wait h1⟩
theorem insR_N (hok:OkPg (pgN code words Lk R)) {t:Nat} (ht:t<code.l.length) {pc:Int} (h0:0≤pc) (h1:pc<(nth code.l t).l.length):InsR R words.l.length Lk (nextIns (nth code.l t).l pc):=by
 have h:=(hok.insR (t:=t) (i:=pc.toNat) (by rw [pgN_len];exact ht) (by rw [pgN_code ht];omega)).1
 rw [pgN_code ht] at h
 rw [nextIns_t h1]
 simpa [pgN,pgOf] using h
theorem lock_N (hok:OkPg (pgN code words Lk R)) {t i:Nat} (ht:t<code.l.length) (hi:i<(nth code.l t).l.length) (h17:(nth (nth code.l t).l i).op=17):0≤(nth (nth code.l t).l i).a∧(nth (nth code.l t).l i).a<(Lk:Int):=by
 have h:=(hok.insR (t:=t) (i:=i) (by rw [pgN_len];exact ht) (by rw [pgN_code ht];exact hi)).1
 rw [pgN_code ht] at h
 have:=h.o17 (.inl h17)
 simpa [pgN,pgOf] using this
theorem moves_len (hl:x.thr.l.length=code.l.length) (hc:code.l.length≤4) (hw:∀t,t<x.thr.l.length→(nth x.thr.l t).wait.l.length≤3):(moves (pgN code words Lk R) mode x.st).length≤16:=by
 rw [←moves_eq hl]
 have key:∀n,n≤code.l.length→(movesL mode code x.thr x.owner.l n).length≤4*n:=by
  intro n
  induction n with
  |zero=>intro _;simp [movesL]
  |succ n ih=>
   intro hn
   rw [movesL_succ,List.length_append]
   have h1:=ih (by omega)
   have h2:=hw n (by omega)
   have h3:=mayT_len mode x.thr n (nth x.thr.l n).wait.l.length
   have h4:(moveT mode code x.thr x.owner.l n).length≤4:=by
    unfold moveT
    rw [List.length_append]
    split<;>simp<;>omega
   omega
 have:=key _ (Nat.le_refl _)
 omega
end
theorem st_step {code:Ls (Ls Ins)} {words:Ls Int} {Lk R:Nat} {mode:Int} {x z:SD} {t k:Nat} {rows rows' :List ThL} {y:TS} {w0 o0 p0:Ls Int} (ht:t<code.l.length) (hl:x.thr.l.length=code.l.length) (e:rows.map ThL.th=x.thr.l.map ThL.th) (ew:w0.l=x.words.l) (eo:o0.l=x.owner.l) (ep:p0.l=x.prints.l)
  (hy:y=doT mode t (nth code.l t).l k ⟨(nth rows t).pc,(nth rows t).regs.l,(nth rows t).wait.l,w0.l,o0.l,p0.l,false⟩):y=stepT (pgN code words Lk R) mode x.st t k∧(z.thr.l=rows' →rows'.map ThL.th=(rows.map ThL.th).set t ⟨y.pc,y.regs,y.wait⟩→z.words.l=y.words→z.owner.l=y.owner→z.prints.l=y.prints→z.st=x.st.putT t y):=by
 obtain ⟨h1,h2⟩:=rows_at e
 obtain ⟨q1,q2,q3⟩:=h2 t (by omega)
 constructor
 ·rw [hy,q1,q2,q3,ew,eo,ep]
  unfold stepT
  rw [pgN_code ht,st_view (by omega)]
 ·intro e1 e2 e3 e4 e5
  unfold MSt.putT SD.st
  rw [e1,e2,e3,e4,e5,e]
end Go.Proofs.YtmjkobhkkjgplaaGreatDoor
end
namespace Go.Proofs.YtmjkobhkkjgplaaGreatDoor
open Go.RowKit
set_option linter.unusedSimpArgs false
set_option linter.unusedVariables false
section
variable {p:Pg} {m:Int} {S:List MSt} {E:List Outc} {full:Bool} {i:Nat}
theorem Inv.addOut (h:Inv p m S E full i) {o:Outc} {E' :List Outc} (ho:Outs p m o) (hs:Sorted_ E') (hm:∀y,y∈E' ↔y∈E∨y=o):Inv p m S E' full i:=
 ⟨h.start,h.reach,h.pr,h.len,h.hfull,fun y hy=>((hm y).1 hy).elim (h.sound y) (fun e=>e▸ho),hs,fun hf j hj=>(h.done hf j hj).mono (fun _ h=>h) fun y hy=>(hm y).2 (.inl hy),h.nd⟩
theorem nth_left {α:Type} [Inhabited α] (l m:List α) (j:Nat) (h:j<l.length):nth (l++m) j=nth l j:=by rw [nth_app0,if_pos h]
theorem nth_last {α:Type} [Inhabited α] (l:List α) (x:α):nth (l++ [x]) l.length=x:=by rw [nth_app0,if_neg (by omega)];simp [nth]
theorem Inv.addState (h:Inv p m S E full i) (hf:full=false) (hi:i≤S.length) {s:MSt} (hr:Reach p m s) (hp:s.prints.length≤2*S.length) (hnw:s∉S):Inv p m (S++ [s]) E (full||decide (4000<S.length+1)) i:=by
 have hl:S.length≤4000:=by
  have:=h.hfull
  rw [hf] at this
  have:=of_decide_eq_false this.symm
  omega
 refine ⟨by simp [h.start],fun x hx=> ?_,fun j hj=> ?_,by simp;omega,by rw [hf];simp,h.sound,h.sorted,fun _ j hj=> ?_, ?_⟩
 ·rcases List.mem_append.1 hx with hx|hx
  ·exact h.reach x hx
  ·obtain rfl:x=s:=by simpa using hx
   exact hr
 ·simp at hj
  rcases Nat.lt_or_ge j S.length with h1|h1
  ·rw [nth_left _ _ _ h1];exact h.pr j h1
  ·obtain rfl:j=S.length:=by omega
   rw [nth_last];exact hp
 ·rw [nth_left _ _ _ (by omega)]
  exact (h.done hf j hj).mono (fun x hx=>by simp [hx]) (fun _ h=>h)
 ·rw [List.nodup_append]
  exact ⟨h.nd,by simp,fun x hx y hy e=>by obtain rfl:y=s:=(by simpa using hy);exact hnw (e▸hx)⟩
theorem Inv.next (h:Inv p m S E full i) (hx:full=false→Expanded p m S E (nth S i)):Inv p m S E full (i+1):=
 ⟨h.start,h.reach,h.pr,h.len,h.hfull,h.sound,h.sorted,fun hf j hj=>by
  rcases Nat.lt_or_ge j i with h1|h1
  ·exact h.done hf j h1
  ·obtain rfl:j=i:=by omega
   exact hx hf,h.nd⟩
theorem Inv.first (s:MSt) (hs:s=begin_ p):Inv p m [s] [] (false||decide (4000<0+1)) 0:=by
 subst hs
 refine ⟨by simp,fun x hx=> ?_,fun j hj=> ?_,by simp,by simp,fun o ho=> ?_,List.Pairwise.nil,fun _ j hj=>absurd hj (by omega),by simp⟩
 ·obtain rfl:x=begin_ p:=by simpa using hx
  exact .start
 ·simp at hj;subst hj;exact Nat.zero_le _
 ·cases ho
theorem ended_no {s:MSt} (he:ended p s=true):∀t k,t<p.code.length→mvOK m (nth p.code t) (s.view t) k=false:=by
 intro t k ht
 have h1:=(List.all_eq_true.1 he) t (by simpa using ht)
 simp only [Bool.and_eq_true,decide_eq_true_eq] at h1
 cases hk:mvOK m (nth p.code t) (s.view t) k with
 |false=>rfl
 |true=>
  rcases mvOK_k hk with ⟨rfl,h2,_⟩|⟨h2,h3,_⟩
  ·exact absurd h2 h1.1
  ·have:(s.view t).wait.length=0:=h1.2
   omega
theorem Inv.ended (h:Inv p m S E full i) (hi:i<S.length) (he:ended p (nth S i)=true) {E' :List Outc} (hs:Sorted_ E') (hm:∀y,y∈E' ↔y∈E∨y=⟨0,(nth S i).words,(nth S i).prints⟩):Inv p m S E' full (i+1):=by
 have h1:=h.addOut (.done (h.reach _ (nth_mem _ _ hi)) he) hs hm
 refine h1.next fun _=>⟨fun _=>(hm _).2 (.inr rfl),fun e=> ?_,fun t k ht hk=> ?_⟩
 ·rw [he] at e;cases e
 ·rw [ended_no he t k ht] at hk;cases hk
theorem stuck_of {s:MSt} (hm:moves p m s= []):Stuck_ p m s:=by
 intro t k ht
 cases hk:mvOK m (nth p.code t) (s.view t) k with
 |false=>rfl
 |true=>
  have:((8*t+k:Nat):Int)∈moves p m s:=mem_moves.2 ⟨t,k,ht,hk,rfl⟩
  rw [hm] at this;cases this
theorem Inv.stuck (h:Inv p m S E full i) (hi:i<S.length) (he:Go.Proofs.YtmjkobhkkjgplaaGreatDoor.ended p (nth S i)=false) (hmv:moves p m (nth S i)= []) {E' :List Outc} (hs:Sorted_ E') (hm:∀y,y∈E' ↔y∈E∨y=⟨2,(nth S i).words,(nth S i).prints⟩):Inv p m S E' full (i+1):=by
 have hst:=stuck_of hmv
 have h1:=h.addOut (.stuck (h.reach _ (nth_mem _ _ hi)) he hst) hs hm
 refine h1.next fun _=>⟨fun e=> ?_,fun _ _=>(hm _).2 (.inr rfl),fun t k ht hk=> ?_⟩
 ·rw [he] at e;cases e
 ·rw [hst t k ht] at hk;cases hk
def HandM (p:Pg) (m:Int) (S:List MSt) (E:List Outc) (s:MSt) (v:Int):Prop:=∀t k,v=((8*t+k:Nat):Int)→k≤3→Handled p m S E s t k
theorem HandM.mono {s:MSt} {v:Int} {S' :List MSt} {E' :List Outc} (h:HandM p m S E s v) (hS:∀x∈S,x∈S') (hE:∀x∈E,x∈E'):HandM p m S' E' s v:=fun t k e hk=>(h t k e hk).mono hS hE
theorem HandM.of {s:MSt} {v:Int} {t k:Nat} (hv:v=((8*t+k:Nat):Int)) (hk:k≤3) (h:Handled p m S E s t k):HandM p m S E s v:=by
 intro t' k' e hk'
 rw [hv] at e
 have e' :8*t+k=8*t' +k' :=by omega
 obtain rfl:t=t' :=by omega
 obtain rfl:k=k' :=by omega
 exact h
theorem Inv.expanded (h:Inv p m S E full i) (hi:i<S.length) (he:Go.Proofs.YtmjkobhkkjgplaaGreatDoor.ended p (nth S i)=false) (hne:moves p m (nth S i)≠ []) (hw:Wf p (nth S i)) (hall:full=false→∀q,q<(moves p m (nth S i)).length→HandM p m S E (nth S i) (nth (moves p m (nth S i)) q)):Inv p m S E full (i+1):=by
 refine h.next fun hf=>⟨fun e=> ?_,fun _ hst=> ?_,fun t k ht hk=> ?_⟩
 ·rw [he] at e;cases e
 ·exfalso
  apply hne
  apply List.eq_nil_iff_forall_not_mem.2
  intro v hv
  obtain ⟨t,k,ht,hk,_⟩:=mem_moves.1 hv
  rw [hst t k ht] at hk;cases hk
 ·have hv:((8*t+k:Nat):Int)∈moves p m (nth S i):=mem_moves.2 ⟨t,k,ht,hk,rfl⟩
  obtain ⟨q,hq⟩:=List.getElem?_of_mem hv
  obtain ⟨hlt,e⟩:=List.getElem?_eq_some_iff.1 hq
  exact hall hf q hlt t k (by rw [nth_lt _ _ hlt];exact e) (mvOK_le hk (hw.th t ht).wait)
end
end Go.Proofs.YtmjkobhkkjgplaaGreatDoor
