/- Part 3 of the texts. -/
import Derived.Test.YtmjkobhkkjgplaaGreatDoorQ2
import Derived.Laws.RangeString
import Derived.Laws.IdiomStrings
import Derived.Laws.Bits64b
import Derived.Maps.RangeRun
import Derived.Laws.Externs
import Derived.RangeFuncBox
import Derived.RangeFuncLeaves
import Derived.RangeFuncFrom
import Derived.Shelf.Abstract
import Derived.OwnWalkIn
import Derived.TacticsInMore
import Derived.LoopNIn
import Derived.LoopIn
import Derived.RangeFuncNested
namespace Go.Proofs.YtmjkobhkkjgplaaGreatDoor
open Go.RowKit
set_option linter.unusedSimpArgs false
set_option linter.unusedVariables false
theorem fit_r {p:Pg}{size n:Int}(h:fitsG p size 114 n=true):0≤n∧n<p.regs:=by
 unfold fitsG at h
 simp only [Int.reduceEq,if_false,if_true,Bool.and_eq_true,decide_eq_true_eq] at h
 exact h
theorem fit_w {p:Pg}{size n:Int}(h:fitsG p size 119 n=true):0≤n∧n<p.words.length:=by
 unfold fitsG at h
 simp only [Int.reduceEq,if_false,if_true,Bool.and_eq_true,decide_eq_true_eq] at h
 exact h
theorem fit_l {p:Pg}{size n:Int}(h:fitsG p size 108 n=true):0≤n∧n<p.locks:=by
 unfold fitsG at h
 simp only [Int.reduceEq,if_false,if_true,Bool.and_eq_true,decide_eq_true_eq] at h
 exact h
theorem fit_c {p:Pg}{size n:Int}(hs:0≤size∧size≤100000)(h:fitsG p size 99 n=true):0≤n∧n≤size:=by
 unfold fitsG at h
 simp only [Int.reduceEq,if_false,if_true,Bool.and_eq_true,decide_eq_true_eq] at h
 rw [IntWalk.wrap64_in _ ⟨by omega,by omega⟩] at h
 omega
theorem num0 {p:Pg}{size:Int}{x:Ins}(h:okNumG p size x 0=true){b:UInt8}{r:List UInt8}(hk:kindsB x.op=⟨(b::r).toArray⟩):fitsG p size (b.toNat:Int) x.a=true:=by
 unfold okNumG at h
 rw [hk] at h
 rw [dif_pos (by simp [ByteArray.size])] at h
 exact h
theorem num1 {p:Pg}{size:Int}{x:Ins}(h:okNumG p size x 1=true){a b:UInt8}{r:List UInt8}(hk:kindsB x.op=⟨(a::b::r).toArray⟩):fitsG p size (b.toNat:Int) x.b=true:=by
 unfold okNumG at h
 rw [hk] at h
 rw [dif_pos (by simp [ByteArray.size])] at h
 exact h
theorem num2 {p:Pg}{size:Int}{x:Ins}(h:okNumG p size x 2=true){a b c:UInt8}{r:List UInt8}(hk:kindsB x.op=⟨(a::b::c::r).toArray⟩):fitsG p size (c.toNat:Int) x.c=true:=by
 unfold okNumG at h
 rw [hk] at h
 rw [dif_pos (by simp [ByteArray.size])] at h
 exact h
theorem insR_ok {p:Pg}{size:Int}{x:Ins}(hs:0≤size∧size≤100000)(hr:0≤p.regs)(hl:0≤p.locks)(h:OkIns p size x):InsR p.regs.toNat p.words.length p.locks.toNat x∧(x.op=14→0≤x.a∧x.a≤size)∧(x.op=15→0≤x.b∧x.b≤size):=by
 have er:(p.regs.toNat:Int)=p.regs:=Int.toNat_of_nonneg hr
 have el:(p.locks.toNat:Int)=p.locks:=Int.toNat_of_nonneg hl
 have h0:=h.n0
 have h1:=h.n1
 have h2:=h.n2
 refine ⟨⟨fun e=> ?_,fun e=> ?_,fun e=> ?_,fun e=> ?_,fun e=> ?_,fun e=> ?_,fun e=> ?_,fun e=> ?_,fun e=> ?_⟩,fun e=> ?_,fun e=> ?_⟩
 ·have k:kindsB x.op=⟨[114,110].toArray⟩:=by rw [e];unfold kindsB;simp
  rw [er];exact fit_r (num0 h0 k)
 ·have k:kindsB x.op=⟨[114,114].toArray⟩:=by rw [e];unfold kindsB;simp
  rw [er];exact ⟨fit_r (num0 h0 k),fit_r (num1 h1 k)⟩
 ·have k:kindsB x.op=⟨[114,114,114].toArray⟩:=by rcases e with e|e|e|e|e<;>(rw [e];unfold kindsB;simp)
  rw [er];exact ⟨fit_r (num0 h0 k),fit_r (num1 h1 k),fit_r (num2 h2 k)⟩
 ·have k:kindsB x.op=⟨[114,119].toArray⟩:=by rw [e];unfold kindsB;simp
  rw [er];exact ⟨fit_r (num0 h0 k),fit_w (num1 h1 k)⟩
 ·have k:kindsB x.op=⟨[119,114].toArray⟩:=by rw [e];unfold kindsB;simp
  rw [er];exact ⟨fit_w (num0 h0 k),fit_r (num1 h1 k)⟩
 ·have k:kindsB x.op=⟨[114,114].toArray⟩:=by rcases e with e|e<;>(rw [e];unfold kindsB;simp)
  rw [er];exact ⟨fit_r (num0 h0 k),fit_r (num1 h1 k)⟩
 ·have k:kindsB x.op=⟨[119,114,114].toArray⟩:=by rw [e];unfold kindsB;simp
  rw [er];exact ⟨fit_w (num0 h0 k),fit_r (num1 h1 k),fit_r (num2 h2 k)⟩
 ·rw [er]
  rcases e with e|e
  ·have k:kindsB x.op=⟨[114,99].toArray⟩:=by rw [e];unfold kindsB;simp
   exact fit_r (num0 h0 k)
  ·have k:kindsB x.op=⟨[114].toArray⟩:=by rw [e];unfold kindsB;simp
   exact fit_r (num0 h0 k)
 ·have k:kindsB x.op=⟨[108].toArray⟩:=by rcases e with e|e<;>(rw [e];unfold kindsB;simp)
  rw [el];exact fit_l (num0 h0 k)
 ·have k:kindsB x.op=⟨[99].toArray⟩:=by rw [e];unfold kindsB;simp
  exact fit_c hs (num0 h0 k)
 ·have k:kindsB x.op=⟨[114,99].toArray⟩:=by rw [e];unfold kindsB;simp
  exact fit_c hs (num1 h1 k)
theorem OkPg.insR {p:Pg}(h:OkPg p){t i:Nat}(ht:t<p.code.length)(hi:i<(nth p.code t).length):InsR p.regs.toNat p.words.length p.locks.toNat (nth (nth p.code t) i)∧((nth (nth p.code t) i).op=14→0≤(nth (nth p.code t) i).a∧(nth (nth p.code t) i).a≤(nth p.code t).length)∧((nth (nth p.code t) i).op=15→0≤(nth (nth p.code t) i).b∧(nth (nth p.code t) i).b≤(nth p.code t).length):=by
 have hl:=h.len t ht
 have:=h.regs
 have:=h.locks
 exact insR_ok ⟨by omega,by omega⟩ (by omega) (by omega) (h.ins t i ht hi)
structure WfS (R W L C:Nat)(x:TS):Prop where
 pc:0≤x.pc∧x.pc≤C
 regs:x.regs.length=R
 wait:x.wait.length≤3
 wt:∀w∈x.wait,if w.lock=true then 0≤w.wh∧w.wh<L else 0≤w.wh∧w.wh<W
 words:x.words.length=W
 owner:x.owner.length=L
section
variable {R W L C:Nat}{x:TS}
theorem WfS.put (h:WfS R W L C x)(k v:Int):WfS R W L C (x.put k v):=⟨h.pc,by simpa [TS.put] using h.regs,h.wait,h.wt,h.words,h.owner⟩
theorem WfS.fell (h:WfS R W L C x):WfS R W L C { x with fell:=true } :=⟨h.pc,h.regs,h.wait,h.wt,h.words,h.owner⟩
theorem WfS.done (h:WfS R W L C x)(w:Wt):WfS R W L C (x.done w):=by
 refine ⟨h.pc,h.regs,h.wait,h.wt, ?_, ?_⟩
 ·show (if w.lock=true then x.words else x.words.set w.wh.toNat w.what).length=W
  split
  ·exact h.words
  ·rw [List.length_set];exact h.words
 ·show (if w.lock=true then x.owner.set w.wh.toNat (-1) else x.owner).length=L
  split
  ·rw [List.length_set];exact h.owner
  ·exact h.owner
theorem WfS.store (h:WfS R W L C x){m:Int}{w:Wt}(hw:if w.lock=true then 0≤w.wh∧w.wh<L else 0≤w.wh∧w.wh<W)(hl:x.wait.length<3):WfS R W L C (x.store m w):=by
 unfold TS.store
 split
 ·refine ⟨h.pc,h.regs,by simp;omega,fun y hy=> ?_,h.words,h.owner⟩
  rcases List.mem_append.1 hy with hy|hy
  ·exact h.wt y hy
  ·obtain rfl:y=w:=by simpa using hy
   exact hw
 ·exact h.done w
theorem WfS.exec (h:WfS R W L C x){m:Int}{n:Nat}{i:Ins}(hR:InsR R W L i)(h14:i.op=14→0≤i.a∧i.a≤C)(h15:i.op=15→0≤i.b∧i.b≤C)(ha:ableL x.owner x.wait.length i=true):WfS R W L C (execT m n i x):=by
 have hst:i.op=9∨i.op=11∨i.op=18→x.wait.length<3:=by
  intro e
  unfold ableL at ha
  rw [if_pos e] at ha
  exact of_decide_eq_true ha
 by_cases e1:i.op=1
 ·rw [execT_1 e1];exact h.put _ _
 by_cases e2:i.op=2
 ·rw [execT_2 e2];exact h.put _ _
 by_cases e3:i.op=3
 ·rw [execT_3 e3];exact h.put _ _
 by_cases e4:i.op=4
 ·rw [execT_4 e4];exact h.put _ _
 by_cases e5:i.op=5
 ·rw [execT_5 e5];exact h.put _ _
 by_cases e6:i.op=6
 ·rw [execT_6 e6];exact h.put _ _
 by_cases e7:i.op=7
 ·rw [execT_7 e7];exact h.put _ _
 by_cases e8:i.op=8
 ·rw [execT_8 e8];exact h.put _ _
 by_cases e9:i.op=9
 ·rw [execT_9 e9]
  have q:=hR.o9 e9
  exact h.store (by show if (false=true) then _ else _;rw [if_neg Bool.false_ne_true];exact q.1) (hst (.inl e9))
 by_cases e10:i.op=10
 ·by_cases hw:0≤x.reg i.b∧x.reg i.b<(x.words.length:Int)
  ·rw [execT_10t e10 hw];exact h.put _ _
  ·rw [execT_10f e10 hw];exact h.fell
 by_cases e11:i.op=11
 ·by_cases hw:0≤x.reg i.a∧x.reg i.a<(x.words.length:Int)
  ·rw [execT_11t e11 hw]
   rw [h.words] at hw
   exact h.store (by show if (false=true) then _ else _;rw [if_neg Bool.false_ne_true];exact hw) (hst (.inr (.inl e11)))
  ·rw [execT_11f e11 hw];exact h.fell
 by_cases e13:i.op=13
 ·by_cases hw:nth x.words i.a.toNat=x.reg i.b
  ·rw [execT_13t e13 hw]
   exact ⟨h.pc,by simpa using h.regs,h.wait,h.wt,by simpa using h.words,h.owner⟩
  ·rw [execT_13f e13 hw];exact h.put _ _
 by_cases e14:i.op=14
 ·rw [execT_14 e14];exact ⟨h14 e14,h.regs,h.wait,h.wt,h.words,h.owner⟩
 by_cases e15:i.op=15
 ·by_cases hw:x.reg i.a=0
  ·rw [execT_15t e15 hw];exact ⟨h15 e15,h.regs,h.wait,h.wt,h.words,h.owner⟩
  ·rw [execT_15f e15 hw];exact h
 by_cases e16:i.op=16
 ·rw [execT_16 e16];exact ⟨h.pc,h.regs,h.wait,h.wt,h.words,h.owner⟩
 by_cases e17:i.op=17
 ·rw [execT_17 e17];exact ⟨h.pc,h.regs,h.wait,h.wt,h.words,by simpa using h.owner⟩
 by_cases e18:i.op=18
 ·have q:=hR.o17 (.inr e18)
  by_cases hw:nth x.owner i.a.toNat≠n
  ·rw [execT_18a e18 hw];exact h.fell
  ·by_cases hh:∃j,j<x.wait.length∧(nth x.wait j).lock=true∧(nth x.wait j).wh=i.a
   ·obtain ⟨j,hj,h1,h2⟩:=hh
    rw [execT_18b e18 hw j hj h1 h2];exact h.fell
   ·rw [execT_18c e18 hw (fun q hq hc=>hh ⟨q,hq,hc⟩)]
    exact h.store (by show if (true=true) then _ else _;rw [if_pos rfl];exact q) (hst (.inr (.inr e18)))
 rw [execT_no ⟨e1,e2,e3,e4,e5,e6,e7,e8,e9,e10,e11,e13,e14,e15,e16,e17,e18⟩]
 exact h
end
theorem mvOK_k {m:Int}{c:List Ins}{x:TS}{k:Nat}(h:mvOK m c x k=true):(k=0∧x.pc<c.length∧ableL x.owner x.wait.length (nextIns c x.pc)=true)∨(0<k∧k≤x.wait.length∧mayK m x.wait (k-1)=true):=by
 unfold mvOK at h
 split at h
 ·rename_i hk
  left
  unfold ableV at h
  simp only [Bool.and_eq_true,decide_eq_true_eq] at h
  exact ⟨hk,h⟩
 ·right
  simp only [Bool.and_eq_true,decide_eq_true_eq] at h
  exact ⟨by omega,h⟩
theorem WfS.doT {R W L:Nat}{x:TS}{m:Int}{n k:Nat}{c:List Ins}(h:WfS R W L c.length x)(hR:∀i,i<c.length→InsR R W L (nth c i)∧((nth c i).op=14→0≤(nth c i).a∧(nth c i).a≤c.length)∧((nth c i).op=15→0≤(nth c i).b∧(nth c i).b≤c.length))(hk:mvOK m c x k=true):WfS R W L c.length (Go.Proofs.YtmjkobhkkjgplaaGreatDoor.doT m n c k x):=by
 have hpc:=h.pc
 rcases mvOK_k hk with ⟨rfl,h1,h2⟩|⟨h1,h2,h3⟩
 ·rw [doT_0 rfl]
  have hn:nextIns c x.pc=nth c x.pc.toNat:=nextIns_t h1
  obtain ⟨q1,q2,q3⟩:=hR x.pc.toNat (by omega)
  rw [hn] at h2⊢
  exact WfS.exec (x:= { x with pc:=x.pc+1 }) ⟨⟨by show 0≤x.pc+1;omega,by show x.pc+1≤_;omega⟩,h.regs,h.wait,h.wt,h.words,h.owner⟩ q1 q2 q3 h2
 ·unfold Go.Proofs.YtmjkobhkkjgplaaGreatDoor.doT
  rw [if_pos h1]
  have hd:=h.done (nth x.wait (k-1))
  exact ⟨hd.pc,hd.regs,by show (x.wait.eraseIdx (k-1)).length≤3;have:=List.length_eraseIdx_le x.wait (k-1);have:=h.wait;omega,fun w hw=>h.wt w (List.mem_of_mem_eraseIdx hw),hd.words,hd.owner⟩
structure Wf (p:Pg)(s:MSt):Prop where
 ths:s.ths.length=p.code.length
 th:∀t,t<p.code.length→WfS p.regs.toNat p.words.length p.locks.toNat (nth p.code t).length (s.view t)
 words:s.words.length=p.words.length
 owner:s.owner.length=p.locks.toNat
theorem nth_set0 {α:Type}[Inhabited α](l:List α)(i k:Nat)(x:α):nth (l.set i x) k=if i=k∧i<l.length then x else nth l k:=by
 simp only [nth,List.getD,List.getElem?_set]
 by_cases h:i=k
 ·subst h
  by_cases h2:i<l.length<;>simp [h2]
 ·simp [h]
theorem putT_view {s:MSt}{t:Nat}{y:TS}(ht:t<s.ths.length):(s.putT t y).view t= { y with fell:=false } :=by
 unfold MSt.view MSt.putT
 simp [nth_set0,ht]
theorem putT_other {s:MSt}{t u:Nat}{y:TS}(h:t≠u):(s.putT t y).view u=⟨(s.view u).pc,(s.view u).regs,(s.view u).wait,y.words,y.owner,y.prints,false⟩:=by
 unfold MSt.view MSt.putT
 simp only [nth_set0]
 rw [if_neg (fun hh=>h hh.1)]
theorem Wf.begin_ {p:Pg}(h:OkPg p):Wf p (begin_ p):=by
 refine ⟨by simp [Go.Proofs.YtmjkobhkkjgplaaGreatDoor.begin_],fun t ht=> ?_,rfl,by simp [Go.Proofs.YtmjkobhkkjgplaaGreatDoor.begin_]⟩
 have e:nth (Go.Proofs.YtmjkobhkkjgplaaGreatDoor.begin_ p).ths t=⟨0,List.replicate p.regs.toNat 0, []⟩:=by
  unfold Go.Proofs.YtmjkobhkkjgplaaGreatDoor.begin_
  rw [nth_map' _ _ _ ht]
 unfold MSt.view
 rw [e]
 exact ⟨⟨Int.le_refl _,by simp⟩,by simp,by simp,fun w hw=>(by cases hw),rfl,by simp [Go.Proofs.YtmjkobhkkjgplaaGreatDoor.begin_]⟩
theorem Wf.step {p:Pg}(hok:OkPg p){s:MSt}(h:Wf p s){m:Int}{t k:Nat}(ht:t<p.code.length)(hk:mvOK m (nth p.code t) (s.view t) k=true):Wf p (s.putT t (stepT p m s t k)):=by
 have h1:=(h.th t ht).doT (m:=m) (n:=t) (fun i hi=>hok.insR ht hi) hk
 refine ⟨by simpa [MSt.putT] using h.ths,fun u hu=> ?_,h1.words,h1.owner⟩
 by_cases e:t=u
 ·subst e
  rw [putT_view (by rw [h.ths];exact ht)]
  exact ⟨h1.pc,h1.regs,h1.wait,h1.wt,h1.words,h1.owner⟩
 ·rw [putT_other e]
  have h2:=h.th u hu
  exact ⟨h2.pc,h2.regs,h2.wait,h2.wt,h1.words,h1.owner⟩
inductive Reach (p:Pg)(m:Int):MSt→Prop
 |start:Reach p m (begin_ p)
 |step {s:MSt} {t k:Nat} :Reach p m s→t<p.code.length→mvOK m (nth p.code t) (s.view t) k=true→(stepT p m s t k).fell=false→Reach p m (s.putT t (stepT p m s t k))
def Stuck_ (p:Pg)(m:Int)(s:MSt):Prop:=∀t k,t<p.code.length→mvOK m (nth p.code t) (s.view t) k=false
inductive Outs (p:Pg)(m:Int):Outc→Prop
 |done {s:MSt} :Reach p m s→ended p s=true→Outs p m ⟨0,s.words,s.prints⟩
 |stuck {s:MSt} :Reach p m s→ended p s=false→Stuck_ p m s→Outs p m ⟨2,s.words,s.prints⟩
 |fell {s:MSt} {t k:Nat} :Reach p m s→t<p.code.length→mvOK m (nth p.code t) (s.view t) k=true→(stepT p m s t k).fell=true→Outs p m ⟨1, [],(stepT p m s t k).prints⟩
theorem Reach.wf {p:Pg}(hok:OkPg p){m:Int}{s:MSt}(h:Reach p m s):Wf p s:=by
 induction h with
 |start=>exact Wf.begin_ hok
 |step _ ht hk _ ih=>exact ih.step hok ht hk
theorem mem_mvs {m:Int}{c:List Ins}{t:Nat}{x:TS}{v:Int} :v∈mvs m c t x↔∃k,mvOK m c x k=true∧v=((8*t+k:Nat):Int):=by
 unfold mvs
 rw [List.mem_append]
 constructor
 ·rintro (h|h)
  ·split at h
   ·rename_i ha
    exact ⟨0,by unfold mvOK;rw [if_pos rfl];exact ha,by simpa using h⟩
   ·cases h
  ·obtain ⟨k,hk,rfl⟩:=List.mem_map.1 h
   obtain ⟨h1,h2⟩:=List.mem_filter.1 hk
   refine ⟨k+1, ?_,rfl⟩
   unfold mvOK
   rw [if_neg (by omega)]
   have:k+1≤x.wait.length:=by have:=List.mem_range.1 h1;omega
   simp [this,h2]
 ·rintro ⟨k,hk,rfl⟩
  rcases mvOK_k hk with ⟨rfl,h1,h2⟩|⟨h1,h2,h3⟩
  ·left
   have:ableV c x=true:=by unfold ableV;simp [h1,h2]
   rw [if_pos this];simp
  ·right
   refine List.mem_map.2 ⟨k-1,List.mem_filter.2 ⟨by simp;omega,h3⟩, ?_⟩
   rw [show 8*t+(k-1)+1=8*t+k by omega]
theorem mem_moves {p:Pg}{m:Int}{s:MSt}{v:Int} :v∈moves p m s↔∃t k,t<p.code.length∧mvOK m (nth p.code t) (s.view t) k=true∧v=((8*t+k:Nat):Int):=by
 unfold moves
 rw [List.mem_flatMap]
 constructor
 ·rintro ⟨t,ht,h⟩
  obtain ⟨k,hk,e⟩:=mem_mvs.1 h
  exact ⟨t,k,by simpa using ht,hk,e⟩
 ·rintro ⟨t,k,ht,hk,e⟩
  exact ⟨t,by simpa using ht,mem_mvs.2 ⟨k,hk,e⟩⟩
theorem mvOK_le {m:Int}{c:List Ins}{x:TS}{k:Nat}(h:mvOK m c x k=true)(hw:x.wait.length≤3):k≤3:=by
 rcases mvOK_k h with ⟨rfl,_⟩|⟨_,h2,_⟩<;>omega
theorem store_prints (m:Int)(x:TS)(w:Wt):(x.store m w).prints=x.prints:=by unfold TS.store;split<;>rfl
theorem execT_prints (m:Int)(n:Nat)(i:Ins)(x:TS):(execT m n i x).prints.length≤x.prints.length+2:=by
 by_cases e1:i.op=1
 ·rw [execT_1 e1];show x.prints.length≤_;omega
 by_cases e2:i.op=2
 ·rw [execT_2 e2];show x.prints.length≤_;omega
 by_cases e3:i.op=3
 ·rw [execT_3 e3];show x.prints.length≤_;omega
 by_cases e4:i.op=4
 ·rw [execT_4 e4];show x.prints.length≤_;omega
 by_cases e5:i.op=5
 ·rw [execT_5 e5];show x.prints.length≤_;omega
 by_cases e6:i.op=6
 ·rw [execT_6 e6];show x.prints.length≤_;omega
 by_cases e7:i.op=7
 ·rw [execT_7 e7];show x.prints.length≤_;omega
 by_cases e8:i.op=8
 ·rw [execT_8 e8];show x.prints.length≤_;omega
 by_cases e9:i.op=9
 ·rw [execT_9 e9,store_prints];omega
 by_cases e10:i.op=10
 ·by_cases hw:0≤x.reg i.b∧x.reg i.b<(x.words.length:Int)
  ·rw [execT_10t e10 hw];show x.prints.length≤_;omega
  ·rw [execT_10f e10 hw];show x.prints.length≤_;omega
 by_cases e11:i.op=11
 ·by_cases hw:0≤x.reg i.a∧x.reg i.a<(x.words.length:Int)
  ·rw [execT_11t e11 hw,store_prints];omega
  ·rw [execT_11f e11 hw];show x.prints.length≤_;omega
 by_cases e13:i.op=13
 ·by_cases hw:nth x.words i.a.toNat=x.reg i.b
  ·rw [execT_13t e13 hw];show x.prints.length≤_;omega
  ·rw [execT_13f e13 hw];show x.prints.length≤_;omega
 by_cases e14:i.op=14
 ·rw [execT_14 e14];show x.prints.length≤_;omega
 by_cases e15:i.op=15
 ·by_cases hw:x.reg i.a=0
  ·rw [execT_15t e15 hw];show x.prints.length≤_;omega
  ·rw [execT_15f e15 hw];omega
 by_cases e16:i.op=16
 ·rw [execT_16 e16];show (x.prints++_).length≤_;simp
 by_cases e17:i.op=17
 ·rw [execT_17 e17];show x.prints.length≤_;omega
 by_cases e18:i.op=18
 ·by_cases hw:nth x.owner i.a.toNat≠n
  ·rw [execT_18a e18 hw];show x.prints.length≤_;omega
  ·by_cases hh:∃j,j<x.wait.length∧(nth x.wait j).lock=true∧(nth x.wait j).wh=i.a
   ·obtain ⟨j,hj,h1,h2⟩:=hh
    rw [execT_18b e18 hw j hj h1 h2];show x.prints.length≤_;omega
   ·rw [execT_18c e18 hw (fun q hq hc=>hh ⟨q,hq,hc⟩),store_prints];omega
 rw [execT_no ⟨e1,e2,e3,e4,e5,e6,e7,e8,e9,e10,e11,e13,e14,e15,e16,e17,e18⟩]
 omega
theorem doT_prints (m:Int)(n:Nat)(c:List Ins)(k:Nat)(x:TS):(doT m n c k x).prints.length≤x.prints.length+2:=by
 unfold doT
 split
 ·show x.prints.length≤_;omega
 ·exact execT_prints _ _ _ _
theorem wt_inj :∀ {l m:List Wt} {r r' :List Int},l.length=m.length→l.flatMap wtN++r=m.flatMap wtN++r' →l=m∧r=r'
 | [], [],r,r',_,h=>⟨rfl,h⟩
 | [],_::_,_,_,hl,_=>by simp at hl
 |_::_, [],_,_,hl,_=>by simp at hl
 |x::l,y::m,r,r',hl,h=>by
  simp only [List.flatMap_cons,List.append_assoc] at h
  unfold wtN at h
  simp only [List.cons_append,List.nil_append,List.cons.injEq] at h
  obtain ⟨h1,h2,h3,h4⟩:=h
  obtain ⟨e1,e2⟩:=wt_inj (by simpa using hl) h4
  have hlk:x.lock=y.lock:=by
   cases hx:x.lock<;>cases hy:y.lock<;>simp [hx,hy] at h1⊢
  refine ⟨?_,e2⟩
  rw [e1]
  congr 1
  cases x;cases y
  simp only at hlk h2 h3
  rw [hlk,h2,h3]
theorem th_inj {R:Nat} :∀ {l m:List Th} {r r' :List Int},l.length=m.length→(∀x∈l,x.regs.length=R)→(∀x∈m,x.regs.length=R)→l.flatMap thN++r=m.flatMap thN++r' →l=m∧r=r'
 | [], [],r,r',_,_,_,h=>⟨rfl,h⟩
 | [],_::_,_,_,hl,_,_,_=>by simp at hl
 |_::_, [],_,_,hl,_,_,_=>by simp at hl
 |x::l,y::m,r,r',hl,h1,h2,h=>by
  simp only [List.flatMap_cons,List.append_assoc] at h
  unfold thN at h
  simp only [List.append_assoc,List.cons_append,List.nil_append,List.cons.injEq] at h
  obtain ⟨e1,e2,h3⟩:=h
  have hx:=h1 x (by simp)
  have hy:=h2 y (by simp)
  obtain ⟨e3,h4⟩:=List.append_inj h3 (by rw [hx,hy])
  obtain ⟨e4,h5⟩:=wt_inj (by omega) h4
  obtain ⟨e5,e6⟩:=th_inj (by simpa using hl) (fun z hz=>h1 z (by simp [hz])) (fun z hz=>h2 z (by simp [hz])) h5
  refine ⟨?_,e6⟩
  rw [e5]
  congr 1
  cases x;cases y
  simp only at e1 e3 e4
  rw [e1,e3,e4]
def keyOf (s:MSt):List Int:=numbersL s.ths s.words s.owner s.prints
theorem key_inj {p:Pg}{s s' :MSt}(h:Wf p s)(h' :Wf p s')(e:keyOf s=keyOf s'):s=s' :=by
 unfold keyOf numbersL at e
 simp only [List.append_assoc] at e
 have hr:∀ {s:MSt},Wf p s→∀x∈s.ths,x.regs.length=p.regs.toNat:=by
  intro s h x hx
  obtain ⟨i,hi⟩:=List.getElem?_of_mem hx
  obtain ⟨hlt,e⟩:=List.getElem?_eq_some_iff.1 hi
  have:=(h.th i (by rw [←h.ths];exact hlt)).regs
  have e2:nth s.ths i=x:=by rw [nth_lt _ _ hlt];exact e
  unfold MSt.view at this
  simpa [e2] using this
 obtain ⟨e1,h2⟩:=th_inj (by rw [h.ths,h'.ths]) (hr h) (hr h') e
 obtain ⟨e2,h3⟩:=List.append_inj h2 (by rw [h.words,h'.words])
 obtain ⟨e3,e4⟩:=List.append_inj h3 (by rw [h.owner,h'.owner])
 cases s;cases s'
 simp only at e1 e2 e3 e4
 rw [e1,e2,e3,e4]
theorem lessB_irr :∀l:List Int,lessB l l=false
 | []=>by simp [lessB]
 |a::l=>by unfold lessB;rw [if_pos rfl];exact lessB_irr l
theorem lessB_trans :∀ {l m n:List Int},lessB l m=true→lessB m n=true→lessB l n=true
 | [],m, [],h1,h2=>by cases m<;>simp [lessB] at h1 h2
 | [],m,c::n,h1,h2=>by simp [lessB]
 |a::l, [],n,h1,h2=>by simp [lessB] at h1
 |a::l,b::m, [],h1,h2=>by simp [lessB] at h2
 |a::l,b::m,c::n,h1,h2=>by
  unfold lessB at h1 h2⊢
  by_cases e1:a=b
  ·by_cases e2:b=c
   ·rw [if_pos e1] at h1;rw [if_pos e2] at h2;rw [if_pos (e1.trans e2)];exact lessB_trans h1 h2
   ·rw [if_neg e2] at h2;subst e1;rw [if_neg e2];exact h2
  ·rw [if_neg e1] at h1
   by_cases e2:b=c
   ·subst e2;rw [if_neg e1];exact h1
   ·rw [if_neg e2] at h2
    have h1' :a<b:=by simpa using h1
    have h2' :b<c:=by simpa using h2
    rw [if_neg (by omega)]
    simp;omega
theorem lessB_tri :∀ {l m:List Int},lessB l m=false→lessB m l=false→l=m
 | [], [],_,_=>rfl
 | [],b::m,h1,_=>by simp [lessB] at h1
 |a::l, [],_,h2=>by simp [lessB] at h2
 |a::l,b::m,h1,h2=>by
  unfold lessB at h1 h2
  by_cases e:a=b
  ·rw [if_pos e] at h1;rw [if_pos e.symm] at h2
   rw [e,lessB_tri h1 h2]
  ·rw [if_neg e] at h1;rw [if_neg (fun h=>e h.symm)] at h2
   simp at h1 h2;omega
theorem aheadB_irr (a:Outc):aheadB a a=false:=by unfold aheadB;rw [if_pos rfl,if_pos rfl];exact lessB_irr _
theorem aheadB_tri {a b:Outc}(h1:aheadB a b=false)(h2:aheadB b a=false):a=b:=by
 unfold aheadB at h1 h2
 by_cases e:a.st=b.st
 ·rw [if_pos e] at h1;rw [if_pos e.symm] at h2
  by_cases e2:a.words=b.words
  ·rw [if_pos e2] at h1;rw [if_pos e2.symm] at h2
   have e3:=lessB_tri h1 h2
   cases a;cases b;simp only at e e2 e3;rw [e,e2,e3]
  ·rw [if_neg e2] at h1;rw [if_neg (fun h=>e2 h.symm)] at h2
   exact absurd (lessB_tri h1 h2) e2
 ·rw [if_neg e] at h1;rw [if_neg (fun h=>e h.symm)] at h2
  simp at h1 h2;omega
theorem aheadB_trans {a b c:Outc}(h1:aheadB a b=true)(h2:aheadB b c=true):aheadB a c=true:=by
 unfold aheadB at h1 h2⊢
 by_cases e1:a.st=b.st
 ·rw [if_pos e1] at h1
  by_cases e2:b.st=c.st
  ·rw [if_pos e2] at h2
   rw [if_pos (e1.trans e2)]
   by_cases f1:a.words=b.words
   ·rw [if_pos f1] at h1
    by_cases f2:b.words=c.words
    ·rw [if_pos f2] at h2;rw [if_pos (f1.trans f2)];exact lessB_trans h1 h2
    ·rw [if_neg f2] at h2;rw [if_neg (fun h=>f2 (f1.symm.trans h)),f1];exact h2
   ·rw [if_neg f1] at h1
    by_cases f2:b.words=c.words
    ·rw [if_neg (fun h=>f1 (h.trans f2.symm)),←f2];exact h1
    ·rw [if_neg f2] at h2
     have h3:=lessB_trans h1 h2
     rw [if_neg (fun h=> ?_)]
     ·exact h3
     ·rw [h,lessB_irr] at h3;cases h3
  ·rw [if_neg e2] at h2;rw [if_neg (fun h=>e2 (e1.symm.trans h)),e1];exact h2
 ·rw [if_neg e1] at h1
  have h1' :a.st<b.st:=by simpa using h1
  by_cases e2:b.st=c.st
  ·rw [if_neg (by omega)];simp;omega
  ·rw [if_neg e2] at h2
   have h2' :b.st<c.st:=by simpa using h2
   rw [if_neg (by omega)];simp;omega
def Sorted_ (l:List Outc):Prop:=l.Pairwise fun a b=>aheadB a b=true
theorem PutRel.sorted {o:OutL}{l l' :List OutL}(h:PutRel o l l')(hs:Sorted_ (l.map OutL.out)):Sorted_ (l'.map OutL.out)∧∀y,y∈l'.map OutL.out↔y∈l.map OutL.out∨y=o.out:=by
 rcases h with ⟨⟨i,hi,h1,h2⟩,rfl⟩|⟨k,hk,h1,h2,rfl⟩
 ·refine ⟨hs,fun y=>⟨.inl,fun h=>h.elim id fun e=> ?_⟩⟩
  rw [e,aheadB_tri h1 h2]
  exact List.mem_map.2 ⟨_,nth_mem _ _ hi,rfl⟩
 ·have hsplit:l=l.take k++l.drop k:=(List.take_append_drop k l).symm
  have hb:∀x∈l.take k,aheadB x.out o.out=true:=by
   intro x hx
   obtain ⟨j,hj⟩:=List.getElem?_of_mem hx
   obtain ⟨hlt,e⟩:=List.getElem?_eq_some_iff.1 hj
   have hjk:j<k:=by simp at hlt;omega
   have:=(h1 j hjk).2
   rw [nth_lt _ _ (by simp at hlt;omega)] at this
   rw [←e,List.getElem_take];exact this
  have hs2:Sorted_ (l.take k|>.map OutL.out)∧Sorted_ (l.drop k|>.map OutL.out)∧∀x∈l.take k,∀y∈l.drop k,aheadB x.out y.out=true:=by
   rw [hsplit,List.map_append] at hs
   obtain ⟨a1,a2,a3⟩:=List.pairwise_append.1 hs
   exact ⟨a1,a2,fun x hx y hy=>a3 _ (List.mem_map.2 ⟨x,hx,rfl⟩) _ (List.mem_map.2 ⟨y,hy,rfl⟩)⟩
  have ha:∀x∈l.drop k,aheadB o.out x.out=true:=by
   intro x hx
   rcases Nat.lt_or_ge k l.length with hlt|hge
   ·have hok:=h2 hlt
    rw [nth_lt l k hlt] at hok
    rw [List.drop_eq_getElem_cons hlt] at hx
    rcases List.mem_cons.1 hx with rfl|hx
    ·exact hok
    ·have h3:=hs2.2.1
     rw [List.drop_eq_getElem_cons hlt,List.map_cons] at h3
     exact aheadB_trans hok ((List.pairwise_cons.1 h3).1 _ (List.mem_map.2 ⟨x,hx,rfl⟩))
   ·rw [List.drop_eq_nil_of_le hge] at hx;cases hx
  constructor
  ·unfold Sorted_
   rw [List.map_append,List.map_cons]
   refine List.pairwise_append.2 ⟨hs2.1,List.pairwise_cons.2 ⟨fun y hy=> ?_,hs2.2.1⟩,fun x hx y hy=> ?_⟩
   ·obtain ⟨z,hz,rfl⟩:=List.mem_map.1 hy;exact ha z hz
   ·obtain ⟨z,hz,rfl⟩:=List.mem_map.1 hx
    rcases List.mem_cons.1 hy with rfl|hy
    ·exact hb z hz
    ·obtain ⟨u,hu,rfl⟩:=List.mem_map.1 hy;exact hs2.2.2 z hz u hu
  ·intro y
   conv=>rhs;rw [hsplit]
   simp only [List.map_append,List.map_cons,List.mem_append,List.mem_cons]
   constructor
   ·rintro (h|h|h)
    ·exact .inl (.inl h)
    ·exact .inr h
    ·exact .inl (.inr h)
   ·rintro ((h|h)|h)
    ·exact .inl h
    ·exact .inr (.inr h)
    ·exact .inr (.inl h)
def Handled (p:Pg)(m:Int)(S:List MSt)(E:List Outc)(s:MSt)(t k:Nat):Prop:=if (stepT p m s t k).fell=true then (⟨1, [],(stepT p m s t k).prints⟩:Outc)∈E else s.putT t (stepT p m s t k)∈S
structure Expanded (p:Pg)(m:Int)(S:List MSt)(E:List Outc)(s:MSt):Prop where
 done:ended p s=true→(⟨0,s.words,s.prints⟩:Outc)∈E
 stuck:ended p s=false→Stuck_ p m s→(⟨2,s.words,s.prints⟩:Outc)∈E
 moves:∀t k,t<p.code.length→mvOK m (nth p.code t) (s.view t) k=true→Handled p m S E s t k
structure Inv (p:Pg)(m:Int)(S:List MSt)(E:List Outc)(full:Bool)(i:Nat):Prop where
 start:begin_ p∈S
 reach:∀s∈S,Reach p m s
 pr:∀j,j<S.length→(nth S j).prints.length≤2*j
 len:S.length≤4001
 hfull:full=decide (4000<S.length)
 sound:∀o∈E,Outs p m o
 sorted:Sorted_ E
 done:full=false→∀j,j<i→Expanded p m S E (nth S j)
 nd:S.Nodup
def Big (p:Pg)(m:Int):Prop:=∃S:List MSt,S.Nodup∧(∀s∈S,Reach p m s)∧4000<S.length
theorem nodup_sub :∀ {S T:List MSt},S.Nodup→(∀s∈S,s∈T)→S.length≤T.length
 | [],_,_,_=>Nat.zero_le _
 |a::S,T,h,hs=>by
  obtain ⟨h1,h2⟩:=List.nodup_cons.1 h
  have ha:=hs a (by simp)
  have:=nodup_sub (S:=S) (T:=T.erase a) h2 fun s hm=>(List.mem_erase_of_ne (fun (e:s=a)=>h1 (by rw [←e];exact hm))).2 (hs s (by simp [hm]))
  rw [List.length_erase_of_mem ha] at this
  have:=List.length_pos_of_mem ha
  simp only [List.length_cons];omega
theorem Handled.mono {p:Pg}{m:Int}{S S' :List MSt}{E E' :List Outc}{s:MSt}{t k:Nat}(h:Handled p m S E s t k)(hS:∀x∈S,x∈S')(hE:∀x∈E,x∈E'):Handled p m S' E' s t k:=by
 unfold Handled at h⊢
 split at h
 ·rename_i hf;rw [if_pos hf];exact hE _ h
 ·rename_i hf;rw [if_neg hf];exact hS _ h
theorem Expanded.mono {p:Pg}{m:Int}{S S' :List MSt}{E E' :List Outc}{s:MSt}(h:Expanded p m S E s)(hS:∀x∈S,x∈S')(hE:∀x∈E,x∈E'):Expanded p m S' E' s:=
 ⟨fun e=>hE _ (h.done e),fun e e2=>hE _ (h.stuck e e2),fun t k ht hk=>(h.moves t k ht hk).mono hS hE⟩
theorem Inv.states {p:Pg}{m:Int}{S:List MSt}{E:List Outc}{i:Nat}(h:Inv p m S E false i)(hi:S.length≤i):∀s,s∈S↔Reach p m s:=by
 intro s
 refine ⟨h.reach s,fun hs=> ?_⟩
 induction hs with
 |start=>exact h.start
 | @step s t k hr ht hk hf ih=>
  obtain ⟨j,hj⟩:=List.getElem?_of_mem ih
  obtain ⟨hlt,e⟩:=List.getElem?_eq_some_iff.1 hj
  have h9:=h.done rfl j (by omega)
  rw [nth_lt _ _ hlt,e] at h9
  have:=h9.moves _ _ ht hk
  unfold Handled at this
  rw [if_neg (by rw [hf];decide)] at this
  exact this
theorem Inv.big {p:Pg}{m:Int}{S:List MSt}{E:List Outc}{full:Bool}{i:Nat}(h:Inv p m S E full i)(hi:full=true∨S.length≤i):full=true↔Big p m:=by
 constructor
 ·intro hf
  have:=h.hfull
  rw [hf] at this
  exact ⟨S,h.nd,h.reach,of_decide_eq_true this.symm⟩
 ·rintro ⟨T,h1,h2,h3⟩
  cases hf:full with
  |true=>rfl
  |false=>
   rw [hf] at hi h
   have h4:=nodup_sub h1 fun s hs=>(h.states (hi.resolve_left Bool.false_ne_true) s).2 (h2 s hs)
   have:=h.hfull
   have:=of_decide_eq_false this.symm
   omega
theorem Inv.all {p:Pg}{m:Int}{S:List MSt}{E:List Outc}{i:Nat}(h:Inv p m S E false i)(hi:S.length≤i):∀o,o∈E↔Outs p m o:=by
 have hex:∀s∈S,Expanded p m S E s:=by
  intro s hs
  obtain ⟨j,hj⟩:=List.getElem?_of_mem hs
  obtain ⟨hlt,e⟩:=List.getElem?_eq_some_iff.1 hj
  have:=h.done rfl j (by omega)
  rwa [nth_lt _ _ hlt,e] at this
 have hall:∀s,Reach p m s→s∈S:=by
  intro s hs
  induction hs with
  |start=>exact h.start
  |step hr ht hk hf ih=>
   have:=(hex _ ih).moves _ _ ht hk
   unfold Handled at this
   rw [if_neg (by rw [hf];decide)] at this
   exact this
 intro o
 refine ⟨h.sound o,fun ho=> ?_⟩
 cases ho with
 |done hr he=>exact (hex _ (hall _ hr)).done he
 |stuck hr he hst=>exact (hex _ (hall _ hr)).stuck he hst
 |fell hr ht hk hf=>
  have:=(hex _ (hall _ hr)).moves _ _ ht hk
  unfold Handled at this
  rwa [if_pos hf] at this
theorem flatMap_congr' {α β:Type}{f g:α→List β} :∀ {l:List α},(∀x∈l,f x=g x)→l.flatMap f=l.flatMap g
 | [],_=>rfl
 |x::l,h=>by simp only [List.flatMap_cons];rw [h x (by simp),flatMap_congr' fun y hy=>h y (by simp [hy])]
theorem all_congr' {α:Type}{f g:α→Bool} :∀ {l:List α},(∀x∈l,f x=g x)→l.all f=l.all g
 | [],_=>rfl
 |x::l,h=>by simp only [List.all_cons];rw [h x (by simp),all_congr' fun y hy=>h y (by simp [hy])]
section
variable {code:Ls (Ls Ins)}{words:Ls Int}{Lk R:Nat}{mode:Int}{x:SD}
abbrev pgN (code:Ls (Ls Ins))(words:Ls Int)(Lk R:Nat):Pg:=pgOf code words (Lk:Int) (R:Int)
theorem pgN_len :(pgN code words Lk R).code.length=code.l.length:=by simp [pgN,pgOf]
theorem pgN_code {t:Nat}(ht:t<code.l.length):nth (pgN code words Lk R).code t=(nth code.l t).l:=nth_map' _ _ _ ht
theorem st_th {t:Nat}(ht:t<x.thr.l.length):nth x.st.ths t=(nth x.thr.l t).th:=nth_map' _ _ _ ht
theorem st_view {t:Nat}(ht:t<x.thr.l.length):x.st.view t=⟨(nth x.thr.l t).pc,(nth x.thr.l t).regs.l,(nth x.thr.l t).wait.l,x.words.l,x.owner.l,x.prints.l,false⟩:=by
 unfold MSt.view
 rw [st_th ht];rfl
theorem ended_eq (hl:x.thr.l.length=code.l.length):endedL code x.thr=ended (pgN code words Lk R) x.st:=by
 unfold endedL ended
 rw [pgN_len]
 refine all_congr' fun t ht=> ?_
 have ht' :t<code.l.length:=by simpa using ht
 rw [pgN_code ht',st_th (by omega)];rfl
theorem moves_eq (hl:x.thr.l.length=code.l.length):movesL mode code x.thr x.owner.l code.l.length=moves (pgN code words Lk R) mode x.st:=by
 unfold movesL moves
 rw [pgN_len]
 refine flatMap_congr' fun t ht=> ?_
 have ht' :t<code.l.length:=by simpa using ht
 rw [pgN_code ht',st_view (by omega)];rfl
structure WfX (code:Ls (Ls Ins))(words:Ls Int)(Lk R:Nat)(x:SD):Prop where
 thl:x.thr.l.length=code.l.length
 pc:∀t,t<code.l.length→0≤(nth x.thr.l t).pc∧(nth x.thr.l t).pc≤(nth code.l t).l.length
 regs:∀t,t<x.thr.l.length→(nth x.thr.l t).regs.l.length=R
 wait:∀t,t<x.thr.l.length→(nth x.thr.l t).wait.l.length≤3
 wt:∀t,t<x.thr.l.length→∀j,j<(nth x.thr.l t).wait.l.length→if (nth (nth x.thr.l t).wait.l j).lock=true then 0≤(nth (nth x.thr.l t).wait.l j).wh∧(nth (nth x.thr.l t).wait.l j).wh<x.owner.l.length else 0≤(nth (nth x.thr.l t).wait.l j).wh∧(nth (nth x.thr.l t).wait.l j).wh<x.words.l.length
 words:x.words.l.length=words.l.length
 owner:x.owner.l.length=Lk
theorem Wf.toX (h:Wf (pgN code words Lk R) x.st):WfX code words Lk R x:=by
 have hl:x.thr.l.length=code.l.length:=by have:=h.ths;rw [pgN_len] at this;simpa [SD.st] using this
 have hw:x.words.l.length=words.l.length:=h.words
 have ho:x.owner.l.length=Lk:=by have:=h.owner;simpa [pgN,pgOf,SD.st] using this
 have hv:∀t,t<code.l.length→WfS R words.l.length Lk (nth code.l t).l.length ⟨(nth x.thr.l t).pc,(nth x.thr.l t).regs.l,(nth x.thr.l t).wait.l,x.words.l,x.owner.l,x.prints.l,false⟩:=by
  intro t ht
  have:=h.th t (by rw [pgN_len];exact ht)
  rw [pgN_code ht,st_view (by omega)] at this
  simpa [pgN,pgOf] using this
 refine ⟨hl,fun t ht=>(hv t ht).pc,fun t ht=>(hv t (by omega)).regs,fun t ht=>(hv t (by omega)).wait,fun t ht j hj=> ?_,hw,ho⟩
 rw [ho,hw]
 exact (hv t (by omega)).wt _ (nth_mem _ _ hj)
theorem rows_at {rows:List ThL}(e:rows.map ThL.th=x.thr.l.map ThL.th):rows.length=x.thr.l.length∧∀t,t<x.thr.l.length→(nth rows t).pc=(nth x.thr.l t).pc∧(nth rows t).regs.l=(nth x.thr.l t).regs.l∧(nth rows t).wait.l=(nth x.thr.l t).wait.l:=by
 have hl:rows.length=x.thr.l.length:=by simpa using congrArg List.length e
 refine ⟨hl,fun t ht=> ?_⟩
 have h1:=congrArg (fun l=>nth l t) e
 simp only [nth_map' ThL.th _ _ ht,nth_map' ThL.th rows t (by omega)] at h1
 exact ⟨congrArg Th.pc h1,congrArg Th.regs h1,congrArg Th.wait h1⟩
theorem insR_N (hok:OkPg (pgN code words Lk R)){t:Nat}(ht:t<code.l.length){pc:Int}(h0:0≤pc)(h1:pc<(nth code.l t).l.length):InsR R words.l.length Lk (nextIns (nth code.l t).l pc):=by
 have h:=(hok.insR (t:=t) (i:=pc.toNat) (by rw [pgN_len];exact ht) (by rw [pgN_code ht];omega)).1
 rw [pgN_code ht] at h
 rw [nextIns_t h1]
 simpa [pgN,pgOf] using h
theorem lock_N (hok:OkPg (pgN code words Lk R)){t i:Nat}(ht:t<code.l.length)(hi:i<(nth code.l t).l.length)(h17:(nth (nth code.l t).l i).op=17):0≤(nth (nth code.l t).l i).a∧(nth (nth code.l t).l i).a<(Lk:Int):=by
 have h:=(hok.insR (t:=t) (i:=i) (by rw [pgN_len];exact ht) (by rw [pgN_code ht];exact hi)).1
 rw [pgN_code ht] at h
 have:=h.o17 (.inl h17)
 simpa [pgN,pgOf] using this
theorem moves_len (hl:x.thr.l.length=code.l.length)(hc:code.l.length≤4)(hw:∀t,t<x.thr.l.length→(nth x.thr.l t).wait.l.length≤3):(moves (pgN code words Lk R) mode x.st).length≤16:=by
 rw [←moves_eq hl]
 have key:∀n,n≤code.l.length→(movesL mode code x.thr x.owner.l n).length≤4*n:=by
  intro n
  induction n with
  |zero=>intro _;simp [movesL]
  |succ n ih=>
   intro hn
   rw [movesL_succ,List.length_append]
   have h1:=ih (by omega)
   have h2:=hw n (by omega)
   have h3:=mayT_len mode x.thr n (nth x.thr.l n).wait.l.length
   have h4:(moveT mode code x.thr x.owner.l n).length≤4:=by
    unfold moveT
    rw [List.length_append]
    split<;>simp<;>omega
   omega
 have:=key _ (Nat.le_refl _)
 omega
end
theorem st_step {code:Ls (Ls Ins)}{words:Ls Int}{Lk R:Nat}{mode:Int}{x z:SD}{t k:Nat}{rows rows' :List ThL}{y:TS}{w0 o0 p0:Ls Int}(ht:t<code.l.length)(hl:x.thr.l.length=code.l.length)(e:rows.map ThL.th=x.thr.l.map ThL.th)(ew:w0.l=x.words.l)(eo:o0.l=x.owner.l)(ep:p0.l=x.prints.l)
  (hy:y=doT mode t (nth code.l t).l k ⟨(nth rows t).pc,(nth rows t).regs.l,(nth rows t).wait.l,w0.l,o0.l,p0.l,false⟩):y=stepT (pgN code words Lk R) mode x.st t k∧(z.thr.l=rows' →rows'.map ThL.th=(rows.map ThL.th).set t ⟨y.pc,y.regs,y.wait⟩→z.words.l=y.words→z.owner.l=y.owner→z.prints.l=y.prints→z.st=x.st.putT t y):=by
 obtain ⟨h1,h2⟩:=rows_at e
 obtain ⟨q1,q2,q3⟩:=h2 t (by omega)
 constructor
 ·rw [hy,q1,q2,q3,ew,eo,ep]
  unfold stepT
  rw [pgN_code ht,st_view (by omega)]
 ·intro e1 e2 e3 e4 e5
  unfold MSt.putT SD.st
  rw [e1,e2,e3,e4,e5,e]
section
variable {p:Pg}{m:Int}{S:List MSt}{E:List Outc}{full:Bool}{i:Nat}
theorem Inv.addOut (h:Inv p m S E full i){o:Outc}{E' :List Outc}(ho:Outs p m o)(hs:Sorted_ E')(hm:∀y,y∈E' ↔y∈E∨y=o):Inv p m S E' full i:=
 ⟨h.start,h.reach,h.pr,h.len,h.hfull,fun y hy=>((hm y).1 hy).elim (h.sound y) (fun e=>e▸ho),hs,fun hf j hj=>(h.done hf j hj).mono (fun _ h=>h) fun y hy=>(hm y).2 (.inl hy),h.nd⟩
theorem nth_left {α:Type}[Inhabited α](l m:List α)(j:Nat)(h:j<l.length):nth (l++m) j=nth l j:=by rw [nth_app0,if_pos h]
theorem nth_last {α:Type}[Inhabited α](l:List α)(x:α):nth (l++ [x]) l.length=x:=by rw [nth_app0,if_neg (by omega)];simp [nth]
theorem Inv.addState (h:Inv p m S E full i)(hf:full=false)(hi:i≤S.length){s:MSt}(hr:Reach p m s)(hp:s.prints.length≤2*S.length)(hnw:s∉S):Inv p m (S++ [s]) E (full||decide (4000<S.length+1)) i:=by
 have hl:S.length≤4000:=by
  have:=h.hfull
  rw [hf] at this
  have:=of_decide_eq_false this.symm
  omega
 refine ⟨by simp [h.start],fun x hx=> ?_,fun j hj=> ?_,by simp;omega,by rw [hf];simp,h.sound,h.sorted,fun _ j hj=> ?_, ?_⟩
 ·rcases List.mem_append.1 hx with hx|hx
  ·exact h.reach x hx
  ·obtain rfl:x=s:=by simpa using hx
   exact hr
 ·simp at hj
  rcases Nat.lt_or_ge j S.length with h1|h1
  ·rw [nth_left _ _ _ h1];exact h.pr j h1
  ·obtain rfl:j=S.length:=by omega
   rw [nth_last];exact hp
 ·rw [nth_left _ _ _ (by omega)]
  exact (h.done hf j hj).mono (fun x hx=>by simp [hx]) (fun _ h=>h)
 ·rw [List.nodup_append]
  exact ⟨h.nd,by simp,fun x hx y hy e=>by obtain rfl:y=s:=(by simpa using hy);exact hnw (e▸hx)⟩
theorem Inv.next (h:Inv p m S E full i)(hx:full=false→Expanded p m S E (nth S i)):Inv p m S E full (i+1):=
 ⟨h.start,h.reach,h.pr,h.len,h.hfull,h.sound,h.sorted,fun hf j hj=>by
  rcases Nat.lt_or_ge j i with h1|h1
  ·exact h.done hf j h1
  ·obtain rfl:j=i:=by omega
   exact hx hf,h.nd⟩
theorem Inv.first (s:MSt)(hs:s=begin_ p):Inv p m [s] [] (false||decide (4000<0+1)) 0:=by
 subst hs
 refine ⟨by simp,fun x hx=> ?_,fun j hj=> ?_,by simp,by simp,fun o ho=> ?_,List.Pairwise.nil,fun _ j hj=>absurd hj (by omega),by simp⟩
 ·obtain rfl:x=begin_ p:=by simpa using hx
  exact .start
 ·simp at hj;subst hj;exact Nat.zero_le _
 ·cases ho
theorem ended_no {s:MSt}(he:ended p s=true):∀t k,t<p.code.length→mvOK m (nth p.code t) (s.view t) k=false:=by
 intro t k ht
 have h1:=(List.all_eq_true.1 he) t (by simpa using ht)
 simp only [Bool.and_eq_true,decide_eq_true_eq] at h1
 cases hk:mvOK m (nth p.code t) (s.view t) k with
 |false=>rfl
 |true=>
  rcases mvOK_k hk with ⟨rfl,h2,_⟩|⟨h2,h3,_⟩
  ·exact absurd h2 h1.1
  ·have:(s.view t).wait.length=0:=h1.2
   omega
theorem Inv.ended (h:Inv p m S E full i)(hi:i<S.length)(he:ended p (nth S i)=true){E' :List Outc}(hs:Sorted_ E')(hm:∀y,y∈E' ↔y∈E∨y=⟨0,(nth S i).words,(nth S i).prints⟩):Inv p m S E' full (i+1):=by
 have h1:=h.addOut (.done (h.reach _ (nth_mem _ _ hi)) he) hs hm
 refine h1.next fun _=>⟨fun _=>(hm _).2 (.inr rfl),fun e=> ?_,fun t k ht hk=> ?_⟩
 ·rw [he] at e;cases e
 ·rw [ended_no he t k ht] at hk;cases hk
theorem stuck_of {s:MSt}(hm:moves p m s= []):Stuck_ p m s:=by
 intro t k ht
 cases hk:mvOK m (nth p.code t) (s.view t) k with
 |false=>rfl
 |true=>
  have:((8*t+k:Nat):Int)∈moves p m s:=mem_moves.2 ⟨t,k,ht,hk,rfl⟩
  rw [hm] at this;cases this
theorem Inv.stuck (h:Inv p m S E full i)(hi:i<S.length)(he:Go.Proofs.YtmjkobhkkjgplaaGreatDoor.ended p (nth S i)=false)(hmv:moves p m (nth S i)= []){E' :List Outc}(hs:Sorted_ E')(hm:∀y,y∈E' ↔y∈E∨y=⟨2,(nth S i).words,(nth S i).prints⟩):Inv p m S E' full (i+1):=by
 have hst:=stuck_of hmv
 have h1:=h.addOut (.stuck (h.reach _ (nth_mem _ _ hi)) he hst) hs hm
 refine h1.next fun _=>⟨fun e=> ?_,fun _ _=>(hm _).2 (.inr rfl),fun t k ht hk=> ?_⟩
 ·rw [he] at e;cases e
 ·rw [hst t k ht] at hk;cases hk
def HandM (p:Pg)(m:Int)(S:List MSt)(E:List Outc)(s:MSt)(v:Int):Prop:=∀t k,v=((8*t+k:Nat):Int)→k≤3→Handled p m S E s t k
theorem HandM.mono {s:MSt}{v:Int}{S' :List MSt}{E' :List Outc}(h:HandM p m S E s v)(hS:∀x∈S,x∈S')(hE:∀x∈E,x∈E'):HandM p m S' E' s v:=fun t k e hk=>(h t k e hk).mono hS hE
theorem HandM.of {s:MSt}{v:Int}{t k:Nat}(hv:v=((8*t+k:Nat):Int))(hk:k≤3)(h:Handled p m S E s t k):HandM p m S E s v:=by
 intro t' k' e hk'
 rw [hv] at e
 have e' :8*t+k=8*t' +k' :=by omega
 obtain rfl:t=t' :=by omega
 obtain rfl:k=k' :=by omega
 exact h
theorem Inv.expanded (h:Inv p m S E full i)(hi:i<S.length)(he:Go.Proofs.YtmjkobhkkjgplaaGreatDoor.ended p (nth S i)=false)(hne:moves p m (nth S i)≠ [])(hw:Wf p (nth S i))(hall:full=false→∀q,q<(moves p m (nth S i)).length→HandM p m S E (nth S i) (nth (moves p m (nth S i)) q)):Inv p m S E full (i+1):=by
 refine h.next fun hf=>⟨fun e=> ?_,fun _ hst=> ?_,fun t k ht hk=> ?_⟩
 ·rw [he] at e;cases e
 ·exfalso
  apply hne
  apply List.eq_nil_iff_forall_not_mem.2
  intro v hv
  obtain ⟨t,k,ht,hk,_⟩:=mem_moves.1 hv
  rw [hst t k ht] at hk;cases hk
 ·have hv:((8*t+k:Nat):Int)∈moves p m (nth S i):=mem_moves.2 ⟨t,k,ht,hk,rfl⟩
  obtain ⟨q,hq⟩:=List.getElem?_of_mem hv
  obtain ⟨hlt,e⟩:=List.getElem?_eq_some_iff.1 hq
  exact hall hf q hlt t k (by rw [nth_lt _ _ hlt];exact e) (mvOK_le hk (hw.th t ht).wait)
end
structure TrM where
 st:Int
 steps:Nat
 words:List Int
 prints:List Int
def pickM (script:List Int)(nx l:Nat):Nat:=if 1<l∧nx<script.length then (nth script nx%(l:Int)).toNat else 0
def nextM (script:List Int)(nx l:Nat):Nat:=if 1<l∧nx<script.length then nx+1 else nx
def mvM (p:Pg)(m:Int)(s:MSt)(script:List Int)(nx:Nat):Nat:=(nth (moves p m s) (pickM script nx (moves p m s).length)).toNat
def goM (p:Pg)(m:Int)(script:List Int):Nat→Nat→MSt→Nat→TrM
 |0,_,s,k=>if ended p s=true then ⟨0,k,s.words,s.prints⟩ else if (moves p m s).length=0 then ⟨2,k,s.words,s.prints⟩ else ⟨3,k,s.words,s.prints⟩
 |n+1,nx,s,k=>
  if ended p s=true then ⟨0,k,s.words,s.prints⟩
  else if (moves p m s).length=0 then ⟨2,k,s.words,s.prints⟩
  else if (stepT p m s (mvM p m s script nx/8) (mvM p m s script nx%8)).fell=true then ⟨1,k+1,(stepT p m s (mvM p m s script nx/8) (mvM p m s script nx%8)).words,(stepT p m s (mvM p m s script nx/8) (mvM p m s script nx%8)).prints⟩
  else goM p m script n (nextM script nx (moves p m s).length) (s.putT (mvM p m s script nx/8) (stepT p m s (mvM p m s script nx/8) (mvM p m s script nx%8))) (k+1)
def runM (p:Pg)(m:Int)(script:List Int):TrM:=goM p m script 5000 0 (begin_ p) 0
structure GoI (p:Pg)(m:Int)(script:List Int)(nx:Nat)(s:MSt)(k:Nat):Prop where
 le:k≤5000
 nxk:nx≤k
 eq:goM p m script (5000-k) nx s k=runM p m script
 reach:Reach p m s
 pr:s.prints.length≤2*k
section
variable {p:Pg}{m:Int}{script:List Int}{nx k:Nat}{s:MSt}
theorem goI_start :GoI p m script 0 (begin_ p) 0:=⟨by omega,Nat.le_refl _,rfl, .start,by simp [begin_]⟩
theorem goI_ended (h:GoI p m script nx s k)(he:ended p s=true):runM p m script=⟨0,k,s.words,s.prints⟩:=by
 rw [←h.eq]
 cases 5000-k with
 |zero=>rw [goM,if_pos he]
 |succ n=>rw [goM,if_pos he]
theorem goI_stuck (h:GoI p m script nx s k)(he:ended p s=false)(hl:(moves p m s).length=0):runM p m script=⟨2,k,s.words,s.prints⟩:=by
 rw [←h.eq]
 cases 5000-k with
 |zero=>rw [goM,if_neg (by rw [he];decide),if_pos hl]
 |succ n=>rw [goM,if_neg (by rw [he];decide),if_pos hl]
theorem goI_out (h:GoI p m script nx s k)(he:ended p s=false)(hl:(moves p m s).length≠0)(hk:k=5000):runM p m script=⟨3,k,s.words,s.prints⟩:=by
 rw [←h.eq,show 5000-k=0 by omega,goM,if_neg (by rw [he];decide),if_neg hl]
theorem pick_lt (script:List Int)(nx:Nat){l:Nat}(hl:l≠0):pickM script nx l<l:=by
 unfold pickM
 split
 ·have:=Int.emod_lt_of_pos (nth script nx) (show (0:Int)<(l:Int) by omega)
  have:=Int.emod_nonneg (nth script nx) (show (l:Int)≠0 by omega)
  omega
 ·omega
theorem next_le {l:Nat} :nextM script nx l≤nx+1:=by unfold nextM;split<;>omega
theorem goI_next (h:GoI p m script nx s k)(he:ended p s=false)(hl:(moves p m s).length≠0)(hk:k≠5000){t j:Nat}(hj:j<8)(e:mvM p m s script nx=8*t+j)(ht:t<p.code.length)(hm:mvOK m (nth p.code t) (s.view t) j=true)(hpl:(stepT p m s t j).prints.length≤s.prints.length+2):
  ((stepT p m s t j).fell=true→runM p m script=⟨1,k+1,(stepT p m s t j).words,(stepT p m s t j).prints⟩)∧((stepT p m s t j).fell=false→GoI p m script (nextM script nx (moves p m s).length) (s.putT t (stepT p m s t j)) (k+1)):=by
 have hle:=h.le
 have h5:5000-k=(5000-(k+1))+1:=by omega
 have e1:(8*t+j)/8=t:=by omega
 have e2:(8*t+j)%8=j:=by omega
 have h1:=h.eq
 rw [h5,goM,if_neg (by rw [he];decide),if_neg hl] at h1
 simp only [e,e1,e2] at h1
 refine ⟨fun hf=> ?_,fun hf=> ?_⟩
 ·rw [if_pos hf] at h1;exact h1.symm
 ·rw [if_neg (by rw [hf];decide)] at h1
  refine ⟨by omega, ?_,h1, .step h.reach ht hm hf, ?_⟩
  ·have:=next_le (script:=script) (nx:=nx) (l:=(moves p m s).length);have:=h.nxk;omega
  ·show (stepT p m s t j).prints.length≤_
   have:=h.pr
   omega
end
section
variable {P:Program}{o:Oper}{N:Nat}{K:Nat→Prop}{W w:World}{a:Act}{F:List (Nat×Value)}{L:List Asn}{TH INT WT:TypeId}{vt:Value}{rows:List ThL}
end
structure Mv where
 th:Int
 st:Int
instance : Inhabited Mv:=⟨⟨0,0⟩⟩
def Mv.cell (x:Mv):Nat→Value
 |0=> .int .i64 x.th
 |_=> .int .i64 x.st
def Mv.val (x:Mv):Value:= .agg #[.int .i64 x.th, .int .i64 x.st]
instance : Enc Mv where
 sz:=2
 cell:=Mv.cell
 whole:=Mv.val
 agg:=true
 inner _ _:=True
 on _ _:=False
 one h:=by cases h
 many _ _:=rfl
 keep _ _ _ h _:=h
 lt _ _ _ _ h:=h.elim
instance : Flat Mv:=⟨fun _ _ h=>h,fun _ _=>trivial⟩
instance : One Mv:=⟨fun x w _ q hq=>by rcases q with _|q<;>rfl⟩
def mvsV (m:Int)(c:List Ins)(t:Nat)(x:TS):List Mv:=(if ableV c x=true then [⟨(t:Int),-1⟩] else [])++((List.range x.wait.length).filter (mayK m x.wait)).map fun k=>⟨(t:Int),(k:Int)⟩
def movesV (p:Pg)(m:Int)(s:MSt):List Mv:=(List.range p.code.length).flatMap fun t=>mvsV m (nth p.code t) t (s.view t)
def mvNum (x:Mv):Int:=8*x.th+(x.st+1)
theorem mvsV_map (m:Int)(c:List Ins)(t:Nat)(x:TS):(mvsV m c t x).map mvNum=mvs m c t x:=by
 unfold mvsV mvs
 rw [List.map_append,List.map_map]
 have e1:(if ableV c x=true then [(⟨(t:Int),-1⟩:Mv)] else []).map mvNum=if ableV c x=true then [((8*t:Nat):Int)] else []:=by
  split
  ·simp [mvNum]
  ·rfl
 rw [e1]
 congr 1
theorem movesV_map (p:Pg)(m:Int)(s:MSt):(movesV p m s).map mvNum=moves p m s:=by
 unfold movesV moves
 rw [List.map_flatMap]
 congr 1
 funext t
 exact mvsV_map _ _ _ _
theorem movesV_len (p:Pg)(m:Int)(s:MSt):(movesV p m s).length=(moves p m s).length:=by rw [←movesV_map,List.length_map]
theorem mem_mvsV {m:Int}{c:List Ins}{t:Nat}{x:TS}{v:Mv}(h:v∈mvsV m c t x):∃j:Nat,mvOK m c x j=true∧v=⟨(t:Int),(j:Int)-1⟩:=by
 unfold mvsV at h
 rcases List.mem_append.1 h with h|h
 ·split at h
  ·rename_i ha
   obtain rfl:v=⟨(t:Int),-1⟩:=by simpa using h
   exact ⟨0,by unfold mvOK;rw [if_pos rfl];exact ha,rfl⟩
  ·cases h
 ·obtain ⟨k,hk,rfl⟩:=List.mem_map.1 h
  obtain ⟨h1,h2⟩:=List.mem_filter.1 hk
  have h1:=List.mem_range.1 h1
  refine ⟨k+1, ?_, ?_⟩
  ·unfold mvOK
   rw [if_neg (by omega),decide_eq_true (by omega),Nat.add_sub_cancel,h2];rfl
  ·show (⟨(t:Int),(k:Int)⟩:Mv)=⟨(t:Int),((k+1:Nat):Int)-1⟩
   congr 1
   omega
theorem movesV_at {p:Pg}{m:Int}{s:MSt}{i:Nat}(hi:i<(movesV p m s).length):∃t j,t<p.code.length∧mvOK m (nth p.code t) (s.view t) j=true∧nth (movesV p m s) i=⟨(t:Int),(j:Int)-1⟩∧nth (moves p m s) i=((8*t+j:Nat):Int):=by
 obtain ⟨t,ht,h⟩:=List.mem_flatMap.1 (nth_mem _ _ hi)
 have ht:=List.mem_range.1 ht
 obtain ⟨j,hj,e⟩:=mem_mvsV h
 refine ⟨t,j,ht,hj,e, ?_⟩
 rw [←movesV_map,nth_map' _ _ _ hi]
 show mvNum (nth (movesV p m s) i)=_
 have e' :nth (movesV p m s) i=⟨(t:Int),(j:Int)-1⟩:=e
 rw [e']
 show 8*(t:Int)+((j:Int)-1+1)=_
 omega
theorem execT_elim {Q:TS→Prop}{m:Int}{n:Nat}{i:Ins}{x:TS}(hx:Q x)(hput:∀k v,Q (x.put k v))(hst:∀w:Wt,(w.lock=true→w.what=0)→Q (x.store m w))(hf:Q { x with fell:=true })(hcas:∀a b,Q { x with words:=a,regs:=b })(hpc:∀p,Q { x with pc:=p })
  (hpr:∀v,Q { x with prints:=x.prints++ [(n:Int),v] }) (how:∀a,Q { x with owner:=x.owner.set a n }):Q (execT m n i x):=by
 by_cases e1:i.op=1
 ·rw [execT_1 e1];exact hput _ _
 by_cases e2:i.op=2
 ·rw [execT_2 e2];exact hput _ _
 by_cases e3:i.op=3
 ·rw [execT_3 e3];exact hput _ _
 by_cases e4:i.op=4
 ·rw [execT_4 e4];exact hput _ _
 by_cases e5:i.op=5
 ·rw [execT_5 e5];exact hput _ _
 by_cases e6:i.op=6
 ·rw [execT_6 e6];exact hput _ _
 by_cases e7:i.op=7
 ·rw [execT_7 e7];exact hput _ _
 by_cases e8:i.op=8
 ·rw [execT_8 e8];exact hput _ _
 by_cases e9:i.op=9
 ·rw [execT_9 e9];exact hst _ (fun h=>by cases h)
 by_cases e10:i.op=10
 ·by_cases h:0≤x.reg i.b∧x.reg i.b<(x.words.length:Int)
  ·rw [execT_10t e10 h];exact hput _ _
  ·rw [execT_10f e10 h];exact hf
 by_cases e11:i.op=11
 ·by_cases h:0≤x.reg i.a∧x.reg i.a<(x.words.length:Int)
  ·rw [execT_11t e11 h];exact hst _ (fun h=>by cases h)
  ·rw [execT_11f e11 h];exact hf
 by_cases e13:i.op=13
 ·by_cases h:nth x.words i.a.toNat=x.reg i.b
  ·rw [execT_13t e13 h];exact hcas _ _
  ·rw [execT_13f e13 h];exact hput _ _
 by_cases e14:i.op=14
 ·rw [execT_14 e14];exact hpc _
 by_cases e15:i.op=15
 ·by_cases h:x.reg i.a=0
  ·rw [execT_15t e15 h];exact hpc _
  ·rw [execT_15f e15 h];exact hx
 by_cases e16:i.op=16
 ·rw [execT_16 e16];exact hpr _
 by_cases e17:i.op=17
 ·rw [execT_17 e17];exact how _
 by_cases e18:i.op=18
 ·by_cases h1:nth x.owner i.a.toNat≠n
  ·rw [execT_18a e18 h1];exact hf
  ·by_cases h2:∃q,q<x.wait.length∧(nth x.wait q).lock=true∧(nth x.wait q).wh=i.a
   ·obtain ⟨q,hq,h3,h4⟩:=h2
    rw [execT_18b e18 h1 q hq h3 h4];exact hf
   ·rw [execT_18c e18 h1 (fun q hq h9=>h2 ⟨q,hq,h9⟩)];exact hst _ (fun _=>rfl)
 rw [execT_no ⟨e1,e2,e3,e4,e5,e6,e7,e8,e9,e10,e11,e13,e14,e15,e16,e17,e18⟩]
 exact hx
def wh0 (l:List Wt):Prop:=∀x∈l,x.lock=true→x.what=0
theorem store_wh0 {m:Int}{x:TS}{w:Wt}(h:wh0 x.wait)(hw:w.lock=true→w.what=0):wh0 (x.store m w).wait:=by
 unfold TS.store
 split
 ·intro y hy
  rcases List.mem_append.1 hy with hy|hy
  ·exact h y hy
  ·obtain rfl:y=w:=by simpa using hy
   exact hw
 ·exact h
theorem execT_wh0 {m:Int}{n:Nat}{i:Ins}{x:TS}(h:wh0 x.wait):wh0 (execT m n i x).wait:=
 execT_elim (Q:=fun y=>wh0 y.wait) h (fun _ _=>h) (fun _ hw=>store_wh0 h hw) h (fun _ _=>h) (fun _=>h) (fun _=>h) (fun _=>h)
theorem doT_wh0 {m:Int}{n k:Nat}{c:List Ins}{x:TS}(h:wh0 x.wait):wh0 (doT m n c k x).wait:=by
 unfold doT
 split
 ·exact fun y hy=>h y (List.mem_of_mem_eraseIdx hy)
 ·exact execT_wh0 (x:= { x with pc:=x.pc+1 }) h
theorem Reach.wh0_ {p:Pg}{m:Int}{s:MSt}(h:Reach p m s):∀t,wh0 (s.view t).wait:=by
 induction h with
 |start=>
  intro t
  show wh0 (nth (begin_ p).ths t).wait
  unfold begin_
  rcases Nat.lt_or_ge t p.code.length with h|h
  ·rw [nth_map' _ _ _ h];exact fun x hx=>by cases hx
  ·simp [nth,List.getD,h];exact fun x hx=>by cases hx
 |step hr ht hk hf ih=>
  rename_i s t k
  intro u
  by_cases e:t=u
  ·subst e
   rcases Nat.lt_or_ge t s.ths.length with hl|hl
   ·rw [putT_view hl]
    exact doT_wh0 (ih t)
   ·show wh0 (nth (s.ths.set t _) t).wait
    rw [List.set_eq_of_length_le hl]
    exact ih t
  ·rw [putT_other e]
   exact ih u
theorem set_ge {l:List Int}{i:Nat}{v:Int}(h:∀x∈l,-1≤x)(hv: -1≤v):∀x∈l.set i v,-1≤x:=fun x hx=>by
 rcases List.mem_or_eq_of_mem_set hx with h1|rfl
 ·exact h x h1
 ·exact hv
theorem done_ge {x:TS}{w:Wt}(h:∀v∈x.owner,-1≤v):∀v∈(x.done w).owner,-1≤v:=by
 unfold TS.done
 show∀v∈(if w.lock=true then x.owner.set w.wh.toNat (-1) else x.owner),-1≤v
 split
 ·exact set_ge h (by decide)
 ·exact h
theorem store_ge {m:Int}{x:TS}{w:Wt}(h:∀v∈x.owner,-1≤v):∀v∈(x.store m w).owner,-1≤v:=by
 unfold TS.store
 split
 ·exact h
 ·exact done_ge h
theorem execT_ge {m:Int}{n:Nat}{i:Ins}{x:TS}(h:∀v∈x.owner,-1≤v):∀v∈(execT m n i x).owner,-1≤v:=
 execT_elim (Q:=fun y=>∀v∈y.owner,-1≤v) h (fun _ _=>h) (fun _ _=>store_ge h) h (fun _ _=>h) (fun _=>h) (fun _=>h) (fun _=>set_ge h (by omega))
theorem doT_ge {m:Int}{n k:Nat}{c:List Ins}{x:TS}(h:∀v∈x.owner,-1≤v):∀v∈(doT m n c k x).owner,-1≤v:=by
 unfold doT
 split
 ·exact done_ge h
 ·exact execT_ge h
theorem Reach.owner_ge {p:Pg}{m:Int}{s:MSt}(h:Reach p m s):∀v∈s.owner,-1≤v:=by
 induction h with
 |start=>
  intro v hv
  have:=List.eq_of_mem_replicate hv
  omega
 |step hr ht hk hf ih=>exact doT_ge (x:=_) ih
set_option maxRecDepth 100000
set_option maxHeartbeats 4000000
theorem nth_replicate {α:Type}[Inhabited α](n:Nat)(x:α)(i:Nat)(h:i<n):nth (List.replicate n x) i=x:=by simp [nth,h]
theorem cloneI_c (x:Ls Int)(W:World)(hx:x.At W)(hl:x.l.length≤100000):
    Rets Tryz.prog 44 [x.v] W (fun v w' =>∃s:Ls Int,v=s.v∧Sh0 W w' [.own 3 (⟨s.v,x.l⟩:Ls Int)]):=by
 refine gen Tryz.func44 Tryz.ntmps44 (Sh0.ext1 hx:Sh (fun _=>False) W W [.at_ x]) rfl fun a10 h10=>gG h10<|sG (oM 1 rfl<|.nl)<|gK fun _ k12=>sG (oM 1 rfl<|oV (r_eqnil (s:=x) sl_23 rfl rfl rfl (fun w h=>(h.at 0 rfl))) rfl<|.nl)<|?_;clear h10
 refine gCb rfl (fun hb14=> ?_) fun hb14=> ?_
 ·skip
  refine sG (oM 1 rfl<|.nl)<|gR<|uT<|fun a16 w16 h16=>x_ret1 (fn:=Tryz.f44) (t:=2) rfl h16 rfl<|⟨⟨.slice none 0 0, []⟩,rfl, ?_⟩
  rw [nilB_nil hx (by assumption)]
  exact (h16.sh.nil (α:=Int) 3).sel (L' := [_]) [0] rfl
 refine gS<|hK k12<|sK fun _ k17=>gE1 (fun _ _ h_=>x_lit0 (α:=Int) h_ sl_23 ti_3 rfl rfl rfl) rfl fun v18=>gRn (oM 1 rfl<|.nl)<|gE1 (fun _ _ h_=>x_app (r:=0) (rm:=1) (s:=(⟨v18, []⟩:Ls Int)) (m:=x) h_ sl_23 ti_3 rfl rfl rfl rfl rfl rfl rfl (fun w h=>(h.at 1 rfl)) (fun b hb=> .inr hb) (fun q hq b hb=> .inr ⟨q,hq,hb⟩) rfl rfl rfl inferInstance (show (([]).length+x.l.length)*8≤140737488355328∧([]).length+x.l.length≤140737488355328 from om9) rfl rfl) rfl fun v19=>gRn (oM 1 rfl<|.nl)<|nK k17<|gR<|fun a20 w20 h20=>x_ret1 (fn:=Tryz.f44) (t:=2) rfl h20 rfl<|⟨⟨v19, []⟩,rfl, ?_⟩
 exact (h20.sh.sel [0] rfl)
theorem ti_97 :tyI Tryz.prog 97=some (false,1,16, [.nilIface]):=by kernel_rfl
theorem dec_neg {x:Int}(h: -1≤x):decide (x<0)=decide (x= -1):=decide_eq_decide.2 ⟨fun h9=>by omega,fun h9=>by omega⟩
def movF (m:Int)(code:Ls (Ls Ins))(thr:List ThQ)(q:List (List Wt))(owner:List Int)(t:Nat):List Mv:=mvsV m (nth code.l t).l t ⟨(nth thr t).pc, [],nth q t, [],owner, [],false⟩
def movesF (m:Int)(code:Ls (Ls Ins))(thr:List ThQ)(q:List (List Wt))(owner:List Int)(n:Nat):List Mv:=(List.range n).flatMap (movF m code thr q owner)
theorem movesF_succ (m:Int)(code:Ls (Ls Ins))(thr:List ThQ)(q:List (List Wt))(owner:List Int)(n:Nat):movesF m code thr q owner (n+1)=movesF m code thr q owner n++movF m code thr q owner n:=by simp [movesF,List.range_succ]
def ableF (code:Ls (Ls Ins))(thr:List ThQ)(q:List (List Wt))(owner:List Int)(t:Nat):Bool:=decide ((nth thr t).pc<((nth code.l t).l.length:Int))&&ableL owner (nth q t).length (nextIns (nth code.l t).l (nth thr t).pc)
theorem movF_eq {m:Int}{code:Ls (Ls Ins)}{thr:List ThQ}{q:List (List Wt)}{owner rl:List Int}{t:Nat}(hr:rl=((List.range (nth q t).length).filter (mayK m (nth q t))).map (fun k=>((k:Nat):Int))):
  movF m code thr q owner t=(if ableF code thr q owner t=true then [⟨(t:Int),-1⟩] else [])++rl.map (fun x=>(⟨(t:Int),x⟩:Mv)):=by
 rw [hr,List.map_map];rfl
theorem movF_len {m:Int}{code:Ls (Ls Ins)}{thr:List ThQ}{q:List (List Wt)}{owner:List Int}{t:Nat} :(movF m code thr q owner t).length≤1+(nth q t).length:=by
 unfold movF mvsV
 rw [List.length_append,List.length_map]
 have h1:∀c:Bool,(if c=true then [(⟨(t:Int),-1⟩:Mv)] else []).length≤1:=fun c=>by cases c<;>simp
 have h2:((List.range (nth q t).length).filter (mayK m (nth q t))).length≤(nth q t).length:=Nat.le_trans (List.length_filter_le _ _) (by simp)
 have h3:=h1 (ableV (nth code.l t).l ⟨(nth thr t).pc, [],nth q t, [],owner, [],false⟩)
 show _+((List.range (nth q t).length).filter (mayK m (nth q t))).length≤_
 omega
def endF2 (code:Ls (Ls Ins))(thr:List ThQ)(q:List (List Wt))(t:Nat):Bool:=decide (¬(nth thr t).pc<((nth code.l t).l.length:Int))&&decide ((nth q t).length=0)
def endedF (code:Ls (Ls Ins))(thr:List ThQ)(q:List (List Wt)):Bool:=(List.range code.l.length).all (endF2 code thr q)
theorem endF2_t {code:Ls (Ls Ins)}{thr:List ThQ}{q:List (List Wt)}{t:Nat}(h:¬(nth thr t).pc<((nth code.l t).l.length:Int))(h2:(nth q t).length=0):endF2 code thr q t=true:=by unfold endF2;rw [decide_eq_true h,decide_eq_true h2];rfl
theorem endedF_t {code:Ls (Ls Ins)}{thr:List ThQ}{q:List (List Wt)}(h:∀j,j<code.l.length→endF2 code thr q j=true):endedF code thr q=true:=by
 unfold endedF;rw [List.all_eq_true];intro j hj;exact h j (by simpa using hj)
theorem endedF_f {code:Ls (Ls Ins)}{thr:List ThQ}{q:List (List Wt)}{t:Nat}(ht:t<code.l.length)(h:(nth thr t).pc<((nth code.l t).l.length:Int)∨¬(nth q t).length=0):endedF code thr q=false:=by
 unfold endedF;rw [List.all_eq_false]
 refine ⟨t,by simpa using ht, ?_⟩
 unfold endF2
 rcases h with h|h
 ·rw [decide_eq_false (by omega)];simp
 ·rw [decide_eq_false h];simp
theorem pnext_c (M:MemS)(g gp:Nat)(code:Ls (Ls Ins))(thr:Ls ThQ)(words owner:Ls Int)(q:M.σ)(pw pv:Value)(locks nregs:Int)(fell:Bool)(t:Nat)(W:World)(hM:MemI Tryz.prog 182 3 M)(hB:Blk W g 173 #[.iface M.T (.pointer (some M.u)), .pointer (some ⟨gp,0,none⟩),thr.v,pv, .bool fell])(hP:Blk W gp 25 #[code.v,pw, .int .i64 locks, .int .i64 nregs])(h_code:code.At W)(h_thr:thr.At W)(hR:MemRd 182 M W words owner q)(ht:t<code.l.length)(ht2:t<thr.l.length)(hpc:0≤(nth thr.l t).pc∧(nth thr.l t).pc≤(nth code.l t).l.length):
    Rets Tryz.prog 128 [.pointer (some ⟨g,0,none⟩), .int .i64 ((t:Nat):Int)] W (fun v w' =>v= .tuple #[(nextIns (nth code.l t).l (nth thr.l t).pc).val, .bool (decide ((nth thr.l t).pc<((nth code.l t).l.length:Int)))]∧Sh0 W w' []):=by
 refine gen Tryz.func128 Tryz.ntmps128 (Sh0.ext (by intro A hA;simp only [List.mem_cons,List.not_mem_nil,or_false] at hA;rcases hA with rfl|rfl|rfl|rfl|rfl|rfl|rfl|rfl;exact hB;exact hP;exact h_code;exact h_thr;exact hR.blk;exact hR.wa;exact hR.oa;exact (fun A hA=>by obtain rfl:=List.mem_singleton.1 hA;exact hR.x)) (by intro A hA b hb;simp only [List.mem_cons,List.not_mem_nil,or_false] at hA;rcases hA with rfl|rfl|rfl|rfl|rfl|rfl|rfl|rfl<;>exact hb):Sh (fun _=>False) W W [.rblk g 173 [.iface M.T (.pointer (some M.u)), .pointer (some ⟨gp,0,none⟩),thr.v,pv, .bool fell], .rblk gp 25 [code.v,pw, .int .i64 locks, .int .i64 nregs], .at_ code, .at_ thr, .rblk M.g0 182 [words.v,owner.v], .at_ words, .at_ owner, .ro [M.X q]]) rfl fun a10 h10=>gG h10<|sK fun _ k11=>gal ti_32 rfl fun b12=>gRn (oM 1 rfl<|.nl)<|nK k11<|gK fun _ k13=>gK fun _ k14=>gNl (aA 4 rfl) fun hl15=>gNl (aA 3 rfl) fun hl16=>gNl (fun w h=>((h.at 3 rfl).nth t (show t<code.l.length from (by omega)))) fun (hl17:((nth code.l t).l).length≤140737488355328)=>rQ (oM 1 rfl<|onf fl_173_2 rfl<|olR 1 ti_171 rfl rfl<|oM 1 rfl<|oxN sl_171 ti_189 (aA 4 rfl) _ om9 rfl<|ofE fl_189_0 rfl<|olI ti_3 (aA 4 rfl) om9 rfl<|oM 1 rfl<|onf fl_173_1 rfl<|olR 1 ti_148 rfl rfl<|onf fl_25_0 rfl<|olR 2 ti_22 rfl rfl<|oM 1 rfl<|oxN sl_22 ti_33 (aA 3 rfl) _ om9 rfl<|olE ((nth code.l t).v) ti_33 (aA 3 rfl) om9 rfl<|oln (n:=((nth code.l t).l).length) sl_33 (fun w h=>((h.at 3 rfl).nth t (show t<code.l.length from (by omega)))) rfl<|oeqI _ _ rfl<|.nl)<|hK k14<|?_;clear h10
 refine gcd rfl (fun hb18 hp18=> ?_) fun hb18 hp18=> ?_
 ·skip
  refine sK fun _ k19=>gRn (oV (r_build (cs:= [.int .i64 0, .int .i64 0, .int .i64 0, .int .i64 0]) rfl rfl (by kernel_rfl)) rfl<|.nl)<|gsw 0 ti_32 rfl rfl rfl<|gRn (oM 1 rfl<|.nl)<|nK k19<|gF [4,5] rfl<|gR<|uT<|fun a21 w21 h21=>x_retct (fn:=Tryz.f128) (t:=4) (u:=5) (i:=0) ti_32 rfl h21 rfl rfl rfl rfl<|⟨?_,(h21.sh.sel [] rfl)⟩
  first|(rw [nextIns_t (by omega),decide_eq_true (by omega)];rfl)|(rw [nextIns_f (by omega),decide_eq_false (by omega)];rfl)
 refine gS<|hK k13<|gK fun _ k22=>rT 20 [] (oM 1 rfl<|onf fl_173_1 rfl<|olR 1 ti_148 rfl rfl<|onf fl_25_0 rfl<|olR 2 ti_22 rfl rfl<|oM 1 rfl<|oxN sl_22 ti_33 (aA 3 rfl) _ om9 rfl<|olE ((nth code.l t).v) ti_33 (aA 3 rfl) om9 rfl<|oM 1 rfl<|onf fl_173_2 rfl<|olR 1 ti_171 rfl rfl<|oM 1 rfl<|oxN sl_171 ti_189 (aA 4 rfl) _ om9 rfl<|ofE fl_189_0 rfl<|olI ti_3 (aA 4 rfl) om9 rfl<|oxI sl_33 ti_32 (fun w h=>((h.at 3 rfl).nth t (show t<code.l.length from (by omega)))) om9 rfl<|olw2 [.int .i64 ((nth ((nth code.l t).l) (((nth thr.l t).pc).toNat)).op), .int .i64 ((nth ((nth code.l t).l) (((nth thr.l t).pc).toNat)).a), .int .i64 ((nth ((nth code.l t).l) (((nth thr.l t).pc).toNat)).b), .int .i64 ((nth ((nth code.l t).l) (((nth thr.l t).pc).toNat)).c)] ti_32 (fun w h=>((h.at 3 rfl).nth t (show t<code.l.length from (by omega)))) om9 rfl<|.nl)<|gsw 0 ti_32 rfl rfl rfl<|gRn (oM 1 rfl<|.nl)<|nK k22<|gF [4,5] rfl<|gR<|fun a24 w24 h24=>x_retct (fn:=Tryz.f128) (t:=4) (u:=5) (i:=0) ti_32 rfl h24 rfl rfl rfl rfl<|⟨?_,(h24.sh.sel [] rfl)⟩
 first|(rw [nextIns_t (by omega),decide_eq_true (by omega)];rfl)|(rw [nextIns_f (by omega),decide_eq_false (by omega)];rfl)
theorem pable_c (M:MemS)(g gp:Nat)(code:Ls (Ls Ins))(thr:Ls ThQ)(words owner:Ls Int)(q:M.σ)(pw pv:Value)(locks nregs:Int)(fell:Bool)(t:Nat)(W:World)(hM:MemI Tryz.prog 182 3 M)(hB:Blk W g 173 #[.iface M.T (.pointer (some M.u)), .pointer (some ⟨gp,0,none⟩),thr.v,pv, .bool fell])(hP:Blk W gp 25 #[code.v,pw, .int .i64 locks, .int .i64 nregs])(h_code:code.At W)(h_thr:thr.At W)(hR:MemRd 182 M W words owner q)(hql:(M.qs q).length=code.l.length)(hw3:∀t,t<code.l.length→(nth (M.qs q) t).length≤3)(htl:thr.l.length=code.l.length)(hpc:∀t,t<code.l.length→0≤(nth thr.l t).pc∧(nth thr.l t).pc≤(nth code.l t).l.length)(hlk:∀t,t<code.l.length→∀i,i<(nth code.l t).l.length→(nth (nth code.l t).l i).op=17→0≤(nth (nth code.l t).l i).a∧(nth (nth code.l t).l i).a<owner.l.length)(hge:∀v∈owner.l,-1≤v)(ht:t<code.l.length):
    Rets Tryz.prog 129 [.pointer (some ⟨g,0,none⟩), .int .i64 ((t:Nat):Int)] W (fun v w' =>v= .bool (ableF code thr.l (M.qs q) owner.l t)∧Sh0 W w' []):=by
 have hpct:=hpc t (by omega)
 refine gen Tryz.func129 Tryz.ntmps129 (Sh0.ext (by intro A hA;simp only [List.mem_cons,List.not_mem_nil,or_false] at hA;rcases hA with rfl|rfl|rfl|rfl|rfl|rfl|rfl|rfl;exact hB;exact hP;exact h_code;exact h_thr;exact hR.blk;exact hR.wa;exact hR.oa;exact (fun A hA=>by obtain rfl:=List.mem_singleton.1 hA;exact hR.x)) (by intro A hA b hb;simp only [List.mem_cons,List.not_mem_nil,or_false] at hA;rcases hA with rfl|rfl|rfl|rfl|rfl|rfl|rfl|rfl<;>exact hb):Sh (fun _=>False) W W [.rblk g 173 [.iface M.T (.pointer (some M.u)), .pointer (some ⟨gp,0,none⟩),thr.v,pv, .bool fell], .rblk gp 25 [code.v,pw, .int .i64 locks, .int .i64 nregs], .at_ code, .at_ thr, .rblk M.g0 182 [words.v,owner.v], .at_ words, .at_ owner, .ro [M.X q]]) rfl fun a10 h10=>gG h10<|sG (oM 1 rfl<|.nl)<|sK fun _ k12=>gRn (oM 2 rfl<|.nl)<|fun a14 w14 h14=>wl_ex (x_call h14 bd_128 rfl rfl rfl rfl rfl (pnext_c M g gp code thr words owner q _ _ _ _ _ t _ hM (h14.sh.rblk 0 rfl) (h14.sh.rblk 1 rfl) (h14.sh.at 2 rfl) (h14.sh.at 3 rfl) ⟨h14.sh.rblk 4 rfl,h14.sh.at 5 rfl,h14.sh.at 6 rfl,(h14.sh.ok _ (List.mem_of_getElem? (i:=7) rfl)) _ (List.mem_singleton.2 rfl)⟩ (by omega) (by omega) (by omega))) (wanted_none rfl _) ?_;clear h10
 rintro a15 w15 ⟨_,⟨hv15,hs15⟩,hf15⟩
 subst hv15
 have h15:St 54 (fun _=>False) W a15 w15 _ _:=⟨hf15,h14.sh.call0 hs15⟩
 clear hf15 hs15
 clear h14
 refine gG h15<|gRn (oM 1 rfl<|oxt rfl<|oxt rfl<|.nl)<|gal ti_32 rfl fun b16=>gsw 0 ti_32 rfl rfl rfl<|gRn (oM 1 rfl<|.nl)<|nK k12<|gK fun _ k18=>sG (oM 1 rfl<|ont rfl<|.nl)<|?_;clear h15
 refine gCb rfl (fun hb20=> ?_) fun hb20=> ?_
 ·have hp20:¬((nth thr.l t).pc<((nth code.l t).l.length:Int)):=by simpa using hb20
  refine sG (oM 1 rfl<|.nl)<|gR<|uT<|fun a22 w22 h22=>x_ret1 (fn:=Tryz.f129) (t:=4) rfl h22 rfl<|⟨?_,(h22.sh.sel [] rfl)⟩
  congr 1
  unfold ableF
  first|exact and_f' (by omega)|(refine and_t' (by omega) ?_;unfold ableL;first|(rw [if_pos (by omega)];done)|(rw [if_neg (by omega),if_pos (by omega)];done)|(rw [if_neg (by omega),if_neg (by omega),if_pos (by omega)];first|exact and_f' (by omega)|exact and_t' (by omega) (dec_neg hge2))|(rw [if_neg (by omega),if_neg (by omega),if_neg (by omega)]))
 have hp20:(nth thr.l t).pc<((nth code.l t).l.length:Int):=by simpa using hb20
 refine gS<|hK k18<|?_
 have hnx:=nextIns_t (c:=(nth code.l t).l) (pc:=(nth thr.l t).pc) (by omega)
 have hlk2:=hlk t ht (nth thr.l t).pc.toNat (by omega)
 rw [←hnx] at hlk2
 refine sK fun _ k23=>gRn (oM 1 rfl<|onf fl_173_0 rfl<|olR 1 ti_97 rfl rfl<|oM 1 rfl<|.nl)<|gP (fun _ _ h_=>x_inv2 h_ rfl rfl rfl rfl rfl (hM.waits _ words owner q t ⟨h_.sh.rblk 5 rfl,h_.sh.at 6 rfl,h_.sh.at 7 rfl,(h_.sh.ok _ (List.mem_of_getElem? (i:=8) rfl)) _ (List.mem_singleton.2 rfl)⟩ (by omega) (hw3 t (by omega)))) rfl<|gRn (oM 1 rfl<|.nl)<|nK k23<|gK fun _ k25=>sG (ofB fl_32_0 rfl<|olB 0 ti_3 rfl rfl<|.nl)<|gB<|gK fun _ k27=>sG (oeqI _ _ rfl<|oM 1 rfl<|.nl)<|gcd rfl (fun hb29 hp29=> ?_) fun hb29 hp29=> ?_
 ·skip
  refine gS<|hK k27<|gcT rfl hb29<|sG (oM 1 rfl<|oltN _ 3 rfl<|oM 1 rfl<|.nl)<|gF [4] rfl<|gR<|uB<|uT<|fun a31 w31 h31=>x_ret1 (fn:=Tryz.f129) (t:=4) rfl h31 rfl<|⟨?_,(h31.sh.sel [] rfl)⟩
  congr 1
  unfold ableF
  first|exact and_f' (by omega)|(refine and_t' (by omega) ?_;unfold ableL;first|(rw [if_pos (by omega)];done)|(rw [if_neg (by omega),if_pos (by omega)];done)|(rw [if_neg (by omega),if_neg (by omega),if_pos (by omega)];first|exact and_f' (by omega)|exact and_t' (by omega) (dec_neg hge2))|(rw [if_neg (by omega),if_neg (by omega),if_neg (by omega)]))
 refine sG (oeqI _ _ rfl<|oM 1 rfl<|.nl)<|gcd rfl (fun hb33 hp33=> ?_) fun hb33 hp33=> ?_
 ·skip
  refine gS<|hK k27<|gcT rfl hb33<|sG (oM 1 rfl<|oltN _ 3 rfl<|oM 1 rfl<|.nl)<|gF [4] rfl<|gR<|uB<|uT<|fun a35 w35 h35=>x_ret1 (fn:=Tryz.f129) (t:=4) rfl h35 rfl<|⟨?_,(h35.sh.sel [] rfl)⟩
  congr 1
  unfold ableF
  first|exact and_f' (by omega)|(refine and_t' (by omega) ?_;unfold ableL;first|(rw [if_pos (by omega)];done)|(rw [if_neg (by omega),if_pos (by omega)];done)|(rw [if_neg (by omega),if_neg (by omega),if_pos (by omega)];first|exact and_f' (by omega)|exact and_t' (by omega) (dec_neg hge2))|(rw [if_neg (by omega),if_neg (by omega),if_neg (by omega)]))
 refine gL<|gRn (oeqI _ _ rfl<|oM 1 rfl<|.nl)<|nK k27<|gcd rfl (fun hb36 hp36=> ?_) fun hb36 hp36=> ?_
 ·skip
  refine sG (oM 1 rfl<|oltN _ 3 rfl<|oM 1 rfl<|.nl)<|gF [4] rfl<|gR<|uB<|uT<|fun a38 w38 h38=>x_ret1 (fn:=Tryz.f129) (t:=4) rfl h38 rfl<|⟨?_,(h38.sh.sel [] rfl)⟩
  congr 1
  unfold ableF
  first|exact and_f' (by omega)|(refine and_t' (by omega) ?_;unfold ableL;first|(rw [if_pos (by omega)];done)|(rw [if_neg (by omega),if_pos (by omega)];done)|(rw [if_neg (by omega),if_neg (by omega),if_pos (by omega)];first|exact and_f' (by omega)|exact and_t' (by omega) (dec_neg hge2))|(rw [if_neg (by omega),if_neg (by omega),if_neg (by omega)]))
 refine gK fun _ k39=>sG (oeqI _ _ rfl<|oM 1 rfl<|.nl)<|gF [0,5,7,23,30] rfl<|gcd rfl (fun hb41 hp41=> ?_) fun hb41 hp41=> ?_
 ·skip
  refine gS<|hK k39<|gcT rfl hb41<|sG (oM 1 rfl<|oeqN _ 0 rfl<|oM 1 rfl<|.nl)<|gR<|uB<|uT<|fun a43 w43 h43=>x_ret1 (fn:=Tryz.f129) (t:=4) rfl h43 rfl<|⟨?_,(h43.sh.sel [] rfl)⟩
  congr 1
  unfold ableF
  first|exact and_f' (by omega)|(refine and_t' (by omega) ?_;unfold ableL;first|(rw [if_pos (by omega)];done)|(rw [if_neg (by omega),if_pos (by omega)];done)|(rw [if_neg (by omega),if_neg (by omega),if_pos (by omega)];first|exact and_f' (by omega)|exact and_t' (by omega) (dec_neg hge2))|(rw [if_neg (by omega),if_neg (by omega),if_neg (by omega)]))
 refine gL<|gRn (oeqI _ _ rfl<|oM 1 rfl<|.nl)<|nK k39<|gcd rfl (fun hb44 hp44=> ?_) fun hb44 hp44=> ?_
 ·skip
  refine sG (oM 1 rfl<|oeqN _ 0 rfl<|oM 1 rfl<|.nl)<|gR<|uB<|uT<|fun a46 w46 h46=>x_ret1 (fn:=Tryz.f129) (t:=4) rfl h46 rfl<|⟨?_,(h46.sh.sel [] rfl)⟩
  congr 1
  unfold ableF
  first|exact and_f' (by omega)|(refine and_t' (by omega) ?_;unfold ableL;first|(rw [if_pos (by omega)];done)|(rw [if_neg (by omega),if_pos (by omega)];done)|(rw [if_neg (by omega),if_neg (by omega),if_pos (by omega)];first|exact and_f' (by omega)|exact and_t' (by omega) (dec_neg hge2))|(rw [if_neg (by omega),if_neg (by omega),if_neg (by omega)]))
 refine sG (oeqI _ _ rfl<|oM 1 rfl<|.nl)<|gcd rfl (fun hb48 hp48=> ?_) fun hb48 hp48=> ?_
 ·skip
  have hlk3:=hlk2 (by assumption)
  have hge2:=hge _ (nth_mem owner.l (nextIns (nth code.l t).l (nth thr.l t).pc).a.toNat (by omega))
  refine gK fun _ k49=>fun a50 w50 h50=>x_quiet (by kernel_rfl) (by kernel_rfl) h50 fun _ z51=>qQ h50.fr<|qRn (oM 1 rfl<|oeqN _ 0 rfl<|oM 1 rfl<|.nl)<|?_
  rcases dsp ((nth (M.qs q) t).length=0) with ⟨hb52,hp52⟩|⟨hb52,hp52⟩
  ·skip
   refine qRn (oG hb52 (r_move rfl rfl) rfl<|oG hb52 (r_nil rfl rfl) rfl<|oG hb52 (r_fieldB (r:=0) fl_173_0 rfl rfl rfl) rfl<|oG hb52 (r_ldbR ti_97 rfl rfl (fun w h=>h.rblk 1 rfl) rfl) rfl<|.nl)<|fun _ hq=>wq_inv hq rfl rfl rfl (wanted_yes hq rfl rfl rfl rfl hb52) rfl rfl (fun w h=>(hM.base _ words owner q ⟨h.rblk 5 rfl,h.at 6 rfl,h.at 7 rfl,(h.ok _ (List.mem_of_getElem? (i:=8) rfl)) _ (List.mem_singleton.2 rfl)⟩))<|qRn (oG hb52 (r_nil rfl rfl) rfl<|oG hb52 (r_fieldB (r:=1) fl_182_1 rfl rfl rfl) rfl<|oG hb52 (r_ldbR ti_23 rfl rfl (fun w h=>h.rblk 5 rfl) rfl) rfl<|oG hb52 (r_fieldB (r:=1) fl_32_1 rfl rfl rfl) rfl<|oG hb52 (r_ldb (i:=0) ti_3 rfl rfl rfl rfl) rfl<|.nl)<|?_
   have hl64:owner.l.length≤140737488355328:=(h50.sh.at 7 rfl).len
   refine qRn (oG hb52 (r_ixI (s:=owner) (q:=(nextIns (nth code.l t).l (nth thr.l t).pc).a) sl_23 ti_3 rfl rfl rfl (fun w h=>(h.at 7 rfl)) (show 0≤(nextIns (nth code.l t).l (nth thr.l t).pc).a∧(nextIns (nth code.l t).l (nth thr.l t).pc).a<owner.l.length from om9)) rfl<|oG hb52 (r_lde (s:=owner) (i:=((nextIns (nth code.l t).l (nth thr.l t).pc).a).toNat) (v:= .int .i64 (nth owner.l (((nextIns (nth code.l t).l (nth thr.l t).pc).a).toNat))) ti_3 rfl rfl rfl (fun w h=>(h.at 7 rfl)) (show ((nextIns (nth code.l t).l (nth thr.l t).pc).a).toNat<owner.l.length from om9) (Nat.le_of_ble_eq_true rfl) rfl) rfl<|oG hb52 (r_lssI (p:=nth owner.l (((nextIns (nth code.l t).l (nth thr.l t).pc).a).toNat)) (q:=0) rfl rfl rfl) rfl<|opT hb52 rfl<|oM 1 rfl<|.nl)<|qN z51<|?_;clear h50
   refine hK k49<|gF [4] rfl<|gR<|uB<|uT<|fun a67 w67 h67=>x_ret1 (fn:=Tryz.f129) (t:=4) rfl h67 rfl<|⟨?_,(h67.sh.sel [] rfl)⟩
   congr 1
   unfold ableF
   first|exact and_f' (by omega)|(refine and_t' (by omega) ?_;unfold ableL;first|(rw [if_pos (by omega)];done)|(rw [if_neg (by omega),if_pos (by omega)];done)|(rw [if_neg (by omega),if_neg (by omega),if_pos (by omega)];first|exact and_f' (by omega)|exact and_t' (by omega) (dec_neg hge2))|(rw [if_neg (by omega),if_neg (by omega),if_neg (by omega)]))
  refine qRn (oKs 13 hb52 rfl rfl<|opF hb52 rfl<|oM 1 rfl<|.nl)<|qN z51<|?_;clear h50
  refine hK k49<|gF [4] rfl<|gR<|uB<|uT<|fun a69 w69 h69=>x_ret1 (fn:=Tryz.f129) (t:=4) rfl h69 rfl<|⟨?_,(h69.sh.sel [] rfl)⟩
  congr 1
  unfold ableF
  first|exact and_f' (by omega)|(refine and_t' (by omega) ?_;unfold ableL;first|(rw [if_pos (by omega)];done)|(rw [if_neg (by omega),if_pos (by omega)];done)|(rw [if_neg (by omega),if_neg (by omega),if_pos (by omega)];first|exact and_f' (by omega)|exact and_t' (by omega) (dec_neg hge2))|(rw [if_neg (by omega),if_neg (by omega),if_neg (by omega)]))
 refine gS<|hK k25<|sG (oM 1 rfl<|.nl)<|gR<|fun a71 w71 h71=>x_ret1 (fn:=Tryz.f129) (t:=4) rfl h71 rfl<|⟨?_,(h71.sh.sel [] rfl)⟩
 congr 1
 unfold ableF
 first|exact and_f' (by omega)|(refine and_t' (by omega) ?_;unfold ableL;first|(rw [if_pos (by omega)];done)|(rw [if_neg (by omega),if_pos (by omega)];done)|(rw [if_neg (by omega),if_neg (by omega),if_pos (by omega)];first|exact and_f' (by omega)|exact and_t' (by omega) (dec_neg hge2))|(rw [if_neg (by omega),if_neg (by omega),if_neg (by omega)]))
theorem pmoves_c (M:MemS)(g gp:Nat)(code:Ls (Ls Ins))(thr:Ls ThQ)(words owner:Ls Int)(q:M.σ)(pw pv:Value)(locks nregs:Int)(fell:Bool)(W:World)(hM:MemI Tryz.prog 182 3 M)(hB:Blk W g 173 #[.iface M.T (.pointer (some M.u)), .pointer (some ⟨gp,0,none⟩),thr.v,pv, .bool fell])(hP:Blk W gp 25 #[code.v,pw, .int .i64 locks, .int .i64 nregs])(h_code:code.At W)(h_thr:thr.At W)(hR:MemRd 182 M W words owner q)(hql:(M.qs q).length=code.l.length)(hw3:∀t,t<code.l.length→(nth (M.qs q) t).length≤3)(htl:thr.l.length=code.l.length)(hpc:∀t,t<code.l.length→0≤(nth thr.l t).pc∧(nth thr.l t).pc≤(nth code.l t).l.length)(hlk:∀t,t<code.l.length→∀i,i<(nth code.l t).l.length→(nth (nth code.l t).l i).op=17→0≤(nth (nth code.l t).l i).a∧(nth (nth code.l t).l i).a<owner.l.length)(hge:∀v∈owner.l,-1≤v)(hcl:code.l.length≤4):
    Rets Tryz.prog 121 [.pointer (some ⟨g,0,none⟩)] W (fun v w' =>∃s:Ls Mv,v=s.v∧s.l=movesF M.m code thr.l (M.qs q) owner.l code.l.length∧Sh0 W w' [.own 179 s]):=by
 refine gen Tryz.func121 Tryz.ntmps121 (Sh0.ext (by intro A hA;simp only [List.mem_cons,List.not_mem_nil,or_false] at hA;rcases hA with rfl|rfl|rfl|rfl|rfl|rfl|rfl|rfl;exact hB;exact hP;exact h_code;exact h_thr;exact hR.blk;exact hR.wa;exact hR.oa;exact (fun A hA=>by obtain rfl:=List.mem_singleton.1 hA;exact hR.x)) (by intro A hA b hb;simp only [List.mem_cons,List.not_mem_nil,or_false] at hA;rcases hA with rfl|rfl|rfl|rfl|rfl|rfl|rfl|rfl<;>exact hb):Sh (fun _=>False) W W [.rblk g 173 [.iface M.T (.pointer (some M.u)), .pointer (some ⟨gp,0,none⟩),thr.v,pv, .bool fell], .rblk gp 25 [code.v,pw, .int .i64 locks, .int .i64 nregs], .at_ code, .at_ thr, .rblk M.g0 182 [words.v,owner.v], .at_ words, .at_ owner, .ro [M.X q]]) rfl fun a10 h10=>gG h10<|sG (oM 1 rfl<|.nl)<|sG (oM 1 rfl<|.nl)<|gK fun _ k13=>sK fun _ k14=>gNl (aA 3 rfl) fun hl15=>gRn (oM 1 rfl<|onf fl_173_2 rfl<|olR 0 ti_171 rfl rfl<|oln sl_171 (aA 3 rfl) rfl<|oM 1 rfl<|.nl)<|nK k14<|gB<|fun a18 w18 h18=> ?_;clear h10
 have h17:=h18.nil (α:=Mv) 179
 clear h18
 refine x_loop (fun m a w=>∃(t:Nat) (ml:List Mv) (vm:Value),(t≤thr.l.length)∧(ml=movesF M.m code thr.l (M.qs q) owner.l t)∧(ml.length≤4*t)∧St 43 (fun _=>False) W a w [(0, .pointer (some ⟨g,0,none⟩)),(3,vm),(11, .int .i64 ((thr.l.length:Nat):Int)),(12, .int .i64 ((t:Nat):Int))] [.rblk g 173 [.iface M.T (.pointer (some M.u)), .pointer (some ⟨gp,0,none⟩),thr.v,pv, .bool fell], .rblk gp 25 [code.v,pw, .int .i64 locks, .int .i64 nregs], .at_ code, .at_ thr, .rblk M.g0 182 [words.v,owner.v], .at_ words, .at_ owner, .ro [M.X q], .own 179 (⟨vm,ml⟩:Ls Mv)]∧m=thr.l.length-t) ⟨_,0, [],(.slice none 0 0),(by omega),(rfl),(by simp),h17.nrm ⟨rfl,rfl,rfl,rfl,trivial⟩ [1,2,3,4,5,6,7,8,0] rfl,rfl⟩ ?_
 clear h17
 rintro m16 a16 w16 ⟨t,ml,vm,ht,hml,hmn,h16,hm16⟩
 refine gG h16<|sG (oltN _ _ rfl<|.nl)<|gK fun _ k20=>gcd rfl (fun hb21 hp21=> ?_) fun hb21 hp21=> ?_;clear h16
 ·skip
  refine gS<|hK k20<|gK fun _ k22=>gB<|sG (oM 2 rfl<|.nl)<|gK fun _ k24=>sK fun _ k25=>gRn (oM 2 rfl<|.nl)<|gC (fun _ _ h_=>xCl h_ bd_129 rfl (pable_c M g gp code thr words owner q _ _ _ _ _ t _ hM (h_.sh.rblk 0 rfl) (h_.sh.rblk 1 rfl) (h_.sh.at 2 rfl) (h_.sh.at 3 rfl) ⟨h_.sh.rblk 4 rfl,h_.sh.at 5 rfl,h_.sh.at 6 rfl,(h_.sh.ok _ (List.mem_of_getElem? (i:=7) rfl)) _ (List.mem_singleton.2 rfl)⟩ hql hw3 htl hpc hlk hge (by omega))) rfl<|?_
  rintro _ _ w26 ⟨rfl,hs26⟩
  refine gWk hs26 rfl<|gU<|nK k25<|?_;clear hs26
  refine gCb rfl (fun hb27=> ?_) fun hb27=> ?_
  ·skip
   refine gL<|gRn (oM 2 rfl<|oV (r_build (cs:= [.int .i64 ((t:Nat):Int), .int .i64 (-1)]) rfl rfl (by kernel_rfl)) rfl<|.nl)<|gE1 (fun _ _ h_=>x_lit (n:=1) (cs:= [.int .i64 ((t:Nat):Int), .int .i64 (-1)]) ([(⟨((t:Nat):Int),(-1)⟩:Mv)]:List Mv) h_ sl_175 ti_179 rfl rfl rfl (by decide) rfl (by kernel_rfl) rfl (fun q hq w h=>Flat.inner _ _) (fun q hq b hb=>(Flat.on _ _ hb).elim) rfl rfl) rfl fun v28=>gE1 (fun _ _ h_=>x_app (r:=9) (rm:=0) (s:=(⟨vm,ml⟩:Ls Mv)) (m:=(⟨v28, [(⟨((t:Nat):Int),(-1)⟩:Mv)]⟩:Ls Mv)) h_ sl_175 ti_179 rfl rfl rfl rfl rfl rfl rfl (fun w h=>(h.own 0 rfl)) (fun b hb=>own_on (h_.sh.ok _ (List.mem_of_getElem? (i:=0) rfl)) hb) (fun q hq b hb=>⟨q,hq,hb⟩) rfl rfl rfl inferInstance (show (ml.length+([(⟨((t:Nat):Int),(-1)⟩:Mv)]).length)*16≤140737488355328∧ml.length+([(⟨((t:Nat):Int),(-1)⟩:Mv)]).length≤140737488355328 from om9) rfl rfl) rfl fun v29=>gRn (oM 1 rfl<|.nl)<|nK k24<|sK fun _ k30=>gRn (oM 1 rfl<|onf fl_173_0 rfl<|olR 1 ti_97 rfl rfl<|oM 1 rfl<|.nl)<|gC (fun _ _ h_=>x_inv2 h_ rfl rfl rfl rfl rfl (hM.ready _ words owner q t ⟨h_.sh.rblk 5 rfl,h_.sh.at 6 rfl,h_.sh.at 7 rfl,(h_.sh.ok _ (List.mem_of_getElem? (i:=8) rfl)) _ (List.mem_singleton.2 rfl)⟩ (by omega) (hw3 t (by omega)))) rfl<|?_
   rintro _ _ w31 ⟨rl,rfl,hrl,hs31⟩
   refine gWk hs31 rfl<|gU<|gNl (aO 0 rfl) fun hl32=>gRn (oln sl_23 (aO 0 rfl) rfl<|oM 1 rfl<|.nl)<|nK k30<|gB<|?_;clear hs31
   have hwt:=hw3 t (by omega)
   have hrn:rl.l.length≤3:=by rw [hrl,List.length_map];exact Nat.le_trans (List.length_filter_le _ _) (by simpa using hwt)
   intro a34 w34 h34
   refine x_loop (fun m a w=>∃(k:Nat) (ml2:List Mv) (vm2:Value),(k≤rl.l.length)∧(ml2=ml++((if ableF code thr.l (M.qs q) owner.l t=true then [⟨(t:Int),-1⟩] else [])++(rl.l.take k).map (fun x=>(⟨(t:Int),x⟩:Mv))))∧(ml2.length≤4*t+1+k)∧St 43 (fun _=>False) W a w [(0, .pointer (some ⟨g,0,none⟩)),(3,vm2),(4, .int .i64 ((t:Nat):Int)),(11, .int .i64 ((thr.l.length:Nat):Int)),(12, .int .i64 ((t:Nat):Int)),(28,rl.v),(29, .int .i64 ((rl.l.length:Nat):Int)),(30, .int .i64 ((k:Nat):Int))] [.own 3 rl, .own 179 (⟨v28, [(⟨((t:Nat):Int),(-1)⟩:Mv)]⟩:Ls Mv), .rblk g 173 [.iface M.T (.pointer (some M.u)), .pointer (some ⟨gp,0,none⟩),thr.v,pv, .bool fell], .rblk gp 25 [code.v,pw, .int .i64 locks, .int .i64 nregs], .at_ code, .at_ thr, .rblk M.g0 182 [words.v,owner.v], .at_ words, .at_ owner, .ro [M.X q], .own 179 (⟨vm2,ml2⟩:Ls Mv)]∧m=rl.l.length-k) ⟨_,0,ml++([(⟨((t:Nat):Int),(-1)⟩:Mv)]),v29,(by omega),(by first|(rw [if_pos (by assumption)];simp)|(rw [if_neg (by rw [show ableF code thr.l (M.qs q) owner.l t=false by assumption];decide)];simp)),(by simp;omega),h34.nf ⟨rfl,rfl,rfl,rfl,rfl,rfl,rfl,rfl,trivial⟩,rfl⟩ ?_
   clear h34
   rintro m33 a33 w33 ⟨k,ml2,vm2,hk,hml2,hmn2,h33,hm33⟩
   refine gG h33<|sG (oltN _ _ rfl<|.nl)<|gK fun _ k36=>gcd rfl (fun hb37 hp37=> ?_) fun hb37 hp37=> ?_;clear h33
   ·skip
    refine gS<|hK k36<|gK fun _ k38=>gB<|sG (oxN sl_23 ti_3 (aO 0 rfl) _ om9 rfl<|olI ti_3 (aO 0 rfl) om9 rfl<|oM 1 rfl<|.nl)<|gL<|gRn (oM 3 rfl<|oV (r_build (cs:= [.int .i64 ((t:Nat):Int), .int .i64 (nth rl.l k)]) rfl rfl (by kernel_rfl)) rfl<|.nl)<|gE1 (fun _ _ h_=>x_lit (n:=1) (cs:= [.int .i64 ((t:Nat):Int), .int .i64 (nth rl.l k)]) ([(⟨((t:Nat):Int),nth rl.l k⟩:Mv)]:List Mv) h_ sl_175 ti_179 rfl rfl rfl (by decide) rfl (by kernel_rfl) rfl (fun q hq w h=>Flat.inner _ _) (fun q hq b hb=>(Flat.on _ _ hb).elim) rfl rfl) rfl fun v40=>gE1 (fun _ _ h_=>x_app (r:=11) (rm:=0) (s:=(⟨vm2,ml2⟩:Ls Mv)) (m:=(⟨v40, [(⟨((t:Nat):Int),nth rl.l k⟩:Mv)]⟩:Ls Mv)) h_ sl_175 ti_179 rfl rfl rfl rfl rfl rfl rfl (fun w h=>(h.own 0 rfl)) (fun b hb=>own_on (h_.sh.ok _ (List.mem_of_getElem? (i:=0) rfl)) hb) (fun q hq b hb=>⟨q,hq,hb⟩) rfl rfl rfl inferInstance (show (ml2.length+([(⟨((t:Nat):Int),nth rl.l k⟩:Mv)]).length)*16≤140737488355328∧ml2.length+([(⟨((t:Nat):Int),nth rl.l k⟩:Mv)]).length≤140737488355328 from om9) rfl rfl) rfl fun v41=>gRn (oM 1 rfl<|.nl)<|nK k38<|gL<|gRn (oadN _ 1 om9 rfl<|oM 1 rfl<|.nl)<|nN<|fun a42 w42 h42=>x_again ⟨_, ?_,k+1,ml2++([(⟨((t:Nat):Int),nth rl.l k⟩:Mv)]),v41, ?_, ?_, ?_,h42.nrm ⟨rfl,rfl,rfl,rfl,rfl,rfl,rfl,rfl,trivial⟩ [1,2,3,4,5,6,7,8,9,10,11] rfl,rfl⟩
    · rw [hm33];first|omega|(simp only [lens9];omega)
    · omega
    · rw [take_succ_nth _ _ (by omega),List.map_append,hml2];simp only [List.append_assoc,List.map_cons,List.map_nil]
    · first|omega|(simp;omega)
   refine gX<|hK k22<|gL<|gRn (oadN _ 1 om9 rfl<|oM 1 rfl<|.nl)<|nN<|fun a43 w43 h43=>x_again ⟨_, ?_,t+1,ml2,vm2, ?_, ?_, ?_,h43.nrm ⟨rfl,rfl,rfl,rfl,trivial⟩ [2,3,4,5,6,7,8,9,10] rfl,rfl⟩
   · rw [hm16];first|omega|(simp only [lens9];omega)
   · omega
   · rw [movesF_succ,←hml,movF_eq hrl,hml2,List.take_of_length_le (by omega)]
   · omega
  refine gS<|hK k24<|sK fun _ k44=>gRn (oM 1 rfl<|onf fl_173_0 rfl<|olR 0 ti_97 rfl rfl<|oM 1 rfl<|.nl)<|gC (fun _ _ h_=>x_inv2 h_ rfl rfl rfl rfl rfl (hM.ready _ words owner q t ⟨h_.sh.rblk 4 rfl,h_.sh.at 5 rfl,h_.sh.at 6 rfl,(h_.sh.ok _ (List.mem_of_getElem? (i:=7) rfl)) _ (List.mem_singleton.2 rfl)⟩ (by omega) (hw3 t (by omega)))) rfl<|?_
  rintro _ _ w45 ⟨rl,rfl,hrl,hs45⟩
  refine gWk hs45 rfl<|gU<|gNl (aO 0 rfl) fun hl46=>gRn (oln sl_23 (aO 0 rfl) rfl<|oM 1 rfl<|.nl)<|nK k44<|gB<|?_;clear hs45
  have hwt:=hw3 t (by omega)
  have hrn:rl.l.length≤3:=by rw [hrl,List.length_map];exact Nat.le_trans (List.length_filter_le _ _) (by simpa using hwt)
  intro a48 w48 h48
  refine x_loop (fun m a w=>∃(k:Nat) (ml2:List Mv) (vm2:Value),(k≤rl.l.length)∧(ml2=ml++((if ableF code thr.l (M.qs q) owner.l t=true then [⟨(t:Int),-1⟩] else [])++(rl.l.take k).map (fun x=>(⟨(t:Int),x⟩:Mv))))∧(ml2.length≤4*t+1+k)∧St 43 (fun _=>False) W a w [(0, .pointer (some ⟨g,0,none⟩)),(3,vm2),(4, .int .i64 ((t:Nat):Int)),(11, .int .i64 ((thr.l.length:Nat):Int)),(12, .int .i64 ((t:Nat):Int)),(28,rl.v),(29, .int .i64 ((rl.l.length:Nat):Int)),(30, .int .i64 ((k:Nat):Int))] [.own 3 rl, .rblk g 173 [.iface M.T (.pointer (some M.u)), .pointer (some ⟨gp,0,none⟩),thr.v,pv, .bool fell], .rblk gp 25 [code.v,pw, .int .i64 locks, .int .i64 nregs], .at_ code, .at_ thr, .rblk M.g0 182 [words.v,owner.v], .at_ words, .at_ owner, .ro [M.X q], .own 179 (⟨vm2,ml2⟩:Ls Mv)]∧m=rl.l.length-k) ⟨_,0,ml,vm,(by omega),(by first|(rw [if_pos (by assumption)];simp)|(rw [if_neg (by rw [show ableF code thr.l (M.qs q) owner.l t=false by assumption];decide)];simp)),(by simp;omega),h48.nf ⟨rfl,rfl,rfl,rfl,rfl,rfl,rfl,rfl,trivial⟩,rfl⟩ ?_
  clear h48
  rintro m47 a47 w47 ⟨k,ml2,vm2,hk,hml2,hmn2,h47,hm47⟩
  refine gG h47<|sG (oltN _ _ rfl<|.nl)<|gK fun _ k50=>gcd rfl (fun hb51 hp51=> ?_) fun hb51 hp51=> ?_;clear h47
  ·skip
   refine gS<|hK k50<|gK fun _ k52=>gB<|sG (oxN sl_23 ti_3 (aO 0 rfl) _ om9 rfl<|olI ti_3 (aO 0 rfl) om9 rfl<|oM 1 rfl<|.nl)<|gL<|gRn (oM 3 rfl<|oV (r_build (cs:= [.int .i64 ((t:Nat):Int), .int .i64 (nth rl.l k)]) rfl rfl (by kernel_rfl)) rfl<|.nl)<|gE1 (fun _ _ h_=>x_lit (n:=1) (cs:= [.int .i64 ((t:Nat):Int), .int .i64 (nth rl.l k)]) ([(⟨((t:Nat):Int),nth rl.l k⟩:Mv)]:List Mv) h_ sl_175 ti_179 rfl rfl rfl (by decide) rfl (by kernel_rfl) rfl (fun q hq w h=>Flat.inner _ _) (fun q hq b hb=>(Flat.on _ _ hb).elim) rfl rfl) rfl fun v54=>gE1 (fun _ _ h_=>x_app (r:=10) (rm:=0) (s:=(⟨vm2,ml2⟩:Ls Mv)) (m:=(⟨v54, [(⟨((t:Nat):Int),nth rl.l k⟩:Mv)]⟩:Ls Mv)) h_ sl_175 ti_179 rfl rfl rfl rfl rfl rfl rfl (fun w h=>(h.own 0 rfl)) (fun b hb=>own_on (h_.sh.ok _ (List.mem_of_getElem? (i:=0) rfl)) hb) (fun q hq b hb=>⟨q,hq,hb⟩) rfl rfl rfl inferInstance (show (ml2.length+([(⟨((t:Nat):Int),nth rl.l k⟩:Mv)]).length)*16≤140737488355328∧ml2.length+([(⟨((t:Nat):Int),nth rl.l k⟩:Mv)]).length≤140737488355328 from om9) rfl rfl) rfl fun v55=>gRn (oM 1 rfl<|.nl)<|nK k52<|gL<|gRn (oadN _ 1 om9 rfl<|oM 1 rfl<|.nl)<|nN<|fun a56 w56 h56=>x_again ⟨_, ?_,k+1,ml2++([(⟨((t:Nat):Int),nth rl.l k⟩:Mv)]),v55, ?_, ?_, ?_,h56.nrm ⟨rfl,rfl,rfl,rfl,rfl,rfl,rfl,rfl,trivial⟩ [1,2,3,4,5,6,7,8,9,10] rfl,rfl⟩
   · rw [hm47];first|omega|(simp only [lens9];omega)
   · omega
   · rw [take_succ_nth _ _ (by omega),List.map_append,hml2];simp only [List.append_assoc,List.map_cons,List.map_nil]
   · first|omega|(simp;omega)
  refine gX<|hK k22<|gL<|gRn (oadN _ 1 om9 rfl<|oM 1 rfl<|.nl)<|nN<|fun a57 w57 h57=>x_again ⟨_, ?_,t+1,ml2,vm2, ?_, ?_, ?_,h57.nrm ⟨rfl,rfl,rfl,rfl,trivial⟩ [1,2,3,4,5,6,7,8,9] rfl,rfl⟩
  · rw [hm16];first|omega|(simp only [lens9];omega)
  · omega
  · rw [movesF_succ,←hml,movF_eq hrl,hml2,List.take_of_length_le (by omega)]
  · omega
 refine gX<|hK k13<|sG (oM 2 rfl<|.nl)<|gR<|fun a59 w59 h59=>x_ret1 (fn:=Tryz.f121) (t:=2) rfl h59 rfl<|⟨⟨vm,ml⟩,rfl, ?_,(h59.sh.sel [8] rfl)⟩
 rw [←show t=code.l.length by omega];exact hml
theorem pended_c (M:MemS)(g gp:Nat)(code:Ls (Ls Ins))(thr:Ls ThQ)(words owner:Ls Int)(q:M.σ)(pw pv:Value)(locks nregs:Int)(fell:Bool)(W:World)(hM:MemI Tryz.prog 182 3 M)(hB:Blk W g 173 #[.iface M.T (.pointer (some M.u)), .pointer (some ⟨gp,0,none⟩),thr.v,pv, .bool fell])(hP:Blk W gp 25 #[code.v,pw, .int .i64 locks, .int .i64 nregs])(h_code:code.At W)(h_thr:thr.At W)(hR:MemRd 182 M W words owner q)(hql:(M.qs q).length=code.l.length)(hw3:∀t,t<code.l.length→(nth (M.qs q) t).length≤3)(htl:thr.l.length=code.l.length)(hpc:∀t,t<code.l.length→0≤(nth thr.l t).pc∧(nth thr.l t).pc≤(nth code.l t).l.length)(hcl:code.l.length≤4):
    Rets Tryz.prog 122 [.pointer (some ⟨g,0,none⟩)] W (fun v w' =>v= .bool (endedF code thr.l (M.qs q))∧Sh0 W w' []):=by
 refine gen Tryz.func122 Tryz.ntmps122 (Sh0.ext (by intro A hA;simp only [List.mem_cons,List.not_mem_nil,or_false] at hA;rcases hA with rfl|rfl|rfl|rfl|rfl|rfl|rfl|rfl;exact hB;exact hP;exact h_code;exact h_thr;exact hR.blk;exact hR.wa;exact hR.oa;exact (fun A hA=>by obtain rfl:=List.mem_singleton.1 hA;exact hR.x)) (by intro A hA b hb;simp only [List.mem_cons,List.not_mem_nil,or_false] at hA;rcases hA with rfl|rfl|rfl|rfl|rfl|rfl|rfl|rfl<;>exact hb):Sh (fun _=>False) W W [.rblk g 173 [.iface M.T (.pointer (some M.u)), .pointer (some ⟨gp,0,none⟩),thr.v,pv, .bool fell], .rblk gp 25 [code.v,pw, .int .i64 locks, .int .i64 nregs], .at_ code, .at_ thr, .rblk M.g0 182 [words.v,owner.v], .at_ words, .at_ owner, .ro [M.X q]]) rfl fun a10 h10=>gG h10<|sG (oM 1 rfl<|.nl)<|gK fun _ k12=>sK fun _ k13=>gNl (aA 3 rfl) fun hl14=>gRn (oM 1 rfl<|onf fl_173_2 rfl<|olR 0 ti_171 rfl rfl<|oln sl_171 (aA 3 rfl) rfl<|oM 1 rfl<|.nl)<|nK k13<|gB<|fun a16 w16 h16=>x_loop (fun m a w=>∃(t:Nat),(t≤thr.l.length)∧(∀j,j<t→endF2 code thr.l (M.qs q) j=true)∧St 31 (fun _=>False) W a w [(0, .pointer (some ⟨g,0,none⟩)),(10, .int .i64 ((thr.l.length:Nat):Int)),(11, .int .i64 ((t:Nat):Int))] [.rblk g 173 [.iface M.T (.pointer (some M.u)), .pointer (some ⟨gp,0,none⟩),thr.v,pv, .bool fell], .rblk gp 25 [code.v,pw, .int .i64 locks, .int .i64 nregs], .at_ code, .at_ thr, .rblk M.g0 182 [words.v,owner.v], .at_ words, .at_ owner, .ro [M.X q]]∧m=thr.l.length-t) ⟨_,0,(by omega),(fun j hj=>absurd hj (by omega)),h16.nf ⟨rfl,rfl,rfl,trivial⟩,rfl⟩ ?_;clear h10
 clear h16
 rintro m15 a15 w15 ⟨t,ht,hall,h15,hm15⟩
 refine gG h15<|sG (oltN _ _ rfl<|.nl)<|gK fun _ k18=>gcd rfl (fun hb19 hp19=> ?_) fun hb19 hp19=> ?_;clear h15
 ·skip
  refine gS<|hK k18<|gK fun _ k20=>gB<|sG (oM 2 rfl<|.nl)<|?_
  have hpct:=hpc t (by omega)
  refine sK fun _ k22=>gRn (oM 2 rfl<|.nl)<|fun a24 w24 h24=>wl_ex (x_call h24 bd_128 rfl rfl rfl rfl rfl (pnext_c M g gp code thr words owner q _ _ _ _ _ t _ hM (h24.sh.rblk 0 rfl) (h24.sh.rblk 1 rfl) (h24.sh.at 2 rfl) (h24.sh.at 3 rfl) ⟨h24.sh.rblk 4 rfl,h24.sh.at 5 rfl,h24.sh.at 6 rfl,(h24.sh.ok _ (List.mem_of_getElem? (i:=7) rfl)) _ (List.mem_singleton.2 rfl)⟩ (by omega) (by omega) (by omega))) (wanted_none rfl _) ?_
  rintro a25 w25 ⟨_,⟨hv25,hs25⟩,hf25⟩
  subst hv25
  have h25:St 31 (fun _=>False) W a25 w25 _ _:=⟨hf25,h24.sh.call0 hs25⟩
  clear hf25 hs25
  clear h24
  refine gG h25<|gRn (oM 1 rfl<|oxt rfl<|oxt rfl<|.nl)<|gal ti_32 rfl fun b26=>gsw 0 ti_32 rfl rfl rfl<|gRn (oM 1 rfl<|.nl)<|nK k22<|sK fun _ k28=>gRn (oM 2 rfl<|.nl)<|?_;clear h25
  rcases dsp ((nth thr.l t).pc<((nth code.l t).l.length:Int)) with ⟨hb29,hp29⟩|⟨hb29,hp29⟩
  ·skip
   refine gRn (oKs 7 hb29 rfl rfl<|opT hb29 rfl<|.nl)<|nK k28<|gcT rfl rfl<|sG (oM 1 rfl<|.nl)<|gF [2] rfl<|gR<|uB<|uT<|uT<|uB<|uT<|fun a31 w31 h31=>x_ret1 (fn:=Tryz.f122) (t:=2) rfl h31 rfl<|⟨?_,(h31.sh.sel [] rfl)⟩
   congr 1
   first|exact (endedF_t (fun j hj=>hall j (by omega))).symm|exact (endedF_f (t:=t) (by omega) (by first|exact .inl (by omega)|exact .inr (by omega))).symm
  refine gRn (oG hb29 (r_move rfl rfl) rfl<|oG hb29 (r_nil rfl rfl) rfl<|oG hb29 (r_fieldB (r:=0) fl_173_0 rfl rfl rfl) rfl<|oG hb29 (r_ldbR ti_97 rfl rfl (fun w h=>h.rblk 1 rfl) rfl) rfl<|oG hb29 (r_move rfl rfl) rfl<|.nl)<|fun a32 w32 h32=>wl_ex (x_inv2 h32 rfl rfl rfl rfl rfl (hM.waits _ words owner q t ⟨h32.sh.rblk 5 rfl,h32.sh.at 6 rfl,h32.sh.at 7 rfl,(h32.sh.ok _ (List.mem_of_getElem? (i:=8) rfl)) _ (List.mem_singleton.2 rfl)⟩ (by omega) (hw3 t (by omega)))) (wanted_yes h32.fr rfl rfl rfl rfl hb29) ?_
  rintro a33 w33 ⟨_,⟨rfl,hs33⟩,hf33⟩
  have h33:St 31 (fun _=>False) W a33 w33 _ _:=⟨hf33,h32.sh.call0 hs33⟩
  clear hf33 hs33
  clear h32
  refine gG h33<|gRn (oG hb29 (r_gtrN (p:=(nth (M.qs q) t).length) (q:=0) rfl rfl rfl) rfl<|opF hb29 rfl<|.nl)<|nK k28<|?_;clear h33
  refine gcd rfl (fun hb34 hp34=> ?_) fun hb34 hp34=> ?_
  ·skip
   refine sG (oM 1 rfl<|.nl)<|gF [2] rfl<|gR<|uB<|uT<|uT<|uB<|uT<|fun a36 w36 h36=>x_ret1 (fn:=Tryz.f122) (t:=2) rfl h36 rfl<|⟨?_,(h36.sh.sel [] rfl)⟩
   congr 1
   first|exact (endedF_t (fun j hj=>hall j (by omega))).symm|exact (endedF_f (t:=t) (by omega) (by first|exact .inl (by omega)|exact .inr (by omega))).symm
  refine gS<|hK k20<|gL<|gRn (oadN _ 1 om9 rfl<|oM 1 rfl<|.nl)<|nN<|fun a37 w37 h37=>x_again ⟨_, ?_,t+1, ?_, ?_,h37.nrm ⟨rfl,rfl,rfl,trivial⟩ [1,2,3,4,5,6,7,8] rfl,rfl⟩
  · rw [hm15];first|omega|(simp only [lens9];omega)
  · omega
  · intro j hj;rcases Nat.lt_or_ge j t with h9|h9;(exact hall j h9);obtain rfl:j=t:=(by omega);exact endF2_t (by omega) (by omega)
 refine gX<|hK k12<|sG (oM 1 rfl<|.nl)<|gR<|fun a39 w39 h39=>x_ret1 (fn:=Tryz.f122) (t:=2) rfl h39 rfl<|⟨?_,(h39.sh.sel [] rfl)⟩
 congr 1
 first|exact (endedF_t (fun j hj=>hall j (by omega))).symm|exact (endedF_f (t:=t) (by omega) (by first|exact .inl (by omega)|exact .inr (by omega))).symm
theorem pbit_c (b:Bool)(W:World):
    Rets Tryz.prog 145 [.bool b] W (fun v w' =>v= .int .i64 (bit b)∧Sh0 W w' []):=by
 refine gen Tryz.func145 Tryz.ntmps145 (Sh0.start _:Sh (fun _=>False) W W []) rfl fun a10 h10=>gG h10<|sG (oM 1 rfl<|.nl)<|gK fun _ k12=>sG (oM 1 rfl<|.nl)<|?_;clear h10
 refine gCb rfl (fun hb14=> ?_) fun hb14=> ?_
 ·skip
  refine sG (oM 1 rfl<|.nl)<|gR<|uT<|fun a16 w16 h16=>x_ret1 (fn:=Tryz.f145) (t:=2) rfl h16 rfl<|⟨?_,(h16.sh.sel [] rfl)⟩
  first|(rw [show b=true by assumption];rfl)|(rw [show b=false by assumption];rfl)
 refine gS<|hK k12<|sG (oM 1 rfl<|.nl)<|gR<|fun a18 w18 h18=>x_ret1 (fn:=Tryz.f145) (t:=2) rfl h18 rfl<|⟨?_,(h18.sh.sel [] rfl)⟩
 first|(rw [show b=true by assumption];rfl)|(rw [show b=false by assumption];rfl)
theorem pwords_c (M:MemS)(g gp:Nat)(code:Ls (Ls Ins))(thr:Ls ThQ)(words owner:Ls Int)(q:M.σ)(pw pv:Value)(locks nregs:Int)(fell:Bool)(W:World)(hM:MemI Tryz.prog 182 3 M)(hB:Blk W g 173 #[.iface M.T (.pointer (some M.u)), .pointer (some ⟨gp,0,none⟩),thr.v,pv, .bool fell])(hP:Blk W gp 25 #[code.v,pw, .int .i64 locks, .int .i64 nregs])(h_code:code.At W)(h_thr:thr.At W)(hR:MemRd 182 M W words owner q)(hwn:words.l.length≤100000):
    Rets Tryz.prog 120 [.pointer (some ⟨g,0,none⟩)] W (fun v w' =>∃s:Ls Int,v=s.v∧s.l=words.l∧Sh0 W w' [.own 3 s]):=by
 refine gen Tryz.func120 Tryz.ntmps120 (Sh0.ext (by intro A hA;simp only [List.mem_cons,List.not_mem_nil,or_false] at hA;rcases hA with rfl|rfl|rfl|rfl|rfl|rfl|rfl|rfl;exact hB;exact hP;exact h_code;exact h_thr;exact hR.blk;exact hR.wa;exact hR.oa;exact (fun A hA=>by obtain rfl:=List.mem_singleton.1 hA;exact hR.x)) (by intro A hA b hb;simp only [List.mem_cons,List.not_mem_nil,or_false] at hA;rcases hA with rfl|rfl|rfl|rfl|rfl|rfl|rfl|rfl<;>exact hb):Sh (fun _=>False) W W [.rblk g 173 [.iface M.T (.pointer (some M.u)), .pointer (some ⟨gp,0,none⟩),thr.v,pv, .bool fell], .rblk gp 25 [code.v,pw, .int .i64 locks, .int .i64 nregs], .at_ code, .at_ thr, .rblk M.g0 182 [words.v,owner.v], .at_ words, .at_ owner, .ro [M.X q]]) rfl fun a10 h10=>gG h10<|sG (oM 1 rfl<|.nl)<|sK fun _ k12=>gRn (oM 1 rfl<|onf fl_173_0 rfl<|olR 0 ti_97 rfl rfl<|.nl)<|gP (fun _ _ h_=>x_inv2 h_ rfl rfl rfl rfl rfl (hM.base _ words owner q ⟨h_.sh.rblk 4 rfl,h_.sh.at 5 rfl,h_.sh.at 6 rfl,(h_.sh.ok _ (List.mem_of_getElem? (i:=7) rfl)) _ (List.mem_singleton.2 rfl)⟩)) rfl<|gRn (onf fl_182_0 rfl<|olR 4 ti_23 rfl rfl<|.nl)<|gC (fun _ _ h_=>xCl h_ bd_44 rfl (cloneI_c words _ (h_.sh.at 5 rfl) (by first|omega|(simp only [lens9];omega)))) rfl<|?_;clear h10
 rintro _ _ w14 ⟨s14,rfl,hs14⟩
 refine gWk hs14 rfl<|gU<|gRn (oM 1 rfl<|.nl)<|nK k12<|gR<|fun a15 w15 h15=> ?_;clear hs14
 refine x_ret1 (fn:=Tryz.f120) (t:=2) rfl h15 rfl ?_
 exact ⟨⟨s14.v,words.l⟩,rfl,rfl,(h15.sh.sel [0] rfl)⟩
theorem pbit_t {b:Bool}(h:b=true)(W:World):Rets Tryz.prog 145 [.bool b] W (fun v w' =>v= .int .i64 1∧Sh0 W w' []):=by subst h;exact pbit_c true W
theorem pbit_f {b:Bool}(h:b=false)(W:World):Rets Tryz.prog 145 [.bool b] W (fun v w' =>v= .int .i64 0∧Sh0 W w' []):=by subst h;exact pbit_c false W
def mstR (rows:List ThR)(qs:List (List Wt))(words owner prints:List Int):MSt:=⟨(List.range rows.length).map fun t=>⟨(nth rows t).pc,(nth rows t).regs.l,nth qs t⟩,words,owner,prints⟩
section
variable {code:Ls (Ls Ins)}{words0:Ls Int}{Lk R:Nat}{m:Int}{rows:List ThR}{qs:List (List Wt)}{words owner prints script:List Int}{nx k t:Nat}
theorem mstR_len :(mstR rows qs words owner prints).ths.length=rows.length:=by simp [mstR]
theorem nth_range {n i:Nat}(h:i<n):nth (List.range n) i=i:=by simp [nth,h]
theorem mstR_th (ht:t<rows.length):nth (mstR rows qs words owner prints).ths t=⟨(nth rows t).pc,(nth rows t).regs.l,nth qs t⟩:=by
 unfold mstR
 show nth ((List.range rows.length).map _) t=_
 rw [nth_map' _ _ _ (by simpa using ht),nth_range ht]
theorem mstR_view (ht:t<rows.length):(mstR rows qs words owner prints).view t=⟨(nth rows t).pc,(nth rows t).regs.l,nth qs t,words,owner,prints,false⟩:=by
 unfold MSt.view
 rw [mstR_th ht]
 rfl
theorem toQ_at (ht:t<rows.length):nth (rows.map ThR.toQ) t=(nth rows t).toQ:=nth_map' _ _ _ ht
theorem movesF_eq (hl:rows.length=code.l.length):movesF m code (rows.map ThR.toQ) qs owner code.l.length=movesV (pgN code words0 Lk R) m (mstR rows qs words owner prints):=by
 unfold movesF movesV
 rw [pgN_len]
 refine flatMap_congr' fun t ht=> ?_
 have ht' :t<code.l.length:=by simpa using ht
 rw [pgN_code ht',mstR_view (by omega)]
 unfold movF
 rw [toQ_at (by omega)]
 rfl
theorem endedF_eq (hl:rows.length=code.l.length):endedF code (rows.map ThR.toQ) qs=ended (pgN code words0 Lk R) (mstR rows qs words owner prints):=by
 unfold endedF ended
 rw [pgN_len]
 refine all_congr' fun t ht=> ?_
 have ht' :t<code.l.length:=by simpa using ht
 rw [pgN_code ht',mstR_th (by omega)]
 unfold endF2
 rw [toQ_at (by omega)]
 rfl
theorem mstR_put {x:ThR}{y:TS}(ht:t<rows.length)(hq:t<qs.length)(e1:x.pc=y.pc)(e2:x.regs.l=y.regs):mstR (rows.set t x) (qs.set t y.wait) y.words y.owner y.prints=(mstR rows qs words owner prints).putT t y:=by
 have key:(mstR (rows.set t x) (qs.set t y.wait) y.words y.owner y.prints).ths=((mstR rows qs words owner prints).putT t y).ths:=by
  refine ext_nth _ _ (by simp [mstR,MSt.putT]) fun i hi=> ?_
  have hi' :i<rows.length:=by simpa [mstR] using hi
  rw [mstR_th (by simpa using hi')]
  show _=nth ((mstR rows qs words owner prints).ths.set t ⟨y.pc,y.regs,y.wait⟩) i
  rw [nth_set0,nth_set0,nth_set0,mstR_len]
  by_cases e:t=i
  ·subst e
   rw [if_pos ⟨rfl,ht⟩,if_pos ⟨rfl,hq⟩,if_pos ⟨rfl,ht⟩,e1,e2]
  ·rw [if_neg (fun h=>e h.1),if_neg (fun h=>e h.1),if_neg (fun h=>e h.1),mstR_th hi']
 show MSt.mk _ _ _ _=MSt.mk _ _ _ _
 have h2:((List.range (rows.set t x).length).map fun u=>(⟨(nth (rows.set t x) u).pc,(nth (rows.set t x) u).regs.l,nth (qs.set t y.wait) u⟩:Th))=(mstR rows qs words owner prints).ths.set t ⟨y.pc,y.regs,y.wait⟩:=key
 rw [h2]
theorem doT_pr {n k:Nat}{c:List Ins}{x:TS} :(doT m n c k x).prints.length≤x.prints.length+2:=by
 unfold doT
 split
 ·show x.prints.length≤_
  omega
 ·refine execT_elim (Q:=fun y=>y.prints.length≤x.prints.length+2) (x:= { x with pc:=x.pc+1 }) ?_ (fun _ _=> ?_) (fun w _=> ?_) ?_ (fun _ _=> ?_) (fun _=> ?_) (fun _=> ?_) (fun _=> ?_)
  all_goals first
   |(show x.prints.length≤_;omega)
   |(show (x.prints++_).length≤_;simp)
   |skip
  unfold TS.store
  split<;>(show x.prints.length≤_;omega)
structure GoX (code:Ls (Ls Ins))(words0:Ls Int)(Lk R:Nat)(m:Int)(script:List Int)(nx k:Nat)(rows:List ThR)(qs:List (List Wt))(words owner prints:List Int):Prop where
 go:GoI (pgN code words0 Lk R) m script nx (mstR rows qs words owner prints) k
 rl:rows.length=code.l.length
 ql:qs.length=code.l.length
theorem GoX.start (hr:rows.map ThR.th=List.replicate code.l.length ⟨0,List.replicate R 0, []⟩)(hq:qs=List.replicate code.l.length [])(hw:words=words0.l)(ho:owner=List.replicate Lk (-1)):GoX code words0 Lk R m script 0 0 rows qs words owner []:=by
 have hl:rows.length=code.l.length:=by simpa using congrArg List.length hr
 have e:mstR rows qs words owner []=begin_ (pgN code words0 Lk R):=by
  unfold mstR begin_
  have h1:((List.range rows.length).map fun t=>(⟨(nth rows t).pc,(nth rows t).regs.l,nth qs t⟩:Th))=(pgN code words0 Lk R).code.map fun _=>⟨0,List.replicate (pgN code words0 Lk R).regs.toNat 0, []⟩:=by
   refine ext_nth _ _ (by simp [hl,pgN,pgOf]) fun i hi=> ?_
   have hi' :i<rows.length:=by simpa using hi
   have h2:=congrArg (fun l=>nth l i) hr
   simp only [nth_map' ThR.th _ _ hi',nth_replicate _ _ _ (show i<code.l.length by omega)] at h2
   rw [nth_map' _ _ _ (by simpa using hi'),nth_range hi',nth_map' _ _ _ (by rw [pgN_len];omega),hq,nth_replicate _ _ _ (by omega)]
   have h3:=congrArg Th.pc h2
   have h4:=congrArg Th.regs h2
   simp only [ThR.th] at h3 h4
   rw [h3,h4]
   simp [pgN,pgOf]
  rw [h1,hw,ho]
  simp [pgN,pgOf]
 refine ⟨by rw [e];exact goI_start,hl,by rw [hq];simp⟩
structure GoF (code:Ls (Ls Ins))(words0:Ls Int)(Lk R:Nat)(rows:List ThR)(qs:List (List Wt))(words owner:List Int):Prop where
 rl:rows.length=code.l.length
 hpc:∀t,t<code.l.length→0≤(nth (rows.map ThR.toQ) t).pc∧(nth (rows.map ThR.toQ) t).pc≤(nth code.l t).l.length
 hw3:∀t,t<code.l.length→(nth qs t).length≤3
 hlk:∀t,t<code.l.length→∀i,i<(nth code.l t).l.length→(nth (nth code.l t).l i).op=17→0≤(nth (nth code.l t).l i).a∧(nth (nth code.l t).l i).a<owner.length
 hge:∀v∈owner,-1≤v
 hwl:words.length=words0.l.length
 hol:owner.length=Lk
 hreg:∀t,t<code.l.length→(nth rows t).regs.l.length=R
 hwt:∀t,t<code.l.length→∀j,j<(nth qs t).length→if (nth (nth qs t) j).lock=true then 0≤(nth (nth qs t) j).wh∧(nth (nth qs t) j).wh<owner.length else 0≤(nth (nth qs t) j).wh∧(nth (nth qs t) j).wh<words.length
 hwh0:∀t,t<code.l.length→∀x∈nth qs t,x.lock=true→x.what=0
theorem GoX.len (hc:code.l.length≤4)(hw3:∀t,t<code.l.length→(nth qs t).length≤3)(n:Nat)(hn:n≤code.l.length):(movesF m code (rows.map ThR.toQ) qs owner n).length≤4*n:=by
 induction n with
 |zero=>simp [movesF]
 |succ n ih=>
  rw [movesF_succ,List.length_append]
  have h1:=ih (by omega)
  have h2:=hw3 n (by omega)
  have h3:=movF_len (m:=m) (code:=code) (thr:=rows.map ThR.toQ) (q:=qs) (owner:=owner) (t:=n)
  omega
theorem GoX.pick (h:GoX code words0 Lk R m script nx k rows qs words owner prints){ml:List Mv}(hml:ml=movesF m code (rows.map ThR.toQ) qs owner code.l.length)(hl:ml.length≠0)(h3:∀t,t<code.l.length→(nth qs t).length≤3):
  ∃t j,t<code.l.length∧mvOK m (nth code.l t).l ⟨(nth rows t).pc,(nth rows t).regs.l,nth qs t,words,owner,prints,false⟩ j=true∧j<8∧nth ml (pickM script nx ml.length)=⟨(t:Int),(j:Int)-1⟩∧mvM (pgN code words0 Lk R) m (mstR rows qs words owner prints) script nx=8*t+j:=by
 have e:ml=movesV (pgN code words0 Lk R) m (mstR rows qs words owner prints):=by rw [hml];exact movesF_eq h.rl
 have el:ml.length=(moves (pgN code words0 Lk R) m (mstR rows qs words owner prints)).length:=by rw [e,movesV_len]
 have hp:=pick_lt script nx hl
 obtain ⟨t,j,h1,h2,h4,h5⟩:=movesV_at (p:=pgN code words0 Lk R) (m:=m) (s:=mstR rows qs words owner prints) (i:=pickM script nx ml.length) (by rw [←e];exact hp)
 rw [pgN_len] at h1
 rw [pgN_code h1,mstR_view (by rw [h.rl];exact h1)] at h2
 refine ⟨t,j,h1,h2, ?_,by rw [e] at h4⊢;exact h4, ?_⟩
 ·rcases mvOK_k h2 with ⟨h9,_⟩|⟨_,h9,_⟩
  ·omega
  ·have:=h3 t h1
   change j≤(nth qs t).length at h9
   omega
 ·unfold mvM
  rw [←el,h5]
  omega
theorem GoX.next (h:GoX code words0 Lk R m script nx k rows qs words owner prints)(he:endedF code (rows.map ThR.toQ) qs=false){l:Nat}(hl:l=(movesF m code (rows.map ThR.toQ) qs owner code.l.length).length)(hl0:l≠0)(hk:k≠5000){t j:Nat}(ht:t<code.l.length)(hj:j<8)(hm:mvOK m (nth code.l t).l ⟨(nth rows t).pc,(nth rows t).regs.l,nth qs t,words,owner,prints,false⟩ j=true)
  (e:mvM (pgN code words0 Lk R) m (mstR rows qs words owner prints) script nx=8*t+j) {y:TS} (hy:y=doT m t (nth code.l t).l j ⟨(nth rows t).pc,(nth rows t).regs.l,nth qs t,words,owner,prints,false⟩) {x:ThR} (e1:x.pc=y.pc) (e2:x.regs.l=y.regs):
  (y.fell=true→runM (pgN code words0 Lk R) m script=⟨1,k+1,y.words,y.prints⟩)∧(y.fell=false→GoX code words0 Lk R m script (nextM script nx l) (k+1) (rows.set t x) (qs.set t y.wait) y.words y.owner y.prints):=by
 have hr:t<rows.length:=by rw [h.rl];exact ht
 have hst:stepT (pgN code words0 Lk R) m (mstR rows qs words owner prints) t j=y:=by
  unfold stepT
  rw [pgN_code ht,mstR_view hr,hy]
 have hl' :l=(moves (pgN code words0 Lk R) m (mstR rows qs words owner prints)).length:=by
  rw [hl,movesF_eq (words0:=words0) (Lk:=Lk) (R:=R) (words:=words) (prints:=prints) h.rl,movesV_len]
 obtain ⟨a,b⟩:=goI_next h.go (by rw [←endedF_eq h.rl];exact he) (by rw [←hl'];exact hl0) hk hj e (by rw [pgN_len];exact ht) (by rw [pgN_code ht,mstR_view hr];exact hm) (by rw [hst,hy];exact doT_pr)
 rw [hst] at a b
 refine ⟨a,fun hf=> ?_⟩
 have h2:=b hf
 rw [←hl',←mstR_put hr (by rw [h.ql];exact ht) e1 e2] at h2
 exact ⟨h2,by simpa using h.rl,by simpa using h.ql⟩
theorem GoX.ended (h:GoX code words0 Lk R m script nx k rows qs words owner prints)(he:endedF code (rows.map ThR.toQ) qs=true):runM (pgN code words0 Lk R) m script=⟨0,k,words,prints⟩:=goI_ended h.go (by rw [←endedF_eq h.rl];exact he)
theorem GoX.stuck (h:GoX code words0 Lk R m script nx k rows qs words owner prints)(he:endedF code (rows.map ThR.toQ) qs=false)(hl:(movesF m code (rows.map ThR.toQ) qs owner code.l.length).length=0):runM (pgN code words0 Lk R) m script=⟨2,k,words,prints⟩:=
 goI_stuck h.go (by rw [←endedF_eq h.rl];exact he) (by rw [←movesV_len,←movesF_eq h.rl];exact hl)
theorem GoX.out (h:GoX code words0 Lk R m script nx k rows qs words owner prints)(he:endedF code (rows.map ThR.toQ) qs=false)(hl:(movesF m code (rows.map ThR.toQ) qs owner code.l.length).length≠0)(hk:k=5000):runM (pgN code words0 Lk R) m script=⟨3,k,words,prints⟩:=
 goI_out h.go (by rw [←endedF_eq h.rl];exact he) (by rw [←movesV_len,←movesF_eq h.rl];exact hl) hk
end
def dg (d:Nat):Nat:=if d<10 then 48+d else 87+d
def undg (b:Nat):Nat:=if b<58 then b-48 else b-87
def digs (n:Nat):List Nat:=if h:n<36 then [dg n] else digs (n/36)++ [dg (n%36)]
termination_by n
decreasing_by omega
def num36 (n:Int):List Nat:=if n<0 then 45::digs n.natAbs else digs n.natAbs
def putB (l:List Int):List Nat:=l.flatMap (fun n=>num36 n++ [32])++ [59]
def valD (l:List Nat):Nat:=l.foldl (fun a b=>a*36+undg b) 0
theorem digs_lo {n:Nat}(h:n<36):digs n= [dg n]:=by rw [digs,dif_pos h]
theorem digs_hi {n:Nat}(h:¬n<36):digs n=digs (n/36)++ [dg (n%36)]:=by rw [digs,dif_neg h]
theorem undg_dg {d:Nat}(h:d<36):undg (dg d)=d:=by
 unfold dg undg
 split<;>split<;>omega
theorem valD_digs (n:Nat):valD (digs n)=n:=by
 induction n using Nat.strongRecOn with
 |_ n ih=>
  by_cases h:n<36
  ·rw [digs_lo h];simp [valD,undg_dg h]
  ·rw [digs_hi h]
   unfold valD
   rw [List.foldl_append]
   have:=ih (n/36) (by omega)
   unfold valD at this
   rw [this]
   simp only [List.foldl_cons,List.foldl_nil]
   rw [undg_dg (by omega)]
   omega
theorem digs_ok (n:Nat):digs n≠ []∧∀b∈digs n,b≠32∧b≠59∧b≠45∧b<128:=by
 induction n using Nat.strongRecOn with
 |_ n ih=>
  have hd:∀d,d<36→dg d≠32∧dg d≠59∧dg d≠45∧dg d<128:=by
   intro d hd
   unfold dg
   split<;>omega
  by_cases h:n<36
  ·rw [digs_lo h]
   refine ⟨by simp,fun b hb=> ?_⟩
   obtain rfl:b=dg n:=by simpa using hb
   exact hd n h
  ·rw [digs_hi h]
   refine ⟨by simp,fun b hb=> ?_⟩
   rcases List.mem_append.1 hb with hb|hb
   ·exact (ih (n/36) (by omega)).2 b hb
   ·obtain rfl:b=dg (n%36):=by simpa using hb
    exact hd _ (by omega)
theorem num36_ok (n:Int):num36 n≠ []∧∀b∈num36 n,b≠32∧b≠59∧b<128:=by
 have h:=digs_ok n.natAbs
 unfold num36
 split
 ·refine ⟨by simp,fun b hb=> ?_⟩
  rcases List.mem_cons.1 hb with rfl|hb
  ·decide
  ·exact ⟨(h.2 b hb).1,(h.2 b hb).2.1,(h.2 b hb).2.2.2⟩
 ·exact ⟨h.1,fun b hb=>⟨(h.2 b hb).1,(h.2 b hb).2.1,(h.2 b hb).2.2.2⟩⟩
theorem num36_inj {a b:Int}(h:num36 a=num36 b):a=b:=by
 unfold num36 at h
 have hne:∀n (l:List Nat),digs n=45::l→False:=fun n l e=>by
  have:=(digs_ok n).2 45 (by rw [e];simp)
  exact this.2.2.1 rfl
 split at h<;>split at h
 ·have:=congrArg valD (List.cons.inj h).2
  rw [valD_digs,valD_digs] at this
  omega
 ·exact (hne _ _ h.symm).elim
 ·exact (hne _ _ h).elim
 ·have:=congrArg valD h
  rw [valD_digs,valD_digs] at this
  omega
theorem split_at {z:Nat} :∀ {a b r r' :List Nat},(∀x∈a,x≠z)→(∀x∈b,x≠z)→a++z::r=b++z::r' →a=b∧r=r'
 | [], [],r,r',_,_,h=>⟨rfl,(List.cons.inj h).2⟩
 | [],y::b,r,r',_,h2,h=>((h2 y (by simp)) (List.cons.inj h).1.symm).elim
 |x::a, [],r,r',h1,_,h=>((h1 x (by simp)) (List.cons.inj h).1).elim
 |x::a,y::b,r,r',h1,h2,h=>by
  obtain ⟨e1,e2⟩:=List.cons.inj h
  obtain ⟨e3,e4⟩:=split_at (a:=a) (b:=b) (fun q hq=>h1 q (by simp [hq])) (fun q hq=>h2 q (by simp [hq])) e2
  exact ⟨by rw [e1,e3],e4⟩
theorem putB_inj :∀ {l m:List Int} {r r' :List Nat},putB l++r=putB m++r' →l=m∧r=r'
 | [], [],r,r',h=>⟨rfl,by simpa [putB] using h⟩
 | [],y::m,r,r',h=>by
  exfalso
  obtain ⟨h1,h2⟩:=num36_ok y
  obtain ⟨b,l,e⟩:=List.exists_cons_of_ne_nil h1
  have h3:=h2 b (by rw [e];simp)
  simp only [putB,List.flatMap_nil,List.flatMap_cons,e,List.nil_append,List.cons_append,List.cons.injEq] at h
  exact h3.2.1 h.1.symm
 |x::l, [],r,r',h=>by
  exfalso
  obtain ⟨h1,h2⟩:=num36_ok x
  obtain ⟨b,l',e⟩:=List.exists_cons_of_ne_nil h1
  have h3:=h2 b (by rw [e];simp)
  simp only [putB,List.flatMap_nil,List.flatMap_cons,e,List.nil_append,List.cons_append,List.cons.injEq] at h
  exact h3.2.1 h.1
 |x::l,y::m,r,r',h=>by
  have h' :num36 x++32::(putB l++r)=num36 y++32::(putB m++r'):=by simpa [putB,List.append_assoc] using h
  obtain ⟨e1,e2⟩:=split_at (fun q hq=>((num36_ok x).2 q hq).1) (fun q hq=>((num36_ok y).2 q hq).1) h'
  obtain ⟨e3,e4⟩:=putB_inj e2
  exact ⟨by rw [num36_inj e1,e3],e4⟩
theorem keyB_inj :∀ {L M:List (List Int)},L.flatMap putB=M.flatMap putB→L=M
 | [], [],_=>rfl
 | [],y::M,h=>by simp [putB] at h
 |x::L, [],h=>by simp [putB] at h
 |x::L,y::M,h=>by
  simp only [List.flatMap_cons] at h
  obtain ⟨e1,e2⟩:=putB_inj h
  rw [e1,keyB_inj e2]
theorem putB_lt {l:List Int} :∀b∈putB l,b<128:=by
 intro b hb
 unfold putB at hb
 rcases List.mem_append.1 hb with hb|hb
 ·obtain ⟨n,_,hb⟩:=List.mem_flatMap.1 hb
  rcases List.mem_append.1 hb with hb|hb
  ·exact ((num36_ok n).2 b hb).2.2
  ·obtain rfl:b=32:=by simpa using hb
   decide
 ·obtain rfl:b=59:=by simpa using hb
  decide
def keyLL (tq:List (List Wt)→List (List Int))(s:MSt):List (List Int):=s.ths.flatMap (fun t=> [[t.pc],t.regs])++([s.words,s.owner]++(tq (s.ths.map Th.wait)++ [s.prints]))
def keyB (tq:List (List Wt)→List (List Int))(s:MSt):List Nat:=(keyLL tq s).flatMap putB
def TqOK (tq:List (List Wt)→List (List Int))(Q:List (List Wt)→Prop):Prop:=∀q q' r r',Q q→Q q' →q.length=q'.length→tq q++r=tq q' ++r' →q=q' ∧r=r'
theorem pr_inj :∀ {l m:List Th} {r r' :List (List Int)},l.length=m.length→l.flatMap (fun t=> [[t.pc],t.regs])++r=m.flatMap (fun t=> [[t.pc],t.regs])++r' →l.map (fun t=>(t.pc,t.regs))=m.map (fun t=>(t.pc,t.regs))∧r=r'
 | [], [],r,r',_,h=>⟨rfl,h⟩
 | [],_::_,_,_,hl,_=>by simp at hl
 |_::_, [],_,_,hl,_=>by simp at hl
 |x::l,y::m,r,r',hl,h=>by
  simp only [List.flatMap_cons,List.append_assoc,List.cons_append,List.nil_append,List.cons.injEq] at h
  obtain ⟨⟨e1,_⟩,e2,h2⟩:=h
  obtain ⟨e3,e4⟩:=pr_inj (by simpa using hl) h2
  exact ⟨by rw [List.map_cons,List.map_cons,e3,e1,e2],e4⟩
theorem ths_ext :∀ {l m:List Th},l.map (fun t=>(t.pc,t.regs))=m.map (fun t=>(t.pc,t.regs))→l.map Th.wait=m.map Th.wait→l=m
 | [], [],_,_=>rfl
 | [],_::_,h,_=>by simp at h
 |_::_, [],h,_=>by simp at h
 |x::l,y::m,h1,h2=>by
  simp only [List.map_cons,List.cons.injEq,Prod.mk.injEq] at h1 h2
  rw [ths_ext h1.2 h2.2]
  congr 1
  cases x;cases y
  simp only at h1 h2
  rw [h1.1.1,h1.1.2,h2.1]
theorem keyLL_inj {p:Pg}{tq:List (List Wt)→List (List Int)}{Q:List (List Wt)→Prop}(ht:TqOK tq Q){s s' :MSt}(h:Wf p s)(h' :Wf p s')(hq:Q (s.ths.map Th.wait))(hq' :Q (s'.ths.map Th.wait))(e:keyB tq s=keyB tq s'):s=s' :=by
 have e:=keyB_inj e
 unfold keyLL at e
 have hl:s.ths.length=s'.ths.length:=by rw [h.ths,h'.ths]
 obtain ⟨e1,e2⟩:=pr_inj hl e
 simp only [List.cons_append,List.nil_append,List.cons.injEq] at e2
 obtain ⟨e3,e4,e5⟩:=e2
 obtain ⟨e6,e7⟩:=ht _ _ _ _ hq hq' (by simpa using hl) e5
 have e8:=ths_ext e1 e6
 cases s;cases s'
 simp only at e3 e4 e7 e8
 rw [e8,e3,e4]
 congr 1
 simpa using e7
theorem tq0_ok :TqOK (fun _=> []) (fun q=>∀l∈q,l= []):=by
 intro q q' r r' h h' hl e
 refine ⟨?_,e⟩
 apply List.ext_getElem hl
 intro i h1 h2
 rw [h _ (List.getElem_mem h1),h' _ (List.getElem_mem h2)]
instance : Enc UInt8 where
 sz:=1
 cell x _:= .int .u8 (x.toNat:Int)
 whole x:= .int .u8 (x.toNat:Int)
 agg:=false
 inner _ _:=True
 on _ _:=False
 one _:=⟨rfl,fun _=>rfl⟩
 many h:=by cases h
 keep _ _ _ h _:=h
 lt _ _ _ _ h:=h.elim
instance : Flat UInt8:=⟨fun _ _ h=>h,fun _ _=>trivial⟩
instance : One UInt8:=⟨fun x w _ q hq=>rfl⟩
def by8 (l:List Nat):List UInt8:=l.map UInt8.ofNat
theorem by8_app (l m:List Nat):by8 (l++m)=by8 l++by8 m:=List.map_append
theorem by8_inj :∀ {l m:List Nat},(∀b∈l,b<128)→(∀b∈m,b<128)→by8 l=by8 m→l=m
 | [], [],_,_,_=>rfl
 | [],_::_,_,_,h=>by simp [by8] at h
 |_::_, [],_,_,h=>by simp [by8] at h
 |x::l,y::m,h1,h2,h=>by
  simp only [by8,List.map_cons,List.cons.injEq] at h
  have hx:=h1 x (by simp)
  have hy:=h2 y (by simp)
  have e:=congrArg UInt8.toNat h.1
  simp only [UInt8.toNat_ofNat'] at e
  rw [by8_inj (l:=l) (m:=m) (fun b hb=>h1 b (by simp [hb])) (fun b hb=>h2 b (by simp [hb])) h.2]
  congr 1
  omega
def keyS (tq:List (List Wt)→List (List Int))(s:MSt):ByteArray:=⟨(by8 (keyB tq s)).toArray⟩
theorem keyB_lt {tq:List (List Wt)→List (List Int)}{s:MSt} :∀b∈keyB tq s,b<128:=by
 intro b hb
 obtain ⟨l,_,hb⟩:=List.mem_flatMap.1 hb
 exact putB_lt b hb
theorem keyS_inj {p:Pg}{tq:List (List Wt)→List (List Int)}{Q:List (List Wt)→Prop}(ht:TqOK tq Q){s s' :MSt}(h:Wf p s)(h' :Wf p s')(hq:Q (s.ths.map Th.wait))(hq' :Q (s'.ths.map Th.wait))(e:keyS tq s=keyS tq s'):s=s' :=by
 refine keyLL_inj ht h h' hq hq' (by8_inj keyB_lt keyB_lt ?_)
 have e1:(by8 (keyB tq s)).toArray=(by8 (keyB tq s')).toArray:=congrArg ByteArray.data e
 simpa using e1
section
variable {K:Nat→Prop}{W w:World}{L:List Asn}
theorem Sh.frz {α:Type}[Enc α](x:α)(A:List Asn)(h:Sh K W w (A++L))(hi:Enc.inner x w)(ho:∀b,Enc.on x b→∃B∈A,B.fp b∨B.rd b):Sh K W w (.rd1 x::L):=by
 refine Sh.step (Lp:=A) (Lr:=L) (L' := [.rd1 x]) h (Chg.refl _ _) ?_ ?_ ?_ ?_ (List.pairwise_singleton _ _)
 ·intro B hB;obtain rfl:=List.mem_singleton.1 hB;exact hi
 ·intro B hB b hb;obtain rfl:=List.mem_singleton.1 hB;exact hb.elim
 ·intro B hB b hb;obtain rfl:=List.mem_singleton.1 hB;exact .inl (ho b hb)
 ·intro B hB b hb;obtain rfl:=List.mem_singleton.1 hB;exact hb.elim
end
structure MemF where
 ι:Type
 mem:ι→MemS
 T:TypeId
 m:Int
 tq:List (List Wt)→List (List Int)
 Q:List (List Wt)→Prop
 i0:ι
 q0:(mem i0).σ
structure PSD (F:MemF) where
 gp:Nat
 i:F.ι
 q:(F.mem i).σ
 g:Nat
 vt:Value
 rows:List ThR
 prints:Ls Int
 words:Ls Int
 owner:Ls Int
section
variable {F:MemF}
instance : Inhabited (PSD F):=⟨⟨0,F.i0,F.q0,0, .tuple #[], [],default,default,default⟩⟩
def PSD.M (x:PSD F):MemS:=F.mem x.i
def PSD.A (x:PSD F):List Asn:=
  [.blk x.g 173 [.iface (F.mem x.i).T (.pointer (some (F.mem x.i).u)), .pointer (some ⟨x.gp,0,none⟩),x.vt,x.prints.v, .bool false], .own 189 (⟨x.vt,x.rows.map ThR.toQ⟩:Ls ThQ), .big (regA 3 x.rows), .own 3 x.prints,
   .blk (F.mem x.i).g0 182 [x.words.v,x.owner.v], .own 3 x.words, .own 3 x.owner,(F.mem x.i).X x.q]
def PSD.qs (x:PSD F):List (List Wt):=(F.mem x.i).qs x.q
def PSD.st (x:PSD F):MSt:=mstR x.rows x.qs x.words.l x.owner.l x.prints.l
instance : Enc (PSD F) where
 sz:=1
 cell x _:= .pointer (some ⟨x.g,0,none⟩)
 whole x:= .pointer (some ⟨x.g,0,none⟩)
 agg:=false
 inner x w:=∀A∈x.A,A.ok w
 on x b:=∃A∈x.A,A.fp b∨A.rd b
 one _:=⟨rfl,fun _=>rfl⟩
 many h:=by cases h
 keep x w w' h hb A hA:=A.keep w w' (h A hA) fun b hb' =>hb b ⟨A,hA,hb'⟩
 lt x w h b hb:=by obtain ⟨A,hA,hb⟩:=hb;exact A.lt w (h A hA) b hb
instance : One (PSD F):=⟨fun _ _ _ _ _=>rfl⟩
structure PSD.Rd (x:PSD F)(w:World):Prop where
 blk:Blk w x.g 173 #[.iface (F.mem x.i).T (.pointer (some (F.mem x.i).u)), .pointer (some ⟨x.gp,0,none⟩),x.vt,x.prints.v, .bool false]
 thr:(⟨x.vt,x.rows.map ThR.toQ⟩:Ls ThQ).At w
 row:∀r∈x.rows,r.regs.At w
 prints:x.prints.At w
 mem:MemRd 182 (F.mem x.i) w x.words x.owner x.q
theorem PSD.rd {x:PSD F}{w:World}(h:Enc.inner x w):x.Rd w:=by
 have h:∀A∈x.A,A.ok w:=h
 have a1:=h _ (List.mem_of_getElem? (i:=0) rfl)
 have a2:=h _ (List.mem_of_getElem? (i:=1) rfl)
 have a3:=h _ (List.mem_of_getElem? (i:=2) rfl)
 have a4:=h _ (List.mem_of_getElem? (i:=3) rfl)
 have a5:=h _ (List.mem_of_getElem? (i:=4) rfl)
 have a6:=h _ (List.mem_of_getElem? (i:=5) rfl)
 have a7:=h _ (List.mem_of_getElem? (i:=6) rfl)
 have a8:=h _ (List.mem_of_getElem? (i:=7) rfl)
 exact ⟨a1,own_at a2,fun r hr=>own_at (a3.1 _ (List.mem_map.2 ⟨r,hr,rfl⟩)),own_at a4,a5,own_at a6,own_at a7,a8⟩
theorem PSD.frz {K:Nat→Prop}{W w:World}{L:List Asn}(hX:∀i q b,¬((F.mem i).X q).rd b)(x:PSD F)(h:Sh K W w (x.A++L)):Sh K W w (.rd1 x::L)∧∀b,Enc.on x b→K b∨W.heap.size≤b:=by
 refine ⟨Sh.frz x x.A h (fun A hA=>h.ok A (List.mem_append.2 (.inl hA))) fun b hb=>hb, ?_⟩
 rintro b ⟨A,hA,hb⟩
 rcases hb with hb|hb
 ·exact h.mine A (List.mem_append.2 (.inl hA)) b hb
 ·exfalso
  simp only [PSD.A,List.mem_cons,List.not_mem_nil,or_false] at hA
  rcases hA with rfl|rfl|rfl|rfl|rfl|rfl|rfl|rfl
  ·exact hb
  ·exact Flat.noRd hb
  ·exact regNoRd hb
  ·exact Flat.noRd hb
  ·exact hb
  ·exact Flat.noRd hb
  ·exact Flat.noRd hb
  ·exact hX _ _ _ hb
theorem PSD.st_len {x:PSD F} :x.st.ths.length=x.rows.length:=mstR_len
theorem psd_facts {code:Ls (Ls Ins)}{words0:Ls Int}{Lk R:Nat}{m:Int}(hok:OkPg (pgN code words0 Lk R)){x:PSD F}(hr:Go.Proofs.YtmjkobhkkjgplaaGreatDoor.Reach (pgN code words0 Lk R) m x.st)(hl:x.rows.length=code.l.length):GoF code words0 Lk R x.rows x.qs x.words.l x.owner.l:=by
 have hwf:=hr.wf hok
 have hw:x.words.l.length=words0.l.length:=hwf.words
 have ho:x.owner.l.length=Lk:=by have:=hwf.owner;simpa [pgN,pgOf,mstR,PSD.st] using this
 have hv:∀t,t<code.l.length→WfS R words0.l.length Lk (nth code.l t).l.length ⟨(nth x.rows t).pc,(nth x.rows t).regs.l,nth x.qs t,x.words.l,x.owner.l,x.prints.l,false⟩:=by
  intro t ht
  have:=hwf.th t (by rw [pgN_len];exact ht)
  unfold PSD.st at this
  rw [pgN_code ht,mstR_view (by rw [hl];exact ht)] at this
  simpa [pgN,pgOf] using this
 refine ⟨hl,fun t ht=> ?_,fun t ht=>(hv t ht).wait,fun t ht i hi h17=> ?_,hr.owner_ge,hw,ho,fun t ht=>(hv t ht).regs,fun t ht j hj=> ?_,fun t ht=> ?_⟩
 ·rw [toQ_at (by rw [hl];exact ht)]
  exact (hv t ht).pc
 ·rw [ho];exact lock_N hok ht hi h17
 ·rw [ho,hw];exact (hv t ht).wt _ (nth_mem _ _ hj)
 ·have h9:=hr.wh0_ t
  unfold PSD.st at h9
  rw [mstR_view (by rw [hl];exact ht)] at h9
  exact h9
end
def arI (P:Program)(T:TypeId):Option (Nat×TypeId):=match P.underlying T with
 |some (.array n e)=>some (n,e)
 |_=>none
theorem arI_parts {P:Program}{T e:TypeId}{n:Nat}(h:arI P T=some (n,e)):P.underlying T=some (.array n e):=by
 unfold arI at h
 split at h
 ·rename_i hu;cases h;exact hu
 ·cases h
section
variable {P:Program}{o:Oper}{N:Nat}{K:Nat→Prop}{W w:World}{a:Act}{F:List (Nat×Value)}{L:List Asn}
theorem r_ixAr {T e:TypeId}{gg:Bool}{m by_:Nat}{z:List Value}{x y:Operand}{n g q:Nat}(hT:arI P T=some (n,e))(he:tyI P e=some (gg,m,by_,z))(hm:m=1)(ho:o.op= .indexAddr T x y)(hx:ev F x=some (.pointer (some ⟨g,0,none⟩)))(hy:ev F y=some (.int .i64 (q:Int)))(hq:q<n):Rn P o N K W F L (.pointer (some ⟨g,q,none⟩)):=fun a w h=>by
 obtain ⟨i,d,zv,hi,hd,_,rfl,_⟩:=tyI_parts he
 have hu:=arI_parts hT
 have hel:P.elem T=e:=by simp [Program.elem,hu]
 have hal:P.arrayLen T=n:=by simp [Program.arrayLen,hu]
 have hu' :P.underlying T=some (.array (P.arrayLen T) (P.elem T)):=by rw [hel,hal];exact hu
 have e1:=run_indexAt_array (P:=P) (w:=w) T ⟨g,0,none⟩ .i64 (q:Int) hu'
 rw [if_pos ⟨by omega,by rw [hal];omega⟩,hel,run_sizeOf hi,Result.andThen_ok,hm] at e1
 unfold execOp
 simp only [ho,h.fr.ev hx,h.fr.ev hy,Sem.run_bind,e1,Result.andThen_ok,Sem.run_pure]
 simp [Addr.add_lit]
structure BArr where
 l:List Bool
instance : Inhabited BArr:=⟨⟨List.replicate 200 false⟩⟩
instance : Enc BArr where
 sz:=200
 cell x j:= .bool (nth x.l j)
 whole x:= .agg ((List.range 200).map fun j=> .bool (nth x.l j)).toArray
 agg:=true
 inner x _:=x.l.length=200
 on _ _:=False
 one h:=by cases h
 many _ _:=rfl
 keep _ _ _ h _:=h
 lt _ _ _ _ hb:=hb.elim
end
section
variable {P:Program}{o:Oper}{N:Nat}{K:Nat→Prop}{W w:World}{a:Act}{F:List (Nat×Value)}{L:List Asn}
end
structure RV where
 v:Value
instance : Inhabited RV:=⟨⟨.slice none 0 0⟩⟩
instance : Enc RV where
 sz:=1
 cell x _:=x.v
 whole x:=x.v
 agg:=false
 inner _ _:=True
 on _ _:=False
 one _:=⟨rfl,fun _=>rfl⟩
 many h:=by cases h
 keep _ _ _ h _:=h
 lt _ _ _ _ h:=h.elim
instance : Flat RV:=⟨fun _ _ h=>h,fun _ _=>trivial⟩
def Asn.hold {α:Type}[Enc α](s:Ls α):Asn where
 fp:=s.on
 rd _:=False
 ok w:=s.At w
 keep w w' h hb:=h.keep fun b hb' =>hb b (.inl hb')
 lt w h b hb:=hb.elim (fun hb=>h.lt hb) fun hb=>hb.elim
section
variable {α:Type}
end
section
variable {α:Type}[Enc α]
end
section
variable {K:Nat→Prop}{W w:World}{L:List Asn}{α:Type}{R:Ls α→Asn}{E:TypeId}{v:Value}{M:List (Ls α)}
end
section
variable {P:Program}{o:Oper}{N:Nat}{K:Nat→Prop}{W w:World}{a:Act}{F:List (Nat×Value)}{L:List Asn}{α:Type}[Enc α]{R:Ls α→Asn}{E IE:TypeId}{v:Value}{M:List (Ls α)}
end
section
variable {P:Program}{o:Oper}{N:Nat}{K:Nat→Prop}{W w:World}{a:Act}{F:List (Nat×Value)}{L:List Asn}
end
section
variable {P:Program}{o:Oper}{N:Nat}{K:Nat→Prop}{W w:World}{a:Act}{F:List (Nat×Value)}{L:List Asn}{α:Type}[Enc α]
end
section
variable {P:Program}{o:Oper}{N:Nat}{K:Nat→Prop}{W w:World}{a:Act}{F:List (Nat×Value)}{L:List Asn}
theorem Sh.front {i:Nat}{A:Asn}(h:Sh K W w L)(hi:L[i]? =some A):Sh K W w (A::L.eraseIdx i):=by
 obtain ⟨hl,he⟩:=List.getElem?_eq_some_iff.1 hi
 have:=perm_erase L i hl
 rw [he] at this
 exact h.perm this
section
variable {α:Type}[Enc α]{E IE:TypeId}{v:Value}{M:List (Ls α)}
end
end
instance : DecidableEq ByteArray:=fun a b=>decidable_of_iff (a.data=b.data) ⟨fun h=>by cases a;cases b;simp only at h;rw [h],fun h=>by rw [h]⟩
def keysS (l:List ByteArray):List (Value×Value):=l.map fun s=>(.string s, .bool true)
def MapStr (w:World)(g:Nat)(l:List ByteArray):Prop:=∃es clock,w.heap[g]? =some (.map es clock)∧pairsOf es=keysS l
theorem MapStr.of_block {w w' :World}{g:Nat}{l:List ByteArray}(h:MapStr w g l)(hb:w'.heap[g]? =w.heap[g]?):MapStr w' g l:=by
 obtain ⟨es,c,h1,h2⟩:=h
 exact ⟨es,c,hb.trans h1,h2⟩
theorem MapStr.lt {w:World}{g:Nat}{l:List ByteArray}(h:MapStr w g l):g<w.heap.size:=by
 obtain ⟨es,c,h1,_⟩:=h
 exact (Array.getElem?_eq_some_iff.1 h1).1
def Asn.strO (g:Nat)(l:List ByteArray):Asn where
 fp b:=g=b
 rd _:=False
 ok w:=MapStr w g l
 keep w w' h hb:=h.of_block (hb g (.inl rfl))
 lt w h b hb:=by
  rcases hb with rfl|hb
  ·exact h.lt
  ·exact hb.elim
theorem beq_str (a b:ByteArray):(a==b)=decide (a=b):=by
 obtain ⟨x⟩:=a
 obtain ⟨y⟩:=b
 show (x==y)=_
 by_cases h:x=y
 ·subst h;simp
 ·have h2:(⟨x⟩:ByteArray)≠⟨y⟩:=fun e=>h (congrArg ByteArray.data e)
  rw [decide_eq_false h2]
  simpa using h
instance : LawfulBEq ByteArray where
 eq_of_beq h:=by rw [beq_str] at h;exact of_decide_eq_true h
 rfl {a} :=by rw [beq_str];exact decide_eq_true rfl
def atS (k:ByteArray):List ByteArray→Nat→Option (Nat×Value)
 | [],_=>none
 |j::r,i=>if k=j then some (i, .bool true) else atS k r (i+1)
theorem atS_spec (k:ByteArray):∀(l:List ByteArray) (i:Nat),(∃j,atS k l i=some (i+j, .bool true)∧l[j]? =some k)∨(atS k l i=none∧k∉l)
 | [],i=> .inr ⟨rfl,by simp⟩
 |x::r,i=>by
  unfold atS
  by_cases h:k=x
  ·subst h;exact .inl ⟨0,by rw [if_pos rfl];rfl,rfl⟩
  ·rw [if_neg h]
   rcases atS_spec k r (i+1) with ⟨j,h1,h2⟩|⟨h1,h2⟩
   ·exact .inl ⟨j+1,by rw [h1,show i+1+j=i+(j+1) by omega],by simpa using h2⟩
   ·exact .inr ⟨h1,by simp [h,h2]⟩
theorem findNow_str (k:ByteArray):∀(es:List MapEntry) (l:List ByteArray) (i:Nat),(es.map fun e=>(e.key,e.val))=keysS l→Instr.findNow .string (.string k) es i=some (atS k l i)
 | [], [],_,_=>rfl
 | [],_::_,_,h=>by simp [keysS] at h
 |_::_, [],_,h=>by simp [keysS] at h
 |e::es,j::l,i,h=>by
  simp only [keysS,List.map_cons,List.cons.injEq,Prod.mk.injEq] at h
  obtain ⟨⟨hk,hv⟩,hr⟩:=h
  have ih:=findNow_str k es l (i+1) hr
  simp only [Instr.findNow,hk,Instr.sameNow]
  unfold atS
  rw [beq_str]
  by_cases hkj:k=j
  ·simp [hkj,hv]
  ·simp [hkj,ih]
structure MapTStr (P:Program)(T kT eT:TypeId):Prop where
 map:P.underlying T=some (.map kT eT)
 str:P.underlying kT=some .string
 zero:∀w,(zeroValue eT).run P w= .ok (.bool false) w
section
variable {P:Program}{o:Oper}{N:Nat}{K:Nat→Prop}{W w:World}{a:Act}{F:List (Nat×Value)}{L:List Asn}{T kT eT:TypeId}{l:List ByteArray}{k:ByteArray}{g:Nat}
theorem run_findKey_str (hK:P.underlying kT=some .string){es:Array MapEntry}(h:pairsOf es=keysS l):(Instr.findKey kT (.string k) es.toList).run P w= .ok (atS k l 0) w:=by
 simp [Instr.findKey,run_underlying hK,findNow_str k es.toList l 0 h]
theorem run_checkKey_str (b:Bool)(n:Nat)(hK:P.underlying kT=some .string):(Instr.checkKey b (n+1) kT (.string k)).run P w= .ok () w:=by
 simp [Instr.checkKey,run_underlying hK]
theorem run_lookStr (hT:MapTStr P T kT eT)(h:MapStr w g l):(Instr.lookup T (.map (some g)) (.string k) false).run P w= .ok (.bool (decide (k∈l))) w:=by
 obtain ⟨es,c,h1,h2⟩:=h
 have e0:(getObj g).run P w= .ok (.map es c) w:=by simp [getObj,Sem.run,h1]
 have e1:=run_findKey_str (P:=P) (w:=w) (k:=k) hT.str h2
 have e2:=run_checkKey_str (P:=P) (w:=w) (k:=k) es.isEmpty 9999 hT.str
 rcases atS_spec k l 0 with ⟨j,h3,h4⟩|⟨h3,h4⟩
 ·rw [decide_eq_true (List.mem_of_getElem? h4)]
  rw [h3] at e1
  simp [Instr.lookup,run_underlying hT.map,e0,e1,e2]
 ·rw [decide_eq_false h4]
  rw [h3] at e1
  simp [Instr.lookup,run_underlying hT.map,e0,e1,e2,hT.zero]
theorem r_lookStr {x y:Operand}{i:Nat}(hT:MapTStr P T kT eT)(ho:o.op= .lookup T x y false)(hx:ev F x=some (.map (some g)))(hy:ev F y=some (.string k))(hi:L[i]? =some (.strO g l)):Rn P o N K W F L (.bool (decide (k∈l))):=fun a w h=>by
 have key:=run_lookStr (k:=k) hT (h.sh.ok _ (List.mem_of_getElem? hi))
 unfold execOp
 simp only [ho,h.fr.ev hx,h.fr.ev hy,Sem.run_bind,key,Result.andThen_ok,Sem.run_pure]
theorem x_makeStr {d:Nat}(h:St N K W a w F L)(ho:o.op= .makeMap T none)(hd:o.dst=some d)(hdN:Nat.blt d N=true):Ex P o a w (fun a' w' =>∃g:Nat,St N K W a' w' ((d, .map (some g))::F) (.strO g []::L)):=by
 have hrun:(Instr.makeMap T none).run P w= .ok (.map (some w.heap.size)) (w.alloc (.map #[] 0)):=run_makeMap T w
 refine Ex.of_run (v:= .map (some w.heap.size)) (w' :=w.alloc (.map #[] 0)) ?_ ⟨w.heap.size, ?_⟩
 ·unfold execOp
  simp only [ho,Option.map_none,Sem.run_bind,hrun,Result.andThen_ok,Sem.run_pure]
 ·rw [hd]
  have h1:Sh K W (w.alloc (.map #[] 0)) (.strO w.heap.size []::L):=
   h.sh.push (Chg.alloc _ w _) ⟨#[],0,Go.heap_alloc_new w _,rfl⟩ (fun b hb=>by rw [←(show w.heap.size=b from hb)];exact Nat.le_refl _) (fun b hb=>hb.elim) (fun b _ hb=>hb)
  exact ⟨h.fr.put d (by simpa [Nat.blt_eq] using hdN) _,h1⟩
theorem x_updStrG {x y z:Operand}{i:Nat}(h:St N K W a w F L)(hT:MapTStr P T kT eT)(ho:o.op= .mapUpdate T x y z∨o.op= .insert T x y z)(hd:o.dst=none)(hx:ev F x=some (.map (some g)))(hy:ev F y=some (.string k))(hz:ev F z=some (.bool true))(hi:L[i]? =some (.strO g l))(hk:k∉l):
  Ex P o a w (fun a' w' =>St N K W a' w' F (L.set i (.strO g (l++ [k])))):=by
 obtain ⟨es,c,h1,h2⟩:MapStr w g l:=h.sh.ok _ (List.mem_of_getElem? hi)
 have hlt:g<w.heap.size:=(Array.getElem?_eq_some_iff.1 h1).1
 have e0:(getObj g).run P w= .ok (.map es c) w:=by simp [getObj,Sem.run,h1]
 have e1:=run_findKey_str (P:=P) (w:=w) (k:=k) hT.str h2
 have e2:=run_checkKey_str (P:=P) (w:=w) (k:=k) false 9999 hT.str
 have e3:atS k l 0=none:=by
  rcases atS_spec k l 0 with ⟨j,_,h4⟩|⟨h3,_⟩
  ·exact absurd (List.mem_of_getElem? h4) hk
  ·exact h3
 rw [e3] at e1
 have hrun:(Instr.mapUpdate T (.map (some g)) (.string k) (.bool true)).run P w= .ok () (World.setMap w g (es.push { key:= .string k,val:= .bool true,born:=c }) (c+1)):=by
  simp [Instr.mapUpdate,run_underlying hT.map,e0,e1,e2,setObj,Sem.run,h1,World.setMap]
 refine Ex.of_skip (w' :=World.setMap w g (es.push { key:= .string k,val:= .bool true,born:=c }) (c+1)) ?_ ?_
 ·unfold execOp
  rcases ho with ho|ho<;>simp only [ho,h.fr.ev hx,h.fr.ev hy,h.fr.ev hz,Sem.run_bind,hrun,Result.andThen_ok,Sem.run_pure]
 ·rw [hd]
  have hg:w.grownBy (World.setMap w g (es.push { key:= .string k,val:= .bool true,born:=c }) (c+1)) (some g):=⟨rfl,rfl,rfl,by simp [World.setMap],fun j hj hne=>by
   have:g≠j:=fun e=>hne (by rw [e])
   simp [World.setMap,Array.getElem?_setIfInBounds,this]⟩
  refine ⟨h.fr,h.sh.put hi (Chg.grown hg (fun b hb=>Option.some.inj hb)) ⟨es.push { key:= .string k,val:= .bool true,born:=c },c+1,by simp [World.setMap,hlt], ?_⟩ (fun b hb=> .inl hb) (fun b hb=>hb.elim) (fun b _ hb=>hb)⟩
  simp [pairsOf,keysS] at h2⊢
  exact h2
theorem x_updStr {x y z:Operand}{i:Nat}(h:St N K W a w F L)(hT:MapTStr P T kT eT)(ho:o.op= .mapUpdate T x y z)(hd:o.dst=none)(hx:ev F x=some (.map (some g)))(hy:ev F y=some (.string k))(hz:ev F z=some (.bool true))(hi:L[i]? =some (.strO g l))(hk:k∉l):
  Ex P o a w (fun a' w' =>St N K W a' w' F (L.set i (.strO g (l++ [k])))):=x_updStrG h hT (.inl ho) hd hx hy hz hi hk
theorem x_updStrI {x y z:Operand}{i:Nat}(h:St N K W a w F L)(hT:MapTStr P T kT eT)(ho:o.op= .insert T x y z)(hd:o.dst=none)(hx:ev F x=some (.map (some g)))(hy:ev F y=some (.string k))(hz:ev F z=some (.bool true))(hi:L[i]? =some (.strO g l))(hk:k∉l):
  Ex P o a w (fun a' w' =>St N K W a' w' F (L.set i (.strO g (l++ [k])))):=x_updStrG h hT (.inr ho) hd hx hy hz hi hk
theorem r_lenStrO {x:Operand}{i:Nat}(hT:MapTStr P T kT eT)(ho:o.op= .call ⟨.builtin .len, #[x], #[T]⟩)(hx:ev F x=some (.map (some g)))(hi:L[i]? =some (.strO g l)):Rn P o N K W F L (.int .i64 ((l.length:Nat):Int)):=fun a w h=>by
 obtain ⟨es,c,h1,h2⟩:MapStr w g l:=h.sh.ok _ (List.mem_of_getElem? hi)
 have hl:es.size=l.length:=by
  have:=congrArg List.length h2
  simpa [pairsOf,keysS] using this
 have e0:(getObj g).run P w= .ok (.map es c) w:=by simp [getObj,Sem.run,h1]
 have key:∀ty,(Builtin.len_ #[T] ty #[.map (some g)]).run P w= .ok (.int .i64 ((l.length:Nat):Int)) w:=fun ty=>by
  simp [Builtin.len_,run_underlying hT.map,goInt,e0,hl]
 unfold execOp
 simp [ho,resolve,invoke,builtin,h.fr.ev hx,key]
end
def bv (x:UInt8):Value:= .int .u8 (x.toNat:Int)
theorem nth_bv {l:List UInt8}{q:Nat}(h:q<l.length):(l.map bv)[q]? =some (bv (nth l q)):=by
 rw [List.getElem?_map,List.getElem?_eq_getElem h,nth_lt _ _ h];rfl
theorem splice_bv {l:List UInt8}{q:Nat}{n:UInt8}(h:q<l.length):splice (l.map bv) q [bv n]=(l.set q n).map bv:=by
 unfold splice
 rw [List.set_eq_take_append_cons_drop,if_pos h]
 simp
section
variable {P:Program}{o:Oper}{N:Nat}{K:Nat→Prop}{W w:World}{a:Act}{F:List (Nat×Value)}{L:List Asn}
theorem x_allocBy {d:Nat}{T:TypeId}{g:Bool}{n by_ k:Nat}{z:List Value}(h:St N K W a w F L)(hT:tyI P T=some (g,n,by_,z))(hz:z=(List.replicate k 0).map bv)(ho:o.op= .alloc T)(hd:o.dst=some d)(hdN:Nat.blt d N=true):
  Ex P o a w (fun a' w' =>∃b:Nat,St N K W a' w' ((d, .pointer (some ⟨b,0,none⟩))::F) (.blk b T ((List.replicate k 0).map bv)::L)):=by
 subst hz;exact x_alloc h hT ho hd hdN
theorem x_stBy {T:TypeId}{gg:Bool}{by_:Nat}{z:List Value}{x y:Operand}{g q i:Nat}{n:UInt8}{E:TypeId}{l:List UInt8}(h:St N K W a w F L)(hT:tyI P T=some (gg,1,by_,z))(ho:o.op= .store T x y)(hd:o.dst=none)
  (hx:ev F x=some (.pointer (some ⟨g,q,none⟩))) (hy:ev F y=some (.int .u8 (n.toNat:Int))) (hi:L[i]? =some (.blk g E (l.map bv))) (hq:q<l.length):
  Ex P o a w (fun a' w' =>St N K W a' w' F (L.set i (.blk g E ((l.set q n).map bv)))):=
 x_stb h hT ho hd hx hy hi (vs:= [bv n]) rfl rfl rfl (by rw [List.length_map];omega) (splice_bv hq)
def arrS (g q n:Nat):Value:= .slice (some ⟨g,q,none⟩) (n-q) (n-q)
theorem r_slBy {T e:TypeId}{n m by_ q g:Nat}{gg:Bool}{z:List Value}{x y:Operand}(hT:arI P T=some (n,e))(he:tyI P e=some (gg,m,by_,z))(hm:m=1)(ho:o.op= .slice T x (some y) none none)
  (hx:ev F x=some (.pointer (some ⟨g,0,none⟩))) (hy:ev F y=some (.int .i64 (q:Int))) (hq:q<n):Rn P o N K W F L (arrS g q n):=fun a w h=>by
 subst hm
 obtain ⟨ti,d,zv,hi,hd,_,hs,_⟩:=tyI_parts he
 have hu:=arI_parts hT
 have hel:P.elem T=e:=by simp [Program.elem,hu]
 have hal:P.arrayLen T=n:=by simp [Program.arrayLen,hu]
 have hu' :P.underlying T=some (.array (P.arrayLen T) (P.elem T)):=by rw [hel,hal];exact hu
 have e2:=run_sliceAt_array_l (P:=P) w T ⟨g,0,none⟩ hu' .i64 (q:Int) (by omega) (by rw [hal];omega)
 have hs1:ti.size=1:=by first|exact hs|exact hs.symm
 rw [hel,run_sizeOf hi,Result.andThen_ok,hal,hs1] at e2
 unfold execOp
 simp only [ho,h.fr.ev hx,h.fr.ev hy,Option.map_some,Option.map_none,Sem.run_bind,e2,Result.andThen_ok,Sem.run_pure,slicedAt,arrS]
 simp only [Int.toNat_natCast]
 rw [if_neg (by omega)]
 simp [Addr.add]
 try omega
theorem arr_at {g q n i:Nat}{E:TypeId}{l:List UInt8}(h:Sh K W w L)(hi:L[i]? =some (.blk g E (l.map bv)))(hl:l.length=n)(hq:q≤n)(hn:n≤1000):(⟨arrS g q n,l.drop q⟩:Ls UInt8).At w:=by
 have hb:Blk w g E (l.map bv).toArray:=h.ok _ (List.mem_of_getElem? hi)
 refine ⟨some ⟨g,q,none⟩,n-q, ?_, ?_, ?_, ?_, ?_, ?_, ?_, ?_⟩
 ·show arrS g q n= .slice _ (l.drop q).length _
  unfold arrS
  rw [List.length_drop,hl]
 ·show (l.drop q).length≤n-q
  rw [List.length_drop,hl]
  exact Nat.le_refl _
 ·show n-q≤maxLen
  have:(1000:Nat)≤maxLen:=by decide
  omega
 ·show (l.drop q).length≤_
  rw [List.length_drop,hl];omega
 ·intro _;exact ⟨_,rfl,rfl⟩
 ·intro _;exact hb.lt
 ·intro i' j hi' hj
  have hi2:i' <(l.drop q).length:=hi'
  rw [List.length_drop] at hi2
  have hj0:j=0:=by have:Enc.sz UInt8=1:=rfl;omega
  subst hj0
  have e:(nth (l.drop q) i')=nth l (q+i'):=by simp [nth,List.getD,List.getElem?_drop]
  show w.cell? ⟨g,q+i' *1+0,none⟩=some (bv (nth (l.drop q) i'))
  rw [e,Nat.mul_one,Nat.add_zero]
  exact (hb.cell (q+i')).trans (by simpa using nth_bv (by omega))
 ·intro i' _;trivial
theorem arr_on {g q n:Nat}{E:TypeId}{l:List UInt8}{b:Nat}(hb:(⟨arrS g q n,l.drop q⟩:Ls UInt8).on b):(Asn.blk g E (l.map bv)).fp b:=by
 rcases hb with ⟨h0,h⟩|⟨i',_,h⟩
 ·exact (show g=b from h).symm
 ·exact h.elim
theorem r_cvStr {T D e:TypeId}{x:Operand}{s:Ls UInt8}(hT:P.underlying T=some (.slice e))(he:P.underlying e=some (.int .u8))(hD:P.underlying D=some .string)(ho:o.op= .convert T D x)(hx:ev F x=some s.v)(hat:∀w,Sh K W w L→s.At w)(h0:0<s.l.length):
  Rn P o N K W F L (.string ⟨s.l.toArray⟩):=fun a w h=>by
 obtain ⟨A,cap,hv,hA⟩:=hat w h.sh
 obtain ⟨ad,e1,hsp⟩:=hA.some h0
 have e1' :A=some ad:=e1
 subst e1'
 have key:=run_convert_bytes_back (P:=P) w T D e ad cap s.l hT he hD (fun j hj=>by
  have hc:=hA.cell j 0 hj (by decide)
  obtain ⟨blk,off,sp⟩:=ad
  simp only at hsp
  subst hsp
  rw [Addr.add_lit]
  have e2:(⟨some ⟨blk,off,none⟩,cap,s.l⟩:Sl UInt8).adr 1 j 0=⟨blk,off+j,none⟩:=by simp [Sl.adr]
  rw [←e2]
  refine hc.trans ?_
  show some (Value.int .u8 ((nth s.l j).toNat:Int))=_
  rw [nth_lt _ _ hj])
 unfold execOp
 simp only [ho,h.fr.ev hx,hv,Sem.run_bind,key,Result.andThen_ok,Sem.run_pure]
end
def R64 (n:Int):Prop:= -9223372036854775808≤n∧n<9223372036854775808
def R64L (l:List Int):Prop:=∀n∈l,R64 n
theorem R64.wrap (n:Int):R64 (wrap64 n):=by unfold wrap64 R64;omega
theorem R64.bit (b:Bool):R64 (Go.Proofs.YtmjkobhkkjgplaaGreatDoor.bit b):=by unfold Go.Proofs.YtmjkobhkkjgplaaGreatDoor.bit R64;split<;>omega
theorem R64L.nth {l:List Int}(h:R64L l)(i:Nat):R64 (nth l i):=by
 rcases Nat.lt_or_ge i l.length with h1|h1
 ·exact h _ (nth_mem _ _ h1)
 ·have e:Go.Proofs.YtmjkobhkkjgplaaGreatDoor.nth l i=0:=by simp [Go.Proofs.YtmjkobhkkjgplaaGreatDoor.nth,List.getD,h1]
  rw [e];unfold R64;omega
theorem R64L.set {l:List Int}(h:R64L l)(i:Nat){v:Int}(hv:R64 v):R64L (l.set i v):=fun n hn=>by
 rcases List.mem_or_eq_of_mem_set hn with h1|rfl
 ·exact h n h1
 ·exact hv
theorem R64L.app {l m:List Int}(h:R64L l)(h2:R64L m):R64L (l++m):=fun n hn=>(List.mem_append.1 hn).elim (h n) (h2 n)
def R64W (l:List Wt):Prop:=∀x∈l,R64 x.wh∧R64 x.what
def R64I (i:Ins):Prop:=R64 i.a∧R64 i.b∧R64 i.c
structure TSR (x:TS):Prop where
 regs:R64L x.regs
 wait:R64W x.wait
 words:R64L x.words
 owner:R64L x.owner
 prints:R64L x.prints
section
variable {x:TS}{m:Int}
theorem TSR.put (h:TSR x)(k:Int){v:Int}(hv:R64 v):TSR (x.put k v):=⟨h.regs.set _ hv,h.wait,h.words,h.owner,h.prints⟩
theorem TSR.reg (h:TSR x)(k:Int):R64 (x.reg k):=h.regs.nth _
theorem TSR.finds (h:TSR x)(w:Int):R64 (x.finds w):=by
 unfold TS.finds findsL
 split
 ·rename_i y hy
  exact (h.wait y (by have:=List.mem_of_find?_eq_some hy;simpa using this)).2
 ·exact h.words.nth _
theorem TSR.done (h:TSR x){w:Wt}(hw:R64 w.what):TSR (x.done w):=by
 refine ⟨h.regs,h.wait, ?_, ?_,h.prints⟩
 ·show R64L (if w.lock=true then x.words else x.words.set w.wh.toNat w.what)
  split
  ·exact h.words
  ·exact h.words.set _ hw
 ·show R64L (if w.lock=true then x.owner.set w.wh.toNat (-1) else x.owner)
  split
  ·exact h.owner.set _ (by unfold R64;omega)
  ·exact h.owner
theorem TSR.store (h:TSR x){w:Wt}(h1:R64 w.wh)(h2:R64 w.what):TSR (x.store m w):=by
 unfold TS.store
 split
 ·refine ⟨h.regs,fun y hy=> ?_,h.words,h.owner,h.prints⟩
  rcases List.mem_append.1 hy with hy|hy
  ·exact h.wait y hy
  ·obtain rfl:y=w:=by simpa using hy
   exact ⟨h1,h2⟩
 ·exact h.done h2
theorem TSR.fell (h:TSR x):TSR { x with fell:=true } :=⟨h.regs,h.wait,h.words,h.owner,h.prints⟩
theorem TSR.exec (h:TSR x){n:Nat}(hn:n<1000){i:Ins}(hi:R64I i):TSR (execT m n i x):=by
 obtain ⟨ha,hb,hc⟩:=hi
 by_cases e1:i.op=1
 ·rw [execT_1 e1];exact h.put _ hb
 by_cases e2:i.op=2
 ·rw [execT_2 e2];exact h.put _ (h.reg _)
 by_cases e3:i.op=3
 ·rw [execT_3 e3];exact h.put _ (.wrap _)
 by_cases e4:i.op=4
 ·rw [execT_4 e4];exact h.put _ (.wrap _)
 by_cases e5:i.op=5
 ·rw [execT_5 e5];exact h.put _ (.wrap _)
 by_cases e6:i.op=6
 ·rw [execT_6 e6];exact h.put _ (.bit _)
 by_cases e7:i.op=7
 ·rw [execT_7 e7];exact h.put _ (.bit _)
 by_cases e8:i.op=8
 ·rw [execT_8 e8];exact h.put _ (h.finds _)
 by_cases e9:i.op=9
 ·rw [execT_9 e9];exact h.store ha (h.reg _)
 by_cases e10:i.op=10
 ·by_cases hw:0≤x.reg i.b∧x.reg i.b<(x.words.length:Int)
  ·rw [execT_10t e10 hw];exact h.put _ (h.finds _)
  ·rw [execT_10f e10 hw];exact h.fell
 by_cases e11:i.op=11
 ·by_cases hw:0≤x.reg i.a∧x.reg i.a<(x.words.length:Int)
  ·rw [execT_11t e11 hw];exact h.store (h.reg _) (h.reg _)
  ·rw [execT_11f e11 hw];exact h.fell
 by_cases e13:i.op=13
 ·by_cases hw:nth x.words i.a.toNat=x.reg i.b
  ·rw [execT_13t e13 hw]
   exact ⟨h.regs.set _ (by unfold R64;omega),h.wait,h.words.set _ (h.reg _),h.owner,h.prints⟩
  ·rw [execT_13f e13 hw];exact h.put _ (by unfold R64;omega)
 by_cases e14:i.op=14
 ·rw [execT_14 e14];exact ⟨h.regs,h.wait,h.words,h.owner,h.prints⟩
 by_cases e15:i.op=15
 ·by_cases hw:x.reg i.a=0
  ·rw [execT_15t e15 hw];exact ⟨h.regs,h.wait,h.words,h.owner,h.prints⟩
  ·rw [execT_15f e15 hw];exact h
 by_cases e16:i.op=16
 ·rw [execT_16 e16]
  refine ⟨h.regs,h.wait,h.words,h.owner,h.prints.app fun v hv=> ?_⟩
  rcases List.mem_cons.1 hv with rfl|hv
  ·unfold R64;omega
  ·obtain rfl:v=_:=by simpa using hv
   exact h.reg _
 by_cases e17:i.op=17
 ·rw [execT_17 e17];exact ⟨h.regs,h.wait,h.words,h.owner.set _ (by unfold R64;omega),h.prints⟩
 by_cases e18:i.op=18
 ·by_cases hw:nth x.owner i.a.toNat≠n
  ·rw [execT_18a e18 hw];exact h.fell
  ·by_cases hh:∃j,j<x.wait.length∧(nth x.wait j).lock=true∧(nth x.wait j).wh=i.a
   ·obtain ⟨j,hj,h1,h2⟩:=hh
    rw [execT_18b e18 hw j hj h1 h2];exact h.fell
   ·rw [execT_18c e18 hw (fun q hq hc=>hh ⟨q,hq,hc⟩)]
    exact h.store ha (by show R64 0;unfold R64;omega)
 rw [execT_no ⟨e1,e2,e3,e4,e5,e6,e7,e8,e9,e10,e11,e13,e14,e15,e16,e17,e18⟩]
 exact h
theorem TSR.doT (h:TSR x){n k:Nat}(hn:n<1000){c:List Ins}(hc:∀i∈c,R64I i):TSR (Go.Proofs.YtmjkobhkkjgplaaGreatDoor.doT m n c k x):=by
 unfold Go.Proofs.YtmjkobhkkjgplaaGreatDoor.doT
 split
 ·have hw:R64 (nth x.wait (k-1)).what:=by
   rcases Nat.lt_or_ge (k-1) x.wait.length with h1|h1
   ·exact (h.wait _ (nth_mem _ _ h1)).2
   ·have e:nth x.wait (k-1)=⟨false,0,0⟩:=by simp [nth,List.getD,h1];rfl
    rw [e];show R64 0;unfold R64;omega
  have hd:=h.done hw
  exact ⟨hd.regs,fun y hy=>h.wait y (List.mem_of_mem_eraseIdx hy),hd.words,hd.owner,hd.prints⟩
 ·refine TSR.exec (x:= { x with pc:=x.pc+1 }) ⟨h.regs,h.wait,h.words,h.owner,h.prints⟩ hn ?_
  unfold nextIns
  split
  ·rename_i h1
   rcases Nat.lt_or_ge x.pc.toNat c.length with h2|h2
   ·exact hc _ (nth_mem _ _ h2)
   ·have e:nth c x.pc.toNat=default:=by simp [nth,List.getD,h2]
    rw [e]
    exact ⟨by show R64 0;unfold R64;omega,by show R64 0;unfold R64;omega,by show R64 0;unfold R64;omega⟩
  ·exact ⟨by show R64 0;unfold R64;omega,by show R64 0;unfold R64;omega,by show R64 0;unfold R64;omega⟩
end
structure PgR (p:Pg):Prop where
 code:∀c∈p.code,∀i∈c,R64I i
 words:R64L p.words
theorem Reach.r64 {p:Pg}(hp:PgR p)(hl:p.code.length<1000){m:Int}{s:MSt}(h:Reach p m s):∀t,TSR (s.view t):=by
 have nilT:∀(s:MSt) t,s.ths.length≤t→(s.view t).regs= []∧(s.view t).wait= []:=fun s t ht=>by
  have e:nth s.ths t=default:=by simp [nth,List.getD,ht]
  unfold MSt.view
  rw [e];exact ⟨rfl,rfl⟩
 induction h with
 |start=>
  intro t
  have ho:R64L (List.replicate p.locks.toNat (-1)):=fun n hn=>by rw [List.eq_of_mem_replicate hn];unfold R64;omega
  refine ⟨?_, ?_,hp.words,ho,fun n hn=>(by cases hn)⟩
  ·show R64L (nth (begin_ p).ths t).regs
   unfold begin_
   rcases Nat.lt_or_ge t p.code.length with h|h
   ·rw [nth_map' _ _ _ h];exact fun n hn=>by rw [List.eq_of_mem_replicate hn];unfold R64;omega
   ·simp [nth,List.getD,h];exact fun n hn=>by cases hn
  ·show R64W (nth (begin_ p).ths t).wait
   unfold begin_
   rcases Nat.lt_or_ge t p.code.length with h|h
   ·rw [nth_map' _ _ _ h];exact fun n hn=>by cases hn
   ·simp [nth,List.getD,h];exact fun n hn=>by cases hn
 | @step s t k hr ht hk hf ih=>
  have h1:TSR (stepT p m s t k):=TSR.doT (ih t) (by omega) (hp.code _ (nth_mem _ _ ht))
  intro u
  by_cases e:t=u
  ·subst e
   rcases Nat.lt_or_ge t s.ths.length with hlt|hlt
   ·rw [putT_view hlt]
    exact ⟨h1.regs,h1.wait,h1.words,h1.owner,h1.prints⟩
   ·have e2:(s.putT t (stepT p m s t k)).ths=s.ths:=List.set_eq_of_length_le hlt
    obtain ⟨q1,q2⟩:=nilT (s.putT t (stepT p m s t k)) t (by rw [e2];exact hlt)
    exact ⟨by rw [q1];exact fun n hn=>(by cases hn),by rw [q2];exact fun n hn=>(by cases hn),h1.words,h1.owner,h1.prints⟩
  ·rw [putT_other e]
   exact ⟨(ih u).regs,(ih u).wait,h1.words,h1.owner,h1.prints⟩
def MemF.tells (F:MemF)(i:F.ι)(words owner:Ls Int)(q:(F.mem i).σ):List (List Int):= [words.l,owner.l]++F.tq ((F.mem i).qs q)
structure MemFI (P:Program)(PL INT BX BY KEY:Nat)(F:MemF):Prop where
 ok:∀i,MemI P PL INT (F.mem i)
 hT:∀i,(F.mem i).T=F.T
 hm:∀i,(F.mem i).m=F.m
 tq:TqOK F.tq F.Q
 qQ:∀i q,F.Q ((F.mem i).qs q)
 copy:∀(w:World) (i:F.ι) (words owner:Ls Int) (q:(F.mem i).σ),MemRd PL (F.mem i) w words owner q→words.l.length≤64→owner.l.length≤4→((F.mem i).qs q).length≤4→(∀l∈(F.mem i).qs q,l.length≤3)→
  InvM P (F.mem i).T (F.mem i).u "Copy" [] w (fun v w' =>∃(i' :F.ι) (words' owner' :Ls Int) (q' :(F.mem i').σ),v= .iface (F.mem i').T (.pointer (some (F.mem i').u))∧words'.l=words.l∧owner'.l=owner.l∧(F.mem i').qs q' =(F.mem i).qs q∧Sh0 w w' (memA PL INT (F.mem i') words' owner' q'))
 tell:∀(K:Nat→Prop) (W:World) (i:F.ι) (words owner:Ls Int) (q:(F.mem i).σ) (gb:Nat) (bs:Ls UInt8),Sh K W W [.blk gb BX [bs.v], .own BY bs, .rblk (F.mem i).g0 PL [words.v,owner.v], .at_ words, .at_ owner, .ro [(F.mem i).X q]]→
  words.l.length≤64→owner.l.length≤4→((F.mem i).qs q).length≤4→(∀l∈(F.mem i).qs q,l.length≤3)→R64L words.l→R64L owner.l→(∀l∈(F.mem i).qs q,R64W l)→bs.l.length≤1000000000000→
  InvM P (F.mem i).T (F.mem i).u "Tell" [.func (.func KEY) #[] #[.pointer (some ⟨gb,0,none⟩)]] W (fun v w' =>v= .tuple #[]∧∃bs' :Ls UInt8,bs'.l=bs.l++by8 ((F.tells i words owner q).flatMap putB)∧bs'.l.length≤bs.l.length+100000∧
   Sh K W w' [.blk gb BX [bs'.v], .own BY bs', .rblk (F.mem i).g0 PL [words.v,owner.v], .at_ words, .at_ owner, .ro [(F.mem i).X q]])
def Asn.rgs (rows:List ThR):Asn where
 fp _:=False
 rd b:=∃r∈rows,r.regs.on b
 ok w:=∀r∈rows,r.regs.At w
 keep w w' h hb r hr:=(h r hr).keep fun b hb' =>hb b (.inr ⟨r,hr,hb'⟩)
 lt w h b hb:=by rcases hb with hb|⟨r,hr,hb⟩;exact hb.elim;exact (h r hr).lt hb
theorem rgs_at {K:Nat→Prop}{W w:World}{L:List Asn}{rows:List ThR}(h:Sh K W w L)(i:Nat)(hi:L[i]? =some (.rgs rows))(t:Nat)(ht:t<rows.length):(nth rows t).regs.At w:=h.ok _ (List.mem_of_getElem? hi) _ (nth_mem _ _ ht)
theorem num36_len (n:Int)(h: -9223372036854775808≤n∧n<9223372036854775808):(num36 n).length≤65:=by
 have key:∀k n,n<36^(k+1)→(digs n).length≤k+1:=by
  intro k
  induction k with
  |zero=>intro n hn;rw [digs_lo (by simpa using hn)];simp
  |succ k ih=>
   intro n hn
   by_cases h36:n<36
   ·rw [digs_lo h36];simp
   ·rw [digs_hi h36,List.length_append]
    have:=ih (n/36) (by rw [Nat.div_lt_iff_lt_mul (by decide),←Nat.pow_succ];exact hn)
    simp only [List.length_cons,List.length_nil]
    omega
 have:=key 63 n.natAbs (by
  have:(36:Nat)^64>9223372036854775808:=by decide
  omega)
 unfold num36
 split
 ·simp only [List.length_cons];omega
 ·omega
theorem putB_len {l:List Int}(h:∀n∈l,-9223372036854775808≤n∧n<9223372036854775808):(putB l).length≤66*l.length+1:=by
 unfold putB
 rw [List.length_append]
 have:(l.flatMap fun n=>num36 n++ [32]).length≤66*l.length:=by
  induction l with
  |nil=>simp
  |cons x l ih=>
   rw [List.flatMap_cons,List.length_append,List.length_append,List.length_cons]
   have h1:=num36_len x (h x (by simp))
   have h2:=ih fun n hn=>h n (by simp [hn])
   simp only [List.length_cons,List.length_nil]
   omega
 simp only [List.length_cons,List.length_nil]
 omega
section
variable {P:Program}{o:Oper}{N:Nat}{K:Nat→Prop}{W w:World}{F:List (Nat×Value)}{L:List Asn}{T U D:TypeId}{x y:Operand}
theorem r_cvUN {p:Nat}(hs:P.underlying T=some (.int .i64))(hd:P.underlying D=some (.int .u64))(ho:o.op= .convert T D x)(hx:ev F x=some (.int .i64 ((p:Nat):Int)))(hp:p<18446744073709551616):Rn P o N K W F L (.int .u64 ((p:Nat):Int)):=by
 have h:=r_cvU (P:=P) (N:=N) (K:=K) (W:=W) (L:=L) hs hd ho hx
 rwa [show toU ((p:Nat):Int)=p by unfold toU;omega] at h
theorem r_andS {p:Nat}(ho:o.op= .binOp .and T x y U)(hx:ev F x=some (.int .u64 ((p:Nat):Int)))(hy:ev F y=some (.int .u64 4294967295))(hp:p<4294967296):Rn P o N K W F L (.int .u64 ((p:Nat):Int)):=r_bin ho hx hy fun w=>by
 rw [binOp_and]
 have h1:Op.intBits .and .u64 (p:Int) 4294967295=pure (.int .u64 (bits .and .u64 p 4294967295)):=rfl
 have h2:=bits_and_u64_nat p 4294967295 (by omega) (by omega)
 have e:p&&&4294967295=p:=by rw [show (4294967295:Nat)=2^32-1 from rfl,Nat.and_two_pow_sub_one_eq_mod];exact Nat.mod_eq_of_lt hp
 rw [h1,show (4294967295:Int)=((4294967295:Nat):Int) from rfl,h2,e];rfl
theorem r_shrS {p:Nat}(ho:o.op= .binOp .shr T x y U)(hx:ev F x=some (.int .u64 ((p:Nat):Int)))(hy:ev F y=some (.int .u64 32))(hp:p<4294967296):Rn P o N K W F L (.int .u64 ((0:Nat):Int)):=by
 have h:=r_shrU (P:=P) (N:=N) (K:=K) (W:=W) (L:=L) (k:=32) ho hx hy (by decide)
 rwa [show p/2^32=0 from Nat.div_eq_of_lt hp] at h
theorem r_mulS {p q r:Nat}(ho:o.op= .binOp .mul T x y U)(hx:ev F x=some (.int .u64 ((p:Nat):Int)))(hy:ev F y=some (.int .u64 ((q:Nat):Int)))(hr:p*q=r)(hb:r<18446744073709551616):Rn P o N K W F L (.int .u64 ((r:Nat):Int)):=by
 have h:=r_mulU (P:=P) (N:=N) (K:=K) (W:=W) (L:=L) ho hx hy
 rwa [hr,Nat.mod_eq_of_lt hb] at h
theorem r_addS {p q r:Nat}(ho:o.op= .binOp .add T x y U)(hx:ev F x=some (.int .u64 ((p:Nat):Int)))(hy:ev F y=some (.int .u64 ((q:Nat):Int)))(hr:p+q=r)(hb:r<18446744073709551616):Rn P o N K W F L (.int .u64 ((r:Nat):Int)):=r_bin ho hx hy fun w=>by
 subst hr
 have:(((p:Nat):Int)+(q:Nat))%18446744073709551616=((p+q:Nat):Int):=by omega
 simp [go_sem,IntKind.wrap_u64,this]
end
structure KE where
 k:Int
 v:Int
 b:Nat
def KE.e (x:KE):MapEntry:=⟨.int .i64 x.k, .int .i64 x.v,x.b⟩
def KE.kv (x:KE):Int×Int:=(x.k,x.v)
structure MapC (w:World)(g:Nat)(c:List KE)(t:Nat):Prop where
 blk:w.heap[g]? =some (.map (c.map KE.e).toArray t)
 born:(c.map (·.b)).Nodup
 below:∀x∈c,x.b<t
 keys:(c.map (·.k)).Nodup
def MapZ (w:World)(g:Nat)(l:List (Int×Int)):Prop:=∃c t,MapC w g c t∧c.map KE.kv=l
theorem MapC.of_block {w w' :World}{g:Nat}{c:List KE}{t:Nat}(h:MapC w g c t)(hb:w'.heap[g]? =w.heap[g]?):MapC w' g c t:=⟨hb.trans h.blk,h.born,h.below,h.keys⟩
theorem MapC.lt {w:World}{g:Nat}{c:List KE}{t:Nat}(h:MapC w g c t):g<w.heap.size:=(Array.getElem?_eq_some_iff.1 h.blk).1
def vz (l:List (Int×Int)):List (Int×Value):=l.map fun x=>(x.1, .int .i64 x.2)
theorem MapZ.int {w:World}{g:Nat}{l:List (Int×Int)}(h:MapZ w g l):MapI w g (vz l):=by
 obtain ⟨c,t,h1,rfl⟩:=h
 exact ⟨_,t,h1.blk,by simp [pairsOf,keysI,vz,KE.e,KE.kv,Function.comp_def]⟩
theorem MapZ.keys {w:World}{g:Nat}{l:List (Int×Int)}(h:MapZ w g l):(l.map (·.1)).Nodup:=by
 obtain ⟨c,t,h1,rfl⟩:=h
 have:=h1.keys
 rw [List.map_map]
 exact this
structure MapTZ (P:Program)(T kT eT:TypeId):Prop where
 map:P.underlying T=some (.map kT eT)
 int:P.underlying kT=some (.int .i64)
 zero:∀w,(zeroValue eT).run P w= .ok (.int .i64 0) w
section
variable {P:Program}{o:Oper}{N:Nat}{K:Nat→Prop}{W w:World}{a:Act}{F:List (Nat×Value)}{L:List Asn}{T kT eT:TypeId}{p:Option Nat}{l:List (Int×Int)}{k v:Int}{g:Nat}
end
section
variable {P:Program}{o:Oper}{N:Nat}{K:Nat→Prop}{W w:World}{a:Act}{F:List (Nat×Value)}{L:List Asn}{T kT eT:TypeId}{l:List (Int×Int)}{g r t:Nat}{c:List KE}{s:List Nat}
end
section
variable {pd:Int→Int→Bool}{c:List KE}{s:List Nat}{x:KE}
end
structure MP where
 p:Option Nat
 l:List (Int×Int)
instance : Inhabited MP:=⟨⟨none, []⟩⟩
section
variable {P:Program}{o:Oper}{N:Nat}{K:Nat→Prop}{W w:World}{a:Act}{F:List (Nat×Value)}{L:List Asn}{T kT eT E:TypeId}{v:Value}{M:List MP}{l:List (Int×Int)}{p:Option Nat}{g:Nat}
end
section
variable {N:Nat}{K:Nat→Prop}{W w:World}{a:Act}{F:List (Nat×Value)}{L:List Asn}{α:Type}[Enc α][Flat α]
end
section
variable {P:Program}{o:Oper}{N:Nat}{K:Nat→Prop}{W w:World}{a:Act}{F:List (Nat×Value)}{L:List Asn}
end
section
variable {P:Program}{o:Oper}{N:Nat}{K:Nat→Prop}{W w:World}{F:List (Nat×Value)}{L:List Asn}{T U D:TypeId}{x y:Operand}
theorem r_quoU {p q:Nat}(ho:o.op= .binOp .quo T x y U)(hx:ev F x=some (.int .u64 ((p:Nat):Int)))(hy:ev F y=some (.int .u64 ((q:Nat):Int)))(hq:0<q∧p<18446744073709551616):Rn P o N K W F L (.int .u64 (((p/q:Nat)):Int)):=r_bin ho hx hy fun w=>by
 have h1:¬(q:Int)=0:=by omega
 have h0:¬q=0:=by omega
 have h2:(p:Int).tdiv q=((p/q:Nat):Int):=by rw [Int.tdiv_eq_ediv_of_nonneg (by omega)];rfl
 have h3:(((p/q:Nat):Int))%18446744073709551616=((p/q:Nat):Int):=by
  have hz:p/q<18446744073709551616:=Nat.lt_of_le_of_lt (Nat.div_le_self _ _) hq.2
  generalize p/q=z at hz
  omega
 rw [Int.natCast_ediv] at h3
 simp [go_sem,h0,h1,h2,IntKind.wrap_u64,h3]
theorem r_subU {p q:Nat}(ho:o.op= .binOp .sub T x y U)(hx:ev F x=some (.int .u64 ((p:Nat):Int)))(hy:ev F y=some (.int .u64 ((q:Nat):Int)))(hq:q≤p∧p<18446744073709551616):Rn P o N K W F L (.int .u64 (((p-q:Nat)):Int)):=r_bin ho hx hy fun w=>by
 have:(((p:Nat):Int)-(q:Nat))%18446744073709551616=((p-q:Nat):Int):=by omega
 simp [go_sem,IntKind.wrap_u64,this]
theorem r_negU {p:Nat}(ho:o.op= .unOp .neg T x)(hx:ev F x=some (.int .u64 ((p:Nat):Int))):Rn P o N K W F L (.int .u64 (((toU (-(p:Int)):Nat)):Int)):=fun a w h=>by
 have e:(-(p:Int))%18446744073709551616=((toU (-(p:Int)):Nat):Int):=by unfold toU;omega
 unfold execOp
 simp only [ho,h.fr.ev hx]
 simp [unary_neg,Op.intArith,IntKind.wrap_u64,e]
theorem r_ixStrU {s:ByteArray}{q:Nat}(hT:P.underlying T=some .string)(ho:o.op= .index T x y)(hx:ev F x=some (.string s))(hz:ev F y=some (.int .u64 ((q:Nat):Int)))(hq:q<s.size):Rn P o N K W F L (.int .u8 ((s[q]'hq).toNat:Int)):=fun a w h=>by
 have key:(Instr.index T (.string s) (.int .u64 (q:Int))).run P w= .ok (.int .u8 ((s[q]'hq).toNat:Int)) w:=by
  rw [run_index_string _ _ _ _ _ hT]
  simp [hq]
 unfold execOp
 simp only [ho,h.fr.ev hx,h.fr.ev hz,Sem.run_bind,key,Result.andThen_ok,Sem.run_pure]
end
theorem toU_neg {n:Int}(h:n<0∧-9223372036854775808≤n):toU (-((toU n:Nat):Int))=n.natAbs:=by unfold toU;omega
theorem toU_pos {n:Int}(h:¬n<0)(h2:n<9223372036854775808):toU n=n.natAbs:=by unfold toU;omega
def digS :ByteArray:=⟨#[48,49,50,51,52,53,54,55,56,57,97,98,99,100,101,102,103,104,105,106,107,108,109,110,111,112,113,114,115,116,117,118,119,120,121,122]⟩
theorem digS_at {q:Nat}(h:q<digS.size):digS[q]'h=UInt8.ofNat (dg q):=by
 have key:∀i:Fin 36,digS[i.1]'i.2=UInt8.ofNat (dg i.1):=by decide
 exact key ⟨q,h⟩
theorem dig_room {u k:Nat}(h:u≤18446744073709551615/36^k)(hu:36≤u):k<12:=by
 apply Classical.byContradiction
 intro hk
 have h1:36^12≤36^k:=Nat.pow_le_pow_right (by decide) (by omega)
 have h2:18446744073709551615/36^k≤18446744073709551615/36^12:=Nat.div_le_div_left h1 (by decide)
 have h3:18446744073709551615/36^12=3:=by decide
 omega
theorem dig_next {u k:Nat}(h:u≤18446744073709551615/36^k):u/36≤18446744073709551615/36^(k+1):=by
 rw [Nat.pow_succ,←Nat.div_div_eq_div_mul]
 exact Nat.div_le_div_right h
theorem dig_step {u0 u i:Nat}{l:List UInt8}{b:UInt8}(h:by8 (digs u0)=by8 (digs u)++l.drop (i+1))(hu:36≤u)(hi:i<l.length)(hb:b=UInt8.ofNat (dg (u-u/36*36))):by8 (digs u0)=by8 (digs (u/36))++(l.set i b).drop i:=by
 have e:u-u/36*36=u%36:=by omega
 rw [h,digs_hi (by omega),by8_app,hb,e,List.drop_eq_getElem_cons (show i<(l.set i _).length by rw [List.length_set];exact hi),List.getElem_set_self,List.drop_set_of_lt (by omega),List.append_assoc]
 rfl
theorem dig_last {u0 u i:Nat}{l:List UInt8}{b:UInt8}(h:by8 (digs u0)=by8 (digs u)++l.drop (i+1))(hu:¬36≤u)(hi:i<l.length)(hb:b=UInt8.ofNat (dg u)):by8 (digs u0)=(l.set i b).drop i:=by
 rw [h,digs_lo (by omega),hb,List.drop_eq_getElem_cons (show i<(l.set i _).length by rw [List.length_set];exact hi),List.getElem_set_self,List.drop_set_of_lt (by omega)]
 rfl
theorem nil_at {α:Type}[Enc α](w:World):(⟨.slice none 0 0, []⟩:Ls α).At w:=(((Sh0.start w).nil (α:=α) 0).own 0 rfl)
theorem Sh.nilAt {α:Type}[Enc α]{K:Nat→Prop}{W w:World}{L:List Asn}(h:Sh K W w L):(⟨.slice none 0 0, []⟩:Ls α).At w:=nil_at w
theorem ar_247 :arI Tryz.prog 247=some (65,5):=by kernel_rfl
theorem pow36_c (W:World):
    Rets Tryz.prog 178 [.int .i64 36] W (fun v w' =>v= .bool false∧Sh0 W w' []):=by
 refine gen Tryz.func178 Tryz.ntmps178 (Sh0.start _:Sh (fun _=>False) W W []) rfl fun a10 h10=>gG h10<|sG (oM 1 rfl<|.nl)<|sG (oM 2 rfl<|osbN 36 1 om9 rfl<|oV (r_bin (v:= .int .i64 32) rfl rfl rfl (fun w=>by first|kernel_rfl|rfl|simp [go_sem])) rfl<|oeqN 32 0 rfl<|oM 1 rfl<|.nl)<|gR<|fun a13 w13 h13=>x_ret1 (fn:=Tryz.f178) (t:=2) rfl h13 rfl ?_;clear h10
 exact ⟨rfl,(h13.sh.sel [] rfl)⟩
theorem fmtB_c (K:Nat→Prop)(bs:Ls UInt8)(u0:Nat)(W:World)(hS:Sh K W W [.own 5 bs])(hu0:u0<18446744073709551616)(hbn:bs.l.length≤100000000000000):
    Rets Tryz.prog 174 [bs.v, .int .u64 ((u0:Nat):Int), .int .i64 36, .bool false, .bool true] W (fun v w' =>∃bs' :Ls UInt8,v= .tuple #[bs'.v, .string ⟨#[]⟩]∧bs'.l=bs.l++by8 (digs u0)∧Sh K W w' [.own 5 bs']):=by
 refine gen Tryz.func174 Tryz.ntmps174 hS rfl fun a10 h10=>gG h10<|sG (oM 2 rfl<|.nl)<|gK fun _ k12=>sG (oM 1 rfl<|oltN 36 2 rfl<|oM 1 rfl<|oG (by decide) (r_move rfl rfl) rfl<|oG (by decide) (r_eqlN (p:=36) (q:=10) rfl rfl rfl) rfl<|opF (by decide) rfl<|oM 1 rfl<|oG (by decide) (r_move rfl rfl) rfl<|oG (by decide) (r_gtrN (p:=36) (q:=36) rfl rfl rfl) rfl<|opF (by decide) rfl<|.nl)<|gcF rfl (by decide)<|gS<|hK k12<|sK fun _ k14=>gE1 (fun _ _ h_=>x_allocBy (k:=65) h_ ti_247 (by kernel_rfl) rfl rfl rfl) rfl fun b15=>nK k14<|sG (oM 1 rfl<|.nl)<|gK fun _ k17=>sG (oM 1 rfl<|.nl)<|gcF rfl rfl<|gS<|hK k17<|gK fun _ k19=>sK fun _ k20=>gRn (oM 1 rfl<|.nl)<|gP (fun _ _ h_=>xCl h_ bd_178 rfl (pow36_c _)) rfl<|nK k20<|gcF rfl rfl<|sG (oM 1 rfl<|oV (r_cvUN Tryz.underlying3 Tryz.underlying202 rfl rfl (show 36<18446744073709551616 from om9)) rfl<|oM 1 rfl<|.nl)<|gK fun _ k23=>gB<|fun a25 w25 h25=>x_loop (fun m a w=>∃(i k u:Nat) (al:List UInt8),(i+k=65∧k≤12)∧(u≤18446744073709551615/36^k)∧(u≤18446744073709551615)∧(al.length=65)∧(by8 (digs u0)=by8 (digs u)++al.drop i)∧St 102 K W a w [(0,bs.v),(1, .int .u64 ((u:Nat):Int)),(3, .bool false),(4, .bool true),(10,(.slice none 0 0)),(11, .string ({ data:= #[] })),(12, .pointer (some ⟨b15,0,none⟩)),(13, .int .i64 ((i:Nat):Int)),(17, .int .u64 ((36:Nat):Int))] [.blk b15 247 (al.map bv), .own 5 bs]∧m=u) ⟨_,65,0,u0,List.replicate 65 (0:UInt8),(by omega),(by simpa using (by omega:u0≤18446744073709551615)),(by omega),(by simp),(by simp),h25.nf ⟨rfl,rfl,rfl,rfl,rfl,rfl,rfl,rfl,rfl,trivial⟩,rfl⟩ ?_;clear h10
 clear h25
 rintro m24 a24 w24 ⟨i,k,u,al,hik,hu,hu2,hal,hd,h24,hm24⟩
 refine gG h24<|gK fun _ k26=>sG (oM 2 rfl<|ogeN _ 36 rfl<|.nl)<|?_;clear h24
 refine gcd rfl (fun hb28 hp28=> ?_) fun hb28 hp28=> ?_
 ·skip
  refine gS<|hK k26<|?_
  have hk12:=dig_room hu (by assumption)
  refine gB<|sG (oM 1 rfl<|osbN _ 1 om9 rfl<|oM 1 rfl<|.nl)<|sG (oM 2 rfl<|oV (r_quoU (p:=u) (q:=36) rfl rfl rfl (show 0<36∧u<18446744073709551616 from om9)) rfl<|oM 1 rfl<|.nl)<|sK fun _ k31=>gRn (oM 4 rfl<|oV (r_mulS (p:=u/36) (q:=36) (r:=(u/36)*36) rfl rfl rfl rfl (show (u/36)*36<18446744073709551616 from om9)) rfl<|oV (r_subU (p:=u) (q:=(u/36)*36) rfl rfl rfl (show (u/36)*36≤u∧u<18446744073709551616 from om9)) rfl<|.nl)<|?_
  have hx32:u-((u/36)*36)<digS.size:=(by first|omega|(show _<36;omega))
  intro a34 w34 h34
  refine wv h34 (r_ixStrU (s:=digS) (q:=u-((u/36)*36)) Tryz.underlying9 rfl rfl rfl hx32) rfl rfl fun a33 h33=>gG h33<|gRn (oV (r_ixAr (q:=i-1) ar_247 ti_5 rfl rfl rfl rfl (show i-1<65 from (by first|omega|(show _<36;omega)))) rfl<|.nl)<|gE (fun _ _ h_=>x_stBy (i:=0) (l:=al) (n:=(digS[u-((u/36)*36)]'hx32)) h_ ti_5 rfl rfl rfl rfl rfl (show i-1<al.length from om9)) rfl<|nK k31<|gL<|gRn (oM 2 rfl<|.nl)<|nN<|fun a36 w36 h36=> ?_;clear h34 h33
  change∃_m,_m<_∧_
  refine ⟨_, ?_,(i-1),(k+1),(u/36),al.set (i-1) (digS[u-((u/36)*36)]'hx32), ?_, ?_, ?_, ?_, ?_,h36.nf ⟨rfl,rfl,rfl,rfl,rfl,rfl,rfl,rfl,rfl,trivial⟩,rfl⟩
  · rw [hm24];omega
  · omega
  · exact dig_next hu
  · omega
  · simpa using hal
  · exact dig_step (by rw [show i-1+1=i by omega];exact hd) (by assumption) (by omega) (digS_at _)
 refine gX<|hK k23<|sG (oM 1 rfl<|osbN _ 1 om9 rfl<|oM 1 rfl<|.nl)<|gL<|gRn (oM 2 rfl<|.nl)<|?_
 have hx38:u<digS.size:=(by first|omega|(show _<36;omega))
 intro a40 w40 h40
 refine wv h40 (r_ixStrU (s:=digS) (q:=u) Tryz.underlying9 rfl rfl rfl hx38) rfl rfl fun a39 h39=>gG h39<|gRn (oV (r_ixAr (q:=i-1) ar_247 ti_5 rfl rfl rfl rfl (show i-1<65 from (by first|omega|(show _<36;omega)))) rfl<|.nl)<|gE (fun _ _ h_=>x_stBy (i:=0) (l:=al) (n:=(digS[u]'hx38)) h_ ti_5 rfl rfl rfl rfl rfl (show i-1<al.length from om9)) rfl<|nK k19<|gK fun _ k42=>sG (oM 1 rfl<|.nl)<|gcF rfl rfl<|gS<|hK k42<|gK fun _ k44=>sG (oM 1 rfl<|.nl)<|gcT rfl rfl<|sK fun _ k46=>gRn (oM 2 rfl<|oV (r_slBy (q:=i-1) ar_247 ti_5 rfl rfl rfl rfl (show i-1<65 from om9)) rfl<|.nl)<|gE1 (fun _ _ h_=>x_app (r:=1) (rm:=0) (s:=bs) (m:=(⟨(arrS b15 (i-1) 65),((al.set (i-1) (digS[u]'hx38)).drop (i-1))⟩:Ls UInt8)) h_ sl_204 ti_5 rfl rfl rfl rfl rfl rfl rfl (fun w h=>(arr_at h (i:=0) rfl (by simpa using hal) (show i-1≤65 from om9) (by decide))) (fun b hb=> .inl (arr_on hb)) (fun q hq b hb=>(Flat.on _ _ hb).elim) rfl rfl rfl inferInstance (show (bs.l.length+((al.set (i-1) (digS[u]'hx38)).drop (i-1)).length)*1≤140737488355328∧bs.l.length+((al.set (i-1) (digS[u]'hx38)).drop (i-1)).length≤140737488355328 from (by first|omega|(simp only [List.length_drop,List.length_set,hal];omega))) rfl rfl) rfl fun v47=>gRn (oM 1 rfl<|.nl)<|nK k46<|gR<|uT<|fun a48 w48 h48=>x_ret2 (fn:=Tryz.f174) (t:=10) (u:=11) rfl h48 rfl rfl<|⟨⟨v47,bs.l++((al.set (i-1) (digS[u]'hx38)).drop (i-1))⟩,rfl, ?_,(h48.sh.sel [1] rfl)⟩;clear h40 h39
 show bs.l++_=bs.l++_
 congr 1
 exact (dig_last (by rw [show i-1+1=i by omega];exact hd) (by assumption) (by omega) (digS_at _)).symm
theorem appU_c (K:Nat→Prop)(bs:Ls UInt8)(u0:Nat)(W:World)(hS:Sh K W W [.own 5 bs])(hu0:u0<18446744073709551616)(hbn:bs.l.length≤100000000000000):
    Rets Tryz.prog 167 [bs.v, .int .u64 ((u0:Nat):Int), .int .i64 36] W (fun v w' =>∃bs' :Ls UInt8,v=bs'.v∧bs'.l=bs.l++by8 (digs u0)∧Sh K W w' [.own 5 bs']):=by
 refine gen Tryz.func167 Tryz.ntmps167 hS rfl fun a10 h10=>gG h10<|sG (oM 1 rfl<|.nl)<|gK fun _ k12=>sG (oM 1 rfl<|oeqN 36 10 rfl<|.nl)<|gcF rfl (by decide)<|gS<|hK k12<|sK fun _ k14=>gRn (oM 3 rfl<|.nl)<|gM 1 rfl (fun _ _ h_=>xCl h_ bd_174 rfl (fmtB_c _ bs (u0) _ (pKl 1 h_ rfl) (by omega) (by omega))) rfl<|?_;clear h10
 rintro _ _ w16 ⟨bs16,rfl,hbl16,hs16⟩
 refine gBk hs16 rfl<|gU<|gRn (oM 1 rfl<|oxt rfl<|oxt rfl<|oM 1 rfl<|.nl)<|nK k14<|sG (oM 2 rfl<|.nl)<|gR<|fun a18 w18 h18=> ?_;clear hs16
 refine x_ret1 (fn:=Tryz.f167) (t:=6) rfl h18 rfl ?_
 exact ⟨bs16,rfl,hbl16,h18.sh⟩
theorem appI_c (K:Nat→Prop)(bs:Ls UInt8)(n0:Int)(W:World)(hS:Sh K W W [.own 5 bs])(hn0: -9223372036854775808≤n0∧n0<9223372036854775808)(hbn:bs.l.length≤10000000000000):
    Rets Tryz.prog 153 [bs.v, .int .i64 n0, .int .i64 36] W (fun v w' =>∃bs' :Ls UInt8,v=bs'.v∧bs'.l=bs.l++by8 (num36 n0)∧Sh K W w' [.own 5 bs']):=by
 refine gen Tryz.func153 Tryz.ntmps153 hS rfl fun a10 h10=>gG h10<|sG (oM 1 rfl<|.nl)<|sG (oM 1 rfl<|oV (r_cvU Tryz.underlying2 Tryz.underlying202 rfl rfl) rfl<|oM 1 rfl<|.nl)<|gK fun _ k13=>sG (oM 1 rfl<|oltI _ _ rfl<|.nl)<|?_;clear h10
 refine gcd rfl (fun hb15 hp15=> ?_) fun hb15 hp15=> ?_
 ·skip
  refine sK fun _ k16=>gRn (oM 1 rfl<|.nl)<|gE1 (fun _ _ h_=>x_lit (n:=1) (cs:= [.int .u8 45]) ([45]:List UInt8) h_ sl_204 ti_5 rfl rfl rfl (by decide) rfl (by kernel_rfl) rfl (fun q hq w h=>Flat.inner _ _) (fun q hq b hb=>(Flat.on _ _ hb).elim) rfl rfl) rfl fun v17=>gE1 (fun _ _ h_=>x_app (r:=1) (rm:=0) (s:=bs) (m:=(⟨v17, [45]⟩:Ls UInt8)) h_ sl_204 ti_5 rfl rfl rfl rfl rfl rfl rfl (fun w h=>(h.own 0 rfl)) (fun b hb=>own_on (h_.sh.ok _ (List.mem_of_getElem? (i:=0) rfl)) hb) (fun q hq b hb=>⟨q,hq,hb⟩) rfl rfl rfl inferInstance (show (bs.l.length+([45]).length)*1≤140737488355328∧bs.l.length+([45]).length≤140737488355328 from om9) rfl rfl) rfl fun v18=>gRn (oM 1 rfl<|.nl)<|nK k16<|gL<|gRn (oM 1 rfl<|oV (r_negU (p:=toU n0) rfl rfl) rfl<|oM 1 rfl<|.nl)<|nK k13<|sK fun _ k19=>gRn (oM 3 rfl<|.nl)<|gO [1,0] rfl<|gM 1 rfl (fun _ _ h_=>xCl h_ bd_167 rfl (appU_c _ (⟨v18,bs.l++([45])⟩:Ls UInt8) (toU (-((toU n0:Nat):Int))) _ (pKl 1 h_ rfl) (by first|exact toU_lt _|omega) (by first|omega|(rw [List.length_append];simp;omega)|(simp;omega)))) rfl<|?_
  rintro _ _ w22 ⟨bs22,rfl,hbl22,hs22⟩
  refine gBk hs22 rfl<|gU<|gRn (oM 1 rfl<|.nl)<|nK k19<|gR<|fun a23 w23 h23=> ?_;clear hs22
  refine x_ret1 (fn:=Tryz.f153) (t:=6) rfl h23 rfl<|⟨bs22,rfl,hbl22.trans ?_,(h23.sh.sel [0] rfl)⟩
  unfold num36
  first|(rw [if_pos (by assumption),toU_neg (by omega),List.append_assoc];rfl)|(rw [if_neg (by assumption),toU_pos (by assumption) (by omega)])
 refine gS<|hK k13<|sK fun _ k24=>gRn (oM 3 rfl<|.nl)<|gM 1 rfl (fun _ _ h_=>xCl h_ bd_167 rfl (appU_c _ bs (toU n0) _ (pKl 1 h_ rfl) (by first|exact toU_lt _|omega) (by first|omega|(rw [List.length_append];simp;omega)|(simp;omega)))) rfl<|?_
 rintro _ _ w26 ⟨bs26,rfl,hbl26,hs26⟩
 refine gBk hs26 rfl<|gU<|gRn (oM 1 rfl<|.nl)<|nK k24<|gR<|fun a27 w27 h27=> ?_;clear hs26
 refine x_ret1 (fn:=Tryz.f153) (t:=6) rfl h27 rfl<|⟨bs26,rfl,hbl26.trans ?_,h27.sh⟩
 unfold num36
 first|(rw [if_pos (by assumption),toU_neg (by omega),List.append_assoc];rfl)|(rw [if_neg (by assumption),toU_pos (by assumption) (by omega)])
theorem sappI_c (K:Nat→Prop)(bs:Ls UInt8)(n0:Int)(W:World)(hS:Sh K W W [.own 5 bs])(hn0: -9223372036854775808≤n0∧n0<9223372036854775808)(hbn:bs.l.length≤10000000000000):
    Rets Tryz.prog 142 [bs.v, .int .i64 n0, .int .i64 36] W (fun v w' =>∃bs' :Ls UInt8,v=bs'.v∧bs'.l=bs.l++by8 (num36 n0)∧Sh K W w' [.own 5 bs']):=by
 refine gen Tryz.func142 Tryz.ntmps142 hS rfl fun a10 h10=>gG h10<|sG (oM 1 rfl<|.nl)<|sK fun _ k12=>gRn (oM 3 rfl<|.nl)<|gM 1 rfl (fun _ _ h_=>xCl h_ bd_153 rfl (appI_c _ bs (n0) _ (pKl 1 h_ rfl) (by omega) (by omega))) rfl<|?_;clear h10
 rintro _ _ w14 ⟨bs14,rfl,hbl14,hs14⟩
 refine gBk hs14 rfl<|gU<|gRn (oM 1 rfl<|.nl)<|nK k12<|gR<|fun a15 w15 h15=> ?_;clear hs14
 refine x_ret1 (fn:=Tryz.f142) (t:=6) rfl h15 rfl ?_
 exact ⟨bs14,rfl,hbl14,h15.sh⟩
end Go.Proofs.YtmjkobhkkjgplaaGreatDoor
namespace Go.Proofs.YtmjkobhkkjgplaaGreatDoor
open Go.RowKit Go.Shelf
set_option linter.unusedSimpArgs false
set_option linter.unusedVariables false
attribute [local go_sem] Oper.semAt_some
@[local go_sem] theorem sz_wt:Enc.sz Wt=3:=rfl
@[local go_sem] theorem agg_wt:Enc.agg Wt=true:=rfl
@[local go_sem] theorem cell_wt0 (x:Wt):Enc.cell x 0= .bool x.lock:=rfl
@[local go_sem] theorem cell_wt1 (x:Wt):Enc.cell x 1= .int .i64 x.wh:=rfl
@[local go_sem] theorem cell_wt2 (x:Wt):Enc.cell x 2= .int .i64 x.what:=rfl
@[local go_sem] theorem whole_wt (x:Wt):Enc.whole x= .agg #[.bool x.lock, .int .i64 x.wh, .int .i64 x.what]:=rfl
end Go.Proofs.YtmjkobhkkjgplaaGreatDoor
namespace Go.Proofs.YtmjkobhkkjgplaaGreatDoor
open Go.RowKit
set_option linter.unusedSimpArgs false
set_option linter.unusedVariables false
set_option maxRecDepth 100000
set_option maxHeartbeats 4000000
theorem rep_of {c:Nat}{e:Int}{l:List Int}(h1:l.length=c)(h2:∀i,i<c→nth l i=e):l=List.replicate c e:=by
 refine ext_nth _ _ (by simpa using h1) fun i hi=> ?_
 rw [h2 i (by omega),nth_replicate _ _ _ (by omega)]
theorem nth_copy (l m:List Int)(n k i:Nat)(h1:n+k≤l.length)(h2:k≤m.length):nth (l.take n++m.take k++l.drop (n+k)) i=if i<n then nth l i else if i<n+k then nth m (i-n) else nth l i:=by
 have e1:(l.take n).length=n:=by rw [List.length_take];omega
 have e2:(m.take k).length=k:=by rw [List.length_take];omega
 have e3:(l.take n++m.take k).length=n+k:=by rw [List.length_append,e1,e2]
 rw [nth_append,e3]
 by_cases h:i<n+k
 ·rw [if_pos h,nth_append,e1]
  by_cases h3:i<n
  ·rw [if_pos h3,if_pos h3,nth_take0 h3]
  ·rw [if_neg h3,if_neg h3,if_pos h,nth_take0 (by omega)]
 ·rw [if_neg h,if_neg (by omega),if_neg h,nth_drop0,show n+k+(i-(n+k))=i by omega]
theorem mul64_c (x y:Nat)(W:World)(hx:x≤100000)(hy:y≤100000)(hxy:x*y≤100000):
    Rets Tryz.prog 165 [.int .u64 ((x:Nat):Int), .int .u64 ((y:Nat):Int)] W (fun v w' =>v= .tuple #[.int .u64 ((0:Nat):Int), .int .u64 ((x*y:Nat):Int)]∧Sh0 W w' []):=by
 refine gen Tryz.func165 Tryz.ntmps165 (Sh0.start _:Sh (fun _=>False) W W []) rfl fun a10 h10=>gG h10<|sG (oM 2 rfl<|.nl)<|sG (oM 1 rfl<|oV (r_andS (p:=x) rfl rfl rfl (show x<4294967296 from om9)) rfl<|oM 1 rfl<|.nl)<|sG (oM 1 rfl<|oV (r_shrS (p:=x) rfl rfl rfl (show x<4294967296 from om9)) rfl<|oM 1 rfl<|.nl)<|sG (oM 1 rfl<|oV (r_andS (p:=y) rfl rfl rfl (show y<4294967296 from om9)) rfl<|oM 1 rfl<|.nl)<|sG (oM 1 rfl<|oV (r_shrS (p:=y) rfl rfl rfl (show y<4294967296 from om9)) rfl<|oM 1 rfl<|.nl)<|sG (oM 2 rfl<|oV (r_mulS (p:=x) (q:=y) (r:=x*y) rfl rfl rfl rfl (show x*y<18446744073709551616 from om9)) rfl<|oM 1 rfl<|.nl)<|sG (oM 2 rfl<|oV (r_mulS (p:=0) (q:=y) (r:=0) rfl rfl rfl (by simp) (show 0<18446744073709551616 from om9)) rfl<|oM 1 rfl<|oV (r_shrS (p:=x*y) rfl rfl rfl (show x*y<4294967296 from om9)) rfl<|oV (r_addS (p:=0) (q:=0) (r:=0) rfl rfl rfl (by simp) (show 0<18446744073709551616 from om9)) rfl<|oM 1 rfl<|.nl)<|sG (oM 1 rfl<|oV (r_andS (p:=0) rfl rfl rfl (show 0<4294967296 from om9)) rfl<|oM 1 rfl<|.nl)<|gF [0,1,6,7,9,11,12] rfl<|sG (oM 1 rfl<|oV (r_shrS (p:=0) rfl rfl rfl (show 0<4294967296 from om9)) rfl<|oM 1 rfl<|.nl)<|sG (oM 3 rfl<|oV (r_mulS (p:=x) (q:=0) (r:=0) rfl rfl rfl (by simp) (show 0<18446744073709551616 from om9)) rfl<|oV (r_addS (p:=0) (q:=0) (r:=0) rfl rfl rfl (by simp) (show 0<18446744073709551616 from om9)) rfl<|oM 1 rfl<|.nl)<|sG (oM 2 rfl<|oV (r_mulS (p:=0) (q:=0) (r:=0) rfl rfl rfl (by simp) (show 0<18446744073709551616 from om9)) rfl<|oM 1 rfl<|oV (r_addS (p:=0) (q:=0) (r:=0) rfl rfl rfl (by simp) (show 0<18446744073709551616 from om9)) rfl<|oM 1 rfl<|oV (r_shrS (p:=0) rfl rfl rfl (show 0<4294967296 from om9)) rfl<|oV (r_addS (p:=0) (q:=0) (r:=0) rfl rfl rfl (by simp) (show 0<18446744073709551616 from om9)) rfl<|oM 1 rfl<|.nl)<|sG (oM 2 rfl<|oV (r_mulS (p:=x) (q:=y) (r:=x*y) rfl rfl rfl rfl (show x*y<18446744073709551616 from om9)) rfl<|oM 1 rfl<|.nl)<|gF [4,5] rfl<|gR<|fun a23 w23 h23=>x_ret2 (fn:=Tryz.f165) (t:=4) (u:=5) rfl h23 rfl rfl ?_;clear h10
 exact ⟨rfl,(h23.sh.sel [] rfl)⟩
theorem mul_c (x y:Nat)(W:World)(hx:x≤100000)(hy:y≤100000)(hxy:x*y≤100000):
    Rets Tryz.prog 147 [.int .u64 ((x:Nat):Int), .int .u64 ((y:Nat):Int)] W (fun v w' =>v= .tuple #[.int .u64 ((0:Nat):Int), .int .u64 ((x*y:Nat):Int)]∧Sh0 W w' []):=by
 refine gen Tryz.func147 Tryz.ntmps147 (Sh0.start _:Sh (fun _=>False) W W []) rfl fun a10 h10=>gG h10<|sG (oM 2 rfl<|.nl)<|gK fun _ k12=>gcF rfl rfl<|gS<|hK k12<|sK fun _ k13=>gRn (oM 2 rfl<|.nl)<|gP (fun _ _ h_=>xCl h_ bd_165 rfl (mul64_c x y _ (by omega) (by omega) (by omega))) rfl<|gRn (oM 1 rfl<|oxt rfl<|oxt rfl<|oM 2 rfl<|.nl)<|nK k13<|sG (oM 4 rfl<|.nl)<|gR<|fun a16 w16 h16=>x_ret2 (fn:=Tryz.f147) (t:=4) (u:=5) rfl h16 rfl rfl ?_;clear h10
 exact ⟨rfl,(h16.sh.sel [] rfl)⟩
theorem repeat_c (x:Ls Int)(c:Nat)(W:World)(hx:x.At W)(hx1:x.l.length=1)(hc:c≤1000):
    Rets Tryz.prog 124 [x.v, .int .i64 ((c:Nat):Int)] W (fun v w' =>∃s:Ls Int,v=s.v∧Sh0 W w' [.own 3 (⟨s.v,List.replicate c (nth x.l 0)⟩:Ls Int)]):=by
 have hxc:x.l.length*c=c:=by rw [hx1,Nat.one_mul]
 refine gen Tryz.func124 Tryz.ntmps124 (Sh0.ext1 hx:Sh (fun _=>False) W W [.at_ x]) rfl fun a10 h10=>gG h10<|sG (oM 1 rfl<|.nl)<|gK fun _ k12=>sG (oM 1 rfl<|oltN _ 0 rfl<|.nl)<|?_;clear h10
 refine gcd rfl (fun hb14 hp14=> ?_) fun hb14 hp14=> ?_
 ·skip
  exfalso
  omega
 refine gS<|hK k12<|sK fun _ k15=>gNl (aA 0 rfl) fun hl16=>gRn (oM 1 rfl<|oln sl_23 (aA 0 rfl) rfl<|oV (r_cvUN Tryz.underlying3 Tryz.underlying143 rfl rfl (show x.l.length<18446744073709551616 from om9)) rfl<|oM 1 rfl<|oV (r_cvUN Tryz.underlying3 Tryz.underlying143 rfl rfl (show c<18446744073709551616 from om9)) rfl<|.nl)<|gP (fun _ _ h_=>xCl h_ bd_147 rfl (mul_c x.l.length c _ (by omega) (by omega) (by rw [hxc];omega))) rfl<|gRn (oM 1 rfl<|oxt rfl<|oxt rfl<|oM 2 rfl<|.nl)<|nK k15<|fun a19 w19 h19=> ?_
 have h18:=h19.same (d:=6) (v' := .int .u64 ((c:Nat):Int)) rfl (by rw [hx1,Nat.one_mul];rfl)
 clear h19
 refine gG h18<|gK fun _ k20=>sG (oM 1 rfl<|ogtN 0 0 rfl<|oM 1 rfl<|oG (by decide) (r_move rfl rfl) rfl<|oG (by decide) (r_gtrN (p:=c) (q:=9223372036854775807) rfl rfl rfl) rfl<|opF (by decide) rfl<|.nl)<|?_;clear h18
 refine gcd rfl (fun hb22 hp22=> ?_) fun hb22 hp22=> ?_
 ·skip
  exfalso
  omega
 refine gS<|hK k20<|sK fun _ k23=>gRn (oM 1 rfl<|oV (r_cvI Tryz.underlying143 Tryz.underlying3 rfl rfl (show c<9223372036854775808 from om9)) rfl<|.nl)<|gE1 (fun _ _ h_=>x_make (n:=c) (0:Int) h_ sl_23 ti_3 rfl rfl rfl rfl rfl (show 8*c≤140737488355328∧c≤140737488355328 from om9) (fun w=>Flat.inner _ _) (fun b=>Flat.on _ _) rfl rfl) rfl fun v24=>gRn (oM 1 rfl<|.nl)<|nK k23<|gF [0,7] rfl<|sK fun _ k25=>gRn (oM 2 rfl<|.nl)<|gE (fun _ _ h_=>x_copy (r:=0) (n:=0) (k:=min x.l.length ((List.replicate c 0).length-0)) (s:=(⟨v24,List.replicate c 0⟩:Ls Int)) (m:=(⟨x.v,x.l⟩:Ls Int)) h_ sl_23 ti_3 rfl rfl (.inl ⟨rfl,rfl⟩) rfl rfl (h_.sh.at 1 rfl) (show 0≤(List.replicate c 0).length from om9) rfl rfl rfl) rfl<|gRn (oM 1 rfl<|.nl)<|nK k25<|gK fun _ k27=>gB<|?_
 have hk0:min x.l.length ((List.replicate c (0:Int)).length-0)=if c=0 then 0 else 1:=by rw [hx1,List.length_replicate];split<;>omega
 intro a29 w29 h29
 refine x_loop (fun m a w=>∃(n:Nat) (ro:List Int),(n≤c)∧(ro.length=c)∧(c=0∨1≤n)∧(∀i,i<n→nth ro i=nth x.l 0)∧St 48 (fun _=>False) W a w [(7,v24),(8, .int .i64 ((n:Nat):Int))] [.own 3 (⟨v24,ro⟩:Ls Int), .at_ x]∧m=c-n) ⟨_,min x.l.length ((List.replicate c 0).length-0),(List.replicate c 0).take 0++x.l.take (min x.l.length ((List.replicate c 0).length-0))++(List.replicate c 0).drop (0+min x.l.length ((List.replicate c 0).length-0)),(by rw [hk0];split<;>omega),(by simp only [List.length_append,List.length_take,List.length_drop,List.length_replicate];omega),(by rw [hk0];split<;>omega),(fun i hi=>by rw [hk0] at hi⊢;rw [nth_copy _ _ _ _ _ (by rw [List.length_replicate];split<;>omega) (by rw [hx1];split<;>omega),if_neg (by omega),if_pos (by omega),show i-0=0 by split at hi<;>omega]),h29.nf ⟨rfl,rfl,trivial⟩,rfl⟩ ?_
 clear h29
 rintro m28 a28 w28 ⟨n,ro,hn,hro,hn1,hall,h28,hm28⟩
 refine gG h28<|gK fun _ k30=>sK fun _ k31=>gNl (aO 0 rfl) fun (hl32:ro.length≤140737488355328)=>gRn (oM 2 rfl<|oln (n:=ro.length) sl_23 (aO 0 rfl) rfl<|oltN _ _ rfl<|.nl)<|nK k31<|?_;clear h28
 refine gcd rfl (fun hb33 hp33=> ?_) fun hb33 hp33=> ?_
 ·skip
  refine gS<|hK k30<|gB<|rT 7 [0] (oM 3 rfl<|oV (r_slL (s:=(⟨v24,ro⟩:Ls Int)) (k:=n) sl_23 ti_3 rfl rfl rfl (fun w h=>(h.own 0 rfl)) (show n≤ro.length from om9)) rfl<|oM 2 rfl<|oV (r_slH (s:=(⟨v24,ro⟩:Ls Int)) (j:=n) sl_23 ti_3 rfl rfl rfl (fun w h=>(h.own 0 rfl)) (show n≤ro.length from om9) (show 0<ro.length from om9)) rfl<|.nl)<|gE (fun _ _ h_=>x_copy (r:=0) (n:=n) (k:=min (ro.take n).length (ro.length-n)) (s:=(⟨v24,ro⟩:Ls Int)) (m:=(⟨(vtake v24 n),(ro.take n)⟩:Ls Int)) h_ sl_23 ti_3 rfl rfl (.inr rfl) rfl rfl (take_at (h_.sh.own 0 rfl) (show n≤ro.length from om9)) (show n≤ro.length from om9) rfl rfl rfl) rfl<|gRn (oadN _ _ (show n+(min (ro.take n).length (ro.length-n))<9223372036854775808 from om9) rfl<|oM 1 rfl<|.nl)<|nN<|fun a35 w35 h35=> ?_
  change∃_m,_m<_∧_
  refine ⟨_, ?_,n+(min (ro.take n).length (ro.length-n)),ro.take n++(ro.take n).take (min (ro.take n).length (ro.length-n))++ro.drop (n+min (ro.take n).length (ro.length-n)), ?_, ?_, ?_, ?_,h35.nf ⟨rfl,rfl,trivial⟩,rfl⟩
  · rw [hm28];rw [List.length_take,hro];omega
  · rw [List.length_take,hro] at*;omega
  · simp only [List.length_append,List.length_take,List.length_drop,hro];omega
  · omega
  · intro i hi;rw [List.length_take,hro] at hi⊢;rw [nth_copy _ _ _ _ _ (by rw [hro];omega) (by rw [List.length_take,hro];omega)];split;(exact hall i (by assumption));(try rw [if_pos (by omega)]);rw [nth_take0 (by omega)];exact hall _ (by omega)
 refine gX<|hK k27<|sG (oM 2 rfl<|.nl)<|gR<|fun a37 w37 h37=>x_ret1 (fn:=Tryz.f124) (t:=4) rfl h37 rfl ?_
 have he9:ro=List.replicate c (nth x.l 0):=rep_of hro (fun i hi=>hall i (by omega))
 rw [he9] at h37
 exact ⟨⟨v24, []⟩,rfl,(h37.sh.sel [0] rfl)⟩
theorem pnew_c (words:Ls Int)(Lk:Nat)(cv:Value)(nregs:Int)(W:World)(hwords:words.At W)(hwn:words.l.length≤64)(hlk:Lk≤4):
    Rets Tryz.prog 81 [.agg #[cv,words.v, .int .i64 ((Lk:Nat):Int), .int .i64 nregs]] W (fun v w' =>∃(g:Nat) (words' owner' :Ls Int),v= .pointer (some ⟨g,0,none⟩)∧words'.l=words.l∧owner'.l=List.replicate Lk (-1)∧Sh0 W w' [.blk g 182 [words'.v,owner'.v], .own 3 words', .own 3 owner']):=by
 refine gen Tryz.func81 Tryz.ntmps81 (Sh0.ext1 hwords:Sh (fun _=>False) W W [.at_ words]) rfl fun a10 h10=>gG h10<|sK fun _ k11=>gbx rfl rfl fun b12=>gRn (oM 1 rfl<|.nl)<|nK k11<|gK fun _ k13=>gF [0,1] rfl<|fun a14 w14 h14=>x_any ((fun Φ Ψ S a w=>(S 2=false∧S 3=false∧S 6=false∧S 8=false∧FrI 12 S Φ Ψ a∧Sh (fun _=>False) W w [.blk b12 25 [cv,words.v, .int .i64 ((Lk:Nat):Int), .int .i64 nregs], .at_ words])∨(S 2=true∧S 3=false∧S 6=false∧S 8=false∧∃(s7002:Ls Int),FrI 12 S Φ (Ψ++ [(2,5,s7002.v)]) a∧Sh (fun _=>False) W w [.own 3 (⟨s7002.v,words.l⟩:Ls Int), .blk b12 25 [cv,words.v, .int .i64 ((Lk:Nat):Int), .int .i64 nregs], .at_ words])∨(S 2=false∧S 3=true∧S 6=false∧S 8=false∧∃(v7003:Value),FrI 12 S Φ (Ψ++ [(3,6,v7003)]) a∧Sh (fun _=>False) W w [.own 3 (⟨v7003, [(-1)]⟩:Ls Int), .blk b12 25 [cv,words.v, .int .i64 ((Lk:Nat):Int), .int .i64 nregs], .at_ words])∨(S 2=true∧S 3=true∧S 6=false∧S 8=false∧∃(s7002:Ls Int) (v7003:Value),FrI 12 S Φ (Ψ++ [(2,5,s7002.v),(3,6,v7003)]) a∧Sh (fun _=>False) W w [.own 3 (⟨v7003, [(-1)]⟩:Ls Int), .own 3 (⟨s7002.v,words.l⟩:Ls Int), .blk b12 25 [cv,words.v, .int .i64 ((Lk:Nat):Int), .int .i64 nregs], .at_ words])∨(S 2=true∧S 3=true∧S 6=true∧S 8=false∧∃(s7002:Ls Int) (v7003:Value) (s7006:Ls Int),FrI 12 S Φ (Ψ++ [(2,5,s7002.v),(3,6,v7003),(6,9,s7006.v),(7,10, .agg #[s7002.v,s7006.v])]) a∧Sh (fun _=>False) W w [.own 3 (⟨s7006.v,List.replicate Lk (nth ([(-1)]) 0)⟩:Ls Int), .own 3 (⟨v7003, [(-1)]⟩:Ls Int), .own 3 (⟨s7002.v,words.l⟩:Ls Int), .blk b12 25 [cv,words.v, .int .i64 ((Lk:Nat):Int), .int .i64 nregs], .at_ words])∨(S 2=true∧S 3=true∧S 6=true∧S 8=true∧∃(s7002:Ls Int) (v7003:Value) (s7006:Ls Int) (b7008:Nat),FrI 12 S Φ (Ψ++ [(2,5,s7002.v),(3,6,v7003),(6,9,s7006.v),(7,10, .agg #[s7002.v,s7006.v]),(8,11, .pointer (some ⟨b7008,0,none⟩)),(9,2, .pointer (some ⟨b7008,0,none⟩))]) a∧Sh (fun _=>False) W w [.blk b7008 182 [s7002.v,s7006.v], .own 3 (⟨s7006.v,List.replicate Lk (nth ([(-1)]) 0)⟩:Ls Int), .own 3 (⟨v7003, [(-1)]⟩:Ls Int), .own 3 (⟨s7002.v,words.l⟩:Ls Int), .blk b12 25 [cv,words.v, .int .i64 ((Lk:Nat):Int), .int .i64 nregs], .at_ words])) [(0, .agg #[cv,words.v, .int .i64 ((Lk:Nat):Int), .int .i64 nregs]),(1, .pointer (some ⟨b12,0,none⟩))] [(0,3, .pointer (some ⟨b12,1,none⟩)),(1,4,words.v),(4,7, .pointer (some ⟨b12,2,none⟩)),(5,8, .int .i64 ((Lk:Nat):Int))]) (by kernel_rfl) (by kernel_rfl) (Or.inl (⟨rfl,rfl,rfl,rfl,FrI.start h14.fr,h14.sh.drew⟩)) ?_ ?_;clear h10
 ·intro S i o ho hSi hcl hdep a w hI
  clear h14
  rcases i with _|_|_|_|_|_|_|_|_|_|i
  ·obtain rfl:_=o:=Option.some.inj ho
   rcases hI with ⟨ν2,ν3,ν6,ν8,φ,ς⟩|⟨ν2,_⟩|⟨ν2,ν3,ν6,ν8,v7003,φ,ς⟩|⟨ν2,_⟩|⟨ν2,_⟩|⟨ν2,_⟩
   ·exact sq φ φ.fr0 ς (r_fieldB (r:=1) fl_25_1 rfl rfl rfl) 0 rfl rfl rfl rfl rfl rfl fun a hg=>Or.inl (⟨un rfl ν2,un rfl ν3,un rfl ν6,un rfl ν8,hg,ς⟩)
   ·exact no_way (cA hcl 2 0 rfl ν2) hSi
   ·exact sq φ φ.fr0 ς (r_fieldB (r:=1) fl_25_1 rfl rfl rfl) 0 rfl rfl rfl rfl rfl rfl fun a hg=>Or.inr (Or.inr (Or.inl (⟨un rfl ν2,un rfl ν3,un rfl ν6,un rfl ν8,v7003,hg,ς⟩)))
   ·exact no_way (cA hcl 2 0 rfl ν2) hSi
   ·exact no_way (cA hcl 2 0 rfl ν2) hSi
   ·exact no_way (cA hcl 2 0 rfl ν2) hSi
  ·obtain rfl:_=o:=Option.some.inj ho
   have hd0:S 0=true:=depAt hdep 0 rfl rfl
   rcases hI with ⟨ν2,ν3,ν6,ν8,φ,ς⟩|⟨ν2,_⟩|⟨ν2,ν3,ν6,ν8,v7003,φ,ς⟩|⟨ν2,_⟩|⟨ν2,_⟩|⟨ν2,_⟩
   ·exact sq φ (Fr.cons φ.fr0 (φ.at_ 0 0 3 _ rfl hd0)) ς (r_ldb (i:=0) ti_23 rfl rfl rfl rfl) 1 rfl rfl rfl rfl rfl rfl fun a hg=>Or.inl (⟨un rfl ν2,un rfl ν3,un rfl ν6,un rfl ν8,hg,ς⟩)
   ·exact no_way (cA hcl 2 1 rfl ν2) hSi
   ·exact sq φ (Fr.cons φ.fr0 (φ.at_ 0 0 3 _ rfl hd0)) ς (r_ldb (i:=1) ti_23 rfl rfl rfl rfl) 1 rfl rfl rfl rfl rfl rfl fun a hg=>Or.inr (Or.inr (Or.inl (⟨un rfl ν2,un rfl ν3,un rfl ν6,un rfl ν8,v7003,hg,ς⟩)))
   ·exact no_way (cA hcl 2 1 rfl ν2) hSi
   ·exact no_way (cA hcl 2 1 rfl ν2) hSi
   ·exact no_way (cA hcl 2 1 rfl ν2) hSi
  ·obtain rfl:_=o:=Option.some.inj ho
   have hd1:S 1=true:=depAt hdep 0 rfl rfl
   rcases hI with ⟨ν2,ν3,ν6,ν8,φ,ς⟩|⟨ν2,_⟩|⟨ν2,ν3,ν6,ν8,v7003,φ,ς⟩|⟨ν2,_⟩|⟨ν2,_⟩|⟨ν2,_⟩
   ·have hs:=St.mk (Fr.cons φ.fr0 (φ.at_ 1 1 4 _ rfl hd1)) ς
    refine step_ex (x_call hs bd_44 rfl rfl rfl rfl rfl (cloneI_c words _ (hs.sh.at 1 rfl) (by first|omega|(simp only [lens9];omega)))) (wanted_none rfl _) ?_
    rintro a24 w24 ⟨_,⟨s24,rfl,hs24⟩,hf24⟩ ⟨v0,ht24⟩
    have h24:St _ (fun _=>False) W a24 w24 _ _:=⟨hf24,hs.sh.callI hs24⟩
    clear hf24 hs24
    exact Or.inr (Or.inl (⟨upd_self _ _,un rfl ν3,un rfl ν6,un rfl ν8,s24,φ.stepW hcl hSi [0,1,2,3] (by kernel_rfl) (by kernel_rfl) ht24 h24.fr.defers (h24.fr.at_ 5 _ rfl) 4 rfl rfl rfl rfl,(h24.sh.sel [0,1,2] rfl)⟩))
   ·exact no_way ν2 hSi
   ·have hs:=St.mk (Fr.cons φ.fr0 (φ.at_ 1 1 4 _ rfl hd1)) ς
    refine step_ex (x_call hs bd_44 rfl rfl rfl rfl rfl (cloneI_c words _ (hs.sh.at 2 rfl) (by first|omega|(simp only [lens9];omega)))) (wanted_none rfl _) ?_
    rintro a25 w25 ⟨_,⟨s25,rfl,hs25⟩,hf25⟩ ⟨v0,ht25⟩
    have h25:St _ (fun _=>False) W a25 w25 _ _:=⟨hf25,hs.sh.callI hs25⟩
    clear hf25 hs25
    exact Or.inr (Or.inr (Or.inr (Or.inl (⟨upd_self _ _,un rfl ν3,un rfl ν6,un rfl ν8,s25,v7003,φ.stepW hcl hSi [0,1,2,3,5] (by kernel_rfl) (by kernel_rfl) ht25 h25.fr.defers (h25.fr.at_ 5 _ rfl) 4 rfl rfl rfl rfl,(h25.sh.sel [1,0,2,3] rfl)⟩))))
   ·exact no_way ν2 hSi
   ·exact no_way ν2 hSi
   ·exact no_way ν2 hSi
  ·obtain rfl:_=o:=Option.some.inj ho
   rcases hI with ⟨ν2,ν3,ν6,ν8,φ,ς⟩|⟨ν2,ν3,ν6,ν8,s7002,φ,ς⟩|⟨_,ν3,_⟩|⟨_,ν3,_⟩|⟨_,ν3,_⟩|⟨_,ν3,_⟩
   ·have hs:=St.mk φ.fr0 ς
    refine step_ex (x_lit (n:=1) (cs:= [.int .i64 (-1)]) ([(-1)]:List Int) hs sl_23 ti_3 rfl rfl rfl (by decide) rfl (by kernel_rfl) rfl (fun q hq w h=>Flat.inner _ _) (fun q hq b hb=>(Flat.on _ _ hb).elim) rfl rfl) (wanted_none rfl _) ?_
    rintro a26 w26 ⟨v26,h26⟩ ⟨v0,ht26⟩
    exact Or.inr (Or.inr (Or.inl (⟨un rfl ν2,upd_self _ _,un rfl ν6,un rfl ν8,v26,φ.stepW hcl hSi [0,1,2,3] (by kernel_rfl) (by kernel_rfl) ht26 h26.fr.defers (h26.fr.at_ 6 _ rfl) 4 rfl rfl rfl rfl,(h26.sh.sel [0,1,2] rfl)⟩)))
   ·have hs:=St.mk φ.fr0 ς
    refine step_ex (x_lit (n:=1) (cs:= [.int .i64 (-1)]) ([(-1)]:List Int) hs sl_23 ti_3 rfl rfl rfl (by decide) rfl (by kernel_rfl) rfl (fun q hq w h=>Flat.inner _ _) (fun q hq b hb=>(Flat.on _ _ hb).elim) rfl rfl) (wanted_none rfl _) ?_
    rintro a27 w27 ⟨v27,h27⟩ ⟨v0,ht27⟩
    exact Or.inr (Or.inr (Or.inr (Or.inl (⟨un rfl ν2,upd_self _ _,un rfl ν6,un rfl ν8,s7002,v27,φ.stepW hcl hSi [0,1,2,3,4] (by kernel_rfl) (by kernel_rfl) ht27 h27.fr.defers (h27.fr.at_ 6 _ rfl) 5 rfl rfl rfl rfl,(h27.sh.sel [0,1,2,3] rfl)⟩))))
   ·exact no_way ν3 hSi
   ·exact no_way ν3 hSi
   ·exact no_way ν3 hSi
   ·exact no_way ν3 hSi
  ·obtain rfl:_=o:=Option.some.inj ho
   rcases hI with ⟨ν2,ν3,ν6,ν8,φ,ς⟩|⟨ν2,ν3,ν6,ν8,s7002,φ,ς⟩|⟨ν2,ν3,ν6,ν8,v7003,φ,ς⟩|⟨ν2,ν3,ν6,ν8,s7002,v7003,φ,ς⟩|⟨_,_,ν6,_⟩|⟨_,_,ν6,_⟩
   ·exact sq φ φ.fr0 ς (r_fieldB (r:=2) fl_25_2 rfl rfl rfl) 2 rfl rfl rfl rfl rfl rfl fun a hg=>Or.inl (⟨un rfl ν2,un rfl ν3,un rfl ν6,un rfl ν8,hg,ς⟩)
   ·exact sq φ φ.fr0 ς (r_fieldB (r:=2) fl_25_2 rfl rfl rfl) 2 rfl rfl rfl rfl rfl rfl fun a hg=>Or.inr (Or.inl (⟨un rfl ν2,un rfl ν3,un rfl ν6,un rfl ν8,s7002,hg,ς⟩))
   ·exact sq φ φ.fr0 ς (r_fieldB (r:=2) fl_25_2 rfl rfl rfl) 2 rfl rfl rfl rfl rfl rfl fun a hg=>Or.inr (Or.inr (Or.inl (⟨un rfl ν2,un rfl ν3,un rfl ν6,un rfl ν8,v7003,hg,ς⟩)))
   ·exact sq φ φ.fr0 ς (r_fieldB (r:=2) fl_25_2 rfl rfl rfl) 2 rfl rfl rfl rfl rfl rfl fun a hg=>Or.inr (Or.inr (Or.inr (Or.inl (⟨un rfl ν2,un rfl ν3,un rfl ν6,un rfl ν8,s7002,v7003,hg,ς⟩))))
   ·exact no_way (cA hcl 6 4 rfl ν6) hSi
   ·exact no_way (cA hcl 6 4 rfl ν6) hSi
  ·obtain rfl:_=o:=Option.some.inj ho
   have hd4:S 4=true:=depAt hdep 0 rfl rfl
   rcases hI with ⟨ν2,ν3,ν6,ν8,φ,ς⟩|⟨ν2,ν3,ν6,ν8,s7002,φ,ς⟩|⟨ν2,ν3,ν6,ν8,v7003,φ,ς⟩|⟨ν2,ν3,ν6,ν8,s7002,v7003,φ,ς⟩|⟨_,_,ν6,_⟩|⟨_,_,ν6,_⟩
   ·exact sq φ (Fr.cons φ.fr0 (φ.at_ 2 4 7 _ rfl hd4)) ς (r_ldb (i:=0) ti_3 rfl rfl rfl rfl) 3 rfl rfl rfl rfl rfl rfl fun a hg=>Or.inl (⟨un rfl ν2,un rfl ν3,un rfl ν6,un rfl ν8,hg,ς⟩)
   ·exact sq φ (Fr.cons φ.fr0 (φ.at_ 2 4 7 _ rfl hd4)) ς (r_ldb (i:=1) ti_3 rfl rfl rfl rfl) 3 rfl rfl rfl rfl rfl rfl fun a hg=>Or.inr (Or.inl (⟨un rfl ν2,un rfl ν3,un rfl ν6,un rfl ν8,s7002,hg,ς⟩))
   ·exact sq φ (Fr.cons φ.fr0 (φ.at_ 2 4 7 _ rfl hd4)) ς (r_ldb (i:=1) ti_3 rfl rfl rfl rfl) 3 rfl rfl rfl rfl rfl rfl fun a hg=>Or.inr (Or.inr (Or.inl (⟨un rfl ν2,un rfl ν3,un rfl ν6,un rfl ν8,v7003,hg,ς⟩)))
   ·exact sq φ (Fr.cons φ.fr0 (φ.at_ 2 4 7 _ rfl hd4)) ς (r_ldb (i:=2) ti_3 rfl rfl rfl rfl) 3 rfl rfl rfl rfl rfl rfl fun a hg=>Or.inr (Or.inr (Or.inr (Or.inl (⟨un rfl ν2,un rfl ν3,un rfl ν6,un rfl ν8,s7002,v7003,hg,ς⟩))))
   ·exact no_way (cA hcl 6 5 rfl ν6) hSi
   ·exact no_way (cA hcl 6 5 rfl ν6) hSi
  ·obtain rfl:_=o:=Option.some.inj ho
   have hd3:S 3=true:=depAt hdep 0 rfl rfl
   have hd5:S 5=true:=depAt hdep 1 rfl rfl
   have hd2:S 2=true:=depAt hdep 2 rfl rfl
   rcases hI with ⟨ν2,_⟩|⟨_,ν3,_⟩|⟨ν2,_⟩|⟨ν2,ν3,ν6,ν8,s7002,v7003,φ,ς⟩|⟨_,_,ν6,_⟩|⟨_,_,ν6,_⟩
   ·exact no_way hd2 ν2
   ·exact no_way hd3 ν3
   ·exact no_way hd2 ν2
   ·have hs:=St.mk (Fr.cons (Fr.cons φ.fr0 (φ.at_ 5 3 6 _ rfl hd3)) (φ.at_ 3 5 8 _ rfl hd5)) ς
    refine step_ex (x_call hs bd_124 rfl rfl rfl rfl rfl (repeat_c (⟨v7003, [(-1)]⟩:Ls Int) Lk _ (hs.sh.own 0 rfl) rfl (by omega))) (wanted_none rfl _) ?_
    rintro a36 w36 ⟨_,⟨s36,rfl,hs36⟩,hf36⟩ ⟨v0,ht36⟩
    have h36:St _ (fun _=>False) W a36 w36 _ _:=⟨hf36,hs.sh.callI hs36⟩
    clear hf36 hs36
    exact Or.inr (Or.inr (Or.inr (Or.inr (Or.inl (⟨un rfl ν2,un rfl ν3,upd_self _ _,un rfl ν8,s7002,v7003,s36,φ.stepW hcl hSi [0,1,2,3,4,5] (by kernel_rfl) (by kernel_rfl) ht36 h36.fr.defers (h36.fr.at_ 9 _ rfl) 6 rfl rfl rfl rfl,(h36.sh.sel [0,1,2,3,4] rfl)⟩)))))
   ·exact no_way ν6 hSi
   ·exact no_way ν6 hSi
  ·obtain rfl:_=o:=Option.some.inj ho
   have hd2:S 2=true:=depAt hdep 0 rfl rfl
   have hd6:S 6=true:=depAt hdep 1 rfl rfl
   rcases hI with ⟨ν2,_⟩|⟨_,ν3,_⟩|⟨ν2,_⟩|⟨_,_,ν6,_⟩|⟨ν2,ν3,ν6,ν8,s7002,v7003,s7006,φ,ς⟩|⟨_,_,_,ν8,_⟩
   ·exact no_way hd2 ν2
   ·exact no_way (cA hcl 6 3 rfl hd6) ν3
   ·exact no_way hd2 ν2
   ·exact no_way hd6 ν6
   ·exact sq φ (Fr.cons (Fr.cons φ.fr0 (φ.at_ 4 2 5 _ rfl hd2)) (φ.at_ 6 6 9 _ rfl hd6)) ς (r_buildS (cs:= [s7002.v,s7006.v]) rfl rfl (fun w h=>by obtain ⟨A38,n38,c38,(e38:s7006.v=_)⟩:=((h.own 0 rfl)).form;rw [e38];obtain ⟨A37,n37,c37,(e37:s7002.v=_)⟩:=((h.own 2 rfl)).form;rw [e37];kernel_rfl)) 7 rfl rfl rfl rfl rfl rfl fun a hg=>Or.inr (Or.inr (Or.inr (Or.inr (Or.inl (⟨un rfl ν2,un rfl ν3,un rfl ν6,un rfl ν8,s7002,v7003,s7006,hg,ς⟩)))))
   ·exact no_way (cA hcl 8 7 rfl ν8) hSi
  ·obtain rfl:_=o:=Option.some.inj ho
   have hd7:S 7=true:=depAt hdep 0 rfl rfl
   rcases hI with ⟨ν2,_⟩|⟨_,ν3,_⟩|⟨ν2,_⟩|⟨_,_,ν6,_⟩|⟨ν2,ν3,ν6,ν8,s7002,v7003,s7006,φ,ς⟩|⟨_,_,_,ν8,_⟩
   ·exact no_way (cA hcl 7 2 rfl hd7) ν2
   ·exact no_way (cA hcl 7 3 rfl hd7) ν3
   ·exact no_way (cA hcl 7 2 rfl hd7) ν2
   ·exact no_way (cA hcl 7 6 rfl hd7) ν6
   ·have hs:=St.mk (Fr.cons φ.fr0 (φ.at_ 7 7 10 _ rfl hd7)) ς
    refine step_ex (x_box (cs:= [s7002.v,s7006.v]) hs rfl rfl rfl rfl rfl) (wanted_none rfl _) ?_
    rintro a40 w40 ⟨b40,h40⟩ ⟨v0,ht40⟩
    exact Or.inr (Or.inr (Or.inr (Or.inr (Or.inr (⟨un rfl ν2,un rfl ν3,un rfl ν6,upd_self _ _,s7002,v7003,s7006,b40,φ.stepW hcl hSi [0,1,2,3,4,5,6,7] (by kernel_rfl) (by kernel_rfl) ht40 h40.fr.defers (h40.fr.at_ 11 _ rfl) 8 rfl rfl rfl rfl,(h40.sh.sel [0,1,2,3,4,5] rfl)⟩)))))
   ·exact no_way ν8 hSi
  ·obtain rfl:_=o:=Option.some.inj ho
   have hd8:S 8=true:=depAt hdep 0 rfl rfl
   have hd6:S 6=true:=depAt hdep 1 rfl rfl
   have hd2:S 2=true:=depAt hdep 4 rfl rfl
   have hd3:S 3=true:=depAt hdep 5 rfl rfl
   rcases hI with ⟨ν2,_⟩|⟨_,ν3,_⟩|⟨ν2,_⟩|⟨_,_,ν6,_⟩|⟨_,_,_,ν8,_⟩|⟨ν2,ν3,ν6,ν8,s7002,v7003,s7006,b7008,φ,ς⟩
   ·exact no_way hd2 ν2
   ·exact no_way hd3 ν3
   ·exact no_way hd2 ν2
   ·exact no_way hd6 ν6
   ·exact no_way hd8 ν8
   ·exact sq φ (Fr.cons φ.fr0 (φ.at_ 8 8 11 _ rfl hd8)) ς (r_assign rfl rfl) 9 rfl rfl rfl rfl rfl rfl fun a hg=>Or.inr (Or.inr (Or.inr (Or.inr (Or.inr (⟨un rfl ν2,un rfl ν3,un rfl ν6,un rfl ν8,s7002,v7003,s7006,b7008,hg,ς⟩)))))
  · simp at ho
 intro S hall a w hI
 clear h14
 rcases hI with ⟨ν2,ν3,ν6,ν8,φ,ς⟩|⟨ν2,ν3,ν6,ν8,s7002,φ,ς⟩|⟨ν2,ν3,ν6,ν8,v7003,φ,ς⟩|⟨ν2,ν3,ν6,ν8,s7002,v7003,φ,ς⟩|⟨ν2,ν3,ν6,ν8,s7002,v7003,s7006,φ,ς⟩|⟨ν2,ν3,ν6,ν8,s7002,v7003,s7006,b7008,φ,ς⟩
 · exact no_way (hall 2 (by decide)) ν2
 · exact no_way (hall 3 (by decide)) ν3
 · exact no_way (hall 2 (by decide)) ν2
 · exact no_way (hall 6 (by decide)) ν6
 · exact no_way (hall 8 (by decide)) ν8
 have h42:St 12 (fun _=>False) W a w _ _:=⟨(Fr.cons φ.fr0 (φ.at_ 9 9 2 _ rfl (hall 9 (by decide)))),ς⟩
 clear hall φ ς ν2 ν3 ν6 ν8
 refine gG h42<|hK k13<|gR<|fun a43 w43 h43=>x_ret1 (fn:=Tryz.f81) (t:=2) rfl h43 rfl ?_;clear h42
 exact ⟨b7008,⟨s7002.v,words.l⟩,⟨s7006.v,List.replicate Lk (nth ([(-1)]) 0)⟩,rfl,rfl,rfl,(h43.sh.sel [0,3,1] rfl)⟩
theorem plLoad_c (g:Nat)(words owner:Ls Int)(t a b:Int)(W:World)(hB:Blk W g 182 #[words.v,owner.v])(hw:words.At W)(ho:owner.At W)(ha:0≤a∧a<words.l.length):
    Rets Tryz.prog 202 [.pointer (some ⟨g,0,none⟩), .int .i64 t, .int .i64 a] W (fun v w' =>v= .int .i64 (nth words.l a.toNat)∧Sh0 W w' []):=by
 refine gen Tryz.func202 Tryz.ntmps202 (Sh0.ext (by intro A hA;simp only [List.mem_cons,List.not_mem_nil,or_false] at hA;rcases hA with rfl|rfl|rfl;exact hB;exact hw;exact ho) (by intro A hA b hb;simp only [List.mem_cons,List.not_mem_nil,or_false] at hA;rcases hA with rfl|rfl|rfl<;>exact hb):Sh (fun _=>False) W W [.rblk g 182 [words.v,owner.v], .at_ words, .at_ owner]) rfl fun a10 h10=>gG h10<|sG (oM 1 rfl<|.nl)<|sK fun _ k12=>gNl (aA 1 rfl) fun hl13=>gRn (oM 1 rfl<|onf fl_182_0 rfl<|olR 0 ti_23 rfl rfl<|oM 1 rfl<|oxI sl_23 ti_3 (aA 1 rfl) om9 rfl<|olI ti_3 (aA 1 rfl) om9 rfl<|oM 1 rfl<|.nl)<|nK k12<|gR<|fun a14 w14 h14=>x_ret1 (fn:=Tryz.f202) (t:=6) rfl h14 rfl ?_;clear h10
 exact ⟨rfl,(h14.sh.sel [] rfl)⟩
theorem plFreeing_c (g:Nat)(words owner:Ls Int)(t a b:Int)(W:World)(hB:Blk W g 182 #[words.v,owner.v])(hw:words.At W)(ho:owner.At W):
    Rets Tryz.prog 201 [.pointer (some ⟨g,0,none⟩), .int .i64 t, .int .i64 a] W (fun v w' =>v= .bool false∧Sh0 W w' []):=by
 refine gen Tryz.func201 Tryz.ntmps201 (Sh0.ext (by intro A hA;simp only [List.mem_cons,List.not_mem_nil,or_false] at hA;rcases hA with rfl|rfl|rfl;exact hB;exact hw;exact ho) (by intro A hA b hb;simp only [List.mem_cons,List.not_mem_nil,or_false] at hA;rcases hA with rfl|rfl|rfl<;>exact hb):Sh (fun _=>False) W W [.rblk g 182 [words.v,owner.v], .at_ words, .at_ owner]) rfl fun a10 h10=>gG h10<|sG (oM 1 rfl<|.nl)<|sG (oM 1 rfl<|.nl)<|gR<|fun a13 w13 h13=>x_ret1 (fn:=Tryz.f201) (t:=6) rfl h13 rfl ?_;clear h10
 exact ⟨rfl,(h13.sh.sel [] rfl)⟩
theorem plWaits_c (g:Nat)(words owner:Ls Int)(t a b:Int)(W:World)(hB:Blk W g 182 #[words.v,owner.v])(hw:words.At W)(ho:owner.At W):
    Rets Tryz.prog 207 [.pointer (some ⟨g,0,none⟩), .int .i64 t] W (fun v w' =>v= .int .i64 ((0:Nat):Int)∧Sh0 W w' []):=by
 refine gen Tryz.func207 Tryz.ntmps207 (Sh0.ext (by intro A hA;simp only [List.mem_cons,List.not_mem_nil,or_false] at hA;rcases hA with rfl|rfl|rfl;exact hB;exact hw;exact ho) (by intro A hA b hb;simp only [List.mem_cons,List.not_mem_nil,or_false] at hA;rcases hA with rfl|rfl|rfl<;>exact hb):Sh (fun _=>False) W W [.rblk g 182 [words.v,owner.v], .at_ words, .at_ owner]) rfl fun a10 h10=>gG h10<|sG (oM 1 rfl<|.nl)<|sG (oM 1 rfl<|.nl)<|gR<|fun a13 w13 h13=>x_ret1 (fn:=Tryz.f207) (t:=4) rfl h13 rfl ?_;clear h10
 exact ⟨rfl,(h13.sh.sel [] rfl)⟩
theorem plReady_c (g:Nat)(words owner:Ls Int)(t a b:Int)(W:World)(hB:Blk W g 182 #[words.v,owner.v])(hw:words.At W)(ho:owner.At W):
    Rets Tryz.prog 203 [.pointer (some ⟨g,0,none⟩), .int .i64 t] W (fun v w' =>v= .slice none 0 0∧Sh0 W w' []):=by
 refine gen Tryz.func203 Tryz.ntmps203 (Sh0.ext (by intro A hA;simp only [List.mem_cons,List.not_mem_nil,or_false] at hA;rcases hA with rfl|rfl|rfl;exact hB;exact hw;exact ho) (by intro A hA b hb;simp only [List.mem_cons,List.not_mem_nil,or_false] at hA;rcases hA with rfl|rfl|rfl<;>exact hb):Sh (fun _=>False) W W [.rblk g 182 [words.v,owner.v], .at_ words, .at_ owner]) rfl fun a10 h10=>gG h10<|sG (oM 1 rfl<|.nl)<|sG (oM 1 rfl<|.nl)<|gR<|fun a13 w13 h13=>x_ret1 (fn:=Tryz.f203) (t:=4) rfl h13 rfl ?_;clear h10
 exact ⟨rfl,(h13.sh.sel [] rfl)⟩
theorem plBase_c (g:Nat)(words owner:Ls Int)(t a b:Int)(W:World)(hB:Blk W g 182 #[words.v,owner.v])(hw:words.At W)(ho:owner.At W):
    Rets Tryz.prog 197 [.pointer (some ⟨g,0,none⟩)] W (fun v w' =>v= .pointer (some ⟨g,0,none⟩)∧Sh0 W w' []):=by
 refine gen Tryz.func197 Tryz.ntmps197 (Sh0.ext (by intro A hA;simp only [List.mem_cons,List.not_mem_nil,or_false] at hA;rcases hA with rfl|rfl|rfl;exact hB;exact hw;exact ho) (by intro A hA b hb;simp only [List.mem_cons,List.not_mem_nil,or_false] at hA;rcases hA with rfl|rfl|rfl<;>exact hb):Sh (fun _=>False) W W [.rblk g 182 [words.v,owner.v], .at_ words, .at_ owner]) rfl fun a10 h10=>gG h10<|sG (oM 1 rfl<|.nl)<|sG (oM 2 rfl<|.nl)<|gR<|fun a13 w13 h13=>x_ret1 (fn:=Tryz.f197) (t:=2) rfl h13 rfl ?_;clear h10
 exact ⟨rfl,(h13.sh.sel [] rfl)⟩
theorem plStore_c (K:Nat→Prop)(g:Nat)(words owner:Ls Int)(t a b:Int)(W:World)(hS:Sh K W W [.blk g 182 [words.v,owner.v], .own 3 words, .own 3 owner])(ha:0≤a∧a<words.l.length):
    Rets Tryz.prog 204 [.pointer (some ⟨g,0,none⟩), .int .i64 t, .int .i64 a, .int .i64 b] W (fun v w' =>v= .tuple #[]∧Sh K W w' [.blk g 182 [words.v,owner.v], .own 3 (⟨words.v,words.l.set a.toNat b⟩:Ls Int), .own 3 (⟨owner.v,owner.l⟩:Ls Int)]):=by
 refine gen Tryz.func204 Tryz.ntmps204 hS rfl fun a10 h10=>gG h10<|gL<|gNl (aO 1 rfl) fun hl11=>gRn (oM 1 rfl<|onfl 0 fl_182_0 ti_23 rfl rfl<|oM 2 rfl<|oxI sl_23 ti_3 (aO 1 rfl) om9 rfl<|.nl)<|gte 1 (b:Int) ti_3 om9 rfl rfl<|nN<|fun a13 w13 h13=> ?_;clear h10
 try simp only [Exit.then,Exit.inBlock,if_true]
 refine x_end0 (fn:=Tryz.f204) rfl h13 ?_
 exact ⟨rfl,h13.sh⟩
theorem plSwap_c (K:Nat→Prop)(g:Nat)(words owner:Ls Int)(t a b:Int)(W:World)(hS:Sh K W W [.blk g 182 [words.v,owner.v], .own 3 words, .own 3 owner])(ha:0≤a∧a<words.l.length):
    Rets Tryz.prog 205 [.pointer (some ⟨g,0,none⟩), .int .i64 t, .int .i64 a, .int .i64 b] W (fun v w' =>v= .tuple #[]∧Sh K W w' [.blk g 182 [words.v,owner.v], .own 3 (⟨words.v,words.l.set a.toNat b⟩:Ls Int), .own 3 (⟨owner.v,owner.l⟩:Ls Int)]):=by
 refine gen Tryz.func205 Tryz.ntmps205 hS rfl fun a10 h10=>gG h10<|gL<|gNl (aO 1 rfl) fun hl11=>gRn (oM 1 rfl<|onfl 0 fl_182_0 ti_23 rfl rfl<|oM 2 rfl<|oxI sl_23 ti_3 (aO 1 rfl) om9 rfl<|.nl)<|gte 1 (b:Int) ti_3 om9 rfl rfl<|nN<|fun a13 w13 h13=> ?_;clear h10
 try simp only [Exit.then,Exit.inBlock,if_true]
 refine x_end0 (fn:=Tryz.f205) rfl h13 ?_
 exact ⟨rfl,h13.sh⟩
theorem plFree_c (K:Nat→Prop)(g:Nat)(words owner:Ls Int)(t a b:Int)(W:World)(hS:Sh K W W [.blk g 182 [words.v,owner.v], .own 3 words, .own 3 owner])(ha:0≤a∧a<owner.l.length):
    Rets Tryz.prog 200 [.pointer (some ⟨g,0,none⟩), .int .i64 t, .int .i64 a] W (fun v w' =>v= .tuple #[]∧Sh K W w' [.blk g 182 [words.v,owner.v], .own 3 (⟨words.v,words.l⟩:Ls Int), .own 3 (⟨owner.v,owner.l.set a.toNat (-1)⟩:Ls Int)]):=by
 refine gen Tryz.func200 Tryz.ntmps200 hS rfl fun a10 h10=>gG h10<|gL<|gNl (aO 2 rfl) fun hl11=>gRn (oM 1 rfl<|onfl 0 fl_182_1 ti_23 rfl rfl<|oM 1 rfl<|oxI sl_23 ti_3 (aO 2 rfl) om9 rfl<|.nl)<|gte 2 ((-1):Int) ti_3 om9 rfl rfl<|nN<|fun a13 w13 h13=> ?_;clear h10
 try simp only [Exit.then,Exit.inBlock,if_true]
 refine x_end0 (fn:=Tryz.f200) rfl h13 ?_
 exact ⟨rfl,h13.sh⟩
end Go.Proofs.YtmjkobhkkjgplaaGreatDoor
namespace Go.Proofs.YtmjkobhkkjgplaaGreatDoor
open Go.RowKit Go.Shelf
set_option linter.unusedSimpArgs false
set_option linter.unusedVariables false
attribute [local go_sem] Oper.semAt_some sz_wt agg_wt cell_wt0 cell_wt1 cell_wt2 whole_wt
@[local go_sem] theorem cell_lsw (x:Ls Wt) (j:Nat):Enc.cell x j=x.v:=rfl
@[local go_sem] theorem sz_lsw:Enc.sz (Ls Wt)=1:=rfl
end Go.Proofs.YtmjkobhkkjgplaaGreatDoor
namespace Go.Proofs.YtmjkobhkkjgplaaGreatDoor
open Go.RowKit
set_option linter.unusedSimpArgs false
set_option linter.unusedVariables false
def vcap (v:Value):Nat:=match v with
 | .slice _ _ c=>c
 |_=>0
def vsub (v:Value)(sz lo hi:Nat):Value:=match v with
 | .slice A n c=> .slice (if c=lo then A else A.map (·.add (lo*sz))) (hi-lo) (c-lo)
 |v=>v
theorem setCells_chg {X:Nat→Prop}{g:Nat}(hg:X g):∀(vs:List Value) (o:Nat) (w:World),Chg X w (w.setCells g o vs)
 | [],_,_=>Chg.refl _ _
 |v::vs,o,w=>((Chg.setCell (X:=X) w ⟨g,o,none⟩ hg v)).trans (setCells_chg hg vs (o+1) _) fun b hb=> .inl hb
theorem setCells_row {g:Nat}{E:TypeId} :∀(vs:List Value) (o:Nat) (w:World) (cur:Array Value),w.heap[g]? =some (.cells cur E (0,0))→∃cur',(w.setCells g o vs).heap[g]? =some (.cells cur' E (0,0))∧cur'.size=cur.size∧∀k,k<o→cur'[k]? =cur[k]?
 | [],_,_,cur,h=>⟨cur,h,rfl,fun _ _=>rfl⟩
 |v::vs,o,w,cur,h=>by
  have h2:Blk (w.setCell ⟨g,o,none⟩ v) g E (cur.setIfInBounds o v):=Blk.set_ (w:=w) h o v
  obtain ⟨cur',h3,h4,h5⟩:=setCells_row vs (o+1) _ _ h2
  refine ⟨cur',h3,h4.trans (by simp),fun k hk=>(h5 k (by omega)).trans ?_⟩
  rw [Array.getElem?_setIfInBounds_ne (by omega)]
section
variable {P:Program}{o:Oper}{N:Nat}{K:Nat→Prop}{W w:World}{a:Act}{F:List (Nat×Value)}{L:List Asn}{α:Type}[Enc α]
theorem x_clearT {T e:TypeId}{gg:Bool}{sz by_ r hi:Nat}{z:List Value}{x:Operand}{s:Ls α}{E:TypeId}(h:St N K W a w F L)(hT:slI P T=some e)(he:tyI P e=some (gg,sz,by_,z))(ho:o.op= .call ⟨.builtin .clear, #[x], #[T]⟩)
  (hx:ev F x=some (vsub s.v sz s.l.length hi)) (hr:L[r]? =some (.own E s)) (hsz:Enc.sz α=sz) (hz1:z.all (·.oneCell')=true) (hzl:z.length=sz) (hh:s.l.length<hi∧hi≤vcap s.v) (hd:o.dst=none):Ex P o a w (fun a' w' =>St N K W a' w' F L):=by
 subst hsz
 obtain ⟨hown,hlen,hinn⟩:=h.sh.ok _ (List.mem_of_getElem? hr)
 rcases hown.2 with ⟨h1,_⟩|⟨g,cap,cur,hsv,hb0,hg,hn,hm,hcs,htk⟩
 ·rw [h1] at hh;simp [vcap] at hh;omega
 obtain ⟨i,d,zv,hi',hd',_,hs,hby,hzz,hzc⟩:=tyI_parts he
 have hcap:hi≤cap:=by have:=hh.2;rw [hsv] at this;exact this
 have hx' :vsub s.v (Enc.sz α) s.l.length hi= .slice (some ⟨g,s.l.length*Enc.sz α,none⟩) (hi-s.l.length) (cap-s.l.length):=by
  rw [hsv];simp only [vsub];rw [if_neg (by omega)];simp [Addr.add_lit]
 obtain ⟨zs,hzs⟩:∃zs,(Builtin.zeroCells zv.cells (hi-s.l.length)).toList=zs:=⟨_,rfl⟩
 have hcsz:zv.cells.size=Enc.sz α:=by rw [←hzl,←hzc];simp
 have hzsl:zs.length=(hi-s.l.length)*Enc.sz α:=by rw [←hzs];simp [Builtin.zeroCells,hcsz]
 have hz1' :∀v∈zs,v.oneCell' =true:=by
  intro v hv
  rw [←hzs] at hv
  simp only [Builtin.zeroCells,Array.toList_map,List.mem_map,Array.mem_toList_iff,Array.mem_range] at hv
  obtain ⟨q,hq,rfl⟩:=hv
  have hpos:0<zv.cells.size:=by
   rcases Nat.eq_zero_or_pos zv.cells.size with h0|h0
   ·rw [h0] at hq;omega
   ·exact h0
  have hmod:=Nat.mod_lt q hpos
  rw [getElem!_pos zv.cells _ hmod]
  exact (List.all_eq_true.1 hz1) _ (by rw [←hzc];exact Array.getElem_mem_toList _)
 have hin:∀j,j<zs.length→s.l.length*Enc.sz α+j<cur.size:=by
  intro j hj
  rw [hcs]
  have h1:s.l.length*Enc.sz α+j<s.l.length*Enc.sz α+(hi-s.l.length)*Enc.sz α:=by omega
  rw [←Nat.add_mul] at h1
  exact Nat.lt_of_lt_of_le h1 (Nat.mul_le_mul_right _ (by omega))
 have hst:=run_storeCells_cells (P:=P) g (s.l.length*Enc.sz α) zs 0 w (fun j hj=>by
   simp only [Nat.add_zero]
   rw [Blk.cell (E:=E) hg,Array.getElem?_eq_getElem (hin j hj)];rfl) (fun j hj=>Blk.frozen (E:=E) hg _) hz1'
 simp only [Nat.add_zero] at hst
 have hrun:∀ty,(Builtin.clear_ #[T] ty #[.slice (some ⟨g,s.l.length*Enc.sz α,none⟩) (hi-s.l.length) (cap-s.l.length)]).run P w= .ok (.tuple #[]) (w.setCells g (s.l.length*Enc.sz α) zs):=by
  intro ty
  obtain ⟨m,hm9⟩:∃m,hi-s.l.length=m+1:=⟨hi-s.l.length-1,by omega⟩
  rw [hm9] at hzs⊢
  simp [Builtin.clear_,run_underlying (slI_parts hT),run_zero hi' hzz,hzs,hst]
 refine Ex.of_run (v:= .tuple #[]) (w' :=w.setCells g (s.l.length*Enc.sz α) zs) ?_ ?_
 ·unfold execOp
  simp only [ho,resolve,invoke,builtin,Sem.run_bind,Sem.run_pure,Result.andThen_ok,List.map_toArray,List.map_cons,List.map_nil,h.fr.ev hx,hx',hrun]
 ·rw [hd]
  obtain ⟨cur',hg',hcs',hk'⟩:=setCells_row zs (s.l.length*Enc.sz α) w cur hg
  have h2:=h.sh.put (A' := .own E s) hr (setCells_chg (X:=(Asn.own E s).fp) (by show s.v.ownBlock=some g;rw [hsv];rfl) zs (s.l.length*Enc.sz α) w) ⟨⟨hown.1, .inr ⟨g,cap,cur',hsv,hb0,hg',hn,hm,hcs'.trans hcs, ?_⟩⟩,hlen, ?_⟩ (fun b hb=> .inl hb) (fun b hb=> .inr (.inl hb)) (h.sh.self _ (List.mem_of_getElem? hr))
  ·have:L.set r (.own E s)=L:=by
    obtain ⟨hlt,e9⟩:=List.getElem?_eq_some_iff.1 hr
    rw [←e9];exact List.set_getElem_self hlt
   rw [this] at h2
   exact ⟨h.fr,h2⟩
  ·rw [←htk]
   apply List.ext_getElem?
   intro k
   simp only [List.getElem?_take,Array.getElem?_toList]
   split
   ·exact hk' k (by assumption)
   ·rfl
  ·intro q hq
   refine Enc.keep _ w _ (hinn q hq) fun b hb=> ?_
   have hbg:b≠g:=by
    rintro rfl
    exact (h.sh.self _ (List.mem_of_getElem? hr)) b (by show s.v.ownBlock=some b;rw [hsv];rfl) ⟨q,hq,hb⟩
   have hlt:b<w.heap.size:=Enc.lt _ w (hinn q hq) b hb
   exact (setCells_chg (X:=fun b=>b=g) rfl zs (s.l.length*Enc.sz α) w).same b hlt hbg
end
set_option maxRecDepth 100000
set_option maxHeartbeats 20000000
theorem qset_pc {l tl:List ThQ}{n:Nat}{p q:Int}{r:Value}(h:n<l.length)(e:tl=l.set n ⟨p,r⟩):tl.set n { nth tl n with pc:=q } =l.set n ⟨q,r⟩:=by
 subst e
 rw [nth_set,if_pos ⟨rfl,h⟩,List.set_set]
theorem qset_0 {l:List ThQ}{n:Nat}{q:Int}{r:Value}(hr:(nth l n).rv=r):l.set n { nth l n with pc:=q } =l.set n ⟨q,r⟩:=by
 subst hr;rfl
theorem qset_n {l:List ThQ}{n:Nat}{r:Value}(hr:(nth l n).rv=r)(hn:n<l.length):l=l.set n ⟨(nth l n).pc,r⟩:=by
 subst hr
 refine ext_nth _ _ (by simp) fun i hi=> ?_
 rw [nth_set]
 split
 ·rename_i hh;rw [←hh.1]
 ·rfl
theorem list_set_nth {α:Type}[Inhabited α](l:List α)(n:Nat):l.set n (nth l n)=l:=by
 rcases Nat.lt_or_ge n l.length with h|h
 ·rw [nth_lt l n h];exact List.set_getElem_self h
 ·exact List.set_eq_of_length_le h
theorem swap_eq {M:MemS}{wd what pc:Int}{n:Nat}{regs prints:List Int}{fell:Bool}{words words' owner owner' :Ls Int}{q q' :M.σ}(h:SwapP M wd what words owner q words' owner' q'):
  M.qs q' =(M.qs q).set n (nth (M.qs q) n)∧(⟨pc,regs,nth (M.qs q) n,words'.l,owner'.l,prints,fell⟩:TS)=⟨pc,regs,nth (M.qs q) n,words.l.set wd.toNat what,owner.l,prints,fell⟩:=by
 obtain ⟨h1,h2,h3⟩:=h
 rw [h1,h2,h3,list_set_nth]
 exact ⟨rfl,rfl⟩
section
variable {m:Int}{n:Nat}{i:Ins}{x:TS}
theorem pexec_18c (h:i.op=18)(h1:¬nth x.owner i.a.toNat≠n)(h2:x.holds i.a=false):execT m n i x=x.store m ⟨true,i.a,0⟩:=by
 have h1' :nth x.owner i.a.toNat=n:=Decidable.not_not.1 h1
 simp [execT,h,h1',h2]
theorem pexec_18f (h:i.op=18)(h1:nth x.owner i.a.toNat≠n∨x.holds i.a=true):execT m n i x= { x with fell:=true } :=by
 by_cases h2:nth x.owner i.a.toNat≠n
 ·exact execT_18a h h2
 ·have h3:=h1.resolve_left h2
  have h1' :nth x.owner i.a.toNat=n:=Decidable.not_not.1 h2
  simp [execT,h,h1',h3]
theorem pexec_no (h:¬i.op=8∧¬i.op=9∧¬i.op=10∧¬i.op=11∧¬i.op=13∧¬i.op=17∧¬i.op=18)(h2:¬i.op=1∧¬i.op=2∧¬i.op=3∧¬i.op=4∧¬i.op=5∧¬i.op=6∧¬i.op=7∧¬i.op=14∧¬i.op=15∧¬i.op=16):execT m n i x=x:=
 execT_no (by omega)
theorem hab_of {owner:List Int}{nw:Nat}(h:ableL owner nw i=true):((i.op=9∨i.op=11∨i.op=18)→nw<3)∧(i.op=13→nw=0)∧True:=by
 unfold ableL at h
 refine ⟨fun e=> ?_,fun e=> ?_,trivial⟩
 ·rw [if_pos e] at h;exact of_decide_eq_true h
 ·rw [if_neg (by omega),if_pos (by omega)] at h;exact of_decide_eq_true h
theorem pdoT_k {c:List Ins}{k:Nat}(hk:0<k):doT m n c k x= { x.done (nth x.wait (k-1)) with wait:=x.wait.eraseIdx (k-1) } :=by unfold doT;rw [if_pos hk]
theorem able_of {c:List Ins}{k:Nat}(h:mvOK m c x k=true)(hk:k=0):x.pc<(c.length:Int)∧ableL x.owner x.wait.length (nextIns c x.pc)=true:=by
 unfold mvOK at h
 rw [if_pos hk] at h
 unfold ableV at h
 rw [Bool.and_eq_true] at h
 exact ⟨of_decide_eq_true h.1,h.2⟩
end
def MPost (K:Nat→Prop)(W:World)(ST TH INT PL PT:Nat)(M:MemS)(g gp n:Nat)(pc:List Value)(thr:Ls ThQ)(q:M.σ)(y:TS)(code:Ls (Ls Ins))(w' :World):Prop:=
 ∃(regs' words' owner' prints' :Ls Int) (q' :M.σ) (wt:List Wt) (pc' :Int) (fell' :Bool),M.qs q' =(M.qs q).set n wt∧(⟨pc',regs'.l,wt,words'.l,owner'.l,prints'.l,fell'⟩:TS)=y∧
  Sh K W w' [.blk g ST [.iface M.T (.pointer (some M.u)), .pointer (some ⟨gp,0,none⟩),thr.v,prints'.v, .bool fell'], .rblk gp PT pc, .own TH (⟨thr.v,thr.l.set n ⟨pc',regs'.v⟩⟩:Ls ThQ), .own INT regs', .own INT prints', .blk M.g0 PL [words'.v,owner'.v], .own INT words', .own INT owner',M.X q', .at_ code]
theorem pis_c (K:Nat→Prop)(M:MemS)(g gc:Nat)(n:Int)(words owner:Ls Int)(q:M.σ)(pp tv pv:Value)(fell:Bool)(W:World)(hM:MemI Tryz.prog 182 3 M)(hS:Sh K W W [.blk gc 85 [.pointer (some ⟨g,0,none⟩)], .blk g 173 [.iface M.T (.pointer (some M.u)),pp,tv,pv, .bool fell], .blk M.g0 182 [words.v,owner.v], .own 3 words, .own 3 owner,M.X q]):
    Rets Tryz.prog 163 [.int .i64 n, .pointer (some ⟨gc,0,none⟩)] W (fun v w' =>v= .bool (decide (0≤n∧n<(words.l.length:Int)))∧Sh K W w' [.blk gc 85 [.pointer (some ⟨g,0,none⟩)], .blk g 173 [.iface M.T (.pointer (some M.u)),pp,tv,pv, .bool (fell|| !decide (0≤n∧n<(words.l.length:Int)))], .blk M.g0 182 [words.v,owner.v], .own 3 words, .own 3 owner,M.X q]):=by
 refine gen Tryz.func163 Tryz.ntmps163 hS rfl fun a10 h10=>gG h10<|sG (oM 1 rfl<|.nl)<|sK fun _ k12=>gRn (oM 1 rfl<|ogeI _ _ rfl<|oM 1 rfl<|.nl)<|?_;clear h10
 rcases dsp (0≤n) with ⟨hb13,hp13⟩|⟨hb13,hp13⟩
 ·skip
  refine gRn (oG hb13 (r_move rfl rfl) rfl<|oG hb13 (r_ldb (i:=0) ti_85 rfl rfl rfl rfl) rfl<|oG hb13 (r_nil rfl rfl) rfl<|oG hb13 (r_fieldB (r:=0) fl_173_0 rfl rfl rfl) rfl<|oG hb13 (r_ldb (i:=1) ti_97 rfl rfl rfl rfl) rfl<|.nl)<|fun a14 w14 h14=>wl_ex (x_inv2 h14 rfl rfl rfl rfl rfl (hM.base _ words owner q ⟨h14.sh.blk 2 rfl,h14.sh.own 3 rfl,h14.sh.own 4 rfl,h14.sh.ok _ (List.mem_of_getElem? (i:=5) rfl)⟩)) (wanted_yes h14.fr rfl rfl rfl rfl hb13) ?_
  rintro a15 w15 ⟨_,⟨rfl,hs15⟩,hf15⟩
  have h15:St 32 K W a15 w15 _ _:=⟨hf15,h14.sh.call0 hs15⟩
  clear hf15 hs15
  clear h14
  refine gG h15<|gNl (aO 3 rfl) fun hl16=>gRn (oG hb13 (r_nil rfl rfl) rfl<|oG hb13 (r_fieldB (r:=0) fl_182_0 rfl rfl rfl) rfl<|oG hb13 (r_ldb (i:=2) ti_23 rfl rfl rfl rfl) rfl<|oG hb13 (r_len (s:=words) (n:=words.l.length) sl_23 rfl rfl (fun w h=>(h.own 3 rfl)) rfl) rfl<|oG hb13 (r_lssI (p:=n) (q:=((words.l.length:Nat):Int)) rfl rfl rfl) rfl<|opT hb13 rfl<|oM 1 rfl<|.nl)<|nK k12<|gK fun _ k17=>fun a18 w18 h18=>x_tail 11 [] (by kernel_rfl) (by kernel_rfl) h18 fun _ z19=>qQ h18.fr<|qRn (olB 0 ti_85 rfl rfl<|olB 0 ti_85 rfl rfl<|onfl 1 fl_173_4 ti_4 rfl rfl<|oM 1 rfl<|.nl)<|?_;clear h15
  rcases Bool.eq_false_or_eq_true fell with hb20|hb20
  ·skip
   refine qRn (oKs 2 hb20 rfl rfl<|opT hb20 rfl<|onf fl_173_4 rfl<|.nl)<|qN z19<|?_;clear h18
   refine gst (v:= .bool true) 1 ti_4 rfl rfl rfl<|nK k17<|gF [4] rfl<|sG (oM 2 rfl<|.nl)<|gR<|fun a24 w24 h24=>x_ret1 (fn:=Tryz.f163) (t:=3) rfl h24 rfl ?_
   have e9:decide (n<((words.l.length:Nat):Int))=decide (0≤n∧n<(words.l.length:Int)):=by first|exact (decide_eq_true (by omega)).symm|exact (decide_eq_false (by omega)).symm|exact decide_eq_decide.2 ⟨fun h9=>by omega,fun h9=>by omega⟩
   have e7:(true)=(fell|| !decide (0≤n∧n<(words.l.length:Int))):=by rw [←e9];first|(rw [show fell=true by assumption];rfl)|(rw [show fell=false by assumption];rfl)|(rw [show fell=false by assumption];simp;omega)
   have e8:=h24.sh
   rw [e7] at e8
   exact ⟨by rw [e9],e8⟩
  refine qRn (oG hb20 (r_move rfl rfl) rfl<|oG hb20 (r_not rfl rfl) rfl<|opF hb20 rfl<|onf fl_173_4 rfl<|.nl)<|qN z19<|?_;clear h18
  refine gst 1 ti_4 rfl rfl rfl<|nK k17<|gF [4] rfl<|sG (oM 2 rfl<|.nl)<|gR<|fun a29 w29 h29=>x_ret1 (fn:=Tryz.f163) (t:=3) rfl h29 rfl ?_
  have e9:decide (n<((words.l.length:Nat):Int))=decide (0≤n∧n<(words.l.length:Int)):=by first|exact (decide_eq_true (by omega)).symm|exact (decide_eq_false (by omega)).symm|exact decide_eq_decide.2 ⟨fun h9=>by omega,fun h9=>by omega⟩
  have e7:(!(decide (n<((words.l.length:Nat):Int))))=(fell|| !decide (0≤n∧n<(words.l.length:Int))):=by rw [←e9];first|(rw [show fell=true by assumption];rfl)|(rw [show fell=false by assumption];rfl)|(rw [show fell=false by assumption];simp;omega)
  have e8:=h29.sh
  rw [e7] at e8
  exact ⟨by rw [e9],e8⟩
 refine gRn (oKs 11 hb13 rfl rfl<|opF hb13 rfl<|oM 1 rfl<|.nl)<|nK k12<|gK fun _ k30=>fun a31 w31 h31=>x_tail 11 [] (by kernel_rfl) (by kernel_rfl) h31 fun _ z32=>qQ h31.fr<|qRn (olB 0 ti_85 rfl rfl<|olB 0 ti_85 rfl rfl<|onfl 1 fl_173_4 ti_4 rfl rfl<|oM 1 rfl<|.nl)<|?_
 rcases Bool.eq_false_or_eq_true fell with hb33|hb33
 ·skip
  refine qRn (oKs 2 hb33 rfl rfl<|opT hb33 rfl<|onf fl_173_4 rfl<|.nl)<|qN z32<|?_;clear h31
  refine gst (v:= .bool true) 1 ti_4 rfl rfl rfl<|nK k30<|gF [4] rfl<|sG (oM 2 rfl<|.nl)<|gR<|fun a37 w37 h37=>x_ret1 (fn:=Tryz.f163) (t:=3) rfl h37 rfl ?_
  have e9:false=decide (0≤n∧n<(words.l.length:Int)):=by first|exact (decide_eq_true (by omega)).symm|exact (decide_eq_false (by omega)).symm|exact decide_eq_decide.2 ⟨fun h9=>by omega,fun h9=>by omega⟩
  have e7:(true)=(fell|| !decide (0≤n∧n<(words.l.length:Int))):=by rw [←e9];first|(rw [show fell=true by assumption];rfl)|(rw [show fell=false by assumption];rfl)|(rw [show fell=false by assumption];simp;omega)
  have e8:=h37.sh
  rw [e7] at e8
  exact ⟨by rw [e9],e8⟩
 refine qRn (oG hb33 (r_move rfl rfl) rfl<|oG hb33 (r_not rfl rfl) rfl<|opF hb33 rfl<|onf fl_173_4 rfl<|.nl)<|qN z32<|?_;clear h31
 refine gst (v:= .bool true) 1 ti_4 rfl rfl rfl<|nK k30<|gF [4] rfl<|sG (oM 2 rfl<|.nl)<|gR<|fun a42 w42 h42=>x_ret1 (fn:=Tryz.f163) (t:=3) rfl h42 rfl ?_
 have e9:false=decide (0≤n∧n<(words.l.length:Int)):=by first|exact (decide_eq_true (by omega)).symm|exact (decide_eq_false (by omega)).symm|exact decide_eq_decide.2 ⟨fun h9=>by omega,fun h9=>by omega⟩
 have e7:(true)=(fell|| !decide (0≤n∧n<(words.l.length:Int))):=by rw [←e9];first|(rw [show fell=true by assumption];rfl)|(rw [show fell=false by assumption];rfl)|(rw [show fell=false by assumption];simp;omega)
 have e8:=h42.sh
 rw [e7] at e8
 exact ⟨by rw [e9],e8⟩
theorem pmem_c (K:Nat→Prop)(M:MemS)(g gp:Nat)(code:Ls (Ls Ins))(thr:Ls ThQ)(regs prints words owner:Ls Int)(q:M.σ)(pw:Value)(locks nregs:Int)(fell:Bool)(n:Nat)(ins:Ins)(W:World)(hM:MemI Tryz.prog 182 3 M)(hS:Sh K W W [.blk g 173 [.iface M.T (.pointer (some M.u)), .pointer (some ⟨gp,0,none⟩),thr.v,prints.v, .bool fell], .rblk gp 25 [code.v,pw, .int .i64 locks, .int .i64 nregs], .own 189 thr, .own 3 regs, .own 3 prints, .blk M.g0 182 [words.v,owner.v], .own 3 words, .own 3 owner,M.X q, .at_ code])(ht:n<thr.l.length)(htn:n≤1000)(hrv:(nth thr.l n).rv=regs.v)(hqn:n<(M.qs q).length)(hwl:(nth (M.qs q) n).length≤3)(hwh0:∀x∈nth (M.qs q) n,x.lock=true→x.what=0)(hge:∀v∈owner.l,-1≤v)(hR:InsR regs.l.length words.l.length owner.l.length ins)(hno:¬ins.op=1∧¬ins.op=2∧¬ins.op=3∧¬ins.op=4∧¬ins.op=5∧¬ins.op=6∧¬ins.op=7∧¬ins.op=14∧¬ins.op=15∧¬ins.op=16)(hab:((ins.op=9∨ins.op=11∨ins.op=18)→(nth (M.qs q) n).length<3)∧(ins.op=13→(nth (M.qs q) n).length=0)∧True):
    Rets Tryz.prog 146 [.pointer (some ⟨g,0,none⟩), .int .i64 ((n:Nat):Int), .agg #[.int .i64 ins.op, .int .i64 ins.a, .int .i64 ins.b, .int .i64 ins.c]] W (fun v w' =>v= .tuple #[]∧MPost K W 173 189 3 182 25 M g gp n [code.v,pw, .int .i64 locks, .int .i64 nregs] thr q (execT M.m n ins (⟨(nth thr.l n).pc,regs.l,nth (M.qs q) n,words.l,owner.l,prints.l,fell⟩:TS)) code w'):=by
 refine gen Tryz.func146 Tryz.ntmps146 hS rfl fun a10 h10=>gG h10<|sK fun _ k11=>gbx rfl rfl fun b12=>gbx rfl rfl fun b13=>nK k11<|sK fun _ k14=>gNl (aO 4 rfl) fun hl15=>gRn (olB 1 ti_85 rfl rfl<|onfl 2 fl_173_2 ti_171 rfl rfl<|oM 1 rfl<|oxN sl_171 ti_189 (aO 4 rfl) _ om9 rfl<|ofE fl_189_1 rfl<|oV (Rn.same (r_lde (s:=thr) (i:=n) (v:=((nth thr.l n).rv)) ti_23 rfl rfl rfl (fun w h=>(h.own 4 rfl)) (show n<thr.l.length from om9) (Nat.le_of_ble_eq_true rfl) rfl) hrv) rfl<|oM 1 rfl<|.nl)<|nK k14<|sG (oV (r_makeFunc rfl rfl rfl) rfl<|oM 1 rfl<|.nl)<|sG (ofB fl_32_0 rfl<|olB 0 ti_3 rfl rfl<|.nl)<|gB<|sG (oeqI _ _ rfl<|oM 1 rfl<|.nl)<|?_;clear h10
 refine gcd rfl (fun hb19 hp19=> ?_) fun hb19 hp19=> ?_
 ·skip
  have q9:=hR.o8 (by omega)
  intro a20 w20 h20
  refine x_tail 12 [] (by kernel_rfl) (by kernel_rfl) h20 fun _ z21=>qQ h20.fr<|qRn (oM 1 rfl<|ofB fl_32_1 rfl<|olB 0 ti_3 rfl rfl<|olB 1 ti_85 rfl rfl<|onfl 2 fl_173_0 ti_97 rfl rfl<|oM 1 rfl<|ofB fl_32_2 rfl<|olB 0 ti_3 rfl rfl<|.nl)<|fun _ hq=>wq_inv hq rfl rfl rfl (wanted_none rfl _) rfl rfl (fun w h=>(hM.load _ words owner q n ins.b ⟨h.blk 7 rfl,h.own 8 rfl,h.own 9 rfl,h.ok _ (List.mem_of_getElem? (i:=10) rfl)⟩ hqn hwl (by omega)))<|?_
  have hl22:regs.l.length≤140737488355328:=(h20.sh.own 5 rfl).len
  refine qRn (oxI sl_23 ti_3 (aO 5 rfl) om9 rfl<|.nl)<|qN z21<|gte 5 (findsL (nth (M.qs q) n) words.l ins.b:Int) ti_3 om9 rfl rfl<|nN<|fun a24 w24 h24=> ?_;clear h20
  try simp only [Exit.then,Exit.inBlock,if_true]
  refine x_end0 (fn:=Tryz.f146) rfl h24 ?_
  have hz:=(h24.sh.sel (L' := [_,_,_,_,_,_,_,_,_,_]) [2,3,4,5,6,7,8,9,10,11] rfl)
  refine ⟨rfl,⟨regs.v,regs.l.set ins.a.toNat (findsL (nth (M.qs q) n) words.l ins.b)⟩,⟨words.v,words.l⟩,⟨owner.v,owner.l⟩,⟨prints.v,prints.l⟩,q,(nth (M.qs q) n),(nth thr.l n).pc,fell,(list_set_nth _ _).symm, ?_, ?_⟩
  · (refine Eq.trans ?_ (execT_8 (by assumption)).symm;rfl)
  · rw [←qset_n hrv ht];exact hz
 refine sG (oeqI _ _ rfl<|oM 1 rfl<|.nl)<|gcd rfl (fun hb26 hp26=> ?_) fun hb26 hp26=> ?_
 ·skip
  have q9:=hR.o9 (by omega)
  have hw0:=hab.1 (by omega)
  refine gNl (aO 5 rfl) fun hl27=>rT 14 [] (olB 1 ti_85 rfl rfl<|onfl 2 fl_173_0 ti_97 rfl rfl<|oM 1 rfl<|ofB fl_32_1 rfl<|olB 0 ti_3 rfl rfl<|oM 1 rfl<|ofB fl_32_2 rfl<|olB 0 ti_3 rfl rfl<|oxI sl_23 ti_3 (aO 5 rfl) om9 rfl<|olI ti_3 (aO 5 rfl) om9 rfl<|oV (r_nilckI rfl rfl) rfl<|oM 1 rfl<|.nl)<|gO [7,8,9,10,0,1,2,3,4,5,6,11] rfl<|fun a33 w33 h33=> ?_
  have hp32:=h33.sh.passL (Lp:= [_,_,_,_])
  refine wl_ex (x_inv2 h33 rfl rfl rfl rfl rfl (hM.store _ _ words owner q n ins.a (nth regs.l ins.b.toNat) hp32 hqn (by omega) (by omega))) (wanted_none rfl _) ?_
  rintro a34 w34 ⟨_,⟨rfl,words34,owner34,q34,hst34,hs34⟩,hf34⟩
  change Sh _ _ _ [.blk M.g0 182 [words34.v,owner34.v], .own 3 words34, .own 3 owner34,M.X q34] at hs34
  have h34:St 193 K W a34 w34 _ [_,_,_,_,_,_,_,_,_,_,_,_]:=⟨hf34,h33.sh.backL (Lp:= [_,_,_,_]) hs34 (by intro A hA b hb;simp only [List.mem_cons,List.not_mem_nil,or_false] at hA;rcases hA with rfl|rfl|rfl|rfl<;>first|exact (hb:False).elim|exact Flat.noRd hb|exact .inl ⟨_,List.mem_cons_self .., .inr hb⟩|exact rdX hM hb|exact .inl ⟨_,by simp, .inr hb⟩)⟩
  clear hf34 hs34
  clear h33
  refine gG h34<|nN<|fun a35 w35 h35=> ?_;clear h34
  try simp only [Exit.then,Exit.inBlock,if_true]
  refine x_end0 (fn:=Tryz.f146) rfl h35 ?_
  have hz:=(h35.sh.sel (L' := [_,_,_,_,_,_,_,_,_,_]) [6,7,8,9,10,0,1,2,3,11] rfl)
  obtain ⟨wt,hwt1,hwt2⟩:=hst34
  refine ⟨rfl,⟨regs.v,regs.l⟩,⟨words34.v,words34.l⟩,⟨owner34.v,owner34.l⟩,⟨prints.v,prints.l⟩,q34,wt,(nth thr.l n).pc,fell,hwt1, ?_, ?_⟩
  · exact Eq.trans (hwt2 _ _ _ _) (execT_9 (by assumption)).symm
  · rw [←qset_n hrv ht];exact hz
 refine sG (oeqI _ _ rfl<|oM 1 rfl<|.nl)<|gcd rfl (fun hb37 hp37=> ?_) fun hb37 hp37=> ?_
 ·skip
  have q9:=hR.o10 (by omega)
  refine sK fun _ k38=>gNl (aO 5 rfl) fun hl39=>gRn (oM 2 rfl<|ofB fl_32_2 rfl<|olB 0 ti_3 rfl rfl<|oxI sl_23 ti_3 (aO 5 rfl) om9 rfl<|olI ti_3 (aO 5 rfl) om9 rfl<|.nl)<|gO [1,2,7,8,9,10,0,3,4,5,6,11] rfl<|fun a45 w45 h45=> ?_
  have hp44:=h45.sh.passL (Lp:= [_,_,_,_,_,_])
  refine wl_ex (x_call h45 bd_163 rfl rfl rfl rfl rfl (pis_c _ M g b12 (nth regs.l ins.b.toNat) words owner q _ _ _ _ _ hM hp44)) (wanted_none rfl _) ?_
  rintro a46 w46 ⟨_,⟨rfl,hs46⟩,hf46⟩
  have h46:St 193 K W a46 w46 _ [_,_,_,_,_,_,_,_,_,_,_,_]:=⟨hf46,h45.sh.backL (Lp:= [_,_,_,_,_,_]) hs46 (by intro A hA b hb;simp only [List.mem_cons,List.not_mem_nil,or_false] at hA;rcases hA with rfl|rfl|rfl|rfl|rfl|rfl<;>first|exact (hb:False).elim|exact Flat.noRd hb|exact .inl ⟨_,List.mem_cons_self .., .inr hb⟩|exact rdX hM hb|exact .inl ⟨_,by simp, .inr hb⟩)⟩
  clear hf46 hs46
  clear h45
  refine gG h46<|nK k38<|gF [1,3,5,6,59] rfl<|?_;clear h46
  refine gcd rfl (fun hb47 hp47=> ?_) fun hb47 hp47=> ?_
  ·skip
   intro a48 w48 h48
   refine x_tail 17 [] (by kernel_rfl) (by kernel_rfl) h48 fun _ z49=>qQ h48.fr<|qRn (oM 1 rfl<|ofB fl_32_1 rfl<|olB 6 ti_3 rfl rfl<|olB 0 ti_85 rfl rfl<|onfl 1 fl_173_0 ti_97 rfl rfl<|oM 2 rfl<|ofB fl_32_2 rfl<|olB 6 ti_3 rfl rfl<|oxI sl_23 ti_3 (aO 9 rfl) om9 rfl<|olI ti_3 (aO 9 rfl) om9 rfl<|oV (r_nilckI rfl rfl) rfl<|oM 1 rfl<|.nl)<|fun _ hq=>wq_inv hq rfl rfl rfl (wanted_none rfl _) rfl rfl (fun w h=>(hM.load _ words owner q n (nth regs.l ins.b.toNat) ⟨h.blk 2 rfl,h.own 3 rfl,h.own 4 rfl,h.ok _ (List.mem_of_getElem? (i:=5) rfl)⟩ hqn hwl (by omega)))<|qRn (oxI sl_23 ti_3 (aO 9 rfl) om9 rfl<|.nl)<|qN z49<|gte 9 (findsL (nth (M.qs q) n) words.l (nth regs.l ins.b.toNat):Int) ti_3 om9 rfl rfl<|nN<|fun a51 w51 h51=> ?_;clear h48
   try simp only [Exit.then,Exit.inBlock,if_true]
   refine x_end0 (fn:=Tryz.f146) rfl h51 ?_
   have hf9:(fell|| !decide (0≤nth regs.l ins.b.toNat∧nth regs.l ins.b.toNat<(words.l.length:Int)))=fell:=or_f hb47
   have hz:=(h51.sh.sel (L' := [_,_,_,_,_,_,_,_,_,_]) [1,7,8,9,10,2,3,4,5,11] rfl)
   rw [hf9] at hz
   refine ⟨rfl,⟨regs.v,regs.l.set ins.a.toNat (findsL (nth (M.qs q) n) words.l (nth regs.l ins.b.toNat))⟩,⟨words.v,words.l⟩,⟨owner.v,owner.l⟩,⟨prints.v,prints.l⟩,q,(nth (M.qs q) n),(nth thr.l n).pc,fell,(list_set_nth _ _).symm, ?_, ?_⟩
   · first|(refine Eq.trans ?_ (execT_10t (by assumption) (by assumption)).symm;rfl)|(refine Eq.trans ?_ (execT_10f (by assumption) (by assumption)).symm;rfl)
   · rw [←qset_n hrv ht];exact hz
  refine gS<|fun a52 w52 h52=> ?_
  try simp only [Exit.then,Exit.inBlock,if_true]
  refine x_end0 (fn:=Tryz.f146) rfl h52 ?_
  have hf9:(fell|| !decide (0≤nth regs.l ins.b.toNat∧nth regs.l ins.b.toNat<(words.l.length:Int)))=true:=or_t hb47
  have hz:=(h52.sh.sel (L' := [_,_,_,_,_,_,_,_,_,_]) [1,7,8,9,10,2,3,4,5,11] rfl)
  rw [hf9] at hz
  refine ⟨rfl,⟨regs.v,regs.l⟩,⟨words.v,words.l⟩,⟨owner.v,owner.l⟩,⟨prints.v,prints.l⟩,q,(nth (M.qs q) n),(nth thr.l n).pc,true,(list_set_nth _ _).symm, ?_, ?_⟩
  · first|(refine Eq.trans ?_ (execT_10t (by assumption) (by assumption)).symm;rfl)|(refine Eq.trans ?_ (execT_10f (by assumption) (by assumption)).symm;rfl)
  · rw [←qset_n hrv ht];exact hz
 refine sG (oeqI _ _ rfl<|oM 1 rfl<|.nl)<|gcd rfl (fun hb54 hp54=> ?_) fun hb54 hp54=> ?_
 ·skip
  have q9:=hR.o10 (by omega)
  have hw0:=hab.1 (by omega)
  refine sK fun _ k55=>gNl (aO 5 rfl) fun hl56=>gRn (oM 2 rfl<|ofB fl_32_1 rfl<|olB 0 ti_3 rfl rfl<|oxI sl_23 ti_3 (aO 5 rfl) om9 rfl<|olI ti_3 (aO 5 rfl) om9 rfl<|.nl)<|gO [1,2,7,8,9,10,0,3,4,5,6,11] rfl<|fun a62 w62 h62=> ?_
  have hp61:=h62.sh.passL (Lp:= [_,_,_,_,_,_])
  refine wl_ex (x_call h62 bd_163 rfl rfl rfl rfl rfl (pis_c _ M g b12 (nth regs.l ins.a.toNat) words owner q _ _ _ _ _ hM hp61)) (wanted_none rfl _) ?_
  rintro a63 w63 ⟨_,⟨rfl,hs63⟩,hf63⟩
  have h63:St 193 K W a63 w63 _ [_,_,_,_,_,_,_,_,_,_,_,_]:=⟨hf63,h62.sh.backL (Lp:= [_,_,_,_,_,_]) hs63 (by intro A hA b hb;simp only [List.mem_cons,List.not_mem_nil,or_false] at hA;rcases hA with rfl|rfl|rfl|rfl|rfl|rfl<;>first|exact (hb:False).elim|exact Flat.noRd hb|exact .inl ⟨_,List.mem_cons_self .., .inr hb⟩|exact rdX hM hb|exact .inl ⟨_,by simp, .inr hb⟩)⟩
  clear hf63 hs63
  clear h62
  refine gG h63<|nK k55<|gF [1,3,5,6,85] rfl<|?_;clear h63
  refine gcd rfl (fun hb64 hp64=> ?_) fun hb64 hp64=> ?_
  ·skip
   refine rT 17 [] (olB 0 ti_85 rfl rfl<|onfl 1 fl_173_0 ti_97 rfl rfl<|oM 2 rfl<|ofB fl_32_1 rfl<|olB 6 ti_3 rfl rfl<|oxI sl_23 ti_3 (aO 9 rfl) om9 rfl<|olI ti_3 (aO 9 rfl) om9 rfl<|oM 1 rfl<|ofB fl_32_2 rfl<|olB 6 ti_3 rfl rfl<|oxI sl_23 ti_3 (aO 9 rfl) om9 rfl<|olI ti_3 (aO 9 rfl) om9 rfl<|oV (r_nilckI rfl rfl) rfl<|oM 1 rfl<|.nl)<|gO [2,3,4,5,0,1,6,7,8,9,10,11] rfl<|fun a70 w70 h70=> ?_
   have hp69:=h70.sh.passL (Lp:= [_,_,_,_])
   refine wl_ex (x_inv2 h70 rfl rfl rfl rfl rfl (hM.store _ _ words owner q n (nth regs.l ins.a.toNat) (nth regs.l ins.b.toNat) hp69 hqn (by omega) (by omega))) (wanted_none rfl _) ?_
   rintro a71 w71 ⟨_,⟨rfl,words71,owner71,q71,hst71,hs71⟩,hf71⟩
   change Sh _ _ _ [.blk M.g0 182 [words71.v,owner71.v], .own 3 words71, .own 3 owner71,M.X q71] at hs71
   have h71:St 193 K W a71 w71 _ [_,_,_,_,_,_,_,_,_,_,_,_]:=⟨hf71,h70.sh.backL (Lp:= [_,_,_,_]) hs71 (by intro A hA b hb;simp only [List.mem_cons,List.not_mem_nil,or_false] at hA;rcases hA with rfl|rfl|rfl|rfl<;>first|exact (hb:False).elim|exact Flat.noRd hb|exact .inl ⟨_,List.mem_cons_self .., .inr hb⟩|exact rdX hM hb|exact .inl ⟨_,by simp, .inr hb⟩)⟩
   clear hf71 hs71
   clear h70
   refine gG h71<|nN<|fun a72 w72 h72=> ?_;clear h71
   try simp only [Exit.then,Exit.inBlock,if_true]
   refine x_end0 (fn:=Tryz.f146) rfl h72 ?_
   have hf9:(fell|| !decide (0≤nth regs.l ins.a.toNat∧nth regs.l ins.a.toNat<(words.l.length:Int)))=fell:=or_f hb64
   have hz:=(h72.sh.sel (L' := [_,_,_,_,_,_,_,_,_,_]) [5,7,8,9,10,0,1,2,3,11] rfl)
   rw [hf9] at hz
   obtain ⟨wt,hwt1,hwt2⟩:=hst71
   refine ⟨rfl,⟨regs.v,regs.l⟩,⟨words71.v,words71.l⟩,⟨owner71.v,owner71.l⟩,⟨prints.v,prints.l⟩,q71,wt,(nth thr.l n).pc,fell,hwt1, ?_, ?_⟩
   · exact Eq.trans (hwt2 _ _ _ _) (execT_11t (by assumption) (by assumption)).symm
   · rw [←qset_n hrv ht];exact hz
  refine gS<|fun a73 w73 h73=> ?_
  try simp only [Exit.then,Exit.inBlock,if_true]
  refine x_end0 (fn:=Tryz.f146) rfl h73 ?_
  have hf9:(fell|| !decide (0≤nth regs.l ins.a.toNat∧nth regs.l ins.a.toNat<(words.l.length:Int)))=true:=or_t hb64
  have hz:=(h73.sh.sel (L' := [_,_,_,_,_,_,_,_,_,_]) [1,7,8,9,10,2,3,4,5,11] rfl)
  rw [hf9] at hz
  refine ⟨rfl,⟨regs.v,regs.l⟩,⟨words.v,words.l⟩,⟨owner.v,owner.l⟩,⟨prints.v,prints.l⟩,q,(nth (M.qs q) n),(nth thr.l n).pc,true,(list_set_nth _ _).symm, ?_, ?_⟩
  · (refine Eq.trans ?_ (execT_11f (by assumption) (by assumption)).symm;rfl)
  · rw [←qset_n hrv ht];exact hz
 refine sG (oeqI _ _ rfl<|oM 1 rfl<|.nl)<|gcd rfl (fun hb75 hp75=> ?_) fun hb75 hp75=> ?_
 ·skip
  have q9:=hR.o13 (by omega)
  have hw0:=hab.2.1 (by assumption)
  have hfl:findsL (nth (M.qs q) n) words.l ins.a=nth words.l ins.a.toNat:=findsL_none (fun j hj=>absurd hj (by omega))
  refine gK fun _ k76=>fun a77 w77 h77=>x_quiet (by kernel_rfl) (by kernel_rfl) h77 fun _ z78=>qQ h77.fr<|qRn (olB 1 ti_85 rfl rfl<|onfl 2 fl_173_0 ti_97 rfl rfl<|oM 1 rfl<|ofB fl_32_1 rfl<|olB 0 ti_3 rfl rfl<|.nl)<|fun _ hq=>wq_inv hq rfl rfl rfl (wanted_none rfl _) rfl rfl (fun w h=>(hM.load _ words owner q n ins.a ⟨h.blk 7 rfl,h.own 8 rfl,h.own 9 rfl,h.ok _ (List.mem_of_getElem? (i:=10) rfl)⟩ hqn hwl (by omega)))<|qRn (oM 1 rfl<|ofB fl_32_2 rfl<|olB 0 ti_3 rfl rfl<|.nl)<|?_
  have hl79:regs.l.length≤140737488355328:=(h77.sh.own 5 rfl).len
  refine qRn (oxI sl_23 ti_3 (aO 5 rfl) om9 rfl<|olI ti_3 (aO 5 rfl) om9 rfl<|oeqI _ _ rfl<|oM 1 rfl<|.nl)<|qN z78<|hK k76<|gF [1,3,5,6,8] rfl<|gK fun _ k80=>sG (oM 1 rfl<|.nl)<|?_;clear h77
  refine gcd rfl (fun hb82 hp82=> ?_) fun hb82 hp82=> ?_
  ·skip
   refine rT 14 [] (olB 1 ti_85 rfl rfl<|onfl 2 fl_173_0 ti_97 rfl rfl<|oM 1 rfl<|ofB fl_32_1 rfl<|olB 0 ti_3 rfl rfl<|oM 1 rfl<|ofB fl_32_3 rfl<|olB 0 ti_3 rfl rfl<|oxI sl_23 ti_3 (aO 5 rfl) om9 rfl<|olI ti_3 (aO 5 rfl) om9 rfl<|oV (r_nilckI rfl rfl) rfl<|oM 1 rfl<|.nl)<|gO [7,8,9,10,0,1,2,3,4,5,6,11] rfl<|fun a88 w88 h88=> ?_
   have hp87:=h88.sh.passL (Lp:= [_,_,_,_])
   refine wl_ex (x_inv2 h88 rfl rfl rfl rfl rfl (hM.swap _ _ words owner q n ins.a (nth regs.l ins.c.toNat) hp87 (by omega))) (wanted_none rfl _) ?_
   rintro a89 w89 ⟨_,⟨rfl,words89,owner89,q89,hst89,hs89⟩,hf89⟩
   change Sh _ _ _ [.blk M.g0 182 [words89.v,owner89.v], .own 3 words89, .own 3 owner89,M.X q89] at hs89
   have h89:St 193 K W a89 w89 _ [_,_,_,_,_,_,_,_,_,_,_,_]:=⟨hf89,h88.sh.backL (Lp:= [_,_,_,_]) hs89 (by intro A hA b hb;simp only [List.mem_cons,List.not_mem_nil,or_false] at hA;rcases hA with rfl|rfl|rfl|rfl<;>first|exact (hb:False).elim|exact Flat.noRd hb|exact .inl ⟨_,List.mem_cons_self .., .inr hb⟩|exact rdX hM hb|exact .inl ⟨_,by simp, .inr hb⟩)⟩
   clear hf89 hs89
   clear h88
   refine gG h89<|nK k80<|fun a90 w90 h90=>x_tail 6 [] (by kernel_rfl) (by kernel_rfl) h90 fun _ z91=>qQ h90.fr<|qRn (oM 1 rfl<|ofB fl_32_2 rfl<|olB 4 ti_3 rfl rfl<|oM 1 rfl<|.nl)<|qP bd_145 rfl (fun w h=>(pbit_t hb82 _))<|qRn (oxI sl_23 ti_3 (aO 9 rfl) om9 rfl<|.nl)<|qN z91<|gte 9 (1:Int) ti_3 om9 rfl rfl<|nN<|fun a93 w93 h93=> ?_;clear h89 h90
   try simp only [Exit.then,Exit.inBlock,if_true]
   refine x_end0 (fn:=Tryz.f146) rfl h93 ?_
   have hz:=(h93.sh.sel (L' := [_,_,_,_,_,_,_,_,_,_]) [6,7,8,9,10,0,1,2,3,11] rfl)
   obtain ⟨hw1,hw2⟩:=swap_eq (n:=n) (pc:=(nth thr.l n).pc) (regs:=regs.l.set ins.b.toNat 1) (prints:=prints.l) (fell:=fell) hst89
   refine ⟨rfl,⟨regs.v,regs.l.set ins.b.toNat 1⟩,⟨words89.v,words89.l⟩,⟨owner89.v,owner89.l⟩,⟨prints.v,prints.l⟩,q89,(nth (M.qs q) n),(nth thr.l n).pc,fell,hw1, ?_, ?_⟩
   · (refine Eq.trans hw2 (execT_13t (x:=(⟨(nth thr.l n).pc,regs.l,nth (M.qs q) n,words.l,owner.l,prints.l,fell⟩:TS)) (by assumption) (hfl.symm.trans (by assumption))).symm)
   · rw [←qset_n hrv ht];exact hz
  refine gS<|hK k80<|fun a94 w94 h94=>x_tail 6 [] (by kernel_rfl) (by kernel_rfl) h94 fun _ z95=>qQ h94.fr<|qRn (oM 1 rfl<|ofB fl_32_2 rfl<|olB 0 ti_3 rfl rfl<|oM 1 rfl<|.nl)<|qP bd_145 rfl (fun w h=>(pbit_f hb82 _))<|qRn (oxI sl_23 ti_3 (aO 5 rfl) om9 rfl<|.nl)<|qN z95<|gte 5 (0:Int) ti_3 om9 rfl rfl<|nN<|fun a97 w97 h97=> ?_;clear h94
  try simp only [Exit.then,Exit.inBlock,if_true]
  refine x_end0 (fn:=Tryz.f146) rfl h97 ?_
  have hz:=(h97.sh.sel (L' := [_,_,_,_,_,_,_,_,_,_]) [2,3,4,5,6,7,8,9,10,11] rfl)
  refine ⟨rfl,⟨regs.v,regs.l.set ins.b.toNat 0⟩,⟨words.v,words.l⟩,⟨owner.v,owner.l⟩,⟨prints.v,prints.l⟩,q,(nth (M.qs q) n),(nth thr.l n).pc,fell,(list_set_nth _ _).symm, ?_, ?_⟩
  · (refine Eq.trans ?_ (execT_13f (by assumption) (fun h9=>absurd (hfl.trans h9) (by assumption))).symm;rfl)
  · rw [←qset_n hrv ht];exact hz
 refine sG (oeqI _ _ rfl<|oM 1 rfl<|.nl)<|gF [1,3,5,19,142] rfl<|gcd rfl (fun hb99 hp99=> ?_) fun hb99 hp99=> ?_
 ·skip
  have q9:=hR.o17 (by omega)
  intro a100 w100 h100
  refine x_tail 12 [] (by kernel_rfl) (by kernel_rfl) h100 fun _ z101=>qQ h100.fr<|qRn (olB 1 ti_85 rfl rfl<|onfl 2 fl_173_0 ti_97 rfl rfl<|.nl)<|fun _ hq=>wq_inv hq rfl rfl rfl (wanted_none rfl _) rfl rfl (fun w h=>(hM.base _ words owner q ⟨h.blk 7 rfl,h.own 8 rfl,h.own 9 rfl,h.ok _ (List.mem_of_getElem? (i:=10) rfl)⟩))<|qRn (onfl 7 fl_182_1 ti_23 rfl rfl<|ofB fl_32_1 rfl<|olB 0 ti_3 rfl rfl<|oM 1 rfl<|.nl)<|?_
  have hl102:owner.l.length≤140737488355328:=(h100.sh.own 9 rfl).len
  refine qRn (oxI sl_23 ti_3 (aO 9 rfl) om9 rfl<|.nl)<|qN z101<|gte 9 (((n:Nat):Int):Int) ti_3 om9 rfl rfl<|nN<|fun a104 w104 h104=> ?_;clear h100
  try simp only [Exit.then,Exit.inBlock,if_true]
  refine x_end0 (fn:=Tryz.f146) rfl h104 ?_
  have hz:=(h104.sh.sel (L' := [_,_,_,_,_,_,_,_,_,_]) [2,3,4,5,6,7,8,9,10,11] rfl)
  refine ⟨rfl,⟨regs.v,regs.l⟩,⟨words.v,words.l⟩,⟨owner.v,owner.l.set ins.a.toNat ((n:Nat):Int)⟩,⟨prints.v,prints.l⟩,q,(nth (M.qs q) n),(nth thr.l n).pc,fell,(list_set_nth _ _).symm, ?_, ?_⟩
  · (refine Eq.trans ?_ (execT_17 (by assumption)).symm;rfl)
  · rw [←qset_n hrv ht];exact hz
 refine sG (oeqI _ _ rfl<|oM 1 rfl<|.nl)<|gcd rfl (fun hb106 hp106=> ?_) fun hb106 hp106=> ?_
 ·skip
  have q9:=hR.o17 (by omega)
  have hw0:=hab.1 (by omega)
  refine gK fun _ k107=>gK fun _ k108=>fun a109 w109 h109=>x_quiet (by kernel_rfl) (by kernel_rfl) h109 fun _ z110=>qQ h109.fr<|qRn (olB 1 ti_85 rfl rfl<|onfl 2 fl_173_0 ti_97 rfl rfl<|.nl)<|fun _ hq=>wq_inv hq rfl rfl rfl (wanted_none rfl _) rfl rfl (fun w h=>(hM.base _ words owner q ⟨h.blk 7 rfl,h.own 8 rfl,h.own 9 rfl,h.ok _ (List.mem_of_getElem? (i:=10) rfl)⟩))<|qRn (onfl 7 fl_182_1 ti_23 rfl rfl<|ofB fl_32_1 rfl<|olB 0 ti_3 rfl rfl<|.nl)<|?_
  have hl111:owner.l.length≤140737488355328:=(h109.sh.own 9 rfl).len
  refine qRn (oxI sl_23 ti_3 (aO 9 rfl) om9 rfl<|olI ti_3 (aO 9 rfl) om9 rfl<|oM 1 rfl<|oneI _ _ rfl<|oM 1 rfl<|.nl)<|?_
  rcases dsp (nth owner.l ins.a.toNat≠((n:Nat):Int)) with ⟨hb112,hp112⟩|⟨hb112,hp112⟩
  ·skip
   refine qRn (oKs 8 hb112 rfl rfl<|opT hb112 rfl<|.nl)<|qN z110<|?_;clear h109
   refine hK k108<|gF [1,3,5,181] rfl<|gcT rfl rfl<|sK fun _ k114=>gRn (olB 1 ti_85 rfl rfl<|onf fl_173_4 rfl<|.nl)<|gst (v:= .bool true) 2 ti_4 rfl rfl rfl<|nK k114<|gR<|uT<|uB<|fun a116 w116 h116=>x_ret0 (fn:=Tryz.f146) rfl h116 ?_
   have hz:=(h116.sh.sel (L' := [_,_,_,_,_,_,_,_,_,_]) [2,3,4,5,6,7,8,9,10,11] rfl)
   refine ⟨rfl,⟨regs.v,regs.l⟩,⟨words.v,words.l⟩,⟨owner.v,owner.l⟩,⟨prints.v,prints.l⟩,q,(nth (M.qs q) n),(nth thr.l n).pc,true,(list_set_nth _ _).symm, ?_, ?_⟩
   · (refine Eq.trans ?_ (pexec_18f (by assumption) (by first|exact .inl (by omega)|exact .inr (by assumption))).symm;rfl)
   · rw [←qset_n hrv ht];exact hz
  refine qRn (oG hb112 (r_ldb (i:=1) ti_85 rfl rfl rfl rfl) rfl<|oG hb112 (r_nil rfl rfl) rfl<|oG hb112 (r_fieldB (r:=0) fl_173_0 rfl rfl rfl) rfl<|oG hb112 (r_ldb (i:=2) ti_97 rfl rfl rfl rfl) rfl<|oG hb112 (r_move rfl rfl) rfl<|oG hb112 (r_fieldB (r:=1) fl_32_1 rfl rfl rfl) rfl<|oG hb112 (r_ldb (i:=0) ti_3 rfl rfl rfl rfl) rfl<|.nl)<|fun _ hq=>wq_inv hq rfl rfl rfl (wanted_yes hq rfl rfl rfl rfl hb112) rfl rfl (fun w h=>(hM.freeing _ words owner q n ins.a ⟨h.blk 7 rfl,h.own 8 rfl,h.own 9 rfl,h.ok _ (List.mem_of_getElem? (i:=10) rfl)⟩ hqn hwl hwh0))<|qRn (opF hb112 rfl<|.nl)<|qN z110<|?_;clear h109
  refine hK k108<|gF [1,3,5,181] rfl<|gCb rfl (fun hb125=> ?_) fun hb125=> ?_
  ·skip
   refine sK fun _ k126=>gRn (olB 1 ti_85 rfl rfl<|onf fl_173_4 rfl<|.nl)<|gst (v:= .bool true) 2 ti_4 rfl rfl rfl<|nK k126<|gR<|uT<|uB<|fun a128 w128 h128=>x_ret0 (fn:=Tryz.f146) rfl h128 ?_
   have hz:=(h128.sh.sel (L' := [_,_,_,_,_,_,_,_,_,_]) [2,3,4,5,6,7,8,9,10,11] rfl)
   refine ⟨rfl,⟨regs.v,regs.l⟩,⟨words.v,words.l⟩,⟨owner.v,owner.l⟩,⟨prints.v,prints.l⟩,q,(nth (M.qs q) n),(nth thr.l n).pc,true,(list_set_nth _ _).symm, ?_, ?_⟩
   · (refine Eq.trans ?_ (pexec_18f (by assumption) (by first|exact .inl (by omega)|exact .inr (by assumption))).symm;rfl)
   · rw [←qset_n hrv ht];exact hz
  refine gS<|hK k107<|rT 7 [] (olB 1 ti_85 rfl rfl<|onfl 2 fl_173_0 ti_97 rfl rfl<|oM 1 rfl<|ofB fl_32_1 rfl<|olB 0 ti_3 rfl rfl<|.nl)<|gO [7,8,9,10,0,1,2,3,4,5,6,11] rfl<|fun a134 w134 h134=> ?_
  have hp133:=h134.sh.passL (Lp:= [_,_,_,_])
  refine wl_ex (x_inv2 h134 rfl rfl rfl rfl rfl (hM.free _ _ words owner q n ins.a hp133 hqn (by omega) (by omega))) (wanted_none rfl _) ?_
  rintro a135 w135 ⟨_,⟨rfl,words135,owner135,q135,hst135,hs135⟩,hf135⟩
  change Sh _ _ _ [.blk M.g0 182 [words135.v,owner135.v], .own 3 words135, .own 3 owner135,M.X q135] at hs135
  have h135:St 193 K W a135 w135 _ [_,_,_,_,_,_,_,_,_,_,_,_]:=⟨hf135,h134.sh.backL (Lp:= [_,_,_,_]) hs135 (by intro A hA b hb;simp only [List.mem_cons,List.not_mem_nil,or_false] at hA;rcases hA with rfl|rfl|rfl|rfl<;>first|exact (hb:False).elim|exact Flat.noRd hb|exact .inl ⟨_,List.mem_cons_self .., .inr hb⟩|exact rdX hM hb|exact .inl ⟨_,by simp, .inr hb⟩)⟩
  clear hf135 hs135
  clear h134
  refine gG h135<|nN<|fun a136 w136 h136=> ?_;clear h135
  try simp only [Exit.then,Exit.inBlock,if_true]
  refine x_end0 (fn:=Tryz.f146) rfl h136 ?_
  have hz:=(h136.sh.sel (L' := [_,_,_,_,_,_,_,_,_,_]) [6,7,8,9,10,0,1,2,3,11] rfl)
  obtain ⟨wt,hwt1,hwt2⟩:=hst135
  refine ⟨rfl,⟨regs.v,regs.l⟩,⟨words135.v,words135.l⟩,⟨owner135.v,owner135.l⟩,⟨prints.v,prints.l⟩,q135,wt,(nth thr.l n).pc,fell,hwt1, ?_, ?_⟩
  · exact Eq.trans (hwt2 _ _ _ _) (pexec_18c (by assumption) (by omega) (by assumption)).symm
  · rw [←qset_n hrv ht];exact hz
 refine gS<|fun a137 w137 h137=> ?_
 try simp only [Exit.then,Exit.inBlock,if_true]
 refine x_end0 (fn:=Tryz.f146) rfl h137 ?_
 have hz:=(h137.sh.sel (L' := [_,_,_,_,_,_,_,_,_,_]) [2,3,4,5,6,7,8,9,10,11] rfl)
 refine ⟨rfl,⟨regs.v,regs.l⟩,⟨words.v,words.l⟩,⟨owner.v,owner.l⟩,⟨prints.v,prints.l⟩,q,(nth (M.qs q) n),(nth thr.l n).pc,fell,(list_set_nth _ _).symm, ?_, ?_⟩
 · (refine Eq.trans ?_ (pexec_no (by omega) (by omega)).symm;rfl)
 · rw [←qset_n hrv ht];exact hz
theorem pdo_c (K:Nat→Prop)(M:MemS)(g gp:Nat)(code:Ls (Ls Ins))(thr:Ls ThQ)(regs prints words owner:Ls Int)(q:M.σ)(pw:Value)(locks nregs:Int)(fell:Bool)(n:Nat)(k:Nat)(W:World)(hM:MemI Tryz.prog 182 3 M)(hS:Sh K W W [.blk g 173 [.iface M.T (.pointer (some M.u)), .pointer (some ⟨gp,0,none⟩),thr.v,prints.v, .bool fell], .rblk gp 25 [code.v,pw, .int .i64 locks, .int .i64 nregs], .own 189 thr, .own 3 regs, .own 3 prints, .blk M.g0 182 [words.v,owner.v], .own 3 words, .own 3 owner,M.X q, .at_ code])(ht:n<thr.l.length)(htn:n≤1000)(hrv:(nth thr.l n).rv=regs.v)(hqn:n<(M.qs q).length)(hwl:(nth (M.qs q) n).length≤3)(hwh0:∀x∈nth (M.qs q) n,x.lock=true→x.what=0)(hge:∀v∈owner.l,-1≤v)(htc:n<code.l.length)(hpcr:0≤(nth thr.l n).pc∧(nth thr.l n).pc≤(nth code.l n).l.length)(hpcl:(nth code.l n).l.length≤1000000)(hmk:mvOK M.m (nth code.l n).l (⟨(nth thr.l n).pc,regs.l,nth (M.qs q) n,words.l,owner.l,prints.l,fell⟩:TS) k=true)(hpl:prints.l.length≤100000000)(hwt:∀j,j<(nth (M.qs q) n).length→WtOk (nth (nth (M.qs q) n) j) words owner)(hio:k=0→InsR regs.l.length words.l.length owner.l.length (nextIns (nth code.l n).l (nth thr.l n).pc)):
    Rets Tryz.prog 123 [.pointer (some ⟨g,0,none⟩), .agg #[.int .i64 ((n:Nat):Int), .int .i64 (((k:Nat):Int)-1)]] W (fun v w' =>v= .tuple #[]∧MPost K W 173 189 3 182 25 M g gp n [code.v,pw, .int .i64 locks, .int .i64 nregs] thr q (doT M.m n (nth code.l n).l k (⟨(nth thr.l n).pc,regs.l,nth (M.qs q) n,words.l,owner.l,prints.l,fell⟩:TS)) code w'):=by
 refine gen Tryz.func123 Tryz.ntmps123 hS rfl fun a10 h10=>gG h10<|sK fun _ k11=>gbx rfl rfl fun b12=>nK k11<|gK fun _ k13=>gNl (aO 3 rfl) fun hl14=>rQ (oM 1 rfl<|onfl 1 fl_173_2 ti_171 rfl rfl<|ofB fl_179_0 rfl<|olB 0 ti_3 rfl rfl<|oxN sl_171 ti_189 (aO 3 rfl) _ om9 rfl<|oM 1 rfl<|.nl)<|hK k13<|gK fun _ k15=>sG (ofB fl_179_1 rfl<|olB 0 ti_3 rfl rfl<|ogeI _ _ rfl<|.nl)<|?_;clear h10
 refine gcd rfl (fun hb17 hp17=> ?_) fun hb17 hp17=> ?_
 ·skip
  have hkw:k-1<(nth (M.qs q) n).length:=by rcases mvOK_k hmk with ⟨h9,_⟩|⟨h9,h8,_⟩;omega;(change k≤(nth (M.qs q) n).length at h8;omega)
  refine gK fun _ k18=>rT 8 [] (oM 1 rfl<|onfl 1 fl_173_0 ti_97 rfl rfl<|ofB fl_179_0 rfl<|olB 0 ti_3 rfl rfl<|ofB fl_179_1 rfl<|olB 0 ti_3 rfl rfl<|.nl)<|fun a20 w20 h20=> ?_
  have h19:=h20.same (d:=25) (v' := .int .i64 ((k-1:Nat):Int)) rfl (by rw [show ((k:Nat):Int)-1=((k-1:Nat):Int) from by omega])
  clear h20
  have h24:=h19.sel (L' := [_,_,_,_,_,_,_,_,_,_,_]) [6,7,8,9,0,1,2,3,4,5,10] rfl
  have hp25:=h24.sh.passL (Lp:= [_,_,_,_])
  refine wl_ex (x_inv2 h24 rfl rfl rfl rfl rfl (hM.flush _ _ words owner q n (k-1) hp25 hqn hwl hkw hwt)) (wanted_none rfl _) ?_
  rintro a26 w26 ⟨_,⟨rfl,words26,owner26,q26,hst26,hs26⟩,hf26⟩
  change Sh _ _ _ [.blk M.g0 182 [words26.v,owner26.v], .own 3 words26, .own 3 owner26,M.X q26] at hs26
  have h26:St 196 K W a26 w26 _ [_,_,_,_,_,_,_,_,_,_,_]:=⟨hf26,h24.sh.backL (Lp:= [_,_,_,_]) hs26 (by intro A hA b hb;simp only [List.mem_cons,List.not_mem_nil,or_false] at hA;rcases hA with rfl|rfl|rfl|rfl<;>first|exact (hb:False).elim|exact Flat.noRd hb|exact .inl ⟨_,List.mem_cons_self .., .inr hb⟩|exact rdX hM hb|exact .inl ⟨_,by simp, .inr hb⟩)⟩
  clear hf26 hs26
  clear h24
  refine gG h26<|nK k18<|gF [] rfl<|gR<|uT<|fun a27 w27 h27=>x_ret0 (fn:=Tryz.f123) rfl h27 ?_;clear h26
  have hz:=(h27.sh.sel (L' := [_,_,_,_,_,_,_,_,_,_]) [5,6,7,8,9,0,1,2,3,10] rfl)
  obtain ⟨wt,hwt1,hwt2⟩:=hst26
  refine ⟨rfl,⟨regs.v,regs.l⟩,⟨words26.v,words26.l⟩,⟨owner26.v,owner26.l⟩,⟨prints.v,prints.l⟩,q26,wt,(nth thr.l n).pc,fell,hwt1, ?_, ?_⟩
  · exact (hwt2 _ _ _ _).trans (pdoT_k (by omega)).symm
  · rw [←qset_n hrv ht];exact hz
 refine gS<|hK k15<|sK fun _ k28=>gRn (oM 1 rfl<|ofB fl_179_0 rfl<|olB 0 ti_3 rfl rfl<|.nl)<|fun a30 w30 h30=>wl_ex (x_call h30 bd_128 rfl rfl rfl rfl rfl (pnext_c M g gp code thr words owner q _ _ _ _ _ n _ hM (h30.sh.blk 1 rfl) (h30.sh.rblk 2 rfl) (h30.sh.at 10 rfl) (h30.sh.own 3 rfl) ⟨h30.sh.blk 6 rfl,h30.sh.own 7 rfl,h30.sh.own 8 rfl,h30.sh.ok _ (List.mem_of_getElem? (i:=9) rfl)⟩ (by omega) (by omega) (by omega))) (wanted_none rfl _) ?_
 rintro a31 w31 ⟨_,⟨hv31,hs31⟩,hf31⟩
 obtain ⟨ins,hins⟩:∃i,i=nextIns (nth code.l n).l (nth thr.l n).pc:=⟨_,rfl⟩
 rw [←hins] at hv31
 subst hv31
 have h31:St 196 K W a31 w31 _ _:=⟨hf31,h30.sh.call0 hs31⟩
 clear hf31 hs31
 clear h30
 refine gG h31<|gRn (oM 1 rfl<|oxt rfl<|oxt rfl<|.nl)<|gal ti_32 rfl fun b32=>gsw 0 ti_32 rfl rfl rfl<|gRn (oM 1 rfl<|.nl)<|nK k28<|?_;clear h31
 have hR:=hio (by omega)
 rw [←hins] at hR
 have hab9:=able_of hmk (by omega)
 change (nth thr.l n).pc<_∧ableL owner.l (nth (M.qs q) n).length (nextIns (nth code.l n).l (nth thr.l n).pc)=true at hab9
 rw [←hins] at hab9
 have hab:=hab_of hab9.2
 refine sK fun _ k34=>gRn (oM 1 rfl<|onl rfl<|ofE fl_189_0 rfl<|olI ti_3 (aO 4 rfl) om9 rfl<|oadI _ _ om9 rfl<|onl rfl<|ofE fl_189_0 rfl<|.nl)<|gte 4 ({ nth thr.l n with pc:=((nth thr.l n).pc)+1 } :ThQ) ti_3 om9 rfl rfl<|nK k34<|gF [0,3,4,5] rfl<|?_
 obtain ⟨tl,htl⟩:∃tl,tl=thr.l.set n ({ nth thr.l n with pc:=((nth thr.l n).pc)+1 }):=⟨_,rfl⟩
 intro a36 w36 h36
 have h369:=h36.relist (i:=4) (l' :=tl) rfl htl.symm
 clear h36
 rw [qset_0 hrv] at htl
 have htll:tl.length=thr.l.length:=by rw [htl,List.length_set]
 have hrv2:(nth tl n).rv=regs.v:=by rw [htl,nth_set,if_pos ⟨rfl,ht⟩]
 have hpc2:(nth tl n).pc=(nth thr.l n).pc+1:=by rw [htl,nth_set,if_pos ⟨rfl,ht⟩]
 refine gG h369<|sG (oM 1 rfl<|onl rfl<|ofE fl_189_1 rfl<|oV (Rn.same (r_lde (s:=(⟨thr.v,tl⟩:Ls ThQ)) (i:=n) (v:=((nth tl n).rv)) ti_23 rfl rfl rfl (fun w h=>(h.own 4 rfl)) (show n<tl.length from om9) (Nat.le_of_ble_eq_true rfl) rfl) hrv2) rfl<|oM 1 rfl<|.nl)<|sG (ofB fl_32_0 rfl<|olB 0 ti_3 rfl rfl<|.nl)<|gB<|sG (oeqI _ _ rfl<|oM 1 rfl<|.nl)<|?_;clear h369
 refine gcd rfl (fun hb40 hp40=> ?_) fun hb40 hp40=> ?_
 ·skip
  have q9:=hR.o1 (by omega)
  refine gL<|gNl (aO 5 rfl) fun hl41=>gRn (oM 1 rfl<|ofB fl_32_1 rfl<|olB 0 ti_3 rfl rfl<|ofB fl_32_2 rfl<|olB 0 ti_3 rfl rfl<|oxI sl_23 ti_3 (aO 5 rfl) om9 rfl<|.nl)<|gte 5 (ins.b:Int) ti_3 om9 rfl rfl<|nN<|fun a43 w43 h43=> ?_
  try simp only [Exit.then,Exit.inBlock,if_true]
  refine x_end0 (fn:=Tryz.f123) rfl h43 ?_
  have hz:=(h43.sh.sel (L' := [_,_,_,_,_,_,_,_,_,_]) [2,3,4,5,6,7,8,9,10,11] rfl)
  refine ⟨rfl,⟨regs.v,regs.l.set ins.a.toNat ins.b⟩,⟨words.v,words.l⟩,⟨owner.v,owner.l⟩,⟨prints.v,prints.l⟩,q,nth (M.qs q) n,(nth thr.l n).pc+1,fell,(list_set_nth _ _).symm, ?_, ?_⟩
  · refine Eq.trans ?_ (doT_0 (by omega)).symm;show _=execT M.m n (nextIns (nth code.l n).l (nth thr.l n).pc) _;rw [←hins];(refine Eq.trans ?_ (execT_1 (by assumption)).symm;rfl)
  · rw [htl] at hz;exact hz
 refine sG (oeqI _ _ rfl<|oM 1 rfl<|.nl)<|gcd rfl (fun hb45 hp45=> ?_) fun hb45 hp45=> ?_
 ·skip
  have q9:=hR.o2 (by omega)
  refine gNl (aO 5 rfl) fun hl46=>rT 9 [] (oM 1 rfl<|ofB fl_32_1 rfl<|olB 0 ti_3 rfl rfl<|oM 1 rfl<|ofB fl_32_2 rfl<|olB 0 ti_3 rfl rfl<|oxI sl_23 ti_3 (aO 5 rfl) om9 rfl<|olI ti_3 (aO 5 rfl) om9 rfl<|oxI sl_23 ti_3 (aO 5 rfl) om9 rfl<|.nl)<|gte 5 (nth regs.l ins.b.toNat:Int) ti_3 om9 rfl rfl<|nN<|fun a48 w48 h48=> ?_
  try simp only [Exit.then,Exit.inBlock,if_true]
  refine x_end0 (fn:=Tryz.f123) rfl h48 ?_
  have hz:=(h48.sh.sel (L' := [_,_,_,_,_,_,_,_,_,_]) [2,3,4,5,6,7,8,9,10,11] rfl)
  refine ⟨rfl,⟨regs.v,regs.l.set ins.a.toNat (nth regs.l ins.b.toNat)⟩,⟨words.v,words.l⟩,⟨owner.v,owner.l⟩,⟨prints.v,prints.l⟩,q,nth (M.qs q) n,(nth thr.l n).pc+1,fell,(list_set_nth _ _).symm, ?_, ?_⟩
  · refine Eq.trans ?_ (doT_0 (by omega)).symm;show _=execT M.m n (nextIns (nth code.l n).l (nth thr.l n).pc) _;rw [←hins];(refine Eq.trans ?_ (execT_2 (by assumption)).symm;rfl)
  · rw [htl] at hz;exact hz
 refine sG (oeqI _ _ rfl<|oM 1 rfl<|.nl)<|gcd rfl (fun hb50 hp50=> ?_) fun hb50 hp50=> ?_
 ·skip
  have q9:=hR.o3 (by omega)
  refine gNl (aO 5 rfl) fun hl51=>rT 15 [] (oM 1 rfl<|ofB fl_32_1 rfl<|olB 0 ti_3 rfl rfl<|oM 1 rfl<|ofB fl_32_2 rfl<|olB 0 ti_3 rfl rfl<|oxI sl_23 ti_3 (aO 5 rfl) om9 rfl<|olI ti_3 (aO 5 rfl) om9 rfl<|oM 1 rfl<|ofB fl_32_3 rfl<|olB 0 ti_3 rfl rfl<|oxI sl_23 ti_3 (aO 5 rfl) om9 rfl<|olI ti_3 (aO 5 rfl) om9 rfl<|oV (r_addW (p:=nth regs.l ins.b.toNat) (q:=nth regs.l ins.c.toNat) rfl rfl rfl) rfl<|oxI sl_23 ti_3 (aO 5 rfl) om9 rfl<|.nl)<|gte 5 (wrap64 ((nth regs.l ins.b.toNat)+(nth regs.l ins.c.toNat)):Int) ti_3 om9 rfl rfl<|nN<|fun a53 w53 h53=> ?_
  try simp only [Exit.then,Exit.inBlock,if_true]
  refine x_end0 (fn:=Tryz.f123) rfl h53 ?_
  have hz:=(h53.sh.sel (L' := [_,_,_,_,_,_,_,_,_,_]) [2,3,4,5,6,7,8,9,10,11] rfl)
  refine ⟨rfl,⟨regs.v,regs.l.set ins.a.toNat (wrap64 ((nth regs.l ins.b.toNat)+(nth regs.l ins.c.toNat)))⟩,⟨words.v,words.l⟩,⟨owner.v,owner.l⟩,⟨prints.v,prints.l⟩,q,nth (M.qs q) n,(nth thr.l n).pc+1,fell,(list_set_nth _ _).symm, ?_, ?_⟩
  · refine Eq.trans ?_ (doT_0 (by omega)).symm;show _=execT M.m n (nextIns (nth code.l n).l (nth thr.l n).pc) _;rw [←hins];(refine Eq.trans ?_ (execT_3 (by assumption)).symm;rfl)
  · rw [htl] at hz;exact hz
 refine sG (oeqI _ _ rfl<|oM 1 rfl<|.nl)<|gcd rfl (fun hb55 hp55=> ?_) fun hb55 hp55=> ?_
 ·skip
  have q9:=hR.o3 (by omega)
  refine gNl (aO 5 rfl) fun hl56=>rT 15 [] (oM 1 rfl<|ofB fl_32_1 rfl<|olB 0 ti_3 rfl rfl<|oM 1 rfl<|ofB fl_32_2 rfl<|olB 0 ti_3 rfl rfl<|oxI sl_23 ti_3 (aO 5 rfl) om9 rfl<|olI ti_3 (aO 5 rfl) om9 rfl<|oM 1 rfl<|ofB fl_32_3 rfl<|olB 0 ti_3 rfl rfl<|oxI sl_23 ti_3 (aO 5 rfl) om9 rfl<|olI ti_3 (aO 5 rfl) om9 rfl<|oV (r_subW (p:=nth regs.l ins.b.toNat) (q:=nth regs.l ins.c.toNat) rfl rfl rfl) rfl<|oxI sl_23 ti_3 (aO 5 rfl) om9 rfl<|.nl)<|gte 5 (wrap64 ((nth regs.l ins.b.toNat)-(nth regs.l ins.c.toNat)):Int) ti_3 om9 rfl rfl<|nN<|fun a58 w58 h58=> ?_
  try simp only [Exit.then,Exit.inBlock,if_true]
  refine x_end0 (fn:=Tryz.f123) rfl h58 ?_
  have hz:=(h58.sh.sel (L' := [_,_,_,_,_,_,_,_,_,_]) [2,3,4,5,6,7,8,9,10,11] rfl)
  refine ⟨rfl,⟨regs.v,regs.l.set ins.a.toNat (wrap64 ((nth regs.l ins.b.toNat)-(nth regs.l ins.c.toNat)))⟩,⟨words.v,words.l⟩,⟨owner.v,owner.l⟩,⟨prints.v,prints.l⟩,q,nth (M.qs q) n,(nth thr.l n).pc+1,fell,(list_set_nth _ _).symm, ?_, ?_⟩
  · refine Eq.trans ?_ (doT_0 (by omega)).symm;show _=execT M.m n (nextIns (nth code.l n).l (nth thr.l n).pc) _;rw [←hins];(refine Eq.trans ?_ (execT_4 (by assumption)).symm;rfl)
  · rw [htl] at hz;exact hz
 refine sG (oeqI _ _ rfl<|oM 1 rfl<|.nl)<|gcd rfl (fun hb60 hp60=> ?_) fun hb60 hp60=> ?_
 ·skip
  have q9:=hR.o3 (by omega)
  refine gNl (aO 5 rfl) fun hl61=>rT 15 [] (oM 1 rfl<|ofB fl_32_1 rfl<|olB 0 ti_3 rfl rfl<|oM 1 rfl<|ofB fl_32_2 rfl<|olB 0 ti_3 rfl rfl<|oxI sl_23 ti_3 (aO 5 rfl) om9 rfl<|olI ti_3 (aO 5 rfl) om9 rfl<|oM 1 rfl<|ofB fl_32_3 rfl<|olB 0 ti_3 rfl rfl<|oxI sl_23 ti_3 (aO 5 rfl) om9 rfl<|olI ti_3 (aO 5 rfl) om9 rfl<|oV (r_mulW (p:=nth regs.l ins.b.toNat) (q:=nth regs.l ins.c.toNat) rfl rfl rfl) rfl<|oxI sl_23 ti_3 (aO 5 rfl) om9 rfl<|.nl)<|gte 5 (wrap64 ((nth regs.l ins.b.toNat)*(nth regs.l ins.c.toNat)):Int) ti_3 om9 rfl rfl<|nN<|fun a63 w63 h63=> ?_
  try simp only [Exit.then,Exit.inBlock,if_true]
  refine x_end0 (fn:=Tryz.f123) rfl h63 ?_
  have hz:=(h63.sh.sel (L' := [_,_,_,_,_,_,_,_,_,_]) [2,3,4,5,6,7,8,9,10,11] rfl)
  refine ⟨rfl,⟨regs.v,regs.l.set ins.a.toNat (wrap64 ((nth regs.l ins.b.toNat)*(nth regs.l ins.c.toNat)))⟩,⟨words.v,words.l⟩,⟨owner.v,owner.l⟩,⟨prints.v,prints.l⟩,q,nth (M.qs q) n,(nth thr.l n).pc+1,fell,(list_set_nth _ _).symm, ?_, ?_⟩
  · refine Eq.trans ?_ (doT_0 (by omega)).symm;show _=execT M.m n (nextIns (nth code.l n).l (nth thr.l n).pc) _;rw [←hins];(refine Eq.trans ?_ (execT_5 (by assumption)).symm;rfl)
  · rw [htl] at hz;exact hz
 refine sG (oeqI _ _ rfl<|oM 1 rfl<|.nl)<|gcd rfl (fun hb65 hp65=> ?_) fun hb65 hp65=> ?_
 ·skip
  have q9:=hR.o3 (by omega)
  intro a67 w67 h67
  refine x_tail 16 [] (by kernel_rfl) (by kernel_rfl) h67 fun _ z68=>qQ h67.fr<|qRn (oM 1 rfl<|ofB fl_32_1 rfl<|olB 0 ti_3 rfl rfl<|oM 1 rfl<|ofB fl_32_2 rfl<|olB 0 ti_3 rfl rfl<|.nl)<|?_
  have hl69:regs.l.length≤140737488355328:=(h67.sh.own 5 rfl).len
  refine qRn (oxI sl_23 ti_3 (aO 5 rfl) om9 rfl<|olI ti_3 (aO 5 rfl) om9 rfl<|oM 1 rfl<|ofB fl_32_3 rfl<|olB 0 ti_3 rfl rfl<|oxI sl_23 ti_3 (aO 5 rfl) om9 rfl<|olI ti_3 (aO 5 rfl) om9 rfl<|oltI _ _ rfl<|.nl)<|qP bd_145 rfl (fun w h=>(pbit_c (decide (nth regs.l ins.b.toNat<nth regs.l ins.c.toNat)) _))<|qRn (oxI sl_23 ti_3 (aO 5 rfl) om9 rfl<|.nl)<|qN z68<|gte 5 (bit (decide (nth regs.l ins.b.toNat<nth regs.l ins.c.toNat)):Int) ti_3 om9 rfl rfl<|nN<|fun a71 w71 h71=> ?_;clear h67
  try simp only [Exit.then,Exit.inBlock,if_true]
  refine x_end0 (fn:=Tryz.f123) rfl h71 ?_
  have hz:=(h71.sh.sel (L' := [_,_,_,_,_,_,_,_,_,_]) [2,3,4,5,6,7,8,9,10,11] rfl)
  refine ⟨rfl,⟨regs.v,regs.l.set ins.a.toNat (bit (decide (nth regs.l ins.b.toNat<nth regs.l ins.c.toNat)))⟩,⟨words.v,words.l⟩,⟨owner.v,owner.l⟩,⟨prints.v,prints.l⟩,q,nth (M.qs q) n,(nth thr.l n).pc+1,fell,(list_set_nth _ _).symm, ?_, ?_⟩
  · refine Eq.trans ?_ (doT_0 (by omega)).symm;show _=execT M.m n (nextIns (nth code.l n).l (nth thr.l n).pc) _;rw [←hins];(refine Eq.trans ?_ (execT_6 (by assumption)).symm;rfl)
  · rw [htl] at hz;exact hz
 refine sG (oeqI _ _ rfl<|oM 1 rfl<|.nl)<|gcd rfl (fun hb73 hp73=> ?_) fun hb73 hp73=> ?_
 ·skip
  have q9:=hR.o3 (by omega)
  intro a75 w75 h75
  refine x_tail 16 [] (by kernel_rfl) (by kernel_rfl) h75 fun _ z76=>qQ h75.fr<|qRn (oM 1 rfl<|ofB fl_32_1 rfl<|olB 0 ti_3 rfl rfl<|oM 1 rfl<|ofB fl_32_2 rfl<|olB 0 ti_3 rfl rfl<|.nl)<|?_
  have hl77:regs.l.length≤140737488355328:=(h75.sh.own 5 rfl).len
  refine qRn (oxI sl_23 ti_3 (aO 5 rfl) om9 rfl<|olI ti_3 (aO 5 rfl) om9 rfl<|oM 1 rfl<|ofB fl_32_3 rfl<|olB 0 ti_3 rfl rfl<|oxI sl_23 ti_3 (aO 5 rfl) om9 rfl<|olI ti_3 (aO 5 rfl) om9 rfl<|oeqI _ _ rfl<|.nl)<|qP bd_145 rfl (fun w h=>(pbit_c (decide (nth regs.l ins.b.toNat=nth regs.l ins.c.toNat)) _))<|qRn (oxI sl_23 ti_3 (aO 5 rfl) om9 rfl<|.nl)<|qN z76<|gte 5 (bit (decide (nth regs.l ins.b.toNat=nth regs.l ins.c.toNat)):Int) ti_3 om9 rfl rfl<|nN<|fun a79 w79 h79=> ?_;clear h75
  try simp only [Exit.then,Exit.inBlock,if_true]
  refine x_end0 (fn:=Tryz.f123) rfl h79 ?_
  have hz:=(h79.sh.sel (L' := [_,_,_,_,_,_,_,_,_,_]) [2,3,4,5,6,7,8,9,10,11] rfl)
  refine ⟨rfl,⟨regs.v,regs.l.set ins.a.toNat (bit (decide (nth regs.l ins.b.toNat=nth regs.l ins.c.toNat)))⟩,⟨words.v,words.l⟩,⟨owner.v,owner.l⟩,⟨prints.v,prints.l⟩,q,nth (M.qs q) n,(nth thr.l n).pc+1,fell,(list_set_nth _ _).symm, ?_, ?_⟩
  · refine Eq.trans ?_ (doT_0 (by omega)).symm;show _=execT M.m n (nextIns (nth code.l n).l (nth thr.l n).pc) _;rw [←hins];(refine Eq.trans ?_ (execT_7 (by assumption)).symm;rfl)
  · rw [htl] at hz;exact hz
 refine sG (oeqI _ _ rfl<|oM 1 rfl<|.nl)<|gcd rfl (fun hb81 hp81=> ?_) fun hb81 hp81=> ?_
 ·skip
  refine gL<|gRn (oM 1 rfl<|ofB fl_32_1 rfl<|olB 0 ti_3 rfl rfl<|onl rfl<|ofE fl_189_0 rfl<|.nl)<|gte 4 ({ nth tl n with pc:=ins.a } :ThQ) ti_3 om9 rfl rfl<|nN<|fun a83 w83 h83=> ?_
  try simp only [Exit.then,Exit.inBlock,if_true]
  refine x_end0 (fn:=Tryz.f123) rfl h83 ?_
  have hz:=(h83.sh.sel (L' := [_,_,_,_,_,_,_,_,_,_]) [2,3,4,5,6,7,8,9,10,11] rfl)
  refine ⟨rfl,⟨regs.v,regs.l⟩,⟨words.v,words.l⟩,⟨owner.v,owner.l⟩,⟨prints.v,prints.l⟩,q,nth (M.qs q) n,ins.a,fell,(list_set_nth _ _).symm, ?_, ?_⟩
  · refine Eq.trans ?_ (doT_0 (by omega)).symm;show _=execT M.m n (nextIns (nth code.l n).l (nth thr.l n).pc) _;rw [←hins];(refine Eq.trans ?_ (execT_14 (by assumption)).symm;rfl)
  · rw [qset_pc ht htl] at hz;exact hz
 refine sG (oeqI _ _ rfl<|oM 1 rfl<|.nl)<|gcd rfl (fun hb85 hp85=> ?_) fun hb85 hp85=> ?_
 ·skip
  have q9:=hR.o15 (by omega)
  refine sK fun _ k86=>gNl (aO 5 rfl) fun hl87=>gRn (oM 1 rfl<|ofB fl_32_1 rfl<|olB 0 ti_3 rfl rfl<|oxI sl_23 ti_3 (aO 5 rfl) om9 rfl<|olI ti_3 (aO 5 rfl) om9 rfl<|oeqI _ _ rfl<|.nl)<|nK k86<|gF [4,5,172] rfl<|gcd rfl (fun hb88 hp88=> ?_) fun hb88 hp88=> ?_
  ·skip
   refine gL<|gRn (oM 1 rfl<|ofB fl_32_2 rfl<|olB 0 ti_3 rfl rfl<|onl rfl<|ofE fl_189_0 rfl<|.nl)<|gte 4 ({ nth tl n with pc:=ins.b } :ThQ) ti_3 om9 rfl rfl<|nN<|fun a90 w90 h90=> ?_
   try simp only [Exit.then,Exit.inBlock,if_true]
   refine x_end0 (fn:=Tryz.f123) rfl h90 ?_
   have hz:=(h90.sh.sel (L' := [_,_,_,_,_,_,_,_,_,_]) [2,3,4,5,6,7,8,9,10,11] rfl)
   refine ⟨rfl,⟨regs.v,regs.l⟩,⟨words.v,words.l⟩,⟨owner.v,owner.l⟩,⟨prints.v,prints.l⟩,q,nth (M.qs q) n,ins.b,fell,(list_set_nth _ _).symm, ?_, ?_⟩
   · refine Eq.trans ?_ (doT_0 (by omega)).symm;show _=execT M.m n (nextIns (nth code.l n).l (nth thr.l n).pc) _;rw [←hins];first|(refine Eq.trans ?_ (execT_15t (by assumption) (by assumption)).symm;rfl)|(refine Eq.trans ?_ (execT_15f (by assumption) (by assumption)).symm;rfl)
   · rw [qset_pc ht htl] at hz;exact hz
  refine gS<|fun a91 w91 h91=> ?_
  try simp only [Exit.then,Exit.inBlock,if_true]
  refine x_end0 (fn:=Tryz.f123) rfl h91 ?_
  have hz:=(h91.sh.sel (L' := [_,_,_,_,_,_,_,_,_,_]) [2,3,4,5,6,7,8,9,10,11] rfl)
  refine ⟨rfl,⟨regs.v,regs.l⟩,⟨words.v,words.l⟩,⟨owner.v,owner.l⟩,⟨prints.v,prints.l⟩,q,nth (M.qs q) n,(nth thr.l n).pc+1,fell,(list_set_nth _ _).symm, ?_, ?_⟩
  · refine Eq.trans ?_ (doT_0 (by omega)).symm;show _=execT M.m n (nextIns (nth code.l n).l (nth thr.l n).pc) _;rw [←hins];first|(refine Eq.trans ?_ (execT_15t (by assumption) (by assumption)).symm;rfl)|(refine Eq.trans ?_ (execT_15f (by assumption) (by assumption)).symm;rfl)
  · rw [htl] at hz;exact hz
 refine sG (oeqI _ _ rfl<|oM 1 rfl<|.nl)<|gF [0,3,5,7,178] rfl<|gcd rfl (fun hb93 hp93=> ?_) fun hb93 hp93=> ?_
 ·skip
  have q9:=hR.o15 (by omega)
  refine gNl (aO 5 rfl) fun hl94=>rC [12,13,16] rfl<|pR [0,1,2,3,4,5,6,7,8,9,10,11] rfl (oM 2 rfl<|onfl 2 fl_173_3 ti_23 rfl rfl<|ofB fl_179_0 rfl<|olB 1 ti_3 rfl rfl<|oM 1 rfl<|ofB fl_32_1 rfl<|olB 0 ti_3 rfl rfl<|oxI sl_23 ti_3 (aO 5 rfl) om9 rfl<|olI ti_3 (aO 5 rfl) om9 rfl<|.nl) rfl<|pX (fun _ _ h_=>x_lit (n:=2) (cs:= [.int .i64 ((n:Nat):Int), .int .i64 (nth regs.l ins.a.toNat)]) ([((n:Nat):Int),nth regs.l ins.a.toNat]:List Int) h_ sl_23 ti_3 rfl rfl rfl (by decide) rfl (by kernel_rfl) rfl (fun q hq w h=>Flat.inner _ _) (fun q hq b hb=>(Flat.on _ _ hb).elim) rfl rfl) rfl fun v95=>pR [0,1,2,3,4] rfl (oM 2 rfl<|onfl 3 fl_173_3 ti_23 rfl rfl<|.nl) rfl<|pX (fun _ _ h_=>x_app (r:=7) (rm:=0) (s:=prints) (m:=(⟨v95, [((n:Nat):Int),nth regs.l ins.a.toNat]⟩:Ls Int)) h_ sl_23 ti_3 rfl rfl rfl rfl rfl rfl rfl (fun w h=>(h.own 0 rfl)) (fun b hb=>own_on (h_.sh.ok _ (List.mem_of_getElem? (i:=0) rfl)) hb) (fun q hq b hb=>⟨q,hq,hb⟩) rfl rfl rfl inferInstance (show (prints.l.length+([((n:Nat):Int),nth regs.l ins.a.toNat]).length)*8≤140737488355328∧prints.l.length+([((n:Nat):Int),nth regs.l ins.a.toNat]).length≤140737488355328 from om9) rfl rfl) rfl fun v96=>pR [0,14,15] rfl (oM 1 rfl<|onf fl_173_3 rfl<|.nl) rfl<|pS (fun _ _ h_=>x_stb (i:=3) (vs:= [v96]) (cs' := [.iface M.T (.pointer (some M.u)), .pointer (some ⟨gp,0,none⟩),thr.v,v96, .bool fell]) h_ ti_23 rfl rfl rfl rfl rfl (cells_oneL ((h_.sh.own 7 rfl)).one) rfl (allOne_cons ((h_.sh.own 7 rfl)).one allOne_nil) (Nat.le_of_ble_eq_true rfl) rfl) rfl<|pE [] rfl (.nl) rfl<|fun a98 w98 h98=> ?_
  try simp only [Exit.then,Exit.inBlock,if_true]
  refine x_end0 (fn:=Tryz.f123) rfl h98 ?_
  have hz:=(h98.sh.sel (L' := [_,_,_,_,_,_,_,_,_,_]) [3,4,5,6,7,8,9,10,11,12] rfl)
  refine ⟨rfl,⟨regs.v,regs.l⟩,⟨words.v,words.l⟩,⟨owner.v,owner.l⟩,⟨v96,prints.l++([((n:Nat):Int),nth regs.l ins.a.toNat])⟩,q,nth (M.qs q) n,(nth thr.l n).pc+1,fell,(list_set_nth _ _).symm, ?_, ?_⟩
  · refine Eq.trans ?_ (doT_0 (by omega)).symm;show _=execT M.m n (nextIns (nth code.l n).l (nth thr.l n).pc) _;rw [←hins];(refine Eq.trans ?_ (execT_16 (by assumption)).symm;rfl)
  · rw [htl] at hz;exact hz
 refine gL<|gRn (oM 1 rfl<|ofB fl_179_0 rfl<|olB 1 ti_3 rfl rfl<|olw 0 ti_32 rfl rfl<|.nl)<|gO [2,3,4,5,6,7,8,9,10,11,0,1] rfl<|fun a104 w104 h104=> ?_
 have hp103:=h104.sh.passL (Lp:= [_,_,_,_,_,_,_,_,_,_])
 refine wl_ex (x_call h104 bd_146 rfl rfl rfl rfl rfl (pmem_c _ M g gp code (⟨thr.v,tl⟩:Ls ThQ) regs prints words owner q _ _ _ fell n ins _ hM hp103 (by show n<tl.length;omega) htn hrv2 hqn hwl hwh0 hge hR (by omega) hab)) (wanted_none rfl _) ?_
 rintro a105 w105 ⟨_,⟨rfl,regs105,words105,owner105,prints105,q105,wt105,pc105,fell105,hmq105,hmy105,hs105⟩,hf105⟩
 change Sh _ _ _ [.blk g 173 [.iface M.T (.pointer (some M.u)), .pointer (some ⟨gp,0,none⟩),thr.v,prints105.v, .bool fell105], .rblk gp 25 [code.v,pw, .int .i64 locks, .int .i64 nregs], .own 189 (⟨thr.v,tl.set n ⟨pc105,regs105.v⟩⟩:Ls ThQ), .own 3 regs105, .own 3 prints105, .blk M.g0 182 [words105.v,owner105.v], .own 3 words105, .own 3 owner105,M.X q105, .at_ code] at hs105
 have h105:St 196 K W a105 w105 _ [_,_,_,_,_,_,_,_,_,_,_,_]:=⟨hf105,h104.sh.backL (Lp:= [_,_,_,_,_,_,_,_,_,_]) hs105 (by intro A hA b hb;simp only [List.mem_cons,List.not_mem_nil,or_false] at hA;rcases hA with rfl|rfl|rfl|rfl|rfl|rfl|rfl|rfl|rfl|rfl<;>first|exact (hb:False).elim|exact Flat.noRd hb|exact .inl ⟨_,List.mem_cons_self .., .inr hb⟩|exact rdX hM hb|exact .inl ⟨_,List.mem_of_getElem? (i:=1) rfl, .inr hb⟩|exact .inl ⟨_,List.mem_of_getElem? (i:=9) rfl, .inr hb⟩|exact .inl ⟨_,by simp, .inr hb⟩)⟩
 clear hf105 hs105
 clear h104
 refine gG h105<|nN<|fun a106 w106 h106=> ?_;clear h105
 try simp only [Exit.then,Exit.inBlock,if_true]
 refine x_end0 (fn:=Tryz.f123) rfl h106 ?_
 have hz:=(h106.sh.sel (L' := [_,_,_,_,_,_,_,_,_,_]) [0,1,2,3,4,5,6,7,8,9] rfl)
 refine ⟨rfl,regs105,words105,owner105,prints105,q105,wt105,pc105,fell105,hmq105, ?_, ?_⟩
 · refine Eq.trans hmy105 ?_;refine Eq.trans ?_ (doT_0 (by omega)).symm;show _=execT M.m n (nextIns (nth code.l n).l (nth thr.l n).pc) _;rw [←hins];show execT M.m n ins ⟨(nth tl n).pc,_,_,_,_,_,_⟩=_;rw [hpc2]
 · rw [htl,List.set_set] at hz;exact hz
theorem ok_lenP {code:Ls (Ls Ins)}{words:Ls Int}{Lk R:Nat}(h:OkPg (pgN code words Lk R)):1≤code.l.length∧code.l.length≤4∧words.l.length≤64∧Lk≤4∧R≤200:=by
 have h1:=h.code
 have h2:=h.words
 have h3:=h.locks
 have h4:=h.regs
 simp only [pgN,pgOf,List.length_map] at h1 h2 h3 h4
 omega
theorem ok_clen {code:Ls (Ls Ins)}{words:Ls Int}{Lk R:Nat}(h:OkPg (pgN code words Lk R)):∀t,t<code.l.length→(nth code.l t).l.length≤400:=fun t ht=>by
 have h9:=h.len t (by rw [pgN_len];exact ht)
 rwa [pgN_code ht] at h9
theorem St.toR {N:Nat}{K:Nat→Prop}{W w:World}{a:Act}{F:List (Nat×Value)}{L:List Asn}(i:Nat){g:Nat}{E:TypeId}{cs:List Value}(h:St N K W a w F L)(hi:L[i]? =some (.blk g E cs)):St N K W a w F (L.set i (.rblk g E cs)):=
 ⟨h.fr,h.sh.put hi (Chg.refl _ _) (h.sh.blk i hi) (fun b hb=>hb.elim) (fun b hb=> .inl hb) (fun b hb=>hb.elim)⟩
def pstA (M:MemS)(g gp:Nat)(pc:List Value)(vt:Value)(rows:List ThR)(prints words owner:Ls Int)(q:M.σ)(fell:Bool)(code:Ls (Ls Ins)):List Asn:=
 [.blk g 173 [.iface M.T (.pointer (some M.u)), .pointer (some ⟨gp,0,none⟩),vt,prints.v, .bool fell], .rblk gp 25 pc, .own 189 (⟨vt,rows.map ThR.toQ⟩:Ls ThQ), .big (regA 3 rows), .own 3 prints, .blk M.g0 182 [words.v,owner.v], .own 3 words, .own 3 owner,M.X q, .at_ code]
theorem pdo_full (K:Nat→Prop)(M:MemS)(g gp:Nat)(code:Ls (Ls Ins))(vt:Value)(rows:List ThR)(prints words owner:Ls Int)(q:M.σ)(pw:Value)(locks nregs:Int)(fell:Bool)(t k:Nat)(W:World)(hM:MemI Tryz.prog 182 3 M)
  (hS:Sh K W W (pstA M g gp [code.v,pw, .int .i64 locks, .int .i64 nregs] vt rows prints words owner q fell code)) (hn:t<rows.length) (h1000:t≤1000) (hqn:t<(M.qs q).length) (hwl:(nth (M.qs q) t).length≤3) (hwh0:∀x∈nth (M.qs q) t,x.lock=true→x.what=0) (hge:∀v∈owner.l,-1≤v) (htc:t<code.l.length)
  (hpcr:0≤(nth rows t).pc∧(nth rows t).pc≤(nth code.l t).l.length) (hpcl:(nth code.l t).l.length≤1000000) (hmk:mvOK M.m (nth code.l t).l ⟨(nth rows t).pc,(nth rows t).regs.l,nth (M.qs q) t,words.l,owner.l,prints.l,fell⟩ k=true) (hpl:prints.l.length≤100000000)
  (hwt:∀j,j<(nth (M.qs q) t).length→WtOk (nth (nth (M.qs q) t) j) words owner) (hio:k=0→InsR (nth rows t).regs.l.length words.l.length owner.l.length (nextIns (nth code.l t).l (nth rows t).pc)):
  Rets Tryz.prog 123 [.pointer (some ⟨g,0,none⟩), .agg #[.int .i64 ((t:Nat):Int), .int .i64 (((k:Nat):Int)-1)]] W (fun v w' =>v= .tuple #[]∧∃(rows' :List ThR) (words' owner' prints' :Ls Int) (q' :M.σ) (fell' :Bool) (x:ThR) (y:TS),
   y=doT M.m t (nth code.l t).l k ⟨(nth rows t).pc,(nth rows t).regs.l,nth (M.qs q) t,words.l,owner.l,prints.l,fell⟩∧rows' =rows.set t x∧x.pc=y.pc∧x.regs.l=y.regs∧M.qs q' =(M.qs q).set t y.wait∧words'.l=y.words∧owner'.l=y.owner∧prints'.l=y.prints∧fell' =y.fell∧
   Sh K W w' (pstA M g gp [code.v,pw, .int .i64 locks, .int .i64 nregs] vt rows' prints' words' owner' q' fell' code)):=by
 have h1:Sh K W W (.big (regA 3 rows):: [.blk g 173 [.iface M.T (.pointer (some M.u)), .pointer (some ⟨gp,0,none⟩),vt,prints.v, .bool fell], .rblk gp 25 [code.v,pw, .int .i64 locks, .int .i64 nregs], .own 189 (⟨vt,rows.map ThR.toQ⟩:Ls ThQ), .own 3 prints, .blk M.g0 182 [words.v,owner.v], .own 3 words, .own 3 owner,M.X q, .at_ code]):=
  hS.sel [3,0,1,2,4,5,6,7,8,9] rfl
 have h2:=h1.openR t hn
 have h3:Sh K W W ([.blk g 173 [.iface M.T (.pointer (some M.u)), .pointer (some ⟨gp,0,none⟩),vt,prints.v, .bool fell], .rblk gp 25 [code.v,pw, .int .i64 locks, .int .i64 nregs], .own 189 (⟨vt,rows.map ThR.toQ⟩:Ls ThQ), .own 3 (nth rows t).regs, .own 3 prints, .blk M.g0 182 [words.v,owner.v], .own 3 words, .own 3 owner,M.X q, .at_ code]++ [.big (regA 3 (rows.eraseIdx t))]):=
  h2.sel (L' := [.blk g 173 [.iface M.T (.pointer (some M.u)), .pointer (some ⟨gp,0,none⟩),vt,prints.v, .bool fell], .rblk gp 25 [code.v,pw, .int .i64 locks, .int .i64 nregs], .own 189 (⟨vt,rows.map ThR.toQ⟩:Ls ThQ), .own 3 (nth rows t).regs, .own 3 prints, .blk M.g0 182 [words.v,owner.v], .own 3 words, .own 3 owner,M.X q, .at_ code, .big (regA 3 (rows.eraseIdx t))]) [2,3,4,0,5,6,7,8,9,10,1] rfl
 have hnt:nth (rows.map ThR.toQ) t=(nth rows t).toQ:=toQ_at hn
 refine Rets.mono (pdo_c _ M g gp code (⟨vt,rows.map ThR.toQ⟩:Ls ThQ) (nth rows t).regs prints words owner q pw locks nregs fell t k W hM h3.passL (by simpa using hn) h1000 (by rw [hnt];rfl) hqn hwl hwh0 hge htc (by rw [hnt];exact hpcr) hpcl (by rw [hnt];exact hmk) hpl hwt (by rw [hnt];exact hio)) ?_
 rintro v w' ⟨rfl,regs',words',owner',prints',q',wt,pc',fell',hq,hy,hs⟩
 have h4:=h3.backL hs (by intro A hA b hb;simp only [List.mem_cons,List.not_mem_nil,or_false] at hA;rcases hA with rfl|rfl|rfl|rfl|rfl|rfl|rfl|rfl|rfl|rfl<;>first|exact (hb:False).elim|exact Flat.noRd hb|exact rdX hM hb|exact .inl ⟨_,List.mem_of_getElem? (i:=1) rfl, .inr hb⟩|exact .inl ⟨_,List.mem_of_getElem? (i:=9) rfl, .inr hb⟩)
 have h5:=h4.sel (L' := .own 3 regs' :: .big (regA 3 (rows.eraseIdx t)):: [.blk g 173 [.iface M.T (.pointer (some M.u)), .pointer (some ⟨gp,0,none⟩),vt,prints'.v, .bool fell'], .rblk gp 25 [code.v,pw, .int .i64 locks, .int .i64 nregs], .own 189 (⟨vt,(rows.map ThR.toQ).set t ⟨pc',regs'.v⟩⟩:Ls ThQ), .own 3 prints', .blk M.g0 182 [words'.v,owner'.v], .own 3 words', .own 3 owner',M.X q', .at_ code]) [3,10,0,1,2,4,5,6,7,8,9] rfl
 have h6:=Sh.closeR (x:=⟨pc',regs'⟩) t hn h5
 rw [show (rows.map ThR.toQ).set t ⟨pc',regs'.v⟩=(rows.set t ⟨pc',regs'⟩).map ThR.toQ by rw [List.map_set];rfl] at h6
 have h7:=h6.sel (L' :=pstA M g gp [code.v,pw, .int .i64 locks, .int .i64 nregs] vt (rows.set t ⟨pc',regs'⟩) prints' words' owner' q' fell' code) [1,2,3,0,4,5,6,7,8,9] rfl
 rw [hnt] at hy
 exact ⟨rfl,rows.set t ⟨pc',regs'⟩,words',owner',prints',q',fell',⟨pc',regs'⟩,(⟨pc',regs'.l,wt,words'.l,owner'.l,prints'.l,fell'⟩:TS),hy,rfl,rfl,rfl,hq,rfl,rfl,rfl,rfl,h7⟩
theorem pbegin_c (M:MemS)(gp:Nat)(code:Ls (Ls Ins))(pw:Value)(Lk R:Nat)(W:World)(hP:Blk W gp 25 #[code.v,pw, .int .i64 ((Lk:Nat):Int), .int .i64 ((R:Nat):Int)])(hcode:code.At W)(hcl:code.l.length≤4)(hR:R≤200):
    Rets Tryz.prog 100 [.pointer (some ⟨gp,0,none⟩), .iface M.T (.pointer (some M.u))] W (fun v w' =>∃(g:Nat) (rows:List ThR) (vt:Value),v= .pointer (some ⟨g,0,none⟩)∧rows.map ThR.th=List.replicate code.l.length ⟨0,List.replicate R 0, []⟩∧Sh0 W w' [.blk g 173 [.iface M.T (.pointer (some M.u)), .pointer (some ⟨gp,0,none⟩),vt, .slice none 0 0, .bool false], .own 189 (⟨vt,rows.map ThR.toQ⟩:Ls ThQ), .big (regA 3 rows), .own 3 (⟨.slice none 0 0, []⟩:Ls Int)]):=by
 refine gen Tryz.func100 Tryz.ntmps100 (Sh0.ext (by intro A hA;simp only [List.mem_cons,List.not_mem_nil,or_false] at hA;rcases hA with rfl|rfl;exact hP;exact hcode) (by intro A hA b hb;simp only [List.mem_cons,List.not_mem_nil,or_false] at hA;rcases hA with rfl|rfl<;>exact hb):Sh (fun _=>False) W W [.rblk gp 25 [code.v,pw, .int .i64 ((Lk:Nat):Int), .int .i64 ((R:Nat):Int)], .at_ code]) rfl fun a10 h10=>gG h10<|sG (oM 1 rfl<|.nl)<|sK fun _ k12=>gRn (oM 2 rfl<|oV (r_build (cs:= [.iface M.T (.pointer (some M.u)), .pointer (some ⟨gp,0,none⟩),(.slice none 0 0),(.slice none 0 0), .bool false]) rfl rfl (by kernel_rfl)) rfl<|.nl)<|gbx rfl rfl fun b13=>gRn (oM 1 rfl<|.nl)<|nK k12<|gK fun _ k14=>sK fun _ k15=>gNl (aA 2 rfl) fun hl16=>gRn (oM 1 rfl<|onf fl_25_0 rfl<|olR 1 ti_22 rfl rfl<|oln sl_22 (aA 2 rfl) rfl<|oM 1 rfl<|.nl)<|nK k15<|gB<|fun a19 w19 h19=> ?_;clear h10
 have h18:=h19.nil (α:=ThQ) 189
 clear h19
 have h20:=h18.bigR0 3
 clear h18
 refine x_loop (fun m a w=>∃(i:Nat) (rows:List ThR) (vt:Value),(i≤code.l.length)∧(rows.length=i)∧(rows.map ThR.th=List.replicate i ⟨0,List.replicate R 0, []⟩)∧St 34 (fun _=>False) W a w [(0, .pointer (some ⟨gp,0,none⟩)),(5, .pointer (some ⟨b13,0,none⟩)),(14, .int .i64 ((code.l.length:Nat):Int)),(15, .int .i64 ((i:Nat):Int))] [.blk b13 173 [.iface M.T (.pointer (some M.u)), .pointer (some ⟨gp,0,none⟩),vt,(.slice none 0 0), .bool false], .rblk gp 25 [code.v,pw, .int .i64 ((Lk:Nat):Int), .int .i64 ((R:Nat):Int)], .at_ code, .own 189 (⟨vt,rows.map ThR.toQ⟩:Ls ThQ), .big (regA 3 rows)]∧m=code.l.length-i) ⟨_,0, [],_,(by omega),(rfl),(rfl),h20.nrm ⟨rfl,rfl,rfl,rfl,trivial⟩ [2,3,4,1,0] rfl,rfl⟩ ?_
 clear h20
 rintro m17 a17 w17 ⟨i,rows,vt,hi,hrl,hrw,h17,hm17⟩
 refine gG h17<|sG (oltN _ _ rfl<|.nl)<|gK fun _ k22=>gcd rfl (fun hb23 hp23=> ?_) fun hb23 hp23=> ?_;clear h17
 ·skip
  refine gS<|hK k22<|gK fun _ k24=>gB<|rC [9,11,12,15] rfl<|pR [0,1,2,3,4,5,6,7,8] rfl (oM 2 rfl<|onfl 0 fl_173_2 ti_171 rfl rfl<|oM 1 rfl<|onf fl_25_3 rfl<|olR 1 ti_3 rfl rfl<|.nl) rfl<|pX (fun _ _ h_=>x_make (n:=R) (0:Int) h_ sl_23 ti_3 rfl rfl rfl rfl rfl (show 8*R≤140737488355328∧R≤140737488355328 from om9) (fun w=>Flat.inner _ _) (fun b=>Flat.on _ _) rfl rfl) rfl fun v25=>pR [0,1,2,3,4,10] rfl (oM 2 rfl<|onfl 1 fl_173_2 ti_171 rfl rfl<|oV (r_buildS (cs:= [.int .i64 0,v25]) rfl rfl (fun w h=>by obtain ⟨A26,n26,c26,(e26:v25=_)⟩:=((h.own 0 rfl)).form;rw [e26];kernel_rfl)) rfl<|.nl) rfl<|pX (fun _ _ h_=>x_lit (n:=1) (cs:= [.int .i64 0,v25]) ([(⟨0,v25⟩:ThQ)]:List ThQ) h_ sl_171 ti_189 rfl rfl rfl (by decide) rfl (by kernel_rfl) rfl (fun q hq w h=>Flat.inner _ _) (fun q hq b hb=>(Flat.on _ _ hb).elim) rfl rfl) rfl fun v27=>pR [0,1,2,3,4] rfl (oM 2 rfl<|onfl 2 fl_173_2 ti_171 rfl rfl<|.nl) rfl<|pX (fun _ _ h_=>x_app1 (r:=5) (rm:=0) (s:=(⟨vt,rows.map ThR.toQ⟩:Ls ThQ)) (m:=(⟨v27, [(⟨0,v25⟩:ThQ)]⟩:Ls ThQ)) h_ sl_171 ti_189 rfl rfl rfl rfl rfl rfl rfl (fun w h=>(h.own 0 rfl)) (fun b hb=>own_on (h_.sh.ok _ (List.mem_of_getElem? (i:=0) rfl)) hb) (fun q hq b hb=>⟨q,hq,hb⟩) rfl rfl rfl (fun w h q hq j hj=>by obtain rfl:q=0:=(by simpa using hq);rcases j with _|_|j;exact rfl;exact ((h.own 1 rfl)).one;exact absurd hj (by show¬(j+2<2);omega)) (show ((rows.map ThR.toQ).length+([(⟨0,v25⟩:ThQ)]).length)*32≤140737488355328∧(rows.map ThR.toQ).length+([(⟨0,v25⟩:ThQ)]).length≤140737488355328 from om9) rfl rfl) rfl fun v28=>pR [0,13,14] rfl (oM 1 rfl<|onf fl_173_2 rfl<|.nl) rfl<|pS (fun _ _ h_=>x_stb (i:=2) (vs:= [v28]) (cs' := [.iface M.T (.pointer (some M.u)), .pointer (some ⟨gp,0,none⟩),v28,(.slice none 0 0), .bool false]) h_ ti_171 rfl rfl rfl rfl rfl (cells_oneL ((h_.sh.own 5 rfl)).one) rfl (allOne_cons ((h_.sh.own 5 rfl)).one allOne_nil) (Nat.le_of_ble_eq_true rfl) rfl) rfl<|pE [] rfl (.nl) rfl<|hK k24<|gL<|gRn (oadN _ 1 om9 rfl<|oM 1 rfl<|.nl)<|nN<|gO [1,6,0,2,3,4,5] rfl<|fun a32 w32 h32=> ?_
  have h31:=h32.foldR (x:=(⟨0,(⟨v25,List.replicate R 0⟩:Ls Int)⟩:ThR))
  clear h32
  have h33:=h31.relist (i:=5) (l' :=(rows++ [(⟨0,(⟨v25,List.replicate R 0⟩:Ls Int)⟩:ThR)]).map ThR.toQ) rfl (by simp [ThR.toQ])
  clear h31
  refine x_again ⟨_, ?_,(i+1),(rows++ [(⟨0,(⟨v25,List.replicate R 0⟩:Ls Int)⟩:ThR)]),v28, ?_, ?_, ?_,h33.nrm ⟨rfl,rfl,rfl,rfl,trivial⟩ [2,3,4,5,0] rfl,rfl⟩
  · rw [hm17];first|omega|(simp only [lens9];omega)
  · omega
  · simp [hrl]
  · rw [List.map_append,hrw,List.replicate_succ'];rfl
 refine gX<|hK k14<|sG (oM 2 rfl<|.nl)<|gR<|fun a35 w35 h35=>x_ret1 (fn:=Tryz.f100) (t:=4) rfl h35 rfl ?_
 have h36:=h35.nil (α:=Int) 3
 clear h35
 refine ⟨b13,rows,vt,rfl, ?_,(h36.sh.sel [1,4,5,0] rfl)⟩
 rw [hrw,show i=code.l.length by omega]
def Asn.emp :Asn:=⟨fun _=>False,fun _=>False,fun _=>True,fun _ _ _ _=>trivial,fun _ _ _ h=>by rcases h with h|h<;>exact h.elim⟩
theorem Sh.emp {K:Nat→Prop}{W w:World}{L:List Asn}(h:Sh K W w L):Sh K W w (Asn.emp::L):=h.push (Chg.refl _ _) trivial (fun b hb=>hb.elim) (fun b hb=>hb.elim) (fun b hb=>hb.elim)
def memP (g:Nat):MemS:=⟨Nat,fun n=>List.replicate n [],fun _=>Asn.emp,123,⟨g,0,none⟩,g,0⟩
theorem memP_nth {n t:Nat}(h:t<(List.replicate n ([]:List Wt)).length):nth (List.replicate n ([]:List Wt)) t= []:=nth_replicate _ _ _ (by simpa using h)
theorem memP_st {g n t:Nat}{x:Wt}{words owner words' owner' :Ls Int}(h:t<(List.replicate n ([]:List Wt)).length)(e1:words'.l=if x.lock=true then words.l else words.l.set x.wh.toNat x.what)(e2:owner'.l=if x.lock=true then owner.l.set x.wh.toNat (-1) else owner.l):StoreP (memP g) t x words owner n words' owner' n:=by
 refine ⟨[], ?_,fun pc regs prints fell=> ?_⟩
 ·show List.replicate n ([]:List Wt)=(List.replicate n []).set t []
  have:=list_set_nth (List.replicate n ([]:List Wt)) t
  rw [memP_nth h] at this
  exact this.symm
 ·show _=TS.store 0 ⟨pc,regs,nth (List.replicate n ([]:List Wt)) t,words.l,owner.l,prints,fell⟩ x
  rw [memP_nth h]
  unfold TS.store
  rw [if_neg (by decide),e1,e2]
  rfl
theorem memP_ok (g:Nat):MemI Tryz.prog 182 3 (memP g) where
 load w words owner q t wd h ht hl hwd:=⟨202,⟨g,0,none⟩,by kernel_rfl,bd_202,by
  rw [show nth ((memP g).qs q) t= [] from memP_nth ht]
  exact plLoad_c g words owner _ wd 0 w h.blk h.wa h.oa hwd⟩
 waits w words owner q t h ht hl:=⟨207,⟨g,0,none⟩,by kernel_rfl,bd_207,by
  rw [show nth ((memP g).qs q) t= [] from memP_nth ht]
  exact plWaits_c g words owner _ 0 0 w h.blk h.wa h.oa⟩
 freeing w words owner q t a h ht hl _:=⟨201,⟨g,0,none⟩,by kernel_rfl,bd_201,by
  rw [show nth ((memP g).qs q) t= [] from memP_nth ht]
  exact plFreeing_c g words owner _ a 0 w h.blk h.wa h.oa⟩
 ready w words owner q t h ht hl:=⟨203,⟨g,0,none⟩,by kernel_rfl,bd_203,by
  rw [show nth ((memP g).qs q) t= [] from memP_nth ht]
  exact Rets.mono (plReady_c g words owner _ 0 0 w h.blk h.wa h.oa) fun v w' hv=>⟨⟨.slice none 0 0, []⟩,hv.1,rfl,hv.2.nil 3⟩⟩
 base w words owner q h:=⟨197,⟨g,0,none⟩,by kernel_rfl,bd_197,plBase_c g words owner 0 0 0 w h.blk h.wa h.oa⟩
 store K W words owner q t wd what hS ht hl hwd:=⟨204,⟨g,0,none⟩,by kernel_rfl,bd_204,by
  have h:Sh K W W ([.blk g 182 [words.v,owner.v], .own 3 words, .own 3 owner]++ [Asn.emp]):=hS
  refine Rets.mono (plStore_c _ g words owner _ wd what W h.passL hwd) ?_
  rintro v w' ⟨rfl,hs⟩
  exact ⟨rfl,⟨words.v,words.l.set wd.toNat what⟩,owner,q,memP_st ht rfl rfl,h.backL hs (by intro A hA b hb;simp only [List.mem_cons,List.not_mem_nil,or_false] at hA;rcases hA with rfl|rfl|rfl<;>first|exact (hb:False).elim|exact Flat.noRd hb)⟩⟩
 free K W words owner q t a hS ht hl ha:=⟨200,⟨g,0,none⟩,by kernel_rfl,bd_200,by
  have h:Sh K W W ([.blk g 182 [words.v,owner.v], .own 3 words, .own 3 owner]++ [Asn.emp]):=hS
  refine Rets.mono (plFree_c _ g words owner _ a 0 W h.passL ha) ?_
  rintro v w' ⟨rfl,hs⟩
  exact ⟨rfl,words,⟨owner.v,owner.l.set a.toNat (-1)⟩,q,memP_st ht rfl rfl,h.backL hs (by intro A hA b hb;simp only [List.mem_cons,List.not_mem_nil,or_false] at hA;rcases hA with rfl|rfl|rfl<;>first|exact (hb:False).elim|exact Flat.noRd hb)⟩⟩
 swap K W words owner q t wd what hS hwd:=⟨205,⟨g,0,none⟩,by kernel_rfl,bd_205,by
  have h:Sh K W W ([.blk g 182 [words.v,owner.v], .own 3 words, .own 3 owner]++ [Asn.emp]):=hS
  refine Rets.mono (plSwap_c _ g words owner _ wd what W h.passL hwd) ?_
  rintro v w' ⟨rfl,hs⟩
  exact ⟨rfl,⟨words.v,words.l.set wd.toNat what⟩,owner,q,⟨rfl,rfl,rfl⟩,h.backL hs (by intro A hA b hb;simp only [List.mem_cons,List.not_mem_nil,or_false] at hA;rcases hA with rfl|rfl|rfl<;>first|exact (hb:False).elim|exact Flat.noRd hb)⟩⟩
 flush K W words owner q t k hS ht hl hk:=by
  exfalso
  rw [show nth ((memP g).qs q) t= [] from memP_nth ht] at hk
  exact absurd hk (by simp)
 xrd q b h:=h
theorem pnewP_c (words:Ls Int)(Lk n:Nat)(cv:Value)(nregs:Int)(W:World)(hwords:words.At W)(hwn:words.l.length≤64)(hlk:Lk≤4):
  Rets Tryz.prog 81 [.agg #[cv,words.v, .int .i64 ((Lk:Nat):Int), .int .i64 nregs]] W (fun v w' =>∃(g:Nat) (words' owner' :Ls Int),v= .pointer (some ⟨g,0,none⟩)∧words'.l=words.l∧owner'.l=List.replicate Lk (-1)∧Sh0 W w' [.blk g 182 [words'.v,owner'.v], .own 3 words', .own 3 owner',(memP g).X n]):=by
 refine Rets.mono (pnew_c words Lk cv nregs W hwords hwn hlk) ?_
 rintro v w' ⟨g,words',owner',e,h1,h2,hs⟩
 exact ⟨g,words',owner',e,h1,h2,hs.emp.sel (L' := [.blk g 182 [words'.v,owner'.v], .own 3 words', .own 3 owner',Asn.emp]) [1,2,3,0] rfl⟩
def vs (l:List Int):List (Int×Value):=l.map fun k=>(k, .bool true)
def Asn.setO (g:Nat)(l:List Int):Asn where
 fp b:=g=b
 rd _:=False
 ok w:=MapI w g (vs l)
 keep w w' h hb:=h.of_block (hb g (.inl rfl))
 lt w h b hb:=by
  rcases hb with rfl|hb
  ·exact h.lt
  ·exact hb.elim
structure MapTS (P:Program)(T kT eT:TypeId):Prop where
 map:P.underlying T=some (.map kT eT)
 int:P.underlying kT=some (.int .i64)
 zero:∀w,(zeroValue eT).run P w= .ok (.bool false) w
section
variable {P:Program}{o:Oper}{N:Nat}{K:Nat→Prop}{W w:World}{a:Act}{F:List (Nat×Value)}{L:List Asn}{T kT eT:TypeId}{l:List Int}{k:Int}{g:Nat}
end
section
variable {P:Program}{o:Oper}{N:Nat}{K:Nat→Prop}{W w:World}{a:Act}{F:List (Nat×Value)}{L:List Asn}{α:Type}[Enc α]{E IE:TypeId}{v:Value}{M:List (Ls α)}
end
end Go.Proofs.YtmjkobhkkjgplaaGreatDoor
