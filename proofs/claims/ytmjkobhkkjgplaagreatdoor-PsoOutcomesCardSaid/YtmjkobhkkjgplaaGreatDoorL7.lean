/- All numbers of a state that can be come to are of 64 bits. Plain Lean. -/
import Derived.Test.YtmjkobhkkjgplaaGreatDoorL2
namespace Go.Proofs.YtmjkobhkkjgplaaGreatDoor
open Go.RowKit
set_option linter.unusedSimpArgs false
set_option linter.unusedVariables false
def R64 (n:Int):Prop:= -9223372036854775808≤n∧n<9223372036854775808
def R64L (l:List Int):Prop:=∀n∈l,R64 n
theorem R64.wrap (n:Int):R64 (wrap64 n):=by unfold wrap64 R64;omega
theorem R64.bit (b:Bool):R64 (Go.Proofs.YtmjkobhkkjgplaaGreatDoor.bit b):=by unfold Go.Proofs.YtmjkobhkkjgplaaGreatDoor.bit R64;split<;>omega
theorem R64L.nth {l:List Int} (h:R64L l) (i:Nat):R64 (nth l i):=by
 rcases Nat.lt_or_ge i l.length with h1|h1
 ·exact h _ (nth_mem _ _ h1)
 ·have e:Go.Proofs.YtmjkobhkkjgplaaGreatDoor.nth l i=0:=by simp [Go.Proofs.YtmjkobhkkjgplaaGreatDoor.nth,List.getD,h1]
  rw [e];unfold R64;omega
theorem R64L.set {l:List Int} (h:R64L l) (i:Nat) {v:Int} (hv:R64 v):R64L (l.set i v):=fun n hn=>by
 rcases List.mem_or_eq_of_mem_set hn with h1|rfl
 ·exact h n h1
 ·exact hv
theorem R64L.app {l m:List Int} (h:R64L l) (h2:R64L m):R64L (l++m):=fun n hn=>(List.mem_append.1 hn).elim (h n) (h2 n)
def R64W (l:List Wt):Prop:=∀x∈l,R64 x.wh∧R64 x.what
def R64I (i:Ins):Prop:=R64 i.a∧R64 i.b∧R64 i.c
structure TSR (x:TS):Prop where
 regs:R64L x.regs
 wait:R64W x.wait
 words:R64L x.words
 owner:R64L x.owner
 prints:R64L x.prints
section
variable {x:TS} {m:Int}
theorem TSR.put (h:TSR x) (k:Int) {v:Int} (hv:R64 v):TSR (x.put k v):=⟨h.regs.set _ hv,h.wait,h.words,h.owner,h.prints⟩
theorem TSR.reg (h:TSR x) (k:Int):R64 (x.reg k):=h.regs.nth _
theorem TSR.finds (h:TSR x) (w:Int):R64 (x.finds w):=by
 unfold TS.finds findsL
 split
 ·rename_i y hy
  exact (h.wait y (by have:=List.mem_of_find?_eq_some hy;simpa using this)).2
 ·exact h.words.nth _
theorem TSR.done (h:TSR x) {w:Wt} (hw:R64 w.what):TSR (x.done w):=by
 refine ⟨h.regs,h.wait, ?_, ?_,h.prints⟩
 ·show R64L (if w.lock=true then x.words else x.words.set w.wh.toNat w.what)
  split
  ·exact h.words
  ·exact h.words.set _ hw
 ·show R64L (if w.lock=true then x.owner.set w.wh.toNat (-1) else x.owner)
  split
  ·exact h.owner.set _ (by unfold R64;omega)
  ·exact h.owner
theorem TSR.store (h:TSR x) {w:Wt} (h1:R64 w.wh) (h2:R64 w.what):TSR (x.store m w):=by
 unfold TS.store
 split
 ·refine ⟨h.regs,fun y hy=> ?_,h.words,h.owner,h.prints⟩
  rcases List.mem_append.1 hy with hy|hy
  ·exact h.wait y hy
  ·obtain rfl:y=w:=by simpa using hy
   exact ⟨h1,h2⟩
 ·exact h.done h2
theorem TSR.fell (h:TSR x):TSR { x with fell:=true } :=⟨h.regs,h.wait,h.words,h.owner,h.prints⟩
theorem TSR.exec (h:TSR x) {n:Nat} (hn:n<1000) {i:Ins} (hi:R64I i):TSR (execT m n i x):=by
 obtain ⟨ha,hb,hc⟩:=hi
 by_cases e1:i.op=1
 ·rw [execT_1 e1];exact h.put _ hb
 by_cases e2:i.op=2
 ·rw [execT_2 e2];exact h.put _ (h.reg _)
 by_cases e3:i.op=3
 ·rw [execT_3 e3];exact h.put _ (.wrap _)
 by_cases e4:i.op=4
 ·rw [execT_4 e4];exact h.put _ (.wrap _)
 by_cases e5:i.op=5
 ·rw [execT_5 e5];exact h.put _ (.wrap _)
 by_cases e6:i.op=6
 ·rw [execT_6 e6];exact h.put _ (.bit _)
 by_cases e7:i.op=7
 ·rw [execT_7 e7];exact h.put _ (.bit _)
 by_cases e8:i.op=8
 ·rw [execT_8 e8];exact h.put _ (h.finds _)
 by_cases e9:i.op=9
 ·rw [execT_9 e9];exact h.store ha (h.reg _)
 by_cases e10:i.op=10
 ·by_cases hw:0≤x.reg i.b∧x.reg i.b<(x.words.length:Int)
  ·rw [execT_10t e10 hw];exact h.put _ (h.finds _)
  ·rw [execT_10f e10 hw];exact h.fell
 by_cases e11:i.op=11
 ·by_cases hw:0≤x.reg i.a∧x.reg i.a<(x.words.length:Int)
  ·rw [execT_11t e11 hw];exact h.store (h.reg _) (h.reg _)
  ·rw [execT_11f e11 hw];exact h.fell
 by_cases e13:i.op=13
 ·by_cases hw:nth x.words i.a.toNat=x.reg i.b
  ·rw [execT_13t e13 hw]
   exact ⟨h.regs.set _ (by unfold R64;omega),h.wait,h.words.set _ (h.reg _),h.owner,h.prints⟩
  ·rw [execT_13f e13 hw];exact h.put _ (by unfold R64;omega)
 by_cases e14:i.op=14
 ·rw [execT_14 e14];exact ⟨h.regs,h.wait,h.words,h.owner,h.prints⟩
 by_cases e15:i.op=15
 ·by_cases hw:x.reg i.a=0
  ·rw [execT_15t e15 hw];exact ⟨h.regs,h.wait,h.words,h.owner,h.prints⟩
  ·rw [execT_15f e15 hw];exact h
 by_cases e16:i.op=16
 ·rw [execT_16 e16]
  refine ⟨h.regs,h.wait,h.words,h.owner,h.prints.app fun v hv=> ?_⟩
  rcases List.mem_cons.1 hv with rfl|hv
  ·unfold R64;omega
  ·obtain rfl:v=_:=by simpa using hv
   exact h.reg _
 by_cases e17:i.op=17
 ·rw [execT_17 e17];exact ⟨h.regs,h.wait,h.words,h.owner.set _ (by unfold R64;omega),h.prints⟩
 by_cases e18:i.op=18
 ·by_cases hw:nth x.owner i.a.toNat≠n
  ·rw [execT_18a e18 hw];exact h.fell
  ·by_cases hh:∃j,j<x.wait.length∧(nth x.wait j).lock=true∧(nth x.wait j).wh=i.a
   ·obtain ⟨j,hj,h1,h2⟩:=hh
    rw [execT_18b e18 hw j hj h1 h2];exact h.fell
   ·rw [execT_18c e18 hw (fun q hq hc=>hh ⟨q,hq,hc⟩)]
    exact h.store ha (by show R64 0;unfold R64;omega)
 rw [execT_no ⟨e1,e2,e3,e4,e5,e6,e7,e8,e9,e10,e11,e13,e14,e15,e16,e17,e18⟩]
 exact h
theorem TSR.doT (h:TSR x) {n k:Nat} (hn:n<1000) {c:List Ins} (hc:∀i∈c,R64I i):TSR (Go.Proofs.YtmjkobhkkjgplaaGreatDoor.doT m n c k x):=by
 unfold Go.Proofs.YtmjkobhkkjgplaaGreatDoor.doT
 split
 ·have hw:R64 (nth x.wait (k-1)).what:=by
   rcases Nat.lt_or_ge (k-1) x.wait.length with h1|h1
   ·exact (h.wait _ (nth_mem _ _ h1)).2
   ·have e:nth x.wait (k-1)=⟨false,0,0⟩:=by simp [nth,List.getD,h1];rfl
    rw [e];show R64 0;unfold R64;omega
  have hd:=h.done hw
  exact ⟨hd.regs,fun y hy=>h.wait y (List.mem_of_mem_eraseIdx hy),hd.words,hd.owner,hd.prints⟩
 ·refine TSR.exec (x:= { x with pc:=x.pc+1 }) ⟨h.regs,h.wait,h.words,h.owner,h.prints⟩ hn ?_
  unfold nextIns
  split
  ·rename_i h1
   rcases Nat.lt_or_ge x.pc.toNat c.length with h2|h2
   ·exact hc _ (nth_mem _ _ h2)
   ·have e:nth c x.pc.toNat=default:=by simp [nth,List.getD,h2]
    rw [e]
    exact ⟨by show R64 0;unfold R64;omega,by show R64 0;unfold R64;omega,by show R64 0;unfold R64;omega⟩
  ·exact ⟨by show R64 0;unfold R64;omega,by show R64 0;unfold R64;omega,by show R64 0;unfold R64;omega⟩
end
structure PgR (p:Pg):Prop where
 code:∀c∈p.code,∀i∈c,R64I i
 words:R64L p.words
theorem Reach.r64 {p:Pg} (hp:PgR p) (hl:p.code.length<1000) {m:Int} {s:MSt} (h:Reach p m s):∀t,TSR (s.view t):=by
 have nilT:∀(s:MSt) t,s.ths.length≤t→(s.view t).regs= []∧(s.view t).wait= []:=fun s t ht=>by
  have e:nth s.ths t=default:=by simp [nth,List.getD,ht]
  unfold MSt.view
  rw [e];exact ⟨rfl,rfl⟩
 induction h with
 |start=>
  intro t
  have ho:R64L (List.replicate p.locks.toNat (-1)):=fun n hn=>by rw [List.eq_of_mem_replicate hn];unfold R64;omega
  refine ⟨?_, ?_,hp.words,ho,fun n hn=>(by cases hn)⟩
  ·show R64L (nth (begin_ p).ths t).regs
   unfold begin_
   rcases Nat.lt_or_ge t p.code.length with h|h
   ·rw [nth_map' _ _ _ h];exact fun n hn=>by rw [List.eq_of_mem_replicate hn];unfold R64;omega
   ·simp [nth,List.getD,h];exact fun n hn=>by cases hn
  ·show R64W (nth (begin_ p).ths t).wait
   unfold begin_
   rcases Nat.lt_or_ge t p.code.length with h|h
   ·rw [nth_map' _ _ _ h];exact fun n hn=>by cases hn
   ·simp [nth,List.getD,h];exact fun n hn=>by cases hn
 | @step s t k hr ht hk hf ih=>
  have h1:TSR (stepT p m s t k):=TSR.doT (ih t) (by omega) (hp.code _ (nth_mem _ _ ht))
  intro u
  by_cases e:t=u
  ·subst e
   rcases Nat.lt_or_ge t s.ths.length with hlt|hlt
   ·rw [putT_view hlt]
    exact ⟨h1.regs,h1.wait,h1.words,h1.owner,h1.prints⟩
   ·have e2:(s.putT t (stepT p m s t k)).ths=s.ths:=List.set_eq_of_length_le hlt
    obtain ⟨q1,q2⟩:=nilT (s.putT t (stepT p m s t k)) t (by rw [e2];exact hlt)
    exact ⟨by rw [q1];exact fun n hn=>(by cases hn),by rw [q2];exact fun n hn=>(by cases hn),h1.words,h1.owner,h1.prints⟩
  ·rw [putT_other e]
   exact ⟨(ih u).regs,(ih u).wait,h1.words,h1.owner,h1.prints⟩
end Go.Proofs.YtmjkobhkkjgplaaGreatDoor
