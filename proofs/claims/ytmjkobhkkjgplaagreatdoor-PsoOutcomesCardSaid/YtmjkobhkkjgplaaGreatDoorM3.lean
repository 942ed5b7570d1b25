/- A run of the program by a script: its states, in plain Lean. -/
import Derived.Test.YtmjkobhkkjgplaaGreatDoorX62
namespace Go.Proofs.YtmjkobhkkjgplaaGreatDoor
open Go.RowKit
set_option linter.unusedSimpArgs false
set_option linter.unusedVariables false
def mstR (rows:List ThR) (qs:List (List Wt)) (words owner prints:List Int):MSt:=⟨(List.range rows.length).map fun t=>⟨(nth rows t).pc,(nth rows t).regs.l,nth qs t⟩,words,owner,prints⟩
section
variable {code:Ls (Ls Ins)} {words0:Ls Int} {Lk R:Nat} {m:Int} {rows:List ThR} {qs:List (List Wt)} {words owner prints script:List Int} {nx k t:Nat}
theorem mstR_len :(mstR rows qs words owner prints).ths.length=rows.length:=by simp [mstR]
theorem nth_range {n i:Nat} (h:i<n):nth (List.range n) i=i:=by simp [nth,h]
theorem mstR_th (ht:t<rows.length):nth (mstR rows qs words owner prints).ths t=⟨(nth rows t).pc,(nth rows t).regs.l,nth qs t⟩:=by
 unfold mstR
 show nth ((List.range rows.length).map _) t=_
 rw [nth_map' _ _ _ (by simpa using ht),nth_range ht]
theorem mstR_view (ht:t<rows.length):(mstR rows qs words owner prints).view t=⟨(nth rows t).pc,(nth rows t).regs.l,nth qs t,words,owner,prints,false⟩:=by
 unfold MSt.view
 rw [mstR_th ht]
 rfl
theorem toQ_at (ht:t<rows.length):nth (rows.map ThR.toQ) t=(nth rows t).toQ:=nth_map' _ _ _ ht
theorem movesF_eq (hl:rows.length=code.l.length):movesF m code (rows.map ThR.toQ) qs owner code.l.length=movesV (pgN code words0 Lk R) m (mstR rows qs words owner prints):=by
 unfold movesF movesV
 rw [pgN_len]
 refine flatMap_congr' fun t ht=> ?_
 have ht' :t<code.l.length:=by simpa using ht
 rw [pgN_code ht',mstR_view (by omega)]
 unfold movF
 rw [toQ_at (by omega)]
 rfl
theorem endedF_eq (hl:rows.length=code.l.length):endedF code (rows.map ThR.toQ) qs=ended (pgN code words0 Lk R) (mstR rows qs words owner prints):=by
 unfold endedF ended
 rw [pgN_len]
 refine all_congr' fun t ht=> ?_
 have ht' :t<code.l.length:=by simpa using ht
 rw [pgN_code ht',mstR_th (by omega)]
 unfold endF2
 rw [toQ_at (by omega)]
 rfl
theorem mstR_put {x:ThR} {y:TS} (ht:t<rows.length) (hq:t<qs.length) (e1:x.pc=y.pc) (e2:x.regs.l=y.regs):mstR (rows.set t x) (qs.set t y.wait) y.words y.owner y.prints=(mstR rows qs words owner prints).putT t y:=by
 have key:(mstR (rows.set t x) (qs.set t y.wait) y.words y.owner y.prints).ths=((mstR rows qs words owner prints).putT t y).ths:=by
  refine ext_nth _ _ (by simp [mstR,MSt.putT]) fun i hi=> ?_
  have hi' :i<rows.length:=by simpa [mstR] using hi
  rw [mstR_th (by simpa using hi')]
  show _=nth ((mstR rows qs words owner prints).ths.set t ⟨y.pc,y.regs,y.wait⟩) i
  rw [nth_set0,nth_set0,nth_set0,mstR_len]
  by_cases e:t=i
  ·subst e
   rw [if_pos ⟨rfl,ht⟩,if_pos ⟨rfl,hq⟩,if_pos ⟨rfl,ht⟩,e1,e2]
  ·rw [if_neg (fun h=>e h.1),if_neg (fun h=>e h.1),if_neg (fun h=>e h.1),mstR_th hi']
 show MSt.mk _ _ _ _=MSt.mk _ _ _ _
 have h2:((List.range (rows.set t x).length).map fun u=>(⟨(nth (rows.set t x) u).pc,(nth (rows.set t x) u).regs.l,nth (qs.set t y.wait) u⟩:Th))=(mstR rows qs words owner prints).ths.set t ⟨y.pc,y.regs,y.wait⟩:=key
 rw [h2]
theorem doT_pr {n k:Nat} {c:List Ins} {x:TS} :(doT m n c k x).prints.length≤x.prints.length+2:=by
 unfold doT
 split
 ·show x.prints.length≤_
  omega
 ·refine execT_elim (Q:=fun y=>y.prints.length≤x.prints.length+2) (x:= { x with pc:=x.pc+1 }) ?_ (fun _ _=> ?_) (fun w _=> ?_) ?_ (fun _ _=> ?_) (fun _=> ?_) (fun _=> ?_) (fun _=> ?_)
  all_goals first
   |(show x.prints.length≤_;omega)
   |(show (x.prints++_).length≤_;simp)
   |skip
  unfold TS.store
  split<;>(show x.prints.length≤_;omega)
structure GoX (code:Ls (Ls Ins)) (words0:Ls Int) (Lk R:Nat) (m:Int) (script:List Int) (nx k:Nat) (rows:List ThR) (qs:List (List Wt)) (words owner prints:List Int):Prop where
 go:GoI (pgN code words0 Lk R) m script nx (mstR rows qs words owner prints) k
 rl:rows.length=code.l.length
 ql:qs.length=code.l.length
theorem GoX.start (hr:rows.map ThR.th=List.replicate code.l.length ⟨0,List.replicate R 0, []⟩) (hq:qs=List.replicate code.l.length []) (hw:words=words0.l) (ho:owner=List.replicate Lk (-1)):GoX code words0 Lk R m script 0 0 rows qs words owner []:=by
 have hl:rows.length=code.l.length:=by simpa using congrArg List.length hr
 have e:mstR rows qs words owner []=begin_ (pgN code words0 Lk R):=by
  unfold mstR begin_
  have h1:((List.range rows.length).map fun t=>(⟨(nth rows t).pc,(nth rows t).regs.l,nth qs t⟩:Th))=(pgN code words0 Lk R).code.map fun _=>⟨0,List.replicate (pgN code words0 Lk R).regs.toNat 0, []⟩:=by
   refine ext_nth _ _ (by simp [hl,pgN,pgOf]) fun i hi=> ?_
   have hi' :i<rows.length:=by simpa using hi
   have h2:=congrArg (fun l=>nth l i) hr
   simp only [nth_map' ThR.th _ _ hi',nth_replicate _ _ _ (show i<code.l.length by omega)] at h2
   rw [nth_map' _ _ _ (by simpa using hi'),nth_range hi',nth_map' _ _ _ (by rw [pgN_len];omega),hq,nth_replicate _ _ _ (by omega)]
   have h3:=congrArg Th.pc h2
   have h4:=congrArg Th.regs h2
   simp only [ThR.th] at h3 h4
   rw [h3,h4]
   simp [pgN,pgOf]
  rw [h1,hw,ho]
  simp [pgN,pgOf]
 refine ⟨by rw [e];exact goI_start,hl,by rw [hq];simp⟩
structure GoF (code:Ls (Ls Ins)) (words0:Ls Int) (Lk R:Nat) (rows:List ThR) (qs:List (List Wt)) (words owner:List Int):Prop where
 rl:rows.length=code.l.length
 hpc:∀t,t<code.l.length→0≤(nth (rows.map ThR.toQ) t).pc∧(nth (rows.map ThR.toQ) t).pc≤(nth code.l t).l.length
 hw3:∀t,t<code.l.length→(nth qs t).length≤3
 hlk:∀t,t<code.l.length→∀i,i<(nth code.l t).l.length→(nth (nth code.l t).l i).op=17→0≤(nth (nth code.l t).l i).a∧(nth (nth code.l t).l i).a<owner.length
 hge:∀v∈owner,-1≤v
 hwl:words.length=words0.l.length
 hol:owner.length=Lk
 hreg:∀t,t<code.l.length→(nth rows t).regs.l.length=R
 hwt:∀t,t<code.l.length→∀j,j<(nth qs t).length→if (nth (nth qs t) j).lock=true then 0≤(nth (nth qs t) j).wh∧(nth (nth qs t) j).wh<owner.length else 0≤(nth (nth qs t) j).wh∧(nth (nth qs t) j).wh<words.length
 hwh0:∀t,t<code.l.length→∀x∈nth qs t,x.lock=true→x.what=0
theorem GoX.len (hc:code.l.length≤4) (hw3:∀t,t<code.l.length→(nth qs t).length≤3) (n:Nat) (hn:n≤code.l.length):(movesF m code (rows.map ThR.toQ) qs owner n).length≤4*n:=by
 induction n with
 |zero=>simp [movesF]
 |succ n ih=>
  rw [movesF_succ,List.length_append]
  have h1:=ih (by omega)
  have h2:=hw3 n (by omega)
  have h3:=movF_len (m:=m) (code:=code) (thr:=rows.map ThR.toQ) (q:=qs) (owner:=owner) (t:=n)
  omega
theorem GoX.pick (h:GoX code words0 Lk R m script nx k rows qs words owner prints) {ml:List Mv} (hml:ml=movesF m code (rows.map ThR.toQ) qs owner code.l.length) (hl:ml.length≠0) (h3:∀t,t<code.l.length→(nth qs t).length≤3):
  ∃t j,t<code.l.length∧mvOK m (nth code.l t).l ⟨(nth rows t).pc,(nth rows t).regs.l,nth qs t,words,owner,prints,false⟩ j=true∧j<8∧nth ml (pickM script nx ml.length)=⟨(t:Int),(j:Int)-1⟩∧mvM (pgN code words0 Lk R) m (mstR rows qs words owner prints) script nx=8*t+j:=by
 have e:ml=movesV (pgN code words0 Lk R) m (mstR rows qs words owner prints):=by rw [hml];exact movesF_eq h.rl
 have el:ml.length=(moves (pgN code words0 Lk R) m (mstR rows qs words owner prints)).length:=by rw [e,movesV_len]
 have hp:=pick_lt script nx hl
 obtain ⟨t,j,h1,h2,h4,h5⟩:=movesV_at (p:=pgN code words0 Lk R) (m:=m) (s:=mstR rows qs words owner prints) (i:=pickM script nx ml.length) (by rw [←e];exact hp)
 rw [pgN_len] at h1
 rw [pgN_code h1,mstR_view (by rw [h.rl];exact h1)] at h2
 refine ⟨t,j,h1,h2, ?_,by rw [e] at h4⊢;exact h4, ?_⟩
 ·rcases mvOK_k h2 with ⟨h9,_⟩|⟨_,h9,_⟩
  ·omega
  ·have:=h3 t h1
   change j≤(nth qs t).length at h9
   omega
 ·unfold mvM
  rw [←el,h5]
  omega
theorem GoX.next (h:GoX code words0 Lk R m script nx k rows qs words owner prints) (he:endedF code (rows.map ThR.toQ) qs=false) {l:Nat} (hl:l=(movesF m code (rows.map ThR.toQ) qs owner code.l.length).length) (hl0:l≠0) (hk:k≠5000) {t j:Nat} (ht:t<code.l.length) (hj:j<8) (hm:mvOK m (nth code.l t).l ⟨(nth rows t).pc,(nth rows t).regs.l,nth qs t,words,owner,prints,false⟩ j=true)
  (e:mvM (pgN code words0 Lk R) m (mstR rows qs words owner prints) script nx=8*t+j) {y:TS} (hy:y=doT m t (nth code.l t).l j ⟨(nth rows t).pc,(nth rows t).regs.l,nth qs t,words,owner,prints,false⟩) {x:ThR} (e1:x.pc=y.pc) (e2:x.regs.l=y.regs):
  (y.fell=true→runM (pgN code words0 Lk R) m script=⟨1,k+1,y.words,y.prints⟩)∧(y.fell=false→GoX code words0 Lk R m script (nextM script nx l) (k+1) (rows.set t x) (qs.set t y.wait) y.words y.owner y.prints):=by
 have hr:t<rows.length:=by rw [h.rl];exact ht
 have hst:stepT (pgN code words0 Lk R) m (mstR rows qs words owner prints) t j=y:=by
  unfold stepT
  rw [pgN_code ht,mstR_view hr,hy]
 have hl' :l=(moves (pgN code words0 Lk R) m (mstR rows qs words owner prints)).length:=by
  rw [hl,movesF_eq (words0:=words0) (Lk:=Lk) (R:=R) (words:=words) (prints:=prints) h.rl,movesV_len]
 obtain ⟨a,b⟩:=goI_next h.go (by rw [←endedF_eq h.rl];exact he) (by rw [←hl'];exact hl0) hk hj e (by rw [pgN_len];exact ht) (by rw [pgN_code ht,mstR_view hr];exact hm) (by rw [hst,hy];exact doT_pr)
 rw [hst] at a b
 refine ⟨a,fun hf=> ?_⟩
 have h2:=b hf
 rw [←hl',←mstR_put hr (by rw [h.ql];exact ht) e1 e2] at h2
 exact ⟨h2,by simpa using h.rl,by simpa using h.ql⟩
theorem GoX.ended (h:GoX code words0 Lk R m script nx k rows qs words owner prints) (he:endedF code (rows.map ThR.toQ) qs=true):runM (pgN code words0 Lk R) m script=⟨0,k,words,prints⟩:=goI_ended h.go (by rw [←endedF_eq h.rl];exact he)
theorem GoX.stuck (h:GoX code words0 Lk R m script nx k rows qs words owner prints) (he:endedF code (rows.map ThR.toQ) qs=false) (hl:(movesF m code (rows.map ThR.toQ) qs owner code.l.length).length=0):runM (pgN code words0 Lk R) m script=⟨2,k,words,prints⟩:=
 goI_stuck h.go (by rw [←endedF_eq h.rl];exact he) (by rw [←movesV_len,←movesF_eq h.rl];exact hl)
theorem GoX.out (h:GoX code words0 Lk R m script nx k rows qs words owner prints) (he:endedF code (rows.map ThR.toQ) qs=false) (hl:(movesF m code (rows.map ThR.toQ) qs owner code.l.length).length≠0) (hk:k=5000):runM (pgN code words0 Lk R) m script=⟨3,k,words,prints⟩:=
 goI_out h.go (by rw [←endedF_eq h.rl];exact he) (by rw [←movesV_len,←movesF_eq h.rl];exact hl) hk
end
end Go.Proofs.YtmjkobhkkjgplaaGreatDoor
