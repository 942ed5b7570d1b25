/- Moves as pairs; without stores that wait nothing waits; who holds locks. Plain Lean. -/
import Derived.Test.YtmjkobhkkjgplaaGreatDoorL2
import Derived.Test.YtmjkobhkkjgplaaGreatDoorS25
import Derived.Test.YtmjkobhkkjgplaaGreatDoorS10
section
namespace Go.Proofs.YtmjkobhkkjgplaaGreatDoor
open Go.RowKit
set_option linter.unusedSimpArgs false
set_option linter.unusedVariables false
structure TrM where
 st:Int
 steps:Nat
 words:List Int
 prints:List Int
def pickM (script:List Int) (nx l:Nat):Nat:=if 1<l∧nx<script.length then (nth script nx%(l:Int)).toNat else 0
def nextM (script:List Int) (nx l:Nat):Nat:=if 1<l∧nx<script.length then nx+1 else nx
def mvM (p:Pg) (m:Int) (s:MSt) (script:List Int) (nx:Nat):Nat:=(nth (moves p m s) (pickM script nx (moves p m s).length)).toNat
def goM (p:Pg) (m:Int) (script:List Int):Nat→Nat→MSt→Nat→TrM
 |0,_,s,k=>if ended p s=true then ⟨0,k,s.words,s.prints⟩ else if (moves p m s).length=0 then ⟨2,k,s.words,s.prints⟩ else ⟨3,k,s.words,s.prints⟩
 |n+1,nx,s,k=>
  if ended p s=true then ⟨0,k,s.words,s.prints⟩
  else if (moves p m s).length=0 then ⟨2,k,s.words,s.prints⟩
  else if (stepT p m s (mvM p m s script nx/8) (mvM p m s script nx%8)).fell=true then ⟨1,k+1,(stepT p m s (mvM p m s script nx/8) (mvM p m s script nx%8)).words,(stepT p m s (mvM p m s script nx/8) (mvM p m s script nx%8)).prints⟩
  else goM p m script n (nextM script nx (moves p m s).length) (s.putT (mvM p m s script nx/8) (stepT p m s (mvM p m s script nx/8) (mvM p m s script nx%8))) (k+1)
def runM (p:Pg) (m:Int) (script:List Int):TrM:=goM p m script 5000 0 (begin_ p) 0
structure GoI (p:Pg) (m:Int) (script:List Int) (nx:Nat) (s:MSt) (k:Nat):Prop where
 le:k≤5000
 nxk:nx≤k
 eq:goM p m script (5000-k) nx s k=runM p m script
 reach:Reach p m s
 pr:s.prints.length≤2*k
section
variable {p:Pg} {m:Int} {script:List Int} {nx k:Nat} {s:MSt}
theorem goI_start :GoI p m script 0 (begin_ p) 0:=⟨by omega,Nat.le_refl _,rfl, .start,by simp [begin_]⟩
theorem goI_ended (h:GoI p m script nx s k) (he:ended p s=true):runM p m script=⟨0,k,s.words,s.prints⟩:=by
 rw [←h.eq]
 cases 5000-k with
 |zero=>rw [goM,if_pos he]
 |succ n=>rw [goM,if_pos he]
theorem goI_stuck (h:GoI p m script nx s k) (he:ended p s=false) (hl:(moves p m s).length=0):runM p m script=⟨2,k,s.words,s.prints⟩:=by
 rw [←h.eq]
 cases 5000-k with
 |zero=>rw [goM,if_neg (by rw [he];decide),if_pos hl]
 |succ n=>rw [goM,if_neg (by rw [he];decide),if_pos hl]
theorem goI_out (h:GoI p m script nx s k) (he:ended p s=false) (hl:(moves p m s).length≠0) (hk:k=5000):runM p m script=⟨3,k,s.words,s.prints⟩:=by
 rw [←h.eq,show 5000-k=0 by omega,goM,if_neg (by rw [he];decide),if_neg hl]
theorem pick_lt (script:List Int) (nx:Nat) {l:Nat} (hl:l≠0):pickM script nx l<l:=by
 unfold pickM
 split
 ·have:=Int.emod_lt_of_pos (nth script nx) (show (0:Int)<(l:Int) by omega)
  have:=Int.emod_nonneg (nth script nx) (show (l:Int)≠0 by omega)
  omega
 ·omega
theorem next_le {l:Nat} :nextM script nx l≤nx+1:=by unfold nextM;split<;>omega
theorem goI_next (h:GoI p m script nx s k) (he:ended p s=false) (hl:(moves p m s).length≠0) (hk:k≠5000) {t j:Nat} (hj:j<8) (e:mvM p m s script nx=8*t+j) (ht:t<p.code.length) (hm:mvOK m (nth p.code t) (s.view t) j=true) (hpl:(stepT p m s t j).prints.length≤s.prints.length+2):
  ((stepT p m s t j).fell=true→runM p m script=⟨1,k+1,(stepT p m s t j).words,(stepT p m s t j).prints⟩)∧((stepT p m s t j).fell=false→GoI p m script (nextM script nx (moves p m s).length) (s.putT t (stepT p m s t j)) (k+1)):=by
 have hle:=h.le
 have h5:5000-k=(5000-(k+1))+1:=by omega
 have e1:(8*t+j)/8=t:=by omega
 have e2:(8*t+j)%8=j:=by omega
 have h1:=h.eq
 rw [h5,goM,if_neg (by rw [he];decide),if_neg hl] at h1
 simp only [e,e1,e2] at h1
 refine ⟨fun hf=> ?_,fun hf=> ?_⟩
 ·rw [if_pos hf] at h1;exact h1.symm
 ·rw [if_neg (by rw [hf];decide)] at h1
  refine ⟨by omega, ?_,h1, .step h.reach ht hm hf, ?_⟩
  ·have:=next_le (script:=script) (nx:=nx) (l:=(moves p m s).length);have:=h.nxk;omega
  ·show (stepT p m s t j).prints.length≤_
   have:=h.pr
   omega
end
end Go.Proofs.YtmjkobhkkjgplaaGreatDoor
end
namespace Go.Proofs.YtmjkobhkkjgplaaGreatDoor
open Go.RowKit
set_option linter.unusedSimpArgs false
set_option linter.unusedVariables false
structure Mv where
 th:Int
 st:Int
instance : Inhabited Mv:=⟨⟨0,0⟩⟩
def Mv.cell (x:Mv):Nat→Value
 |0=> .int .i64 x.th
 |_=> .int .i64 x.st
def Mv.val (x:Mv):Value:= .agg #[.int .i64 x.th, .int .i64 x.st]
instance : Enc Mv where
 sz:=2
 cell:=Mv.cell
 whole:=Mv.val
 agg:=true
 inner _ _:=True
 on _ _:=False
 one h:=by cases h
 many _ _:=rfl
 keep _ _ _ h _:=h
 lt _ _ _ _ h:=h.elim
instance : Flat Mv:=⟨fun _ _ h=>h,fun _ _=>trivial⟩
instance : One Mv:=⟨fun x w _ q hq=>by rcases q with _|q<;>rfl⟩
def mvsV (m:Int) (c:List Ins) (t:Nat) (x:TS):List Mv:=(if ableV c x=true then [⟨(t:Int),-1⟩] else [])++((List.range x.wait.length).filter (mayK m x.wait)).map fun k=>⟨(t:Int),(k:Int)⟩
def movesV (p:Pg) (m:Int) (s:MSt):List Mv:=(List.range p.code.length).flatMap fun t=>mvsV m (nth p.code t) t (s.view t)
def mvNum (x:Mv):Int:=8*x.th+(x.st+1)
theorem mvsV_map (m:Int) (c:List Ins) (t:Nat) (x:TS):(mvsV m c t x).map mvNum=mvs m c t x:=by
 unfold mvsV mvs
 rw [List.map_append,List.map_map]
 have e1:(if ableV c x=true then [(⟨(t:Int),-1⟩:Mv)] else []).map mvNum=if ableV c x=true then [((8*t:Nat):Int)] else []:=by
  split
  ·simp [mvNum]
  ·rfl
 rw [e1]
 congr 1
theorem movesV_map (p:Pg) (m:Int) (s:MSt):(movesV p m s).map mvNum=moves p m s:=by
 unfold movesV moves
 rw [List.map_flatMap]
 congr 1
 funext t
 exact mvsV_map _ _ _ _
theorem movesV_len (p:Pg) (m:Int) (s:MSt):(movesV p m s).length=(moves p m s).length:=by rw [←movesV_map,List.length_map]
theorem mem_mvsV {m:Int} {c:List Ins} {t:Nat} {x:TS} {v:Mv} (h:v∈mvsV m c t x):∃j:Nat,mvOK m c x j=true∧v=⟨(t:Int),(j:Int)-1⟩:=by
 unfold mvsV at h
 rcases List.mem_append.1 h with h|h
 ·split at h
  ·rename_i ha
   obtain rfl:v=⟨(t:Int),-1⟩:=by simpa using h
   exact ⟨0,by unfold mvOK;rw [if_pos rfl];exact ha,rfl⟩
  ·cases h
 ·obtain ⟨k,hk,rfl⟩:=List.mem_map.1 h
  obtain ⟨h1,h2⟩:=List.mem_filter.1 hk
  have h1:=List.mem_range.1 h1
  refine ⟨k+1, ?_, ?_⟩
  ·unfold mvOK
   rw [if_neg (by omega),decide_eq_true (by omega),Nat.add_sub_cancel,h2];rfl
  ·show (⟨(t:Int),(k:Int)⟩:Mv)=⟨(t:Int),((k+1:Nat):Int)-1⟩
   congr 1
   omega
theorem movesV_at {p:Pg} {m:Int} {s:MSt} {i:Nat} (hi:i<(movesV p m s).length):∃t j,t<p.code.length∧mvOK m (nth p.code t) (s.view t) j=true∧nth (movesV p m s) i=⟨(t:Int),(j:Int)-1⟩∧nth (moves p m s) i=((8*t+j:Nat):Int):=by
 obtain ⟨t,ht,h⟩:=List.mem_flatMap.1 (nth_mem _ _ hi)
 have ht:=List.mem_range.1 ht
 obtain ⟨j,hj,e⟩:=mem_mvsV h
 refine ⟨t,j,ht,hj,e, ?_⟩
 rw [←movesV_map,nth_map' _ _ _ hi]
 show mvNum (nth (movesV p m s) i)=_
 have e' :nth (movesV p m s) i=⟨(t:Int),(j:Int)-1⟩:=e
 rw [e']
 show 8*(t:Int)+((j:Int)-1+1)=_
 omega
theorem execT_elim {Q:TS→Prop} {m:Int} {n:Nat} {i:Ins} {x:TS} (hx:Q x) (hput:∀k v,Q (x.put k v)) (hst:∀w:Wt,(w.lock=true→w.what=0)→Q (x.store m w)) (hf:Q { x with fell:=true }) (hcas:∀a b,Q { x with words:=a,regs:=b }) (hpc:∀p,Q { x with pc:=p })
  (hpr:∀v,Q { x with prints:=x.prints++ [(n:Int),v] }) (how:∀a,Q { x with owner:=x.owner.set a n }):Q (execT m n i x):=by
 by_cases e1:i.op=1
 ·rw [execT_1 e1];exact hput _ _
 by_cases e2:i.op=2
 ·rw [execT_2 e2];exact hput _ _
 by_cases e3:i.op=3
 ·rw [execT_3 e3];exact hput _ _
 by_cases e4:i.op=4
 ·rw [execT_4 e4];exact hput _ _
 by_cases e5:i.op=5
 ·rw [execT_5 e5];exact hput _ _
 by_cases e6:i.op=6
 ·rw [execT_6 e6];exact hput _ _
 by_cases e7:i.op=7
 ·rw [execT_7 e7];exact hput _ _
 by_cases e8:i.op=8
 ·rw [execT_8 e8];exact hput _ _
 by_cases e9:i.op=9
 ·rw [execT_9 e9];exact hst _ (fun h=>by cases h)
 by_cases e10:i.op=10
 ·by_cases h:0≤x.reg i.b∧x.reg i.b<(x.words.length:Int)
  ·rw [execT_10t e10 h];exact hput _ _
  ·rw [execT_10f e10 h];exact hf
 by_cases e11:i.op=11
 ·by_cases h:0≤x.reg i.a∧x.reg i.a<(x.words.length:Int)
  ·rw [execT_11t e11 h];exact hst _ (fun h=>by cases h)
  ·rw [execT_11f e11 h];exact hf
 by_cases e13:i.op=13
 ·by_cases h:nth x.words i.a.toNat=x.reg i.b
  ·rw [execT_13t e13 h];exact hcas _ _
  ·rw [execT_13f e13 h];exact hput _ _
 by_cases e14:i.op=14
 ·rw [execT_14 e14];exact hpc _
 by_cases e15:i.op=15
 ·by_cases h:x.reg i.a=0
  ·rw [execT_15t e15 h];exact hpc _
  ·rw [execT_15f e15 h];exact hx
 by_cases e16:i.op=16
 ·rw [execT_16 e16];exact hpr _
 by_cases e17:i.op=17
 ·rw [execT_17 e17];exact how _
 by_cases e18:i.op=18
 ·by_cases h1:nth x.owner i.a.toNat≠n
  ·rw [execT_18a e18 h1];exact hf
  ·by_cases h2:∃q,q<x.wait.length∧(nth x.wait q).lock=true∧(nth x.wait q).wh=i.a
   ·obtain ⟨q,hq,h3,h4⟩:=h2
    rw [execT_18b e18 h1 q hq h3 h4];exact hf
   ·rw [execT_18c e18 h1 (fun q hq h9=>h2 ⟨q,hq,h9⟩)];exact hst _ (fun _=>rfl)
 rw [execT_no ⟨e1,e2,e3,e4,e5,e6,e7,e8,e9,e10,e11,e13,e14,e15,e16,e17,e18⟩]
 exact hx
def wh0 (l:List Wt):Prop:=∀x∈l,x.lock=true→x.what=0
theorem store_wh0 {m:Int} {x:TS} {w:Wt} (h:wh0 x.wait) (hw:w.lock=true→w.what=0):wh0 (x.store m w).wait:=by
 unfold TS.store
 split
 ·intro y hy
  rcases List.mem_append.1 hy with hy|hy
  ·exact h y hy
  ·obtain rfl:y=w:=by simpa using hy
   exact hw
 ·exact h
theorem execT_wh0 {m:Int} {n:Nat} {i:Ins} {x:TS} (h:wh0 x.wait):wh0 (execT m n i x).wait:=
 execT_elim (Q:=fun y=>wh0 y.wait) h (fun _ _=>h) (fun _ hw=>store_wh0 h hw) h (fun _ _=>h) (fun _=>h) (fun _=>h) (fun _=>h)
theorem doT_wh0 {m:Int} {n k:Nat} {c:List Ins} {x:TS} (h:wh0 x.wait):wh0 (doT m n c k x).wait:=by
 unfold doT
 split
 ·exact fun y hy=>h y (List.mem_of_mem_eraseIdx hy)
 ·exact execT_wh0 (x:= { x with pc:=x.pc+1 }) h
theorem Reach.wh0_ {p:Pg} {m:Int} {s:MSt} (h:Reach p m s):∀t,wh0 (s.view t).wait:=by
 induction h with
 |start=>
  intro t
  show wh0 (nth (begin_ p).ths t).wait
  unfold begin_
  rcases Nat.lt_or_ge t p.code.length with h|h
  ·rw [nth_map' _ _ _ h];exact fun x hx=>by cases hx
  ·simp [nth,List.getD,h];exact fun x hx=>by cases hx
 |step hr ht hk hf ih=>
  rename_i s t k
  intro u
  by_cases e:t=u
  ·subst e
   rcases Nat.lt_or_ge t s.ths.length with hl|hl
   ·rw [putT_view hl]
    exact doT_wh0 (ih t)
   ·show wh0 (nth (s.ths.set t _) t).wait
    rw [List.set_eq_of_length_le hl]
    exact ih t
  ·rw [putT_other e]
   exact ih u
theorem set_ge {l:List Int} {i:Nat} {v:Int} (h:∀x∈l,-1≤x) (hv: -1≤v):∀x∈l.set i v,-1≤x:=fun x hx=>by
 rcases List.mem_or_eq_of_mem_set hx with h1|rfl
 ·exact h x h1
 ·exact hv
theorem done_ge {x:TS} {w:Wt} (h:∀v∈x.owner,-1≤v):∀v∈(x.done w).owner,-1≤v:=by
 unfold TS.done
 show∀v∈(if w.lock=true then x.owner.set w.wh.toNat (-1) else x.owner),-1≤v
 split
 ·exact set_ge h (by decide)
 ·exact h
theorem store_ge {m:Int} {x:TS} {w:Wt} (h:∀v∈x.owner,-1≤v):∀v∈(x.store m w).owner,-1≤v:=by
 unfold TS.store
 split
 ·exact h
 ·exact done_ge h
theorem execT_ge {m:Int} {n:Nat} {i:Ins} {x:TS} (h:∀v∈x.owner,-1≤v):∀v∈(execT m n i x).owner,-1≤v:=
 execT_elim (Q:=fun y=>∀v∈y.owner,-1≤v) h (fun _ _=>h) (fun _ _=>store_ge h) h (fun _ _=>h) (fun _=>h) (fun _=>h) (fun _=>set_ge h (by omega))
theorem doT_ge {m:Int} {n k:Nat} {c:List Ins} {x:TS} (h:∀v∈x.owner,-1≤v):∀v∈(doT m n c k x).owner,-1≤v:=by
 unfold doT
 split
 ·exact done_ge h
 ·exact execT_ge h
theorem Reach.owner_ge {p:Pg} {m:Int} {s:MSt} (h:Reach p m s):∀v∈s.owner,-1≤v:=by
 induction h with
 |start=>
  intro v hv
  have:=List.eq_of_mem_replicate hv
  omega
 |step hr ht hk hf ih=>exact doT_ge (x:=_) ih
end Go.Proofs.YtmjkobhkkjgplaaGreatDoor
