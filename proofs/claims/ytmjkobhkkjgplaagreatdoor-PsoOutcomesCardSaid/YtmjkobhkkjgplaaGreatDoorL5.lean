/- All that can come, gone through layer by layer, in plain Lean. No program is in sight. -/
import Derived.Test.YtmjkobhkkjgplaaGreatDoorL2
import Derived.Test.YtmjkobhkkjgplaaGreatDoorM2
namespace Go.Proofs.YtmjkobhkkjgplaaGreatDoor
open Go.RowKit
set_option linter.unusedSimpArgs false
set_option linter.unusedVariables false
def mvT (p:Pg) (m:Int) (s:MSt) (v:Mv):TS:=stepT p m s v.th.toNat (v.st+1).toNat
def endsV (p:Pg) (m:Int) (s:MSt) (v:Mv):List Outc:=if (mvT p m s v).fell=true then [⟨1, [],(mvT p m s v).prints⟩] else []
def nextV (p:Pg) (m:Int) (s:MSt) (v:Mv):List MSt:=if (mvT p m s v).fell=true then [] else [s.putT v.th.toNat (mvT p m s v)]
def lookE (p:Pg) (m:Int) (s:MSt):List Outc:=
 if ended p s=true then [⟨0,s.words,s.prints⟩] else if (movesV p m s).length=0 then [⟨2,s.words,s.prints⟩] else (movesV p m s).flatMap (endsV p m s)
def lookN (p:Pg) (m:Int) (s:MSt):List MSt:=if ended p s=true then [] else (movesV p m s).flatMap (nextV p m s)
section
variable {p:Pg} {m:Int} {s:MSt}
theorem mem_movesV {v:Mv} :v∈movesV p m s↔∃t k,t<p.code.length∧mvOK m (nth p.code t) (s.view t) k=true∧v=⟨(t:Int),(k:Int)-1⟩:=by
 unfold movesV
 rw [List.mem_flatMap]
 constructor
 ·rintro ⟨t,ht,h⟩
  obtain ⟨k,hk,e⟩:=mem_mvsV h
  exact ⟨t,k,by simpa using ht,hk,e⟩
 ·rintro ⟨t,k,ht,hk,rfl⟩
  refine ⟨t,by simpa using ht, ?_⟩
  unfold mvsV
  rw [List.mem_append]
  rcases mvOK_k hk with ⟨rfl,h1,h2⟩|⟨h1,h2,h3⟩
  ·left
   have:ableV (nth p.code t) (s.view t)=true:=by unfold ableV;simp [h1,h2]
   rw [if_pos this];simp
  ·right
   refine List.mem_map.2 ⟨k-1,List.mem_filter.2 ⟨by simp;omega,h3⟩, ?_⟩
   congr 1
   omega
theorem mvT_of (t k:Nat):mvT p m s ⟨(t:Int),(k:Int)-1⟩=stepT p m s t k:=by
 unfold mvT
 show stepT p m s ((t:Int).toNat) (((k:Int)-1+1).toNat)=_
 rw [Int.toNat_natCast,show (k:Int)-1+1=(k:Int) by omega,Int.toNat_natCast]
theorem movesV_nil :(movesV p m s).length=0↔Stuck_ p m s:=by
 constructor
 ·intro h t k ht
  cases hk:mvOK m (nth p.code t) (s.view t) k with
  |false=>rfl
  |true=>
   have:=mem_movesV.2 ⟨t,k,ht,hk,rfl⟩
   rw [List.eq_nil_of_length_eq_zero h] at this
   cases this
 ·intro h
  rw [List.length_eq_zero_iff,List.eq_nil_iff_forall_not_mem]
  intro v hv
  obtain ⟨t,k,ht,hk,_⟩:=mem_movesV.1 hv
  rw [h t k ht] at hk
  cases hk
theorem look_exp {S:List MSt} {E:List Outc} (hE:∀o∈lookE p m s,o∈E) (hS:∀x∈lookN p m s,x∈S):Expanded p m S E s:=by
 unfold lookE at hE
 unfold lookN at hS
 refine ⟨fun he=> ?_,fun he hs=> ?_,fun t k ht hk=> ?_⟩
 ·rw [if_pos he] at hE;exact hE _ (by simp)
 ·rw [if_neg (by rw [he];decide),if_pos (movesV_nil.2 hs)] at hE;exact hE _ (by simp)
 ·have hv:=mem_movesV.2 ⟨t,k,ht,hk,rfl⟩
  have he:ended p s=false:=by
   cases he:ended p s with
   |false=>rfl
   |true=>rw [ended_no he t k ht] at hk;cases hk
  have hl:¬(movesV p m s).length=0:=fun h=>by rw [List.eq_nil_of_length_eq_zero h] at hv;cases hv
  rw [if_neg (by rw [he];decide),if_neg hl] at hE
  rw [if_neg (by rw [he];decide)] at hS
  unfold Handled
  split
  ·rename_i hf
   refine hE _ (List.mem_flatMap.2 ⟨_,hv, ?_⟩)
   unfold endsV
   rw [mvT_of,if_pos hf]
   simp
  ·rename_i hf
   refine hS _ (List.mem_flatMap.2 ⟨_,hv, ?_⟩)
   unfold nextV
   rw [mvT_of,if_neg hf]
   simp
theorem look_outs (hr:Reach p m s) {o:Outc} (ho:o∈lookE p m s):Outs p m o:=by
 unfold lookE at ho
 split at ho
 ·rename_i he
  obtain rfl:o=_:=by simpa using ho
  exact .done hr he
 ·rename_i he
  have he' :ended p s=false:=by simpa using he
  split at ho
  ·rename_i hl
   obtain rfl:o=_:=by simpa using ho
   exact .stuck hr he' (movesV_nil.1 hl)
  ·obtain ⟨v,hv,ho⟩:=List.mem_flatMap.1 ho
   obtain ⟨t,k,ht,hk,rfl⟩:=mem_movesV.1 hv
   unfold endsV at ho
   rw [mvT_of] at ho
   split at ho
   ·rename_i hf
    obtain rfl:o=_:=by simpa using ho
    exact .fell hr ht hk hf
   ·cases ho
theorem look_reach (hr:Reach p m s) {x:MSt} (hx:x∈lookN p m s):Reach p m x∧x.prints.length≤s.prints.length+2:=by
 unfold lookN at hx
 split at hx
 ·cases hx
 ·obtain ⟨v,hv,hx⟩:=List.mem_flatMap.1 hx
  obtain ⟨t,k,ht,hk,rfl⟩:=mem_movesV.1 hv
  unfold nextV at hx
  rw [mvT_of] at hx
  split at hx
  ·cases hx
  ·rename_i hf
   obtain rfl:x=_:=by simpa using hx
   have hf' :(stepT p m s t k).fell=false:=by simpa using hf
   refine ⟨.step hr ht hk hf', ?_⟩
   exact doT_prints m t (nth p.code t) k (s.view t)
theorem flatMap_le {α β:Type} {f:α→List β} {c:Nat} :∀ {l:List α},(∀x∈l,(f x).length≤c)→(l.flatMap f).length≤c*l.length
 | [],_=>by simp
 |x::l,h=>by
  have h1:=h x (by simp)
  have h2:=flatMap_le (l:=l) (f:=f) (c:=c) fun y hy=>h y (by simp [hy])
  rw [List.flatMap_cons,List.length_append,List.length_cons,Nat.mul_add]
  omega
theorem endsV_len (v:Mv):(endsV p m s v).length≤1:=by unfold endsV;split<;>simp
theorem nextV_len (v:Mv):(nextV p m s v).length≤1:=by unfold nextV;split<;>simp
structure BI (p:Pg) (m:Int) (S:List MSt) (F:MSt→Prop) (E:List Outc):Prop where
 start:begin_ p∈S
 reach:∀s∈S,Reach p m s
 nd:S.Nodup
 pr:∀s∈S,s.prints.length≤2*S.length
 sound:∀o∈E,Outs p m o
 done:∀s∈S,F s∨Expanded p m S E s
variable {S:List MSt} {F F' :MSt→Prop} {E E' :List Outc}
theorem BI.first (s:MSt) (hs:s=begin_ p):BI p m [s] (fun x=>x=s) []:=by
 subst hs
 refine ⟨by simp,fun x hx=> ?_,by simp,fun x hx=> ?_,fun o ho=>(by cases ho),fun x hx=> .inl (by simpa using hx)⟩
 ·obtain rfl:x=begin_ p:=by simpa using hx
  exact .start
 ·obtain rfl:x=begin_ p:=by simpa using hx
  exact Nat.zero_le _
theorem BI.add (h:BI p m S F E) {x:MSt} (hr:Reach p m x) (hx:x∉S) (hp:x.prints.length≤2*(S.length+1)):BI p m (S++ [x]) (fun y=>F y∨y=x) E:=by
 refine ⟨by simp [h.start],fun y hy=> ?_, ?_,fun y hy=> ?_,h.sound,fun y hy=> ?_⟩
 ·rcases List.mem_append.1 hy with hy|hy
  ·exact h.reach y hy
  ·obtain rfl:y=x:=by simpa using hy
   exact hr
 ·rw [List.nodup_append]
  exact ⟨h.nd,by simp,fun y hy z hz e=>by
   obtain rfl:z=x:=by simpa using hz
   exact hx (e▸hy)⟩
 ·rw [List.length_append]
  show _≤2*(S.length+1)
  rcases List.mem_append.1 hy with hy|hy
  ·have:=h.pr y hy;omega
  ·obtain rfl:y=x:=by simpa using hy
   exact hp
 ·rcases List.mem_append.1 hy with hy|hy
  ·rcases h.done y hy with h1|h1
   ·exact .inl (.inl h1)
   ·exact .inr (h1.mono (fun z hz=>by simp [hz]) fun _ h=>h)
  ·exact .inl (.inr (by simpa using hy))
theorem BI.outs (h:BI p m S F E) (hs:∀o∈E',Outs p m o) (hE:∀o∈E,o∈E'):BI p m S F E' :=
 ⟨h.start,h.reach,h.nd,h.pr,hs,fun s hs=>(h.done s hs).imp_right fun h1=>h1.mono (fun _ h=>h) hE⟩
theorem BI.mono (h:BI p m S F E) (hF:∀s∈S,F s→F' s∨Expanded p m S E s):BI p m S F' E:=
 ⟨h.start,h.reach,h.nd,h.pr,h.sound,fun s hs=>(h.done s hs).elim (hF s hs) .inr⟩
theorem BI.states (h:BI p m S F E) (hF:∀s∈S,¬F s):∀s,s∈S↔Reach p m s:=by
 intro s
 refine ⟨h.reach s,fun hs=> ?_⟩
 induction hs with
 |start=>exact h.start
 | @step s t k hr ht hk hf ih=>
  have:=((h.done s ih).resolve_left (hF s ih)).moves t k ht hk
  unfold Handled at this
  rw [if_neg (by rw [hf];decide)] at this
  exact this
theorem BI.all (h:BI p m S F E) (hF:∀s∈S,¬F s):∀o,o∈E↔Outs p m o:=by
 intro o
 refine ⟨h.sound o,fun ho=> ?_⟩
 have hall:=h.states hF
 have hex:∀s,Reach p m s→Expanded p m S E s:=fun s hs=>(h.done s ((hall s).2 hs)).resolve_left (hF s ((hall s).2 hs))
 cases ho with
 |done hr he=>exact (hex _ hr).done he
 |stuck hr he hst=>exact (hex _ hr).stuck he hst
 |fell hr ht hk hf=>
  have:=(hex _ hr).moves _ _ ht hk
  unfold Handled at this
  rwa [if_pos hf] at this
theorem BI.big (h:BI p m S F E) (hl:4000<S.length):Big p m:=⟨S,h.nd,h.reach,hl⟩
theorem BI.small (h:BI p m S F E) (hF:∀s∈S,¬F s) (hl:S.length≤4000):¬Big p m:=by
 rintro ⟨T,h1,h2,h3⟩
 have:=nodup_sub h1 fun s hs=>(h.states hF s).2 (h2 s hs)
 omega
end
end Go.Proofs.YtmjkobhkkjgplaaGreatDoor
