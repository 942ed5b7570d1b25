/- Parts of rows, read as rows. It imports nothing of the dump. -/
import Derived.Test.YtmjkobhkkjgplaaGreatDoorS10
namespace Go.Proofs.YtmjkobhkkjgplaaGreatDoor
open Go.RowKit
set_option linter.unusedSimpArgs false
set_option linter.unusedVariables false
section
variable {α:Type} [Enc α] {s:Ls α} {w:World}
theorem nth_take0 {β:Type} [Inhabited β] {l:List β} {i j:Nat} (h:i<j):nth (l.take j) i=nth l i:=by
 simp only [nth,List.getD,List.getElem?_take,if_pos h]
theorem nth_drop0 {β:Type} [Inhabited β] {l:List β} {i k:Nat} :nth (l.drop k) i=nth l (k+i):=by
 simp only [nth,List.getD,List.getElem?_drop]
theorem take_at (h:s.At w) {j:Nat} (hj:j≤s.l.length):(⟨vtake s.v j,s.l.take j⟩:Ls α).At w:=by
 obtain ⟨A,cap,hv,h⟩:=h
 have hl:(s.l.take j).length=j:=by rw [List.length_take];omega
 refine ⟨A,cap,by show vtake s.v j=_;rw [hv,hl];rfl, ?_⟩
 have hle:s.l.length≤cap:=h.le
 have hln:s.l.length≤140737488355328:=h.len
 refine ⟨by show (s.l.take j).length≤cap;omega,h.max,by show (s.l.take j).length≤_;omega,fun h0=>h.some (by simp only at h0;show 0<s.l.length;omega),fun h0=>h.lt' (by simp only at h0;show 0<s.l.length;omega),fun i q hi hq=> ?_,fun i hi=> ?_⟩
 ·simp only at hi
  rw [show nth (s.l.take j) i=nth s.l i from nth_take0 (by omega)]
  exact h.cell i q (by show i<s.l.length;omega) hq
 ·simp only at hi
  rw [show nth (s.l.take j) i=nth s.l i from nth_take0 (by omega)]
  exact h.inner i (by show i<s.l.length;omega)
theorem drop_at (h:s.At w) {k:Nat} (hk:k≤s.l.length):(⟨vdrop s.v (Enc.sz α) k,s.l.drop k⟩:Ls α).At w:=by
 obtain ⟨A,cap,hv,h⟩:=h
 have hl:(s.l.drop k).length=s.l.length-k:=List.length_drop
 have hle:s.l.length≤cap:=h.le
 have hln:s.l.length≤140737488355328:=h.len
 have hmx:cap≤maxLen:=h.max
 refine ⟨if cap=k then A else A.map (·.add (k*Enc.sz α)),cap-k,by show vdrop s.v _ k=_;rw [hv,hl];rfl, ?_⟩
 have key:0<(s.l.drop k).length→∃a,A=some a∧a.spot=none∧¬cap=k:=fun h0=>by
  obtain ⟨a,h1,h2⟩:=h.some (by show 0<s.l.length;omega)
  exact ⟨a,h1,h2,by omega⟩
 refine ⟨by show (s.l.drop k).length≤cap-k;omega,by show cap-k≤maxLen;omega,by show (s.l.drop k).length≤_;omega,fun h0=> ?_,fun h0=> ?_,fun i q hi hq=> ?_,fun i hi=> ?_⟩
 ·obtain ⟨a,rfl,h2,h3⟩:=key h0
  exact ⟨a.add (k*Enc.sz α),by simp only [if_neg h3,Option.map_some],by obtain ⟨b,o,sp⟩:=a;simp only at h2;subst h2;simp [Addr.add_lit]⟩
 ·obtain ⟨a,rfl,h2,h3⟩:=key h0
  have:=h.lt' (by show 0<s.l.length;simp only at h0;omega)
  obtain ⟨b,o,sp⟩:=a
  simp only at h2;subst h2
  simp only [if_neg h3,Option.map_some,Option.getD_some,Addr.add_lit] at this⊢
  exact this
 ·have h0:0<(s.l.drop k).length:=by simp only at hi;omega
  obtain ⟨a,rfl,h2,h3⟩:=key h0
  simp only at hi
  have:=h.cell (k+i) q (by show k+i<s.l.length;omega) hq
  rw [show nth (s.l.drop k) i=nth s.l (k+i) from nth_drop0]
  obtain ⟨b,o,sp⟩:=a
  simp only at h2;subst h2
  rw [←this]
  congr 1
  simp only [Sl.adr,if_neg h3,Option.map_some,Option.getD_some,Addr.add_lit,Addr.mk.injEq,true_and,and_true]
  rw [Nat.add_mul];omega
 ·simp only at hi
  rw [show nth (s.l.drop k) i=nth s.l (k+i) from nth_drop0]
  exact h.inner (k+i) (by show k+i<s.l.length;omega)
end
section
variable {P:Program} {o:Oper} {N:Nat} {K:Nat→Prop} {W w:World} {a:Act} {F:List (Nat×Value)} {L:List Asn} {α:Type} [Enc α]
end
end Go.Proofs.YtmjkobhkkjgplaaGreatDoor
