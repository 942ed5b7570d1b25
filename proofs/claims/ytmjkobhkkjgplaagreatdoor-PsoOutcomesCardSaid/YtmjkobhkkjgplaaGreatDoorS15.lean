/- Arrays of numbers, as data; rows of rows that grow; maps whose keys are arrays of numbers, which hold rows. It imports nothing of the dump. -/
import Derived.Test.YtmjkobhkkjgplaaGreatDoorS14
import Derived.Test.YtmjkobhkkjgplaaGreatDoorMaps
namespace Go.Proofs.YtmjkobhkkjgplaaGreatDoor
open Go.RowKit
set_option linter.unusedSimpArgs false
set_option linter.unusedVariables false
section
variable {P:Program} {o:Oper} {N:Nat} {K:Nat→Prop} {W w:World} {a:Act} {F:List (Nat×Value)} {L:List Asn}
theorem Sh.front {i:Nat} {A:Asn} (h:Sh K W w L) (hi:L[i]? =some A):Sh K W w (A::L.eraseIdx i):=by
 obtain ⟨hl,he⟩:=List.getElem?_eq_some_iff.1 hi
 have:=perm_erase L i hl
 rw [he] at this
 exact h.perm this
theorem Sh.unfront {i:Nat} {A A' :Asn} (h:Sh K W w (A' ::L.eraseIdx i)) (hi:L[i]? =some A):Sh K W w (L.set i A'):=
 h.perm (perm_set A' L i (List.getElem?_eq_some_iff.1 hi).1).symm
theorem mem_erase {i j:Nat} {B:Asn} (hj:L[j]? =some B) (hne:Nat.beq i j=false):B∈L.eraseIdx i:=by
 have hne' :i≠j:=by rintro rfl;simp at hne
 rcases Nat.lt_or_ge j i with h|h
 ·refine List.mem_of_getElem? (i:=j) ?_
  rw [List.getElem?_eraseIdx,if_pos h];exact hj
 ·refine List.mem_of_getElem? (i:=j-1) ?_
  rw [List.getElem?_eraseIdx,if_neg (by omega)]
  rw [show j-1+1=j by omega];exact hj
section
variable {α:Type} [Enc α] {E IE:TypeId} {v:Value} {M:List (Ls α)}
def holeX (R:Ls α→Asn) (E:TypeId) (v:Value) (M:List (Ls α)) (i:Nat):List Asn:= .own E (⟨v,rvs M⟩:Ls RV)::(M.eraseIdx i).map R
theorem x_appMat [Flat α] {d:Nat} {T e:TypeId} {gg:Bool} {sz by_ r rm i:Nat} {z:List Value} {x y:Operand} {m:Ls α} {B:Asn} (h:St N K W a w F L) (hT:slI P T=some e) (he:tyI P e=some (gg,sz,by_,z)) (ho:o.op= .call ⟨.builtin .append, #[x,y], #[T,T]⟩)
  (hx:ev F x=some (nth M i).v) (hy:ev F y=some m.v) (hr:L[r]? =some (.big (matX (.own IE) E v M))) (hi:i<M.length) (hE:IE=e) (hrm:L[rm]? =some B) (hne:Nat.beq r rm=false) (hat:∀w,Sh K W w L→m.At w) (hon:∀b,m.on b→B.fp b∨B.rd b)
  (hsz:Enc.sz α=sz) (hpos:Nat.blt 0 sz=true) (hzl:z.length=sz) (h1:One α) (hn:((nth M i).l.length+m.l.length)*by_≤140737488355328∧(nth M i).l.length+m.l.length≤140737488355328) (hd:o.dst=some d) (hdN:Nat.blt d N=true):
  Ex P o a w (fun a' w' =>∃u:Value,St N K W a' w' ((d,u)::F) (.own IE ⟨u,(nth M i).l++m.l⟩::L.set r (.big (holeX (.own IE) E v M i)))):=by
 have hB:=mem_erase hrm hne
 have hp:(matX (.own IE) E v M++L.eraseIdx r).Perm (.own IE (nth M i)::(holeX (.own IE) E v M i++L.eraseIdx r)):=by
  unfold matX holeX
  rw [nth_lt _ _ hi]
  refine List.Perm.trans ((List.Perm.append_right _ ((perm_erase M i hi).map (Asn.own IE))).cons _) ?_
  exact List.Perm.swap _ _ _
 have h1' :Sh K W w (.own IE (nth M i)::(holeX (.own IE) E v M i++L.eraseIdx r)):=(h.sh.front hr).open_.perm hp
 have back:∀w,Sh K W w (.own IE (nth M i)::(holeX (.own IE) E v M i++L.eraseIdx r))→Sh K W w L:=fun w h9=>by
  have h8:=((h9.perm hp.symm).close).unfront hr
  obtain ⟨hl,he⟩:=List.getElem?_eq_some_iff.1 hr
  rw [←he,List.set_getElem_self] at h8
  exact h8
 obtain ⟨rm2,hrm2⟩:=List.getElem?_of_mem hB
 have hidx:(Asn.own IE (nth M i)::(holeX (.own IE) E v M i++L.eraseIdx r))[(holeX (.own IE) E v M i).length+rm2+1]? =some B:=by
  rw [List.getElem?_cons_succ,List.getElem?_append_right (by omega)]
  simpa using hrm2
 refine (x_app (r:=0) (s:=nth M i) ⟨h.fr,h1'⟩ hT he ho hx hy rfl hE hidx rfl (fun w h9=>hat w (back w h9)) hon (fun q hq b hb=>(Flat.on _ _ hb).elim) hsz hpos hzl h1 hn hd hdN).mono fun a' w' ⟨u,h2⟩=>⟨u,h2.fr, ?_⟩
 have h3:Sh K W w' (.own IE ⟨u,(nth M i).l++m.l⟩::(holeX (.own IE) E v M i++L.eraseIdx r)):=h2.sh
 have h4:Sh K W w' (holeX (.own IE) E v M i++(.own IE ⟨u,(nth M i).l++m.l⟩::L.eraseIdx r)):=h3.perm List.perm_middle.symm
 have h5:=h4.close.perm (List.Perm.swap _ _ _)
 have h6:Sh K W w' (.big (holeX (.own IE) E v M i)::(.own IE ⟨u,(nth M i).l++m.l⟩::L.eraseIdx r)):=h5.perm (List.Perm.swap _ _ _)
 refine h6.perm ?_
 refine (List.Perm.swap _ _ _).trans (List.Perm.cons _ ?_)
 exact (perm_set _ L r (List.getElem?_eq_some_iff.1 hr).1).symm
theorem x_stHole {T:TypeId} {gg:Bool} {by_ i r:Nat} {z:List Value} {x y:Operand} {s:Ls α} {R:Ls α→Asn} (h:St N K W a w F (R s::L)) (hT:tyI P T=some (gg,1,by_,z)) (ho:o.op= .store T x y) (hd:o.dst=none)
  (hx:ev F x=some (.pointer (some (padr v 1 i 0)))) (hy:ev F y=some s.v) (hr:L[r]? =some (.big (holeX R E v M i))) (hi:i<M.length) (hat:s.At w):
  Ex P o a w (fun a' w' =>St N K W a' w' F (L.set r (.big (matX R E v (M.set i s))))):=by
 have h0:Sh K W w (.big (holeX R E v M i)::(R s::L.eraseIdx r)):=(h.sh.front (i:=r+1) (by rw [List.getElem?_cons_succ];exact hr)).perm (by simp)
 have h1:St N K W a w F (.own E (⟨v,rvs M⟩:Ls RV)::((M.eraseIdx i).map R++(R s::L.eraseIdx r))):=⟨h.fr,h0.open_⟩
 refine (x_ste (s:=(⟨v,rvs M⟩:Ls RV)) (r:=0) (i:=i) (j:=0) (x' :=⟨s.v⟩) h1 hT ho hd hx rfl rfl (by rw [rvs_len];exact hi) (by decide) hy (cells_oneL hat.one) hat.one (fun q hq=> ?_) (fun _ _=>trivial) (fun b hb=>hb.elim)).mono fun a' w' h2=>⟨h2.fr, ?_⟩
 ·obtain rfl:q=0:=by omega
  rfl
 ·have h3:Sh K W w' (.own E (⟨v,rvs (M.set i s)⟩:Ls RV)::((M.eraseIdx i).map R++(R s::L.eraseIdx r))):=by
   rw [←rvs_set];exact h2.sh
  have h4:Sh K W w' (.big (matX R E v (M.set i s))::L.eraseIdx r):=by
   refine Sh.close (h3.perm (List.Perm.cons _ ?_))
   refine List.perm_middle.trans ?_
   have:=((perm_set s M i hi).map R).symm
   exact this.append_right _
  exact h4.unfront hr
end
end
end Go.Proofs.YtmjkobhkkjgplaaGreatDoor
