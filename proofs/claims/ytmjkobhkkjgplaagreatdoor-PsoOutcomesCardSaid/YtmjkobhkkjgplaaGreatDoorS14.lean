/- Matrices as resources: a row of rows, whose rows are the call's own; rows of arrays. It imports nothing of the dump. -/
import Derived.Test.YtmjkobhkkjgplaaGreatDoorS12
import Derived.Laws.RangeString
namespace Go.Proofs.YtmjkobhkkjgplaaGreatDoor
open Go.RowKit
set_option linter.unusedSimpArgs false
set_option linter.unusedVariables false
structure RV where
 v:Value
instance : Inhabited RV:=⟨⟨.slice none 0 0⟩⟩
instance : Enc RV where
 sz:=1
 cell x _:=x.v
 whole x:=x.v
 agg:=false
 inner _ _:=True
 on _ _:=False
 one _:=⟨rfl,fun _=>rfl⟩
 many h:=by cases h
 keep _ _ _ h _:=h
 lt _ _ _ _ h:=h.elim
instance : Flat RV:=⟨fun _ _ h=>h,fun _ _=>trivial⟩
def Asn.hold {α:Type} [Enc α] (s:Ls α):Asn where
 fp:=s.on
 rd _:=False
 ok w:=s.At w
 keep w w' h hb:=h.keep fun b hb' =>hb b (.inl hb')
 lt w h b hb:=hb.elim (fun hb=>h.lt hb) fun hb=>hb.elim
section
variable {α:Type}
def rvs (M:List (Ls α)):List RV:=M.map fun s=>⟨s.v⟩
def matX (R:Ls α→Asn) (E:TypeId) (v:Value) (M:List (Ls α)):List Asn:= .own E (⟨v,rvs M⟩:Ls RV)::M.map R
theorem rvs_len (M:List (Ls α)):(rvs M).length=M.length:=List.length_map _
theorem nth_rvs (M:List (Ls α)) (i:Nat):(nth (rvs M) i).v=(nth M i).v:=by
 rcases Nat.lt_or_ge i M.length with h|h
 ·rw [nth_lt _ _ h,nth_lt _ _ (show i<(rvs M).length by rw [rvs_len];exact h)]
  simp [rvs]
 ·have h1:nth M i=default:=by simp [nth,List.getD,h]
  have h2:nth (rvs M) i=default:=by simp [nth,List.getD,rvs_len,h]
  rw [h1,h2];rfl
theorem rvs_set (M:List (Ls α)) (i:Nat) (s:Ls α):(rvs M).set i ⟨s.v⟩=rvs (M.set i s):=by simp [rvs,List.map_set]
end
section
variable {α:Type} [Enc α]
theorem encL_rvs (M:List (Ls α)):encL (rvs M)=encL M:=by
 have:∀s:Ls α,cellsOf (⟨s.v⟩:RV)=cellsOf s:=fun s=>rfl
 induction M with
 |nil=>rfl
 |cons s M ih=>
  have h1:encL (rvs (s::M))=cellsOf (⟨s.v⟩:RV)++encL (rvs M):=by simp [encL,rvs]
  have h2:encL (s::M)=cellsOf s++encL M:=by simp [encL]
  rw [h1,h2,ih,this]
end
section
variable {K:Nat→Prop} {W w:World} {L:List Asn} {α:Type} {R:Ls α→Asn} {E:TypeId} {v:Value} {M:List (Ls α)}
theorem Sh.matAt (h:Sh K W w L) (i:Nat) (hi:L[i]? =some (.big (matX R E v M))):(⟨v,rvs M⟩:Ls RV).At w:=
 own_at (E:=E) ((h.ok _ (List.mem_of_getElem? hi)).1 _ (List.mem_cons_self ..))
end
section
variable {P:Program} {o:Oper} {N:Nat} {K:Nat→Prop} {W w:World} {a:Act} {F:List (Nat×Value)} {L:List Asn} {α:Type} [Enc α] {R:Ls α→Asn} {E IE:TypeId} {v:Value} {M:List (Ls α)}
theorem Sh.matRow (h:Sh K W w L) (i:Nat) (hi:L[i]? =some (.big (matX (.own IE) E v M))) (j:Nat) (hj:j<M.length):(nth M j).At w:=
 own_at (E:=IE) ((h.ok _ (List.mem_of_getElem? hi)).1 _ (List.mem_cons_of_mem _ (List.mem_map.2 ⟨_,nth_mem _ _ hj,rfl⟩)))
theorem Sh.nils (n:Nat) (h:Sh K W w L):Sh K W w (List.replicate n (.own IE (⟨.slice none 0 0, []⟩:Ls α))++L):=by
 induction n with
 |zero=>exact h
 |succ n ih=>rw [List.replicate_succ];exact ih.nil IE
theorem Sh.tail {A:Asn} (h:Sh K W w (A::L)):Sh K W w L:=
 ⟨h.chg,fun B hB=>h.ok B (List.mem_cons_of_mem _ hB),fun B hB=>h.mine B (List.mem_cons_of_mem _ hB),fun B hB=>h.self B (List.mem_cons_of_mem _ hB),(List.pairwise_cons.1 h.apart).2⟩
theorem Sh.matMk {n:Nat} (h:Sh K W w (.own E (⟨v,List.replicate n ⟨.slice none 0 0⟩⟩:Ls RV)::L)):Sh K W w (.big (matX (.own IE) E v (List.replicate n (⟨.slice none 0 0, []⟩:Ls α)))::L):=by
 refine Sh.close ?_
 have h2:=(h.nils (α:=α) (IE:=IE) n)
 have e:rvs (List.replicate n (⟨.slice none 0 0, []⟩:Ls α))=List.replicate n ⟨.slice none 0 0⟩:=by simp [rvs]
 unfold matX
 rw [e,List.map_replicate]
 exact h2.perm List.perm_middle
theorem x_makeMat {d:Nat} {T e:TypeId} {gg:Bool} {by_ n:Nat} {x y:Operand} (h:St N K W a w F L) (hT:slI P T=some e) (he:tyI P e=some (gg,1,by_, [.slice none 0 0])) (ho:o.op= .makeSlice T x y) (hx:ev F x=some (.int .i64 (n:Int))) (hy:ev F y=some (.int .i64 (n:Int)))
  (hn:by_*n≤140737488355328∧n≤140737488355328) (hd:o.dst=some d) (hdN:Nat.blt d N=true) (IE:TypeId) (α:Type) [Enc α]:
  Ex P o a w (fun a' w' =>∃v:Value,St N K W a' w' ((d,v)::F) (.big (matX (.own IE) e v (List.replicate n (⟨.slice none 0 0, []⟩:Ls α)))::L)):=
 (x_make (⟨.slice none 0 0⟩:RV) h hT he ho hx hy rfl rfl hn (fun _=>trivial) (fun _ h=>h) hd hdN).mono fun a' w' ⟨v,h⟩=>⟨v,h.fr,h.sh.matMk⟩
theorem x_stMat {T:TypeId} {gg:Bool} {by_ i:Nat} {z:List Value} {x y:Operand} {s:Ls α} (h:St N K W a w F (.big (matX R E v M)::R s::L)) (hT:tyI P T=some (gg,1,by_,z)) (ho:o.op= .store T x y) (hd:o.dst=none)
  (hx:ev F x=some (.pointer (some (padr v 1 i 0)))) (hy:ev F y=some s.v) (hi:i<M.length) (hat:s.At w):
  Ex P o a w (fun a' w' =>St N K W a' w' F (.big (matX R E v (M.set i s))::L)):=by
 have h1:St N K W a w F (.own E (⟨v,rvs M⟩:Ls RV)::(M.map R++(R s::L))):=⟨h.fr,h.sh.open_⟩
 refine (x_ste (s:=(⟨v,rvs M⟩:Ls RV)) (r:=0) (i:=i) (j:=0) (x' :=⟨s.v⟩) h1 hT ho hd hx rfl rfl (by rw [rvs_len];exact hi) (by decide) hy (cells_oneL hat.one) hat.one (fun q hq=> ?_) (fun _ _=>trivial) (fun b hb=>hb.elim)).mono fun a' w' h2=>⟨h2.fr, ?_⟩
 ·obtain rfl:q=0:=by omega
  rfl
 ·have h3:Sh K W w' (.own E (⟨v,rvs (M.set i s)⟩:Ls RV)::(M.map R++(R s::L))):=by
   rw [←rvs_set];exact h2.sh
  have h4:Sh K W w' (R M[i]::(.own E (⟨v,rvs (M.set i s)⟩:Ls RV)::((M.eraseIdx i).map R++(R s::L)))):=h3.perm (by
   refine List.Perm.trans ((List.Perm.append_right _ ((perm_erase M i hi).map R)).cons _) ?_
   exact List.Perm.swap _ _ _)
  refine Sh.close (h4.tail.perm ?_)
  refine List.Perm.cons _ ?_
  refine List.perm_middle.trans ?_
  have:=((perm_set s M i hi).map R).symm
  exact this.append_right L
theorem Sh.matDeep (h:Sh K W w (.big (matX R E v M)::L)) (hR:∀s w,(R s).ok w→s.At w∧∀b,s.on b→(R s).fp b):Sh K W w (.deep E (⟨v,M⟩:Ls (Ls α))::L):=by
 obtain ⟨hok,hap,hse⟩:=h.ok _ (List.mem_cons_self ..)
 have h0:=hok _ (List.mem_cons_self ..)
 obtain ⟨hown,hlen,_⟩:=h0
 have hm:∀i,i<M.length→R (nth M i)∈M.map R:=fun i hi=>List.mem_map.2 ⟨_,nth_mem _ _ hi,rfl⟩
 have hr:∀i,i<M.length→(nth M i).At w∧∀b,(nth M i).on b→(R (nth M i)).fp b:=fun i hi=>hR _ w (hok _ (List.mem_cons_of_mem _ (hm i hi)))
 have h2:=h.put (i:=0) (A' := .deep E (⟨v,M⟩:Ls (Ls α))) rfl (Chg.refl _ _) ⟨by
   rw [encL_rvs] at hown
   have:(rvs M).length=M.length:=rvs_len M
   simp only [this] at hown
   exact hown,by rw [←rvs_len];exact hlen,fun i hi=>(hr i hi).1,fun b hb ⟨i,hi,hb2⟩=> ?_⟩ (fun b hb=> .inl ?_) (fun b hb=>hb.elim) (fun b _ hb=>hb)
 ·exact h2
 ·have:=(List.pairwise_cons.1 hap).1 _ (hm i hi) b
  exact (this.1 hb).1 ((hr i hi).2 b hb2)
 ·rcases hb with hb|⟨i,hi,hb⟩
  ·exact ⟨_,List.mem_cons_self ..,hb⟩
  ·exact ⟨_,List.mem_cons_of_mem _ (hm i hi),(hr i hi).2 b hb⟩
theorem own_mat [Flat α] (s:Ls α) (w:World) (h:(Asn.own E s).ok w):s.At w∧∀b,s.on b→(Asn.own E s).fp b:=⟨own_at h,fun b hb=>(own_on h hb).elim id fun h9=>Flat.noRd h9⟩
end
section
variable {P:Program} {o:Oper} {N:Nat} {K:Nat→Prop} {W w:World} {a:Act} {F:List (Nat×Value)} {L:List Asn}
end
section
variable {P:Program} {o:Oper} {N:Nat} {K:Nat→Prop} {W w:World} {a:Act} {F:List (Nat×Value)} {L:List Asn} {α:Type} [Enc α]
end
end Go.Proofs.YtmjkobhkkjgplaaGreatDoor
