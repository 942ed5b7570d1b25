/- copy into a row of the call's own; threads of two cells and their rows. It imports nothing of the dump. -/
import Derived.Test.YtmjkobhkkjgplaaGreatDoorS11
import Derived.Laws.IdiomCopy
namespace Go.Proofs.YtmjkobhkkjgplaaGreatDoor
open Go.RowKit
set_option linter.unusedSimpArgs false
set_option linter.unusedVariables false
section
variable {P:Program} {o:Oper} {N:Nat} {K:Nat→Prop} {W w:World} {a:Act} {F:List (Nat×Value)} {L:List Asn}
theorem encL_ints (l:List Int):encL l=l.map (Value.int .i64):=by
 induction l with
 |nil=>rfl
 |cons x l ih=>rw [List.map_cons,←ih];rfl
theorem x_copy {d:Nat} {T T2 e:TypeId} {gg:Bool} {by_ r n k:Nat} {z:List Value} {x y:Operand} {s m:Ls Int} {E:TypeId} {vd:Value}
  (h:St N K W a w F L) (hT:slI P T=some e) (he:tyI P e=some (gg,1,by_,z)) (ho:o.op= .call ⟨.builtin .copy, #[x,y], #[T,T2]⟩) (hx:ev F x=some vd) (hvd:(vd=s.v∧n=0)∨vd=vdrop s.v 1 n) (hy:ev F y=some m.v)
  (hr:L[r]? =some (.own E s)) (hat:m.At w) (hn:n≤s.l.length) (hk:k=min m.l.length (s.l.length-n)) (hd:o.dst=some d) (hdN:Nat.blt d N=true):
  Ex P o a w (fun a' w' =>St N K W a' w' ((d, .int .i64 ((k:Nat):Int))::F) (L.set r (.own E ⟨s.v,s.l.take n++m.l.take k++s.l.drop (n+k)⟩))):=by
 obtain ⟨ti,ed,zv,hi,hed,_,hs1,_⟩:=tyI_parts he
 have hu:=slI_parts hT
 have hsz:(P.info? e).map (·.size)=some 1:=by rw [hi];simp [hs1]
 have hok:=h.sh.ok _ (List.mem_of_getElem? hr)
 obtain ⟨hown,hlen,hinn⟩:=hok
 obtain ⟨mA,mcap,hmv,hmA⟩:=hat
 have hform:∃A c,vd= .slice A (s.l.length-n) c∧(0<k→A=some ⟨vblk s.v,n,none⟩):=by
  rcases hown.2 with ⟨hv,h0⟩|⟨g,cap,cur,hv,hb0,hg,hn2,hm2,hcs,htk⟩
  ·have hn0:n=0:=by omega
   subst hn0
   refine ⟨none,0, ?_,fun hk0=>by omega⟩
   rcases hvd with ⟨e1,_⟩|e1
   ·rw [e1,hv,h0]
   ·rw [e1,hv,h0];rfl
  ·rcases hvd with ⟨e1,e2⟩|e1
   ·subst e2
    exact ⟨some ⟨g,0,none⟩,cap,by rw [e1,hv];rfl,fun _=>by rw [hv];rfl⟩
   ·refine ⟨_,cap-n,by rw [e1,hv];rfl,fun hk0=> ?_⟩
    have:¬cap=n:=by omega
    rw [if_neg this,hv]
    simp [Addr.add_lit,vblk]
 obtain ⟨A,c,hvd',hA⟩:=hform
 by_cases h0:k=0
 ·have hrun:=run_copy_none (P:=P) w T T2 o.type e A mA (s.l.length-n) c m.l.length mcap hu hsz (by show min _ _=0;omega)
  refine Ex.of_run (v:= .int .i64 ((k:Nat):Int)) (w' :=w) ?_ ?_
  ·unfold execOp
   simp only [ho,resolve,invoke,builtin,Sem.run_bind,Sem.run_pure,Result.andThen_ok,List.map_toArray,List.map_cons,List.map_nil,h.fr.ev hx,h.fr.ev hy,hvd',hmv,hrun,h0]
   rfl
  ·rw [hd]
   have hh:St N K W (a.put (some d) (.int .i64 ((k:Nat):Int))) w ((d, .int .i64 ((k:Nat):Int))::F) L:=⟨h.fr.put d (by simpa [Nat.blt_eq] using hdN) _,h.sh⟩
   obtain ⟨sv,sl⟩:=s
   have:=hh.relist (i:=r) (l' :=sl.take n++m.l.take k++sl.drop (n+k)) hr (by rw [h0];simp)
   exact this
 ·have hk0:0<k:=by omega
  rcases hown.2 with ⟨hv,h00⟩|⟨g,cap,cur,hv,hb0,hg,hn2,hm2,hcs,htk⟩
  ·omega
  have hsz1:Enc.sz Int=1:=rfl
  rw [hsz1,Nat.mul_one] at hcs htk
  have hvb:vblk s.v=g:=by rw [hv];rfl
  obtain ⟨ad,hmA2,hsp⟩:=hmA.some (by show 0<m.l.length;omega)
  simp only at hmA2
  subst hmA2
  have hAe:=hA hk0
  rw [hvb] at hAe
  subst hAe
  have hcl:((m.l.take k).map (Value.int .i64)).length=k:=by rw [List.length_map,List.length_take];omega
  have hB:Blk w g E cur:=hg
  have hlc:s.l.length≤cur.size:=by rw [hcs];exact hn2
  have hrun:=run_copy_row (P:=P) w T T2 o.type e g n (s.l.length-n) c ad m.l.length mcap cur E ((m.l.take k).map (Value.int .i64)) hu hsz hg (by rw [hcl,hk];try rfl) (fun j v hj=>by
    have hjk:j<k:=by have:=(List.getElem?_eq_some_iff.1 hj).1;rw [hcl] at this;exact this
    have hc:=hmA.cell j 0 (by show j<m.l.length;omega) (by decide)
    obtain ⟨blk,off,sp⟩:=ad
    simp only at hsp
    subst hsp
    rw [Addr.add_lit]
    have e1:(⟨some ⟨blk,off,none⟩,mcap,m.l⟩:Sl Int).adr 1 j 0=⟨blk,off+j,none⟩:=by simp [Sl.adr]
    have e2:(Enc.cell (nth m.l j) 0:Value)=v:=by
     rw [List.getElem?_map,List.getElem?_take,if_pos hjk,getElem?_nth _ _ (by omega)] at hj
     show Value.int .i64 (nth m.l j)=v
     simpa using hj
    rw [←e1,←e2]
    exact hc) (by rw [hcl];omega) (fun v hv9=>by
    obtain ⟨q,_,rfl⟩:=List.mem_map.1 hv9;rfl)
  rw [hcl] at hrun
  refine Ex.of_run (v:= .int .i64 ((k:Nat):Int)) (w' :=w.setRow g (cur.toList.take n++(m.l.take k).map (Value.int .i64)++cur.toList.drop (n+k)).toArray) ?_ ?_
  ·unfold execOp
   simp only [ho,resolve,invoke,builtin,Sem.run_bind,Sem.run_pure,Result.andThen_ok,List.map_toArray,List.map_cons,List.map_nil,h.fr.ev hx,h.fr.ev hy,hvd',hmv,hrun]
   rfl
  ·rw [hd]
   have hfp:(Asn.own E s).fp g:=by show s.v.ownBlock=some g;rw [hv];rfl
   have hnl:(s.l.take n++m.l.take k++s.l.drop (n+k)).length=s.l.length:=by
    simp only [List.length_append,List.length_take,List.length_drop];omega
   refine ⟨h.fr.put d (by simpa [Nat.blt_eq] using hdN) _,h.sh.put hr ⟨rfl,rfl,rfl,by simp [World.setRow],fun b hb hne=>setRow_other w g b _ (fun e=>hne (by rw [e];exact hfp))⟩ ⟨⟨?_, .inr ⟨g,cap,_, ?_,hb0,setRow_heap w g _ _ E (0,0) hB, ?_, ?_, ?_, ?_⟩⟩, ?_,fun q hq=>trivial⟩ (fun b hb=> .inl hb) (fun b hb=> ?_) (fun b hb hb' => ?_)⟩
   ·rw [length_encL]
   ·show s.v=_
    rw [hv,hnl]
   ·show (s.l.take n++m.l.take k++s.l.drop (n+k)).length≤cap
    rw [hnl];exact hn2
   ·exact hm2
   ·have hcl2:cur.toList.length=cap:=by simpa using hcs
    simp only [List.size_toArray,List.length_append,List.length_take,List.length_drop,hcl,hcl2,hsz1]
    try rw [show ((m.l.take k).map (Value.int .i64)).length=k from hcl]
    omega
   ·show List.take ((s.l.take n++m.l.take k++s.l.drop (n+k)).length*Enc.sz Int) _=_
    rw [hnl,hsz1,Nat.mul_one,encL_append,encL_append,encL_take,encL_drop,encL_ints (m.l.take k),hsz1,Nat.mul_one,Nat.mul_one,←htk]
    have hcl2:cur.toList.length=cap:=by simpa using hcs
    have hks:n+k≤s.l.length:=by omega
    apply List.ext_getElem?
    intro q
    simp only [List.toList_toArray,List.getElem?_take,List.getElem?_append,List.getElem?_drop,List.length_take,List.length_append,hcl,List.length_drop,hcl2]
    have e1:min n cap=n:=by omega
    have e2:min n (min s.l.length cap)=n:=by omega
    simp only [e1,e2]
    repeat' split
    all_goals first|rfl|(exfalso;omega)|(congr 1;omega)
   ·show (s.l.take n++m.l.take k++s.l.drop (n+k)).length≤_
    rw [hnl];exact hlen
   ·obtain ⟨q,_,hb⟩:=hb;exact hb.elim
   ·obtain ⟨q,_,hb'⟩:=hb';exact hb'.elim
end
structure ThQ where
 pc:Int
 rv:Value
instance : Inhabited ThQ:=⟨⟨0, .slice none 0 0⟩⟩
def ThQ.cell (x:ThQ):Nat→Value
 |0=> .int .i64 x.pc
 |_=>x.rv
def ThQ.val (x:ThQ):Value:= .agg #[.int .i64 x.pc,x.rv]
instance : Enc ThQ where
 sz:=2
 cell:=ThQ.cell
 whole:=ThQ.val
 agg:=true
 inner _ _:=True
 on _ _:=False
 one h:=by cases h
 many _ _:=rfl
 keep _ _ _ h _:=h
 lt _ _ _ _ h:=h.elim
instance : Flat ThQ:=⟨fun _ _ h=>h,fun _ _=>trivial⟩
structure ThR where
 pc:Int
 regs:Ls Int
instance : Inhabited ThR:=⟨⟨0,default⟩⟩
def ThR.toQ (x:ThR):ThQ:=⟨x.pc,x.regs.v⟩
def ThR.th (x:ThR):Th:=⟨x.pc,x.regs.l, []⟩
def regA (INT:TypeId) (l:List ThR):List Asn:=l.map fun x=> .own INT x.regs
section
variable {N:Nat} {K:Nat→Prop} {W w:World} {a:Act} {F:List (Nat×Value)} {L:List Asn} {INT:TypeId}
theorem Sh.foldR {l:List ThR} {x:ThR} (h:Sh K W w (.own INT x.regs:: .big (regA INT l)::L)):Sh K W w (.big (regA INT (l++ [x]))::L):=by
 have h1:Sh K W w (.big (regA INT l)::([.own INT x.regs]++L)):=h.perm (List.Perm.swap _ _ _)
 have h2:=h1.open_
 rw [←List.append_assoc] at h2
 have e:regA INT (l++ [x])=regA INT l++ [.own INT x.regs]:=by simp [regA]
 rw [←e] at h2
 exact h2.close
theorem St.foldR {l:List ThR} {x:ThR} (h:St N K W a w F (.own INT x.regs:: .big (regA INT l)::L)):St N K W a w F (.big (regA INT (l++ [x]))::L):=⟨h.fr,h.sh.foldR⟩
theorem Sh.openR {l:List ThR} (h:Sh K W w (.big (regA INT l)::L)) (n:Nat) (hn:n<l.length):Sh K W w (.own INT (nth l n).regs:: .big (regA INT (l.eraseIdx n))::L):=by
 have h1:=h.open_.perm (((perm_erase l n hn).map (fun x:ThR=>Asn.own INT x.regs)).append_right L)
 have e:(l[n]::l.eraseIdx n).map (fun x:ThR=>Asn.own INT x.regs)= .own INT (nth l n).regs::regA INT (l.eraseIdx n):=by rw [nth_lt l n hn];rfl
 rw [e] at h1
 have h2:Sh K W w (regA INT (l.eraseIdx n)++(.own INT (nth l n).regs::L)):=h1.perm (by
  simp only [List.cons_append]
  exact (List.perm_middle (a:=Asn.own INT (nth l n).regs) (l₁:=regA INT (l.eraseIdx n)) (l₂:=L)).symm)
 exact h2.close.perm (List.Perm.swap _ _ _)
theorem Sh.closeR {l:List ThR} {x:ThR} (n:Nat) (hn:n<l.length) (h:Sh K W w (.own INT x.regs:: .big (regA INT (l.eraseIdx n))::L)):Sh K W w (.big (regA INT (l.set n x))::L):=by
 have h1:Sh K W w (.big (regA INT (l.eraseIdx n))::([.own INT x.regs]++L)):=h.perm (List.Perm.swap _ _ _)
 have h2:=h1.open_
 rw [←List.append_assoc] at h2
 have e:(regA INT (l.eraseIdx n)++ [Asn.own INT x.regs]).Perm (regA INT (l.set n x)):=by
  refine List.perm_append_comm.trans ?_
  exact ((perm_set x l n hn).map (fun x:ThR=>Asn.own INT x.regs)).symm
 exact (h2.perm (e.append_right L)).close
theorem St.bigR0 (INT:TypeId) (h:St N K W a w F L):St N K W a w F (.big (regA INT [])::L):=
 ⟨h.fr,h.sh.push (Chg.refl _ _) ⟨fun A hA=>(by cases hA), .nil,fun A hA=>(by cases hA)⟩ (fun b hb=>(by obtain ⟨A,hA,_⟩:=hb;cases hA)) (fun b hb=>(by obtain ⟨A,hA,_⟩:=hb;cases hA)) (fun b hb=>(by obtain ⟨A,hA,_⟩:=hb;cases hA))⟩
theorem regNoRd {rows:List ThR} {X:Prop} {b:Nat} (h:(Asn.big (regA INT rows)).rd b):X:=by
 obtain ⟨A,hA,hb⟩:=h
 obtain ⟨x,_,rfl⟩:=List.mem_map.1 hA
 exact Flat.noRd hb
end
end Go.Proofs.YtmjkobhkkjgplaaGreatDoor
