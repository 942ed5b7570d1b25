/- States of the program that turn no more, over any kind of memory; bytes. -/
import Derived.Test.YtmjkobhkkjgplaaGreatDoorL2
import Derived.Test.YtmjkobhkkjgplaaGreatDoorS26
import Derived.Test.YtmjkobhkkjgplaaGreatDoorS10
import Derived.Test.YtmjkobhkkjgplaaGreatDoorM3
section
namespace Go.Proofs.YtmjkobhkkjgplaaGreatDoor
open Go.RowKit
set_option linter.unusedSimpArgs false
set_option linter.unusedVariables false
def dg (d:Nat):Nat:=if d<10 then 48+d else 87+d
def undg (b:Nat):Nat:=if b<58 then b-48 else b-87
def digs (n:Nat):List Nat:=if h:n<36 then [dg n] else digs (n/36)++ [dg (n%36)]
termination_by n
decreasing_by omega
def num36 (n:Int):List Nat:=if n<0 then 45::digs n.natAbs else digs n.natAbs
def putB (l:List Int):List Nat:=l.flatMap (fun n=>num36 n++ [32])++ [59]
def valD (l:List Nat):Nat:=l.foldl (fun a b=>a*36+undg b) 0
theorem digs_lo {n:Nat} (h:n<36):digs n= [dg n]:=by rw [digs,dif_pos h]
theorem digs_hi {n:Nat} (h:¬n<36):digs n=digs (n/36)++ [dg (n%36)]:=by rw [digs,dif_neg h]
theorem undg_dg {d:Nat} (h:d<36):undg (dg d)=d:=by
 unfold dg undg
 split<;>split<;>omega
theorem valD_digs (n:Nat):valD (digs n)=n:=by
 induction n using Nat.strongRecOn with
 |_ n ih=>
  by_cases h:n<36
  ·rw [digs_lo h];simp [valD,undg_dg h]
  ·rw [digs_hi h]
   unfold valD
   rw [List.foldl_append]
   have:=ih (n/36) (by omega)
   unfold valD at this
   rw [this]
   simp only [List.foldl_cons,List.foldl_nil]
   rw [undg_dg (by omega)]
   omega
theorem digs_ok (n:Nat):digs n≠ []∧∀b∈digs n,b≠32∧b≠59∧b≠45∧b<128:=by
 induction n using Nat.strongRecOn with
 |_ n ih=>
  have hd:∀d,d<36→dg d≠32∧dg d≠59∧dg d≠45∧dg d<128:=by
   intro d hd
   unfold dg
   split<;>omega
  by_cases h:n<36
  ·rw [digs_lo h]
   refine ⟨by simp,fun b hb=> ?_⟩
   obtain rfl:b=dg n:=by simpa using hb
   exact hd n h
  ·rw [digs_hi h]
   refine ⟨by simp,fun b hb=> ?_⟩
   rcases List.mem_append.1 hb with hb|hb
   ·exact (ih (n/36) (by omega)).2 b hb
   ·obtain rfl:b=dg (n%36):=by simpa using hb
    exact hd _ (by omega)
theorem num36_ok (n:Int):num36 n≠ []∧∀b∈num36 n,b≠32∧b≠59∧b<128:=by
 have h:=digs_ok n.natAbs
 unfold num36
 split
 ·refine ⟨by simp,fun b hb=> ?_⟩
  rcases List.mem_cons.1 hb with rfl|hb
  ·decide
  ·exact ⟨(h.2 b hb).1,(h.2 b hb).2.1,(h.2 b hb).2.2.2⟩
 ·exact ⟨h.1,fun b hb=>⟨(h.2 b hb).1,(h.2 b hb).2.1,(h.2 b hb).2.2.2⟩⟩
theorem num36_inj {a b:Int} (h:num36 a=num36 b):a=b:=by
 unfold num36 at h
 have hne:∀n (l:List Nat),digs n=45::l→False:=fun n l e=>by
  have:=(digs_ok n).2 45 (by rw [e];simp)
  exact this.2.2.1 rfl
 split at h<;>split at h
 ·have:=congrArg valD (List.cons.inj h).2
  rw [valD_digs,valD_digs] at this
  omega
 ·exact (hne _ _ h.symm).elim
 ·exact (hne _ _ h).elim
 ·have:=congrArg valD h
  rw [valD_digs,valD_digs] at this
  omega
theorem split_at {z:Nat} :∀ {a b r r' :List Nat},(∀x∈a,x≠z)→(∀x∈b,x≠z)→a++z::r=b++z::r' →a=b∧r=r'
 | [], [],r,r',_,_,h=>⟨rfl,(List.cons.inj h).2⟩
 | [],y::b,r,r',_,h2,h=>((h2 y (by simp)) (List.cons.inj h).1.symm).elim
 |x::a, [],r,r',h1,_,h=>((h1 x (by simp)) (List.cons.inj h).1).elim
 |x::a,y::b,r,r',h1,h2,h=>by
  obtain ⟨e1,e2⟩:=List.cons.inj h
  obtain ⟨e3,e4⟩:=split_at (a:=a) (b:=b) (fun q hq=>h1 q (by simp [hq])) (fun q hq=>h2 q (by simp [hq])) e2
  exact ⟨by rw [e1,e3],e4⟩
theorem putB_inj :∀ {l m:List Int} {r r' :List Nat},putB l++r=putB m++r' →l=m∧r=r'
 | [], [],r,r',h=>⟨rfl,by simpa [putB] using h⟩
 | [],y::m,r,r',h=>by
  exfalso
  obtain ⟨h1,h2⟩:=num36_ok y
  obtain ⟨b,l,e⟩:=List.exists_cons_of_ne_nil h1
  have h3:=h2 b (by rw [e];simp)
  simp only [putB,List.flatMap_nil,List.flatMap_cons,e,List.nil_append,List.cons_append,List.cons.injEq] at h
  exact h3.2.1 h.1.symm
 |x::l, [],r,r',h=>by
  exfalso
  obtain ⟨h1,h2⟩:=num36_ok x
  obtain ⟨b,l',e⟩:=List.exists_cons_of_ne_nil h1
  have h3:=h2 b (by rw [e];simp)
  simp only [putB,List.flatMap_nil,List.flatMap_cons,e,List.nil_append,List.cons_append,List.cons.injEq] at h
  exact h3.2.1 h.1
 |x::l,y::m,r,r',h=>by
  have h' :num36 x++32::(putB l++r)=num36 y++32::(putB m++r'):=by simpa [putB,List.append_assoc] using h
  obtain ⟨e1,e2⟩:=split_at (fun q hq=>((num36_ok x).2 q hq).1) (fun q hq=>((num36_ok y).2 q hq).1) h'
  obtain ⟨e3,e4⟩:=putB_inj e2
  exact ⟨by rw [num36_inj e1,e3],e4⟩
theorem keyB_inj :∀ {L M:List (List Int)},L.flatMap putB=M.flatMap putB→L=M
 | [], [],_=>rfl
 | [],y::M,h=>by simp [putB] at h
 |x::L, [],h=>by simp [putB] at h
 |x::L,y::M,h=>by
  simp only [List.flatMap_cons] at h
  obtain ⟨e1,e2⟩:=putB_inj h
  rw [e1,keyB_inj e2]
theorem putB_lt {l:List Int} :∀b∈putB l,b<128:=by
 intro b hb
 unfold putB at hb
 rcases List.mem_append.1 hb with hb|hb
 ·obtain ⟨n,_,hb⟩:=List.mem_flatMap.1 hb
  rcases List.mem_append.1 hb with hb|hb
  ·exact ((num36_ok n).2 b hb).2.2
  ·obtain rfl:b=32:=by simpa using hb
   decide
 ·obtain rfl:b=59:=by simpa using hb
  decide
def keyLL (tq:List (List Wt)→List (List Int)) (s:MSt):List (List Int):=s.ths.flatMap (fun t=> [[t.pc],t.regs])++([s.words,s.owner]++(tq (s.ths.map Th.wait)++ [s.prints]))
def keyB (tq:List (List Wt)→List (List Int)) (s:MSt):List Nat:=(keyLL tq s).flatMap putB
def TqOK (tq:List (List Wt)→List (List Int)) (Q:List (List Wt)→Prop):Prop:=∀q q' r r',Q q→Q q' →q.length=q'.length→tq q++r=tq q' ++r' →q=q' ∧r=r'
theorem pr_inj :∀ {l m:List Th} {r r' :List (List Int)},l.length=m.length→l.flatMap (fun t=> [[t.pc],t.regs])++r=m.flatMap (fun t=> [[t.pc],t.regs])++r' →l.map (fun t=>(t.pc,t.regs))=m.map (fun t=>(t.pc,t.regs))∧r=r'
 | [], [],r,r',_,h=>⟨rfl,h⟩
 | [],_::_,_,_,hl,_=>by simp at hl
 |_::_, [],_,_,hl,_=>by simp at hl
 |x::l,y::m,r,r',hl,h=>by
  simp only [List.flatMap_cons,List.append_assoc,List.cons_append,List.nil_append,List.cons.injEq] at h
  obtain ⟨⟨e1,_⟩,e2,h2⟩:=h
  obtain ⟨e3,e4⟩:=pr_inj (by simpa using hl) h2
  exact ⟨by rw [List.map_cons,List.map_cons,e3,e1,e2],e4⟩
theorem ths_ext :∀ {l m:List Th},l.map (fun t=>(t.pc,t.regs))=m.map (fun t=>(t.pc,t.regs))→l.map Th.wait=m.map Th.wait→l=m
 | [], [],_,_=>rfl
 | [],_::_,h,_=>by simp at h
 |_::_, [],h,_=>by simp at h
 |x::l,y::m,h1,h2=>by
  simp only [List.map_cons,List.cons.injEq,Prod.mk.injEq] at h1 h2
  rw [ths_ext h1.2 h2.2]
  congr 1
  cases x;cases y
  simp only at h1 h2
  rw [h1.1.1,h1.1.2,h2.1]
theorem keyLL_inj {p:Pg} {tq:List (List Wt)→List (List Int)} {Q:List (List Wt)→Prop} (ht:TqOK tq Q) {s s' :MSt} (h:Wf p s) (h' :Wf p s') (hq:Q (s.ths.map Th.wait)) (hq' :Q (s'.ths.map Th.wait)) (e:keyB tq s=keyB tq s'):s=s' :=by
 have e:=keyB_inj e
 unfold keyLL at e
 have hl:s.ths.length=s'.ths.length:=by rw [h.ths,h'.ths]
 obtain ⟨e1,e2⟩:=pr_inj hl e
 simp only [List.cons_append,List.nil_append,List.cons.injEq] at e2
 obtain ⟨e3,e4,e5⟩:=e2
 obtain ⟨e6,e7⟩:=ht _ _ _ _ hq hq' (by simpa using hl) e5
 have e8:=ths_ext e1 e6
 cases s;cases s'
 simp only at e3 e4 e7 e8
 rw [e8,e3,e4]
 congr 1
 simpa using e7
def tqB (q:List (List Wt)):List (List Int):=q.flatMap fun l=>l.map wtN++ [[]]
theorem tq_one :∀ {l l' :List Wt} {r r' :List (List Int)},l.map wtN++ []::r=l'.map wtN++ []::r' →l=l' ∧r=r'
 | [], [],r,r',h=>⟨rfl,(List.cons.inj h).2⟩
 | [],y::l',r,r',h=>by simp [wtN] at h
 |x::l, [],r,r',h=>by simp [wtN] at h
 |x::l,y::l',r,r',h=>by
  obtain ⟨e1,e2⟩:=List.cons.inj h
  obtain ⟨e3,e4⟩:=tq_one e2
  refine ⟨?_,e4⟩
  rw [e3]
  congr 1
  unfold wtN at e1
  simp only [List.cons.injEq] at e1
  have hlk:x.lock=y.lock:=by
   cases hx:x.lock<;>cases hy:y.lock<;>simp [hx,hy] at e1⊢
  cases x;cases y
  simp only at hlk e1
  rw [hlk,e1.2.1,e1.2.2.1]
theorem tqB_ok :TqOK tqB (fun _=>True):=by
 intro q
 induction q with
 |nil=>
  intro q' r r' _ _ hl e
  have:q' = []:=List.eq_nil_of_length_eq_zero hl.symm
  subst this
  exact ⟨rfl,e⟩
 |cons l q ih=>
  intro q' r r' _ _ hl e
  rcases q' with _|⟨l',q'⟩
  ·simp at hl
  ·simp only [tqB,List.flatMap_cons,List.append_assoc,List.cons_append,List.nil_append] at e
   obtain ⟨e1,e2⟩:=tq_one e
   obtain ⟨e3,e4⟩:=ih q' r r' trivial trivial (by simpa using hl) e2
   exact ⟨by rw [e1,e3],e4⟩
end Go.Proofs.YtmjkobhkkjgplaaGreatDoor
end
namespace Go.Proofs.YtmjkobhkkjgplaaGreatDoor
open Go.RowKit
set_option linter.unusedSimpArgs false
set_option linter.unusedVariables false
instance : Enc UInt8 where
 sz:=1
 cell x _:= .int .u8 (x.toNat:Int)
 whole x:= .int .u8 (x.toNat:Int)
 agg:=false
 inner _ _:=True
 on _ _:=False
 one _:=⟨rfl,fun _=>rfl⟩
 many h:=by cases h
 keep _ _ _ h _:=h
 lt _ _ _ _ h:=h.elim
instance : Flat UInt8:=⟨fun _ _ h=>h,fun _ _=>trivial⟩
instance : One UInt8:=⟨fun x w _ q hq=>rfl⟩
def by8 (l:List Nat):List UInt8:=l.map UInt8.ofNat
theorem by8_app (l m:List Nat):by8 (l++m)=by8 l++by8 m:=List.map_append
theorem by8_inj :∀ {l m:List Nat},(∀b∈l,b<128)→(∀b∈m,b<128)→by8 l=by8 m→l=m
 | [], [],_,_,_=>rfl
 | [],_::_,_,_,h=>by simp [by8] at h
 |_::_, [],_,_,h=>by simp [by8] at h
 |x::l,y::m,h1,h2,h=>by
  simp only [by8,List.map_cons,List.cons.injEq] at h
  have hx:=h1 x (by simp)
  have hy:=h2 y (by simp)
  have e:=congrArg UInt8.toNat h.1
  simp only [UInt8.toNat_ofNat'] at e
  rw [by8_inj (l:=l) (m:=m) (fun b hb=>h1 b (by simp [hb])) (fun b hb=>h2 b (by simp [hb])) h.2]
  congr 1
  omega
def keyS (tq:List (List Wt)→List (List Int)) (s:MSt):ByteArray:=⟨(by8 (keyB tq s)).toArray⟩
theorem keyB_lt {tq:List (List Wt)→List (List Int)} {s:MSt} :∀b∈keyB tq s,b<128:=by
 intro b hb
 obtain ⟨l,_,hb⟩:=List.mem_flatMap.1 hb
 exact putB_lt b hb
theorem keyS_inj {p:Pg} {tq:List (List Wt)→List (List Int)} {Q:List (List Wt)→Prop} (ht:TqOK tq Q) {s s' :MSt} (h:Wf p s) (h' :Wf p s') (hq:Q (s.ths.map Th.wait)) (hq' :Q (s'.ths.map Th.wait)) (e:keyS tq s=keyS tq s'):s=s' :=by
 refine keyLL_inj ht h h' hq hq' (by8_inj keyB_lt keyB_lt ?_)
 have e1:(by8 (keyB tq s)).toArray=(by8 (keyB tq s')).toArray:=congrArg ByteArray.data e
 simpa using e1
section
variable {K:Nat→Prop} {W w:World} {L:List Asn}
theorem Sh.frz {α:Type} [Enc α] (x:α) (A:List Asn) (h:Sh K W w (A++L)) (hi:Enc.inner x w) (ho:∀b,Enc.on x b→∃B∈A,B.fp b∨B.rd b):Sh K W w (.rd1 x::L):=by
 refine Sh.step (Lp:=A) (Lr:=L) (L' := [.rd1 x]) h (Chg.refl _ _) ?_ ?_ ?_ ?_ (List.pairwise_singleton _ _)
 ·intro B hB;obtain rfl:=List.mem_singleton.1 hB;exact hi
 ·intro B hB b hb;obtain rfl:=List.mem_singleton.1 hB;exact hb.elim
 ·intro B hB b hb;obtain rfl:=List.mem_singleton.1 hB;exact .inl (ho b hb)
 ·intro B hB b hb;obtain rfl:=List.mem_singleton.1 hB;exact hb.elim
end
structure MemF where
 ι:Type
 mem:ι→MemS
 T:TypeId
 m:Int
 tq:List (List Wt)→List (List Int)
 Q:List (List Wt)→Prop
 i0:ι
 q0:(mem i0).σ
structure PSD (F:MemF) where
 gp:Nat
 i:F.ι
 q:(F.mem i).σ
 g:Nat
 vt:Value
 rows:List ThR
 prints:Ls Int
 words:Ls Int
 owner:Ls Int
section
variable {F:MemF}
instance : Inhabited (PSD F):=⟨⟨0,F.i0,F.q0,0, .tuple #[], [],default,default,default⟩⟩
def PSD.M (x:PSD F):MemS:=F.mem x.i
def PSD.A (x:PSD F):List Asn:=
  [.blk x.g 173 [.iface (F.mem x.i).T (.pointer (some (F.mem x.i).u)), .pointer (some ⟨x.gp,0,none⟩),x.vt,x.prints.v, .bool false], .own 189 (⟨x.vt,x.rows.map ThR.toQ⟩:Ls ThQ), .big (regA 3 x.rows), .own 3 x.prints,
   .blk (F.mem x.i).g0 182 [x.words.v,x.owner.v], .own 3 x.words, .own 3 x.owner,(F.mem x.i).X x.q]
def PSD.qs (x:PSD F):List (List Wt):=(F.mem x.i).qs x.q
def PSD.st (x:PSD F):MSt:=mstR x.rows x.qs x.words.l x.owner.l x.prints.l
instance : Enc (PSD F) where
 sz:=1
 cell x _:= .pointer (some ⟨x.g,0,none⟩)
 whole x:= .pointer (some ⟨x.g,0,none⟩)
 agg:=false
 inner x w:=∀A∈x.A,A.ok w
 on x b:=∃A∈x.A,A.fp b∨A.rd b
 one _:=⟨rfl,fun _=>rfl⟩
 many h:=by cases h
 keep x w w' h hb A hA:=A.keep w w' (h A hA) fun b hb' =>hb b ⟨A,hA,hb'⟩
 lt x w h b hb:=by obtain ⟨A,hA,hb⟩:=hb;exact A.lt w (h A hA) b hb
instance : One (PSD F):=⟨fun _ _ _ _ _=>rfl⟩
structure PSD.Rd (x:PSD F) (w:World):Prop where
 blk:Blk w x.g 173 #[.iface (F.mem x.i).T (.pointer (some (F.mem x.i).u)), .pointer (some ⟨x.gp,0,none⟩),x.vt,x.prints.v, .bool false]
 thr:(⟨x.vt,x.rows.map ThR.toQ⟩:Ls ThQ).At w
 row:∀r∈x.rows,r.regs.At w
 prints:x.prints.At w
 mem:MemRd 182 (F.mem x.i) w x.words x.owner x.q
theorem PSD.rd {x:PSD F} {w:World} (h:Enc.inner x w):x.Rd w:=by
 have h:∀A∈x.A,A.ok w:=h
 have a1:=h _ (List.mem_of_getElem? (i:=0) rfl)
 have a2:=h _ (List.mem_of_getElem? (i:=1) rfl)
 have a3:=h _ (List.mem_of_getElem? (i:=2) rfl)
 have a4:=h _ (List.mem_of_getElem? (i:=3) rfl)
 have a5:=h _ (List.mem_of_getElem? (i:=4) rfl)
 have a6:=h _ (List.mem_of_getElem? (i:=5) rfl)
 have a7:=h _ (List.mem_of_getElem? (i:=6) rfl)
 have a8:=h _ (List.mem_of_getElem? (i:=7) rfl)
 exact ⟨a1,own_at a2,fun r hr=>own_at (a3.1 _ (List.mem_map.2 ⟨r,hr,rfl⟩)),own_at a4,a5,own_at a6,own_at a7,a8⟩
theorem PSD.frz {K:Nat→Prop} {W w:World} {L:List Asn} (hX:∀i q b,¬((F.mem i).X q).rd b) (x:PSD F) (h:Sh K W w (x.A++L)):Sh K W w (.rd1 x::L)∧∀b,Enc.on x b→K b∨W.heap.size≤b:=by
 refine ⟨Sh.frz x x.A h (fun A hA=>h.ok A (List.mem_append.2 (.inl hA))) fun b hb=>hb, ?_⟩
 rintro b ⟨A,hA,hb⟩
 rcases hb with hb|hb
 ·exact h.mine A (List.mem_append.2 (.inl hA)) b hb
 ·exfalso
  simp only [PSD.A,List.mem_cons,List.not_mem_nil,or_false] at hA
  rcases hA with rfl|rfl|rfl|rfl|rfl|rfl|rfl|rfl
  ·exact hb
  ·exact Flat.noRd hb
  ·exact regNoRd hb
  ·exact Flat.noRd hb
  ·exact hb
  ·exact Flat.noRd hb
  ·exact Flat.noRd hb
  ·exact hX _ _ _ hb
theorem PSD.st_len {x:PSD F} :x.st.ths.length=x.rows.length:=mstR_len
theorem psd_facts {code:Ls (Ls Ins)} {words0:Ls Int} {Lk R:Nat} {m:Int} (hok:OkPg (pgN code words0 Lk R)) {x:PSD F} (hr:Go.Proofs.YtmjkobhkkjgplaaGreatDoor.Reach (pgN code words0 Lk R) m x.st) (hl:x.rows.length=code.l.length):GoF code words0 Lk R x.rows x.qs x.words.l x.owner.l:=by
 have hwf:=hr.wf hok
 have hw:x.words.l.length=words0.l.length:=hwf.words
 have ho:x.owner.l.length=Lk:=by have:=hwf.owner;simpa [pgN,pgOf,mstR,PSD.st] using this
 have hv:∀t,t<code.l.length→WfS R words0.l.length Lk (nth code.l t).l.length ⟨(nth x.rows t).pc,(nth x.rows t).regs.l,nth x.qs t,x.words.l,x.owner.l,x.prints.l,false⟩:=by
  intro t ht
  have:=hwf.th t (by rw [pgN_len];exact ht)
  unfold PSD.st at this
  rw [pgN_code ht,mstR_view (by rw [hl];exact ht)] at this
  simpa [pgN,pgOf] using this
 refine ⟨hl,fun t ht=> ?_,fun t ht=>(hv t ht).wait,fun t ht i hi h17=> ?_,hr.owner_ge,hw,ho,fun t ht=>(hv t ht).regs,fun t ht j hj=> ?_,fun t ht=> ?_⟩
 ·rw [toQ_at (by rw [hl];exact ht)]
  exact (hv t ht).pc
 ·rw [ho];exact lock_N hok ht hi h17
 ·rw [ho,hw];exact (hv t ht).wt _ (nth_mem _ _ hj)
 ·have h9:=hr.wh0_ t
  unfold PSD.st at h9
  rw [mstR_view (by rw [hl];exact ht)] at h9
  exact h9
end
end Go.Proofs.YtmjkobhkkjgplaaGreatDoor
