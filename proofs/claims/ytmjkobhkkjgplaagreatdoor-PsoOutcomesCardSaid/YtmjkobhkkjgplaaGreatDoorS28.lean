/- The steps of slices.Delete: a slice by three numbers, what lies behind a slice's end, its clearing. It imports nothing of the dump. -/
import Derived.Test.YtmjkobhkkjgplaaGreatDoorS14
import Derived.Test.YtmjkobhkkjgplaaGreatDoorS27
namespace Go.Proofs.YtmjkobhkkjgplaaGreatDoor
open Go.RowKit
set_option linter.unusedSimpArgs false
set_option linter.unusedVariables false
def vcap (v:Value):Nat:=match v with
 | .slice _ _ c=>c
 |_=>0
def vsub (v:Value) (sz lo hi:Nat):Value:=match v with
 | .slice A n c=> .slice (if c=lo then A else A.map (·.add (lo*sz))) (hi-lo) (c-lo)
 |v=>v
def vsub3 (v:Value) (sz lo hi mx:Nat):Value:=match v with
 | .slice A n c=> .slice (if mx=lo then A else A.map (·.add (lo*sz))) (hi-lo) (mx-lo)
 |v=>v
theorem setCells_chg {X:Nat→Prop} {g:Nat} (hg:X g):∀(vs:List Value) (o:Nat) (w:World),Chg X w (w.setCells g o vs)
 | [],_,_=>Chg.refl _ _
 |v::vs,o,w=>((Chg.setCell (X:=X) w ⟨g,o,none⟩ hg v)).trans (setCells_chg hg vs (o+1) _) fun b hb=> .inl hb
theorem setCells_row {g:Nat} {E:TypeId} :∀(vs:List Value) (o:Nat) (w:World) (cur:Array Value),w.heap[g]? =some (.cells cur E (0,0))→∃cur',(w.setCells g o vs).heap[g]? =some (.cells cur' E (0,0))∧cur'.size=cur.size∧∀k,k<o→cur'[k]? =cur[k]?
 | [],_,_,cur,h=>⟨cur,h,rfl,fun _ _=>rfl⟩
 |v::vs,o,w,cur,h=>by
  have h2:Blk (w.setCell ⟨g,o,none⟩ v) g E (cur.setIfInBounds o v):=Blk.set_ (w:=w) h o v
  obtain ⟨cur',h3,h4,h5⟩:=setCells_row vs (o+1) _ _ h2
  refine ⟨cur',h3,h4.trans (by simp),fun k hk=>(h5 k (by omega)).trans ?_⟩
  rw [Array.getElem?_setIfInBounds_ne (by omega)]
section
variable {P:Program} {o:Oper} {N:Nat} {K:Nat→Prop} {W w:World} {a:Act} {F:List (Nat×Value)} {L:List Asn} {α:Type} [Enc α]
theorem r_sl3 {T e:TypeId} {g:Bool} {n by_:Nat} {z:List Value} {x y1 y2 y3:Operand} {s:Ls α} {lo hi mx:Nat} (hT:slI P T=some e) (he:tyI P e=some (g,n,by_,z)) (ho:o.op= .slice T x (some y1) (some y2) (some y3)) (hx:ev F x=some s.v)
  (hy1:ev F y1=some (.int .i64 (lo:Int))) (hy2:ev F y2=some (.int .i64 (hi:Int))) (hy3:ev F y3=some (.int .i64 (mx:Int))) (hat:∀w,Sh K W w L→s.At w) (hb:lo≤hi∧hi≤mx∧mx≤s.l.length):Rn P o N K W F L (vsub3 s.v n lo hi mx):=fun a w h=>by
 obtain ⟨A,cap,hv,hA⟩:=hat w h.sh
 have hle:=hA.le
 simp only at hle
 obtain ⟨i,d,zv,hi9,hd,_,rfl,_⟩:=tyI_parts he
 have hu:=slI_parts hT
 have hel:P.elem T=e:=by simp [Program.elem,hu]
 have hu' :P.underlying T=some (.slice (P.elem T)):=by rw [hel];exact hu
 have e1:=run_sliceAt_slice (P:=P) w T (.slice A s.l.length cap) (some (.int .i64 (lo:Int))) (some (.int .i64 (hi:Int))) (some (.int .i64 (mx:Int))) hu'
 have e2:=run_slice_lhm (P:=P) w T A s.l.length cap hu' .i64 .i64 .i64 (lo:Int) (hi:Int) (mx:Int) (by omega) (by omega) (by omega) (by omega)
 rw [hel,run_sizeOf hi9,Result.andThen_ok] at e2
 rw [e2] at e1
 unfold execOp
 simp only [ho,h.fr.ev hx,h.fr.ev hy1,h.fr.ev hy2,h.fr.ev hy3,Option.map_some,Option.map_none,hv,Sem.run_bind,e1,Result.andThen_ok,Sem.run_pure,sliced,vsub3]
 simp
theorem r_slTail {T e:TypeId} {g:Bool} {n by_:Nat} {z:List Value} {x y1 y2:Operand} {s:Ls α} {lo hi:Nat} (hT:slI P T=some e) (he:tyI P e=some (g,n,by_,z)) (ho:o.op= .slice T x (some y1) (some y2) none) (hx:ev F x=some s.v)
  (hy1:ev F y1=some (.int .i64 (lo:Int))) (hy2:ev F y2=some (.int .i64 (hi:Int))) (hat:∀w,Sh K W w L→s.At w) (hb:lo≤hi∧hi≤vcap s.v):Rn P o N K W F L (vsub s.v n lo hi):=fun a w h=>by
 obtain ⟨A,cap,hv,hA⟩:=hat w h.sh
 have hle:=hA.le
 simp only at hle
 obtain ⟨i,d,zv,hi9,hd,_,rfl,_⟩:=tyI_parts he
 have hu:=slI_parts hT
 have hel:P.elem T=e:=by simp [Program.elem,hu]
 have hu' :P.underlying T=some (.slice (P.elem T)):=by rw [hel];exact hu
 rw [hv] at hb⊢
 simp only [vcap] at hb
 have e1:=run_sliceAt_slice (P:=P) w T (.slice A s.l.length cap) (some (.int .i64 (lo:Int))) (some (.int .i64 (hi:Int))) none hu'
 have e2:=run_slice_lh (P:=P) w T A s.l.length cap hu' .i64 .i64 (lo:Int) (hi:Int) (by omega) (by omega) (by omega)
 rw [hel,run_sizeOf hi9,Result.andThen_ok] at e2
 rw [e2] at e1
 unfold execOp
 simp only [ho,h.fr.ev hx,h.fr.ev hy1,h.fr.ev hy2,Option.map_some,Option.map_none,hv,Sem.run_bind,e1,Result.andThen_ok,Sem.run_pure,sliced,vsub]
 simp
theorem own_vcap {E:TypeId} {s:Ls α} (h:(Asn.own E s).ok w):s.l.length≤vcap s.v:=by
 rcases h.1.2 with ⟨h1,h2⟩|⟨g,cap,cur,hv,_,_,hn,_⟩
 ·omega
 ·rw [hv];exact hn
theorem x_clearT {T e:TypeId} {gg:Bool} {sz by_ r hi:Nat} {z:List Value} {x:Operand} {s:Ls α} {E:TypeId} (h:St N K W a w F L) (hT:slI P T=some e) (he:tyI P e=some (gg,sz,by_,z)) (ho:o.op= .call ⟨.builtin .clear, #[x], #[T]⟩)
  (hx:ev F x=some (vsub s.v sz s.l.length hi)) (hr:L[r]? =some (.own E s)) (hsz:Enc.sz α=sz) (hz1:z.all (·.oneCell')=true) (hzl:z.length=sz) (hh:s.l.length<hi∧hi≤vcap s.v) (hd:o.dst=none):Ex P o a w (fun a' w' =>St N K W a' w' F L):=by
 subst hsz
 obtain ⟨hown,hlen,hinn⟩:=h.sh.ok _ (List.mem_of_getElem? hr)
 rcases hown.2 with ⟨h1,_⟩|⟨g,cap,cur,hsv,hb0,hg,hn,hm,hcs,htk⟩
 ·rw [h1] at hh;simp [vcap] at hh;omega
 obtain ⟨i,d,zv,hi',hd',_,hs,hby,hzz,hzc⟩:=tyI_parts he
 have hcap:hi≤cap:=by have:=hh.2;rw [hsv] at this;exact this
 have hx' :vsub s.v (Enc.sz α) s.l.length hi= .slice (some ⟨g,s.l.length*Enc.sz α,none⟩) (hi-s.l.length) (cap-s.l.length):=by
  rw [hsv];simp only [vsub];rw [if_neg (by omega)];simp [Addr.add_lit]
 obtain ⟨zs,hzs⟩:∃zs,(Builtin.zeroCells zv.cells (hi-s.l.length)).toList=zs:=⟨_,rfl⟩
 have hcsz:zv.cells.size=Enc.sz α:=by rw [←hzl,←hzc];simp
 have hzsl:zs.length=(hi-s.l.length)*Enc.sz α:=by rw [←hzs];simp [Builtin.zeroCells,hcsz]
 have hz1' :∀v∈zs,v.oneCell' =true:=by
  intro v hv
  rw [←hzs] at hv
  simp only [Builtin.zeroCells,Array.toList_map,List.mem_map,Array.mem_toList_iff,Array.mem_range] at hv
  obtain ⟨q,hq,rfl⟩:=hv
  have hpos:0<zv.cells.size:=by
   rcases Nat.eq_zero_or_pos zv.cells.size with h0|h0
   ·rw [h0] at hq;omega
   ·exact h0
  have hmod:=Nat.mod_lt q hpos
  rw [getElem!_pos zv.cells _ hmod]
  exact (List.all_eq_true.1 hz1) _ (by rw [←hzc];exact Array.getElem_mem_toList _)
 have hin:∀j,j<zs.length→s.l.length*Enc.sz α+j<cur.size:=by
  intro j hj
  rw [hcs]
  have h1:s.l.length*Enc.sz α+j<s.l.length*Enc.sz α+(hi-s.l.length)*Enc.sz α:=by omega
  rw [←Nat.add_mul] at h1
  exact Nat.lt_of_lt_of_le h1 (Nat.mul_le_mul_right _ (by omega))
 have hst:=run_storeCells_cells (P:=P) g (s.l.length*Enc.sz α) zs 0 w (fun j hj=>by
   simp only [Nat.add_zero]
   rw [Blk.cell (E:=E) hg,Array.getElem?_eq_getElem (hin j hj)];rfl) (fun j hj=>Blk.frozen (E:=E) hg _) hz1'
 simp only [Nat.add_zero] at hst
 have hrun:∀ty,(Builtin.clear_ #[T] ty #[.slice (some ⟨g,s.l.length*Enc.sz α,none⟩) (hi-s.l.length) (cap-s.l.length)]).run P w= .ok (.tuple #[]) (w.setCells g (s.l.length*Enc.sz α) zs):=by
  intro ty
  obtain ⟨m,hm9⟩:∃m,hi-s.l.length=m+1:=⟨hi-s.l.length-1,by omega⟩
  rw [hm9] at hzs⊢
  simp [Builtin.clear_,run_underlying (slI_parts hT),run_zero hi' hzz,hzs,hst]
 refine Ex.of_run (v:= .tuple #[]) (w' :=w.setCells g (s.l.length*Enc.sz α) zs) ?_ ?_
 ·unfold execOp
  simp only [ho,resolve,invoke,builtin,Sem.run_bind,Sem.run_pure,Result.andThen_ok,List.map_toArray,List.map_cons,List.map_nil,h.fr.ev hx,hx',hrun]
 ·rw [hd]
  obtain ⟨cur',hg',hcs',hk'⟩:=setCells_row zs (s.l.length*Enc.sz α) w cur hg
  have h2:=h.sh.put (A' := .own E s) hr (setCells_chg (X:=(Asn.own E s).fp) (by show s.v.ownBlock=some g;rw [hsv];rfl) zs (s.l.length*Enc.sz α) w) ⟨⟨hown.1, .inr ⟨g,cap,cur',hsv,hb0,hg',hn,hm,hcs'.trans hcs, ?_⟩⟩,hlen, ?_⟩ (fun b hb=> .inl hb) (fun b hb=> .inr (.inl hb)) (h.sh.self _ (List.mem_of_getElem? hr))
  ·have:L.set r (.own E s)=L:=by
    obtain ⟨hlt,e9⟩:=List.getElem?_eq_some_iff.1 hr
    rw [←e9];exact List.set_getElem_self hlt
   rw [this] at h2
   exact ⟨h.fr,h2⟩
  ·rw [←htk]
   apply List.ext_getElem?
   intro k
   simp only [List.getElem?_take,Array.getElem?_toList]
   split
   ·exact hk' k (by assumption)
   ·rfl
  ·intro q hq
   refine Enc.keep _ w _ (hinn q hq) fun b hb=> ?_
   have hbg:b≠g:=by
    rintro rfl
    exact (h.sh.self _ (List.mem_of_getElem? hr)) b (by show s.v.ownBlock=some b;rw [hsv];rfl) ⟨q,hq,hb⟩
   have hlt:b<w.heap.size:=Enc.lt _ w (hinn q hq) b hb
   exact (setCells_chg (X:=fun b=>b=g) rfl zs (s.l.length*Enc.sz α) w).same b hlt hbg
theorem x_del2 {d:Nat} {T e:TypeId} {gg:Bool} {sz by_ r j k:Nat} {z:List Value} {x y:Operand} {s:Ls α} {E:TypeId} [Flat α] (h:St N K W a w F L) (hT:slI P T=some e) (he:tyI P e=some (gg,sz,by_,z)) (ho:o.op= .call ⟨.builtin .append, #[x,y], #[T,T]⟩)
  (hx:ev F x=some (vtake s.v j)) (hy:ev F y=some (vdrop s.v sz k)) (hr:L[r]? =some (.own E s)) (hE:E=e) (hsz:Enc.sz α=sz) (h1:One α) (hjk:j≤k∧k≤s.l.length∧0<s.l.length) (hd:o.dst=some d) (hdN:Nat.blt d N=true):
  Ex P o a w (fun a' w' =>∃v:Value,vcap v=vcap s.v∧St N K W a' w' ((d,v)::F) (L.set r (.own E ⟨v,s.l.take j++s.l.drop k⟩))):=by
 subst hsz
 subst hE
 obtain ⟨i,ed,zv,hi,hed,_,hs,hby,hzz,hzc⟩:=tyI_parts he
 obtain ⟨hown,hlen,hinn⟩:=h.sh.ok _ (List.mem_of_getElem? hr)
 obtain ⟨hjk,hk,hpos⟩:=hjk
 have hown0:=hown
 rcases hown.2 with ⟨_,h0⟩|⟨g,cap,cur,hsv,hb0,hg,hn,hm,hcs,htk⟩
 ·omega
 have hcur:cur.size=cap*Enc.sz α:=hcs
 have hownT:w.ownsRow 0 E (Enc.sz α) (.slice (some ⟨g,0,none⟩) j cap) j (encL (s.l.take j)):=by
  refine ⟨by rw [length_encL,List.length_take,Nat.min_eq_left (by omega)], .inr ⟨g,cap,cur,rfl,hb0,hg,by omega,hm,hcs, ?_⟩⟩
  rw [encL_take,←htk,List.take_take]
  congr 1
  exact (Nat.min_eq_left (Nat.mul_le_mul_right _ (by omega))).symm
 have hcell:∀q u,(encL s.l)[q]? =some u→w.cell? ⟨g,q,none⟩=some u:=by
  intro q u hq
  rw [hsv] at hown0
  have hlt:q<s.l.length*Enc.sz α:=by
   have:=(List.getElem?_eq_some_iff.1 hq).1
   rwa [length_encL] at this
  rw [hown0.cellAt q hlt,hq]
 have hone:∀u∈encL (s.l.drop k),u.oneCell' =true:=by
  intro u hu
  obtain ⟨q,hq⟩:=List.getElem?_of_mem hu
  have hlt:q<(s.l.drop k).length*Enc.sz α:=by
   have:=(List.getElem?_eq_some_iff.1 hq).1
   rwa [length_encL] at this
  have hszp:0<Enc.sz α:=by
   rcases Nat.eq_zero_or_pos (Enc.sz α) with h|h
   ·rw [h] at hlt;omega
   ·exact h
  have h2:=encL_at (s.l.drop k) (q/Enc.sz α) (q%Enc.sz α) ((Nat.div_lt_iff_lt_mul hszp).2 hlt) (Nat.mod_lt _ hszp)
  rw [show q/Enc.sz α*Enc.sz α+q%Enc.sz α=q by rw [Nat.mul_comm];exact Nat.div_add_mod _ _,hq] at h2
  cases h2
  exact h1.one _ w (Flat.inner _ _) _ (Nat.mod_lt _ hszp)
 have happ:∀(A2:Addr) (c2:Nat),(∀q u,(encL (s.l.drop k))[q]? =some u→w.cell? (A2.add q)=some u)→∃w',(Builtin.append_ #[T,T] o.type #[.slice (some ⟨g,0,none⟩) j cap, .slice (some A2) (s.l.length-k) c2]).run P w= .ok (.slice (some ⟨g,0,none⟩) (j+(s.l.length-k)) cap) w' ∧
   w'.ownsRow 0 E (Enc.sz α) (.slice (some ⟨g,0,none⟩) (j+(s.l.length-k)) cap) (j+(s.l.length-k)) (encL (s.l.take j)++encL (s.l.drop k))∧w.grownBy w' (some g):=fun A2 c2 hc2=>
  run_append_fits (P:=P) w 0 T o.type E i (Enc.sz α) (slI_parts hT) hi hs g j cap _ hownT A2 (s.l.length-k) c2 (encL (s.l.drop k)) (by rw [length_encL,List.length_drop]) hc2 hone (by omega)
 have hfin:∃w' y',vdrop s.v (Enc.sz α) k=y' ∧(Builtin.append_ #[T,T] o.type #[.slice (some ⟨g,0,none⟩) j cap,y']).run P w= .ok (.slice (some ⟨g,0,none⟩) (j+(s.l.length-k)) cap) w' ∧
   w'.ownsRow 0 E (Enc.sz α) (.slice (some ⟨g,0,none⟩) (j+(s.l.length-k)) cap) (j+(s.l.length-k)) (encL (s.l.take j)++encL (s.l.drop k))∧w.grownBy w' (some g):=by
  rw [hsv]
  by_cases hck:cap=k
  ·have hkk:s.l.drop k= []:=List.drop_eq_nil_of_le (by omega)
   obtain ⟨w',h3⟩:=happ ⟨g,0,none⟩ (cap-k) (by rw [hkk];intro q u hq;simp [encL] at hq)
   exact ⟨w',_,by simp only [vdrop,if_pos hck],h3⟩
  ·obtain ⟨w',h3⟩:=happ ((⟨g,0,none⟩:Addr).add (k*Enc.sz α)) (cap-k) (by
    intro q u hq
    rw [encL_drop,List.getElem?_drop] at hq
    have:=hcell _ _ hq
    simpa [Addr.add_lit] using this)
   exact ⟨w',_,by simp only [vdrop,if_neg hck,Option.map_some],h3⟩
 obtain ⟨w',y',hy',hrun,ho',hg'⟩:=hfin
 have hx' :vtake s.v j= .slice (some ⟨g,0,none⟩) j cap:=by rw [hsv];rfl
 refine Ex.of_run (v:= .slice (some ⟨g,0,none⟩) (j+(s.l.length-k)) cap) (w' :=w') ?_ ⟨.slice (some ⟨g,0,none⟩) (j+(s.l.length-k)) cap,by rw [hsv];rfl, ?_⟩
 ·unfold execOp
  simp only [ho,resolve,invoke,builtin,Sem.run_bind,Sem.run_pure,Result.andThen_ok,List.map_toArray,List.map_cons,List.map_nil,h.fr.ev hx,h.fr.ev hy,hx',hy',hrun]
 ·rw [hd]
  have hob:s.v.ownBlock=some g:=by rw [hsv];rfl
  have hfp:∀b,(Asn.own E (⟨.slice (some ⟨g,0,none⟩) (j+(s.l.length-k)) cap,s.l.take j++s.l.drop k⟩:Ls α)).fp b→(Asn.own E s).fp b∨w.heap.size≤b:=by
   intro b hb
   have:g=b:=by simpa [Asn.own,Value.ownBlock] using hb
   subst this
   exact .inl hob
  refine ⟨h.fr.put d (by simpa [Nat.blt_eq] using hdN) _,h.sh.put hr (Chg.grown hg' (fun b hb=>by cases hb;exact hob)) ⟨?_, ?_,fun q hq=>Flat.inner _ _⟩ hfp (fun b hb=> ?_) (fun b hb hb' => ?_)⟩
  ·show World.ownsRow _ 0 E _ _ (s.l.take j++s.l.drop k).length (encL (s.l.take j++s.l.drop k))
   rw [encL_append,List.length_append,List.length_take,List.length_drop,Nat.min_eq_left (by omega)];exact ho'
  ·show (s.l.take j++s.l.drop k).length≤_
   rw [List.length_append,List.length_take,List.length_drop,Nat.min_eq_left (by omega)];omega
  ·obtain ⟨q,_,hb⟩:=hb;exact (Flat.on _ _ hb).elim
  ·obtain ⟨q,_,hb⟩:=hb';exact (Flat.on _ _ hb).elim
end
end Go.Proofs.YtmjkobhkkjgplaaGreatDoor
